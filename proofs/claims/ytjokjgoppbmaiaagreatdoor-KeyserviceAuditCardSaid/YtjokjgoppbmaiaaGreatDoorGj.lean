/-
  What a reader answers to an answer, in the program and in the document. What the document's reader answers to an answer.
-/
import Derived.Test.YtjokjgoppbmaiaaGreatDoorGh
set_option maxHeartbeats 64000000
set_option maxRecDepth 100000
namespace Go.Vm.Seat
open Go.Proofs
abbrev AccT:=Rd×Tm×Int
def rspV (R:AccT):PV:= .tup [.agg R.1.cells,.agg R.2.1.cells,.int .i64 R.2.2]
theorem rdz_cells:Rd.zero.cells= [.int .i64 0,.str [],.int .i64 0,.nils,.int .i64 0,.int .i64 0,.str [],.int .i64 0,.nils,.int .i64 0,.str [],.int .i64 0,.nils]:=by
 simp only [Rd.zero,Rd.cells,zero_cells]
 rfl
theorem rspV_zero (e:Int):rspV (.zero,.zero,e)= .tup [.agg [.int .i64 0,.str [],.int .i64 0,.nils,.int .i64 0,.int .i64 0,.str [],.int .i64 0,.nils,.int .i64 0,.str [],.int .i64 0,.nils],.agg [.int .i64 0,.str [],.int .i64 0,.nils],.int .i64 e]:=by
 simp only [rspV,rdz_cells,zero_cells]
theorem frz3_rd (m:Nat) (H:Heap) (x:Rd):frz2 m H (.agg x.cells)=some (.agg x.cells):=by
 obtain ⟨⟨k1,nm1,s1,b1,kids1⟩,n,⟨k2,nm2,s2,b2,kids2⟩,k3,nm3,s3,b3,kids3⟩:=x
 have h1:∀ cs,frz3 m H (.agg cs)=frz2 m H (.agg cs):=fun _=>rfl
 rw [← h1,frz3_agg]
 simp only [Rd.cells,Tm.cells,List.cons_append,List.nil_append,frzCL,frzC_slV]
 rfl
theorem frz3_rspV (m:Nat) (H:Heap) (R:AccT):frz3 m H (rspV R)=some (rspV R):=by
 have h1:frz2 m H (.agg R.2.1.cells)=some (.agg R.2.1.cells):=frz3_cells m H R.2.1
 have h2:=frz3_rd m H R.1
 show (match frz2L m H [.agg R.1.cells,.agg R.2.1.cells,.int .i64 R.2.2] with | some vs'=>some (PV.tup vs') | none=>none)=_
 simp only [frz2L,h1,h2]
 rfl
theorem buildRd (x y z:Tm) (n:Int):aBuild E0 40 [(0,.agg x.cells),(1,.int .i64 n),(2,.agg y.cells),(3,.agg z.cells)]=some (.agg (Rd.mk x n y z).cells):=by
 obtain ⟨k1,nm1,s1,b1,kids1⟩:=x
 obtain ⟨k2,nm2,s2,b2,kids2⟩:=y
 obtain ⟨k3,nm3,s3,b3,kids3⟩:=z
 rfl
structure AnSm (a:An) (S:Nat):Prop where
 ok:AnOk a
 n:a.name.length≤100
 e:a.entry.size≤S
 h:a.head.size≤S
 s:a.signed.size≤S
 i:∀ t,t∈a.incl→t.size≤S
 x:∀ t,t∈a.ext→t.size≤S
 wi:(Lit.int .i64 a.idx).wf=true
 ws:(Lit.int .i64 a.size).wf=true
theorem kid0_ok {t:Tm} (ht:t.Ok) {S:Nat} (hs:t.size≤S) (h1:1≤S):(kid0 t).Ok∧(kid0 t).size≤S:=by
 obtain ⟨k,nm,s,b,kids⟩:=t
 cases kids with
 | nil=>exact ⟨Tm.ok_zero,by simpa [kid0,Tm.zero,Tm.size,sizeL] using h1⟩
 | cons x r =>
   refine ⟨?_,?_⟩
   · cases ht with
     | mk _ _ _ _ hk=>exact hk x (by simp)
   · simp only [Tm.size, sizeL] at hs
     show x.size≤S
     omega
theorem read_key {t:Tm} (ht:t.Ok) {S:Nat} (hs:t.size≤S) (h1:1≤S):(readP t).1.key.Ok∧(readP t).1.key.size≤S∧(readP t).1.sub.length≤1000:=by
 have hz:Tm.zero.size≤S:=by simpa [Tm.zero,Tm.size,sizeL] using h1
 rcases readP_case t with e | ⟨_,v,w,_⟩
 · rw [e]
   exact ⟨Tm.ok_zero,hz,by simp [Cred.zero]⟩
 · exact ⟨ht.part w,by have:=w.1;omega,(cred_small (.inr v)).1⟩
theorem lss_d (a b:Int):aBin E0 .lss 3 (.int .i64 a) (.int .i64 b)=some (.bool (decide (a < b))):=rfl
theorem gtr_d (a:Int):aBin E0 .gtr 3 (.int .i64 a) (.int .i64 0)=some (.bool (decide (0 < a))):=rfl
end Go.Vm.Seat
namespace Go.Vm.Seat
open Go.Proofs
def accG (B1 B2 N B3 B4 B5 B6 B7 B8 B9 B10:Bool) (R:AccT):AccT:=
 if B1=false then (.zero,.zero,1) else if B2=true∨N=true then (.zero,.zero,2) else if B3=true∨B4=false then (.zero,.zero,2) else if B5=true then (.zero,.zero,9) else
 if B6=true∨B7=false∨B8=false then (.zero,.zero,18) else if B9=true∧B10=false then (.zero,.zero,18) else R
theorem accR_eq (c : Rd) (a : An) : accR c a = accG (keyB id c) (decide ((readP a.entry).2 ≠ 0)) (decide ((readP a.entry).1.sub ≠ a.name)) (decide (((credN (readP a.entry).1.sub (readP a.entry).1.key a.idx 9999).issue (kid0 c.svc)).2 ≠ 0)) (decide (a.entry.cmp ((credN (readP a.entry).1.sub (readP a.entry).1.key a.idx 9999).issue (kid0 c.svc)).1 = 0)) (decide (a.size < c.size))
  (decide ((signG id a.head a.size (kid0 c.svc)).2≠0)) (decide ((signG id a.head a.size (kid0 c.svc)).1.cmp a.signed=0)) (ckIncR a.head a.size a.idx a.entry a.incl) (decide (0 < c.size)) (ckExtR c.head c.size a.head a.size a.ext) (⟨c.svc,a.size,a.head,a.signed⟩,(readP a.entry).1.key,0):=by
 unfold accR accG
 simp only [decide_eq_true_eq,decide_eq_false_iff_not]
theorem outs2 (B2 N B3 B4 B5 B6 B7 B8 B9 B10 : Bool) : (B2 = true) ∨ (B2 = false ∧ N = true) ∨ (B2 = false ∧ N = false ∧ B3 = true) ∨ (B2 = false ∧ N = false ∧ B3 = false ∧ B4 = false) ∨ (B2 = false ∧ N = false ∧ B3 = false ∧ B4 = true ∧ B5 = true) ∨ (B2 = false ∧ N = false ∧ B3 = false ∧ B4 = true ∧ B5 = false ∧ B6 = true) ∨ (B2 = false ∧ N = false ∧ B3 = false ∧ B4 = true ∧ B5 = false ∧ B6 = false ∧ B7 = false)
  ∨(B2=false∧N=false∧B3=false∧B4=true∧B5=false∧B6=false∧B7=true∧B8=false)∨(B2=false∧N=false∧B3=false∧B4=true∧B5=false∧B6=false∧B7=true∧B8=true∧B9=true∧B10=false)∨(B2=false∧N=false∧B3=false∧B4=true∧B5=false∧B6=false∧B7=true∧B8=true∧B9=false)
  ∨(B2=false∧N=false∧B3=false∧B4=true∧B5=false∧B6=false∧B7=true∧B8=true∧B9=true∧B10=true):=by
 cases B2 <;> simp
 cases N <;> simp
 cases B3 <;> simp
 cases B4 <;> simp
 cases B5 <;> simp
 cases B6 <;> simp
 cases B7 <;> simp
 cases B8 <;> simp
 cases B9 <;> simp
theorem neqS_d (a b:Bs):aBin E0 .neq 9 (.str a) (.str b)=some (.bool (decide (a≠b))):=by
 show some (PV.bool (!(a == b)))=_
 by_cases h:a=b <;> simp [h]
theorem buildR2 (x y z:Tm) (n:Int):aBuild E0 40 [(0,.agg x.cells),(1,.int .i64 n),(2,.agg y.cells),(3,.agg z.cells)]=some (.agg (Rd.mk x n y z).cells):=buildRd x y z n
theorem c36 {c:Rd} (hc:RdOk 2000 c) (wc:(Lit.int .i64 c.size).wf=true) {a:An} (ha:AnSm a 2000):∀ H,CallOk E0 Tryz.prog 36 [.agg c.cells,.agg a.cells] H (rspV (accR c a)) H:=by
 obtain ⟨x,hx,ck⟩:=c43 (c:=c) ⟨⟨hc.1.1,by have:=hc.1.2;omega⟩,⟨hc.2.1.1,by have:=hc.2.1.2;omega⟩,hc.2.2.1,by have:=hc.2.2.2;omega⟩
 rw [accR_eq]
 generalize hK:keyB id c=K at hx ck ⊢
 have hfv:=frz3_rspV 0 hNil
 cases K with
 | false =>
   have hfr:=hfv (.zero,.zero,1)
   show ∀ H,CallOk E0 Tryz.prog _ _ H (rspV (.zero,.zero,1)) H
   rw [rspV_zero] at hfr ⊢
   clear hx hK ha hc
   obtain ⟨⟨k1,nm1,s1,b1,kids1⟩,n,⟨k2,nm2,s2,b2,kids2⟩,k3,nm3,s3,b3,kids3⟩:=c
   obtain ⟨name,⟨k4,nm4,s4,b4,kids4⟩,ai,n',⟨k5,nm5,s5,b5,kids5⟩,⟨k6,nm6,s6,b6,kids6⟩,ib,incl,eb,ext⟩:=a
   obtain ⟨k7,nm7,s7,b7,kids7⟩:=x
   simp only [Rd.cells,An.cells,Tm.cells,List.cons_append,List.nil_append] at ck ⊢
   refine callOk_wp (own:=(fun d=>[29999,50105,50108,30013,50089,50096,50097,40328,40330,40344,40346,40360,40378,41000,41016,41032,41056,41058].any (Nat.beq d))) tOk fe36.ok (by simp only [frzGL,frzG,frzL,frz1_slV];rfl) hfr ?_
   refine Wp.seq ?_
   repeat' first | refine κn ?_ | refine κc (ck _) ?_ | refine κt ?_ | refine κg ?_ | refine κa ?_ | refine κf ?_ | fail
   all_goals rfl
 | true =>
   have hx:=hx rfl
   subst hx
   have hkid:=kid0_ok hc.1.1 hc.1.2 (by omega)
   obtain ⟨r1,r2,r3⟩:=read_key ha.ok.e ha.e (by omega)
   have cr:=c78 ha.ok.e (by have:=ha.e;omega)
   have ce:=c80 (readP a.entry).1.sub (readP a.entry).1.key a.idx 9999
   have ci:=c79 (credN (readP a.entry).1.sub (readP a.entry).1.key a.idx 9999) (key:=kid0 c.svc) (by simp only [credN];omega) (by simp [credN]) (by simp [credN]) (by simp [credN]) (by simp [credN]) r1 (by simp only [credN];omega) hkid.1 (by have:=hkid.2;omega)
   have hio:((credN (readP a.entry).1.sub (readP a.entry).1.key a.idx 9999).issue (kid0 c.svc)).1.Ok∧((credN (readP a.entry).1.sub (readP a.entry).1.key a.idx 9999).issue (kid0 c.svc)).1.size≤1000000:=by
    have h:=issue_small (x:=credN (readP a.entry).1.sub (readP a.entry).1.key a.idx 9999) (key:=kid0 c.svc) r1 hkid.1
    exact ⟨h.1,by have:=h.2;have:=hkid.2;simp only [credN] at this h ⊢;omega⟩
   have cq1:=c15 ha.ok.e hio.1 (by have:=ha.e;omega) hio.2
   have cs:=c81 ha.ok.h (by have:=ha.h;omega) hkid.1 (by have:=hkid.2;omega) a.size
   have hso:=sign_ok id (fun t ht=>⟨ht,rfl⟩) a.size ha.ok.h hkid.1
   have cq2:=c15 hso.1 ha.ok.s (by have:=hso.2;have:=ha.h;have:=hkid.2;omega) (by have:=ha.s;omega)
   have c8:=c82 ha.ok.h (by have:=ha.h;omega) ha.ok.e (by have:=ha.e;omega) (fun t ht=>⟨ha.ok.i t ht,by have:=ha.i t ht;omega⟩) a.ib ha.ws ha.wi
   have c10:=c83 hc.2.1.1 (by have:=hc.2.1.2;omega) ha.ok.h (by have:=ha.h;omega) (fun t ht=>⟨ha.ok.x t ht,by have:=ha.x t ht;omega⟩) a.eb wc ha.ws
   have hbd:=buildR2 c.svc a.head a.signed a.size
   have e5:=lss_d a.size c.size
   have e9:=gtr_d c.size
   have en:=neqS_d (readP a.entry).1.sub a.name
   have e2:=err_eq (readP a.entry).2
   have e3:=err_eq ((credN (readP a.entry).1.sub (readP a.entry).1.key a.idx 9999).issue (kid0 c.svc)).2
   have e6:=err_eq (signG id a.head a.size (kid0 c.svc)).2
   clear hio hso r1 r2 r3 hkid hK hc ha wc
   rw [credN_cells] at ce
   have ci:∀ H,CallOk E0 Tryz.prog 79 [.agg (.str (readP a.entry).1.sub :: ((readP a.entry).1.key.cells ++ [.bool false,.nils,.nils,.int .i64 a.idx,.int .i64 0,.int .i64 9999])),.agg (kid0 c.svc).cells] H (.tup [.agg ((credN (readP a.entry).1.sub (readP a.entry).1.key a.idx 9999).issue (kid0 c.svc)).1.cells,.int .i64 ((credN (readP a.entry).1.sub (readP a.entry).1.key a.idx 9999).issue (kid0 c.svc)).2]) H:=by
    rw [← credN_cells]
    exact ci
   generalize (credN (readP a.entry).1.sub (readP a.entry).1.key a.idx 9999).issue (kid0 c.svc)=I at ci cq1 e3 ⊢
   generalize signG id a.head a.size (kid0 c.svc)=S at cs cq2 e6 ⊢
   generalize ckIncR a.head a.size a.idx a.entry a.incl=B8 at c8 ⊢
   generalize ckExtR c.head c.size a.head a.size a.ext=B10 at c10 ⊢
   generalize readP a.entry=R at cr ce ci en e2 ⊢
   obtain ⟨I,I2⟩:=I
   obtain ⟨S,S2⟩:=S
   obtain ⟨⟨sub,⟨k8,nm8,s8,b8,kids8⟩,iss,pn,per,en',exc,ser,fr,till⟩,R2⟩:=R
   simp only [] at cr ce ci en e2 cq1 e3 cs cq2 e6 ⊢
   generalize decide (R2≠0)=B2 at e2 ⊢
   generalize decide (sub≠a.name)=N at en ⊢
   generalize decide (I2≠0)=B3 at e3 ⊢
   generalize decide (a.entry.cmp I=0)=B4 at cq1 ⊢
   generalize decide (a.size < c.size)=B5 at e5 ⊢
   generalize decide (S2≠0)=B6 at e6 ⊢
   generalize decide (S.cmp a.signed=0)=B7 at cq2 ⊢
   generalize decide (0 < c.size)=B9 at e9 ⊢
   have hok:=hfv (⟨c.svc,a.size,a.head,a.signed⟩,.mk k8 nm8 s8 b8 kids8,0)
   have hokt:=fun m H=>frz3_rspV m H (⟨c.svc,a.size,a.head,a.signed⟩,.mk k8 nm8 s8 b8 kids8,0)
   unfold rspV at hok hokt
   simp only [] at hok hokt
   have hz:∀ e,rspV (.zero,.zero,e)=_:=rspV_zero
   have hzf:=fun e=>hfv (.zero,.zero,e)
   have hO:rspV (⟨c.svc,a.size,a.head,a.signed⟩,.mk k8 nm8 s8 b8 kids8,0)= .tup [.agg (Rd.mk c.svc a.size a.head a.signed).cells,.agg (Tm.mk k8 nm8 s8 b8 kids8).cells,.int .i64 0]:=rfl
   rcases outs2 B2 N B3 B4 B5 B6 B7 B8 B9 B10 with rfl | ⟨rfl,rfl⟩ | ⟨rfl,rfl,rfl⟩ | ⟨rfl,rfl,rfl,rfl⟩ | ⟨rfl,rfl,rfl,rfl,rfl⟩ | ⟨rfl,rfl,rfl,rfl,rfl,rfl⟩ | ⟨rfl,rfl,rfl,rfl,rfl,rfl,rfl⟩ | ⟨rfl,rfl,rfl,rfl,rfl,rfl,rfl,rfl⟩ | ⟨rfl,rfl,rfl,rfl,rfl,rfl,rfl,rfl,rfl,rfl⟩ | ⟨rfl,rfl,rfl,rfl,rfl,rfl,rfl,rfl,rfl⟩ | ⟨rfl,rfl,rfl,rfl,rfl,rfl,rfl,rfl,rfl,rfl⟩
   all_goals simp only [accG,Bool.true_eq_false,Bool.false_eq_true,if_false,if_true,or_true,true_or,or_self,and_false,and_self,hz,hO] at hzf ⊢
   all_goals
    generalize kid0 c.svc=kx at ck ci cs
    clear hz hO hfv
    obtain ⟨⟨k1,nm1,s1,b1,kids1⟩,n,⟨k2,nm2,s2,b2,kids2⟩,k3,nm3,s3,b3,kids3⟩:=c
    obtain ⟨name,⟨k4,nm4,s4,b4,kids4⟩,ai,n',⟨k5,nm5,s5,b5,kids5⟩,⟨k6,nm6,s6,b6,kids6⟩,ib,incl,eb,ext⟩:=a
    obtain ⟨k7,nm7,s7,b7,kids7⟩:=kx
    obtain ⟨k9,nm9,s9,b9,kids9⟩:=I
    obtain ⟨ka,nma,sa,ba,kidsa⟩:=S
    simp only [Rd.cells,An.cells,Cred.cells,Tm.cells,List.cons_append,List.nil_append] at ck ce ci cs cr cq1 cq2 c8 c10 hbd hok hokt ⊢
    first
     | refine callOk_wp (own:=(fun d=>[29999,50105,50108,30013,50089,50096,50097,40328,40330,40344,40346,40360,40378,41000,41016,41032,41056,41058].any (Nat.beq d))) tOk fe36.ok (by simp only [frzGL,frzG,frzL,frz1_slV];rfl) hok ?_
     | refine callOk_wp (own:=(fun d=>[29999,50105,50108,30013,50089,50096,50097,40328,40330,40344,40346,40360,40378,41000,41016,41032,41056,41058].any (Nat.beq d))) tOk fe36.ok (by simp only [frzGL,frzG,frzL,frz1_slV];rfl) (hzf _) ?_
    refine Wp.seq ?_
    repeat' first | refine κn ?_ | refine κk ?_ | (apply qCl;rfl;rfl;rfl;rfl;first | exact ck _ | exact cr _ | exact cq1 _ | exact cs _ | exact cq2 _ | exact c8 _ | exact c10 _) | refine κi ?_ | refine κt ?_ | refine κg ?_ | refine κd (ce _) ?_ | refine κd (ci _) ?_ | (apply dAl;rfl;rfl;rfl;rfl;exact IsV.ptrM;exact IsH.mkN) | (apply dBd;rfl;rfl;rfl;assumption;exact IsV.aggN;rfl) | refine κh ?_ | refine κa ?_ | (apply dWS tOk follows;rfl;kernel_rfl;rfl) | (apply dWB tOk follows;rfl;kernel_rfl;rfl;exact IsH.mkN) | refine κf ?_ | fail
   all_goals first
    | exact hokt _ _
    | rfl
end Go.Vm.Seat
