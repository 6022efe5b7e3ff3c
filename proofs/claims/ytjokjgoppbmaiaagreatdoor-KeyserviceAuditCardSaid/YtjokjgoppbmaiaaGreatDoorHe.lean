/-
  The entries of a service, as the document checks them. The validity of a service, as the document says.
-/
import Derived.Test.YtjokjgoppbmaiaaGreatDoorHc
set_option maxHeartbeats 64000000
set_option maxRecDepth 100000
namespace Go.Vm.Seat
open Go.Proofs
def rightB (s:Bs):Bool:= !(s.any fun c=>c == 35) && nameF s
theorem rightB_at {s:Bs} {i:Nat} {c:UInt8} (h:s[i]? = some c) (hc:c=35):rightB s=false:=by
 have:s.any (fun c=>c == 35)=true:=List.any_eq_true.2 ⟨c,List.mem_of_getElem? h,by simp [hc]⟩
 simp [rightB,this]
theorem toNat35 {c:UInt8} (h:((c.toNat:Int) == 35)=true):c=35:=by
 have h1:(c.toNat:Int)=35:=by simpa using h
 have h2:c.toNat=(35:UInt8).toNat:=by
  have:(35:UInt8).toNat=35:=rfl
  omega
 exact UInt8.toNat_inj.1 h2
theorem c144 (s:Bs) (hs:s.length≤100000):∀ H,CallOk E0 Tryz.prog 144 [.str s] H (.bool (rightB s)) H:=by
 have hn:=c109 s (by unfold maxLen;omega)
 refine κw tOk fe144.ok rfl ?_
 repeat' first | refine κn ?_ | refine κt ?_ | refine κg ?_ | refine κa ?_ | fail
 refine Wp.while (fun k tm H=>∃ (i:Nat) (base:TM),i+k=s.length∧((s.take i).any fun c=>c == 35)=false∧tm=ovr base [(0,.str s),(3,.int .i64 (i:Int))]∧H=⟨[],0,[],0⟩)
  (fun k tm H hI=> ?_) s.length _ _ ⟨0,_,by omega,by simp,ovr_mk ⟨rfl,rfl,trivial⟩,rfl⟩
 obtain ⟨i,base,hi,hI,rfl,rfl⟩:=hI
 by_cases hlt:i < s.length
 · obtain ⟨c, hc⟩ : ∃ c, s[i]? = some c := ⟨s[i], by simp⟩
   have hlx:aBin E0 .lss 3 (.int .i64 (i:Int)) (.int .i64 (s.length:Int))=some (.bool true):=lss_t (by omega)
   have hj:=idxS2 hc
   repeat' first | refine κn ?_ | refine κX ?_ | refine κi ?_ | refine κt ?_ | refine κb ?_ ?_ | refine κg ?_ | refine κa ?_ | refine κf ?_ | intro hb
   · rw [rightB_at hc (toNat35 hb)]
   · have hne : ¬ c = 35 := fun e => by rw [e] at hb; exact absurd hb (by decide)
     refine LoopI.go (k - 1) (by omega) ⟨i+1,_,by omega,?_,ovr_mk ⟨rfl,int_eq (wrap_nat (n:=i+1) (by omega)),trivial⟩,rfl⟩
     rw [List.take_add_one,hc]
     simp only [List.any_append,hI,Bool.false_or,Option.toList,List.any_cons,List.any_nil,Bool.or_false]
     simpa using hne
 · have e : i = s.length := by omega
   subst e
   rw [List.take_length] at hI
   have hlx:aBin E0 .lss 3 (.int .i64 (s.length:Int)) (.int .i64 (s.length:Int))=some (.bool false):=lss_f (by omega)
   have hr:rightB s=nameF s:=by simp only [rightB,hI,Bool.not_false,Bool.true_and]
   rw [hr]
   repeat' first | refine κn ?_ | refine κc (hn _) ?_ | refine κi ?_ | refine κb ?_ ?_ | refine κg ?_ | refine κa ?_ | refine κf ?_ | intro hb
   all_goals first | rfl | rw [hb]
def skT (name:Bs):Tm:= .mk 3 [115,107] 0 true [.mk 2 name 1 true []]
theorem skT_ok {name:Bs} (h:name.length≤1000):(skT name).Ok∧(skT name).size=2:=
 ⟨ok1 (by decide) (.mk (by decide) (by decide) (by unfold maxLen;omega) (by unfold maxLen;decide) (by simp)),rfl⟩
theorem c145 (name:Bs):∀ H,CallOk E0 Tryz.prog 145 [.str name] H (.agg (skT name).cells) H:=by
 have h1:=c42 name 1
 have h2:=rapp1 [115,107] (atomT name 1)
 have hfr:=frz3_cells 0 hNil (skT name)
 have e:Tm.mk 3 [115,107] 0 true [atomT name 1]=skT name:=rfl
 rw [e] at h2
 generalize skT name=R at h2 hfr ⊢
 generalize atomT name 1=A at h1 h2
 obtain ⟨k,nm,s,b,kids⟩:=R
 obtain ⟨k1,nm1,s1,b1,kids1⟩:=A
 simp only [Tm.cells] at h1 h2 hfr ⊢
 refine κw tOk fe145.ok hfr ?_
 repeat' first | refine κn ?_ | refine κc (h1 _) ?_ | refine κc (h2 _) ?_ | refine κs ?_ | refine κg ?_ | refine κa ?_ | refine κf ?_ | fail
 all_goals exact frz3_tm _ _ _ _ _ _ _
theorem frzG_tm (t:Tm):frzG (.agg t.cells)=some (.agg t.cells):=by
 obtain ⟨k,nm,s,tb,kids⟩:=t
 simp only [Tm.cells,frzG,frzL,frz1_slV]
 rfl
theorem frzF (b:Bool) (L:List (List PV)) (t k:Tm):frzGL [slV b 4 L,.agg t.cells,.agg k.cells]=some [slV b 4 L,.agg t.cells,.agg k.cells]:=by
 simp only [frzGL,frzG_slV,frzG_tm]
def fitG (B1 B2 B3 B4 F W:Bool) (Z:Bool):Bool:=if B1=true then false else if B2=true∨B3=false∨B4=true then false else ((F && W) == Z)
def fitsF (l:List Tm) (t k:Tm):Bool:=
 fitG (decide ((readP t).2≠0)) (decide (((credN (readP t).1.sub (readP t).1.key l.length (readP t).1.till).issue k).2≠0)) (decide (t.cmp ((credN (readP t).1.sub (readP t).1.key l.length (readP t).1.till).issue k).1=0))
  (decide ((readP t).1.till≠0) && decide ((readP t).1.till≠9999)) (lookF (readP t).1.sub l.reverse).2.2 (decide ((lookF (readP t).1.sub l.reverse).1.cmp (readP t).1.key=0)) (decide ((readP t).1.till=0))
theorem neq_d (a b:Int):aBin E0 .neq 3 (.int .i64 a) (.int .i64 b)=some (.bool (decide (a≠b))):=by
 show some (PV.bool (!(a == b)))=_
 by_cases h:a=b <;> simp [h]
theorem eql_d (a b:Int):aBin E0 .eql 3 (.int .i64 a) (.int .i64 b)=some (.bool (decide (a=b))):=by
 show some (PV.bool (a == b))=_
 by_cases h:a=b <;> simp [h]
theorem c149 {l : List Tm} (hok : ∀ t, t ∈ l → t.Ok) (hs : ∀ t, t ∈ l → t.size ≤ 900) (hll : l.length ≤ 40) (b : Bool) {t k : Tm} (ht : t.Ok) (hts : t.size ≤ 900) (hk : k.Ok) (hks : k.size ≤ 900) : ∀ H,
  CallOk E0 Tryz.prog 149 [slV b 4 (cellsL l),.agg t.cells,.agg k.cells] H (.bool (fitsF l t k)) H:=by
 obtain ⟨r1,r2,r3⟩:=read_key ht hts (by omega)
 have cr:=c78 ht (by omega)
 have ce:=c80 (readP t).1.sub (readP t).1.key l.length (readP t).1.till
 have ci:=c79 (credN (readP t).1.sub (readP t).1.key l.length (readP t).1.till) (key:=k) (by simp only [credN];omega) (by simp [credN]) (by simp [credN]) (by simp [credN]) (by simp [credN]) r1 (by simp only [credN];omega) hk (by omega)
 have hio:=issue_small (x:=credN (readP t).1.sub (readP t).1.key l.length (readP t).1.till) (key:=k) r1 hk
 have hio2:((credN (readP t).1.sub (readP t).1.key l.length (readP t).1.till).issue k).1.size≤1000000:=by
  have:=hio.2
  simp only [credN] at this ⊢
  omega
 have cq:=c15 ht hio.1 (by omega) hio2
 have cf:=c74 hok hs hll (name:=(readP t).1.sub) b
 have hlo:=lookF_ok (name:=(readP t).1.sub) (S:=900) (by omega) (l:=l.reverse) fun u hu=>⟨hok u (List.mem_reverse.1 hu),hs u (List.mem_reverse.1 hu)⟩
 have cw:=c15 hlo.1 r1 (by have:=hlo.2.1;omega) (by omega)
 have e1:=err_eq (readP t).2
 have e2:=err_eq ((credN (readP t).1.sub (readP t).1.key l.length (readP t).1.till).issue k).2
 have e3:=neq_d (readP t).1.till 0
 have e4:=neq_d (readP t).1.till 9999
 have e5:=eql_d (readP t).1.till 0
 have hln:=cellsL_length l
 unfold fitsF
 rw [credN_cells] at ce
 have ci:∀ H,CallOk E0 Tryz.prog 79 [.agg (.str (readP t).1.sub :: ((readP t).1.key.cells ++ [.bool false,.nils,.nils,.int .i64 (l.length:Int),.int .i64 0,.int .i64 (readP t).1.till])),.agg k.cells] H (.tup [.agg ((credN (readP t).1.sub (readP t).1.key l.length (readP t).1.till).issue k).1.cells,.int .i64 ((credN (readP t).1.sub (readP t).1.key l.length (readP t).1.till).issue k).2]) H:=by
  rw [← credN_cells]
  exact ci
 clear hio hio2 hlo r1 r2 r3 ht hts hk hks hok hs hll
 generalize (credN (readP t).1.sub (readP t).1.key l.length (readP t).1.till).issue k=I at ci cq e2 ⊢
 generalize readP t=R at cr ce ci cf cw e1 e3 e4 e5 ⊢
 obtain ⟨⟨sub,⟨k8,nm8,s8,b8,kids8⟩,iss,pn,per,en',exc,ser,fr,till⟩,R2⟩:=R
 obtain ⟨I,I2⟩:=I
 simp only [] at cr ce ci cf cw e1 e2 e3 e4 e5 cq ⊢
 generalize lookF sub l.reverse=F at cf cw ⊢
 obtain ⟨X,n,ok⟩:=F
 simp only [] at cf cw ⊢
 rw [← hln] at ce ci
 generalize cellsL l=L at ce ci cf ⊢
 generalize decide (R2≠0)=B1 at e1 ⊢
 generalize decide (I2≠0)=B2 at e2 ⊢
 generalize decide (t.cmp I=0)=B3 at cq ⊢
 generalize decide (X.cmp (.mk k8 nm8 s8 b8 kids8)=0)=W at cw ⊢
 generalize decide (till≠0)=B4 at e3 ⊢
 generalize decide (till≠9999)=B5 at e4 ⊢
 generalize decide (till=0)=Z at e5 ⊢
 clear hln
 obtain ⟨kt,nmt,st,bt,kidst⟩:=t
 obtain ⟨kk,nmk,sk,bk,kidsk⟩:=k
 obtain ⟨ki,nmi,si,bi',kidsi⟩:=I
 obtain ⟨kx,nmx,sx,bx,kidsx⟩:=X
 simp only [Cred.cells,Tm.cells,List.cons_append,List.nil_append] at cr ce ci cq cf cw ⊢
 have hO : (B1 = true) ∨ (B1 = false ∧ B2 = true) ∨ (B1 = false ∧ B2 = false ∧ B3 = false) ∨ (B1 = false ∧ B2 = false ∧ B3 = true ∧ B4 = true ∧ B5 = true) ∨ (B1 = false ∧ B2 = false ∧ B3 = true ∧ B4 = true ∧ B5 = false ∧ ok = false) ∨ (B1 = false ∧ B2 = false ∧ B3 = true ∧ B4 = false ∧ ok = false)
   ∨(B1=false∧B2=false∧B3=true∧B4=true∧B5=false∧ok=true)∨(B1=false∧B2=false∧B3=true∧B4=false∧ok=true):=by
  cases B1 <;> cases B2 <;> cases B3 <;> cases B4 <;> cases B5 <;> cases ok <;> simp
 rcases hO with rfl | ⟨rfl,rfl⟩ | ⟨rfl,rfl,rfl⟩ | ⟨rfl,rfl,rfl,rfl,rfl⟩ | ⟨rfl,rfl,rfl,rfl,rfl,rfl⟩ | ⟨rfl,rfl,rfl,rfl,rfl⟩ | ⟨rfl,rfl,rfl,rfl,rfl,rfl⟩ | ⟨rfl,rfl,rfl,rfl,rfl⟩
 all_goals simp only [fitG,Bool.true_eq_false,Bool.false_eq_true,if_false,if_true,or_true,true_or,or_self,Bool.and_true,Bool.and_false,Bool.true_and,Bool.false_and]
 all_goals
  refine callOk_wp (own:=fun d=>Nat.beq d 30015) tOk fe149.ok (frzF b L (.mk kt nmt st bt kidst) (.mk kk nmk sk bk kidsk)) rfl ?_
  refine Wp.seq ?_
  repeat' first | refine κn ?_ | refine κk ?_ | (apply qCl;rfl;rfl;rfl;rfl;first | exact cr _ | exact cq _ | exact cf _ | exact cw _) | refine κi ?_ | refine κt ?_ | refine κg ?_ | refine κd (ce _) ?_ | refine κd (ci _) ?_ | (apply dAl;rfl;rfl;rfl;rfl;exact IsV.ptrM;exact IsH.mkN) | (apply dLn;rfl;rfl;rfl;rfl;rfl) | refine κh ?_ | refine κa ?_ | (apply dWB tOk follows;rfl;kernel_rfl;rfl;exact IsH.mkN) | refine κf ?_ | fail
 all_goals rfl
end Go.Vm.Seat
namespace Go.Vm.Seat
open Go.Proofs
def headV (l:List Tm) (k:Tm):Tm×Tm×Bool:=if (refHead l).2≠0 then (.zero,.zero,false) else ((refHead l).1,(signG id (refHead l).1 l.length k).1,decide ((signG id (refHead l).1 l.length k).2=0))
theorem frzH2 (b:Bool) (L:List (List PV)) (k:Tm):frzGL [slV b 4 L,.agg k.cells]=some [slV b 4 L,.agg k.cells]:=by
 simp only [frzGL,frzG_slV,frzG_tm]
theorem c75 {l:List Tm} (hl:∀ t,t∈l→t.Ok∧t.size≤900) (b:Bool) {k:Tm} (hk:k.Ok) (hks:k.size≤900):∀ H,CallOk E0 Tryz.prog 75 [slV b 4 (cellsL l),.agg k.cells] H (.tup [.agg (headV l k).1.cells,.agg (headV l k).2.1.cells,.bool (headV l k).2.2]) H:=by
 have c1:=c151 (fun t ht=>⟨(hl t ht).1,by have:=(hl t ht).2;omega⟩) b
 have hh:=refHead_ok hl
 have be:=err_eq (refHead l).2
 have c2:=c81 hh.1 (by have:=hh.2;omega) hk (by omega) (l.length:Int)
 have hfr:=frz3_two 0 hNil (headV l k).1 (headV l k).2.1 (headV l k).2.2
 have hft:=fun m H=>frz3_two m H (headV l k).1 (headV l k).2.1 (headV l k).2.2
 have hln:=cellsL_length l
 unfold headV at hfr hft ⊢
 by_cases he:(refHead l).2=0
 · rw [decide_eq_false (not_not_intro he)] at be
   rw [if_neg (not_not_intro he)] at hfr hft ⊢
   clear he hh
   generalize refHead l=R at c1 c2 be hfr hft ⊢
   obtain ⟨X,e⟩:=R
   simp only [] at c1 c2 be hfr hft ⊢
   rw [← hln] at c2 hfr hft ⊢
   generalize signG id X ((cellsL l).length:Int) k=S at c2 hfr hft ⊢
   obtain ⟨Y,e2⟩:=S
   simp only [] at c2 hfr hft ⊢
   have e3:aBin E0 .eql 31 (.int .i64 e2) (.int .i64 0)=some (.bool (decide (e2=0))):=by
    show some (PV.bool (e2 == 0))=_
    by_cases h:e2=0 <;> simp [h]
   have hfz:=frzH2 b (cellsL l) k
   obtain ⟨k1,nm1,s1,b1,kids1⟩:=X
   obtain ⟨k2,nm2,s2,b2,kids2⟩:=Y
   obtain ⟨k3,nm3,s3,b3,kids3⟩:=k
   simp only [Tm.cells] at c1 c2 hfr hft hfz ⊢
   refine callOk_wp (own:=(fun d=>[29999,50032,50041,40216,40217,40226].any (Nat.beq d))) tOk fe75.ok hfz hfr ?_
   refine Wp.seq ?_
   repeat' first | refine κn ?_ | refine κc (c1 _) ?_ | refine κc (c2 _) ?_ | refine κi ?_ | refine κl ?_ | refine κt ?_ | refine κg ?_ | refine κD ?_ | refine κh ?_ | refine κa ?_ | (apply Wp.drawS tOk follows;kernel_rfl;rfl) | refine κf ?_ | fail
   all_goals exact hft _ _
 · rw [decide_eq_true he] at be
   rw [if_pos he] at hfr ⊢
   clear c2 hh hft
   generalize refHead l=R at c1 be ⊢
   obtain ⟨X,e⟩:=R
   simp only [] at c1 be ⊢
   have hfz:=frzH2 b (cellsL l) k
   rw [zero_cells] at hfr ⊢
   obtain ⟨k1,nm1,s1,b1,kids1⟩:=X
   obtain ⟨k3,nm3,s3,b3,kids3⟩:=k
   simp only [Tm.cells] at c1 hfz ⊢
   refine callOk_wp (own:=(fun d=>[29999,50032,50041,40216,40217,40226].any (Nat.beq d))) tOk fe75.ok hfz hfr ?_
   refine Wp.seq ?_
   repeat' first | refine κn ?_ | refine κc (c1 _) ?_ | refine κi ?_ | refine κt ?_ | refine κg ?_ | refine κa ?_ | refine κf ?_ | fail
   all_goals rfl
structure Sv where
 name:Bs
 key:Tm
 lb:Bool
 log:List Tm
 kb:Bool
 keys:List En
def Sv.cells (s:Sv):List PV:= .str s.name :: (s.key.cells ++ [slV s.lb 4 (cellsL s.log),slV s.kb 6 (enC s.keys)])
structure SvOk (s:Sv):Prop where
 n:s.name.length≤1000
 k:s.key.Ok
 ks:s.key.size≤900
 l:∀ t,t∈s.log→t.Ok
 ls:∀ t,t∈s.log→t.size≤900
 ll:s.log.length≤40
 e:EnsOk 900 s.keys
 el:s.keys.length≤1000
def fitL (log:List Tm) (k:Tm):Nat→Nat→Bool
 | _,0=>true
 | i, m + 1 => match log[i]? with
   | some t=>fitsF (log.take i) t k && fitL log k (i+1) m
   | none=>true
def enB:List En→List En→Bool
 | [],[]=>true
 | x :: r,y :: r'=>decide (x.name=y.name) && (decide (x.idx=y.idx) && (decide (x.key.cmp y.key=0) && enB r r'))
 | _,_=>false
theorem enB_len:∀ {l m:List En},l.length≠m.length→enB l m=false
 | [],[],h=>absurd rfl h
 | [],_ :: _,_=>rfl
 | _ :: _,[],_=>rfl
 | x :: r, y :: r', h => by
   simp only [enB,enB_len (l:=r) (m:=r') (fun e=>h (by simp [e])),Bool.and_false]
def svV (s:Sv):Int:=if rightB s.name=false then 1 else if s.key.cmp (skT s.name)≠0 then 1 else if 32 < s.log.length then 1 else if fitL s.log s.key 0 s.log.length=false then 1 else if (headV s.log s.key).2.2=false then 1 else
 if enB (keysF s.log s.log.length) s.keys=false then 1 else 0
end Go.Vm.Seat
