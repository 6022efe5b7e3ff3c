/-
  The entry of a name. The entries of a service, as the document checks them. The place of a name among entries that stand in order: slices.BinarySearch
-/
import Derived.Test.YtkaocdljkonfaaaGreatDoorInsU
set_option maxHeartbeats 64000000
set_option maxRecDepth 100000
namespace Go.Vm.Seat
variable {L M:List En} {c:UInt8} {a b name:Bs} {H:Heap} {D:List (List PV)} {y:En}
open Go.Proofs
theorem Zuu (name:Bs) (e:En):CallOk E7 Tryz.prog 95 [.agg e.cells,.ptr 0 1 0 0] ⟨[Yi name],0,[],0⟩ (.bool (decide (e.name=name))) ⟨[Yi name],0,[],0⟩:=by
 have he:=Zos e.name name
 refine Zok ?_ rfl rfl
 obtain ⟨nm,⟨k,m,s,b,kids⟩,i⟩:=e
 simp only [En.cells,Tm.cells,List.cons_append,List.nil_append] at he ⊢
 generalize decide (nm=name)=D at he ⊢
 unfold Yi
 refine ZW (own:=fun _=>false) WB fe95.ok ?_
 refine Wp.seq ?_
 repeat' first|refine Ji ?_|refine Jt ?_|refine Jo ?_|fail
 all_goals exact RetR.ret rfl ⟨rfl,_,rfl⟩
theorem Zqi (name:Bs) (e:En) (ext:List Box):CallOk E7 Tryz.prog 95 [.agg e.cells,.ptr 0 1 0 0] ⟨Yi name::ext,0,[],0⟩ (.bool (decide (e.name=name))) ⟨Yi name::ext,0,[],0⟩:=
 (Zuu name e).ext (ext := ext) rfl (by
   have h:ZH 1 e.cells=true:=Zb5 1 e
   show (ZH 1 e.cells&&(Nat.blt 0 1&&true))=true
   rw [h]
   rfl) rfl (Nat.zero_le _)
def ZI (name:Bs) (L:List En):Option En:=L.find? fun e=>decide (e.name=name)
theorem ZfN (name:Bs):∀ (L:List En) (k:Nat),(ixN name L k= -1∧ZI name L=none)∨∃ i e,ixN name L k=((k+i:Nat):Int)∧L[i]? = some e∧ZI name L=some e
 | [],k=> .inl ⟨rfl,rfl⟩
 | e :: r, k => by
   by_cases he:e.name=name
   · exact .inr ⟨0,e,by simp [ixN,he],rfl,by simp [ZI,he]⟩
   · rcases ZfN name r (k + 1) with ⟨h1, h2⟩ | ⟨i, u, h1, h2, h3⟩
     · refine .inl ⟨by simp only [ixN, decide_eq_true_eq, if_neg he, h1], ?_⟩
       rw [ZI,List.find?_cons_of_neg (by simpa using he)]
       exact h2
     · refine .inr ⟨i + 1, u, ?_, by simpa using h2, ?_⟩
       · simp only [ixN, decide_eq_true_eq, if_neg he, h1]
         omega
       · rw [ZI, List.find?_cons_of_neg (by simpa using he)]
         exact h3
theorem ixF (hlen:L.length≤1000) (b:Bool) (name:Bs) (B:Box):CallOk E7 Tryz.prog 94 [slV b 6 (enC L),.fn 95 [.ptr 0 1 0 0]] ⟨[Yi name,B],0,[],0⟩ (.int .i64 (ixN name L 0)) ⟨[Yi name,B],0,[],0⟩:=by
 suffices h:∃ r H',CallOk E7 Tryz.prog 94 [slV b 6 (enC L),.fn 95 [.ptr 0 1 0 0]] ⟨[Yi name,B],0,[],0⟩ r H'∧(r= .int .i64 (ixN name L 0)∧H'=⟨[Yi name,B],0,[],0⟩) by
  obtain ⟨r,H',h1,rfl,rfl⟩:=h
  exact h1
 refine ZW (own:=fun _=>false) WB fe94.ok ?_
 refine Wp.seq ?_
 repeat' first|refine Jl ?_|refine Jo ?_|fail
 refine Wp.while (fun m tm H=>∃ (i:Nat) (base:TM),i+m=L.length∧ixN name L 0=ixN name (L.drop i) i∧tm=ovr base [(0,slV b 6 (enC L)),(1,.fn 95 [.ptr 0 1 0 0]),(7,.int .i64 (L.length:Int)),(8,.int .i64 (i:Int))]∧H=⟨[Yi name,B],0,[],0⟩)
  (fun m tm H hI=>?_) L.length _ _ ⟨0,_,by omega,by simp,Zi ⟨rfl,rfl,Zh (by rw [Z6]),rfl,trivial⟩,rfl⟩
 obtain ⟨i,base,hi,hgo,rfl,rfl⟩:=hI
 by_cases hlt:i<L.length
 · obtain ⟨e, he⟩ : ∃ e, L[i]? = some e := ⟨L[i], by simp⟩
   have hlx:ZV E7 .lss 3 (.int .i64 (i:Int)) (.int .i64 (L.length:Int))=some (.bool true):=We (by omega)
   have hj:=Xv he
   have hc:=Zqi name e [B]
   rw [ZfY he] at hgo
   generalize decide (e.name=name)=D at hc hgo
   obtain ⟨nm,⟨k',m',s',b',kids'⟩,x⟩:=e
   simp only [En.cells,Tm.cells,List.cons_append,List.nil_append] at hc hj
   cases D with
   | true =>
     rw [if_pos rfl] at hgo
     repeat' first|refine Jc hc ?_|refine Ji ?_|refine Jx ?_|refine Jo ?_|fail
     all_goals exact RetR.ret rfl ⟨by rw [hgo];rfl,rfl⟩
   | false =>
     rw [if_neg (by simp)] at hgo
     repeat' first|refine Jc hc ?_|refine Ji ?_|refine Jx ?_|refine Jo ?_|fail
     exact LoopI.go (m-1) (by omega) ⟨i+1,_,by omega,hgo,Zi ⟨rfl,rfl,rfl,Zh (Ze (n:=i+1) (by omega)),trivial⟩,rfl⟩
 · have e : i = L.length := by omega
   subst e
   have hlx:ZV E7 .lss 3 (.int .i64 (L.length:Int)) (.int .i64 (L.length:Int))=some (.bool false):=XS (by omega)
   rw [List.drop_length] at hgo
   repeat' first|refine Ji ?_|refine Jo ?_|fail
   all_goals exact RetR.ret rfl ⟨by rw [hgo];rfl,rfl⟩
def enZero:En:=⟨[],.zero,0⟩
theorem QH:enZero.cells= [.str [],.int .i64 0,.str [],.int .i64 0,.nils,.int .i64 0]:=by
 simp only [enZero,En.cells,Zn]
 rfl
theorem Zfj (m:Nat) (H:Heap) (e:En) (b:Bool):frz3 m H (.tup [.agg e.cells,.bool b])=some (.tup [.agg e.cells,.bool b]):=by
 obtain ⟨nm,⟨k,mm,s,tb,kids⟩,i⟩:=e
 have h1:frz3 m H (.agg (En.mk nm (.mk k mm s tb kids) i).cells)=some (.agg (En.mk nm (.mk k mm s tb kids) i).cells):=by
  rw [Wq]
  simp only [En.cells,Tm.cells,List.cons_append,List.nil_append,Qf,UI]
  rfl
 have h:frz2 m H (.agg (En.mk nm (.mk k mm s tb kids) i).cells)=some (.agg (En.mk nm (.mk k mm s tb kids) i).cells):=h1
 show (match Xk m H [.agg (En.mk nm (.mk k mm s tb kids) i).cells,.bool b] with|some vs'=>some (PV.tup vs')|none=>none)=_
 simp only [Xk,h]
 rfl
theorem c50 (hlen:L.length≤1000) (b:Bool) (name:Bs):∀ H,CallOk E0 Tryz.prog 50 [slV b 6 (enC L),.str name] H (.tup [.agg ((ZI name L).getD enZero).cells,.bool (ZI name L).isSome]) H:=by
 have hix:=ixF hlen b name (.cells 6 [enZero.cells])
 have hfr:=Zfj 0 hNil ((ZI name L).getD enZero) (ZI name L).isSome
 rw [QH] at hix
 unfold Yi at hix
 rcases ZfN name L 0 with ⟨h1,h2⟩|⟨i,e,h1,h2,h3⟩
 · rw [h1] at hix
   rw [h2] at hfr ⊢
   simp only [Option.getD_none,Option.isSome_none,QH] at hfr ⊢
   refine Zen ?_
   refine Jw WB fe50.ok hfr ?_
   have b0:ZV E7 .lss 3 (.int .i64 (-1)) (.int .i64 0)=some (.bool true):=rfl
   repeat' first|refine Jc hix ?_|refine Ji ?_|refine Jt ?_|refine Jo ?_|fail
   all_goals rfl
 · rw [h1, Nat.zero_add] at hix
   rw [h3] at hfr ⊢
   simp only [Option.getD_some,Option.isSome_some] at hfr ⊢
   have hft:=fun m H=>Zfj m H e true
   have hj:=Xv h2
   have b0:ZV E7 .lss 3 (.int .i64 (i:Int)) (.int .i64 0)=some (.bool false):=XS (by omega)
   obtain ⟨nm,⟨k',m',s',b',kids'⟩,x⟩:=e
   simp only [En.cells,Tm.cells,List.cons_append,List.nil_append] at hfr hft hj ⊢
   refine Zen ?_
   refine Jw WB fe50.ok hfr ?_
   repeat' first|refine Jc hix ?_|refine Ji ?_|refine Jx ?_|refine Jt ?_|refine Jo ?_|fail
   all_goals exact hft _ _
open Go.Proofs
def Y6 (s:Bs):Bool:= !(s.any fun c=>c==35)&&VH s
theorem Zjl {s:Bs} {i:Nat} (h:s[i]? = some c) (hc:c=35):Y6 s=false:=by
 have:s.any (fun c=>c==35)=true:=List.any_eq_true.2 ⟨c,List.mem_of_getElem? h,by simp [hc]⟩
 simp [Y6,this]
theorem ZiU (h:((c.toNat:Int)==35)=true):c=35:=by
 have h1:(c.toNat:Int)=35:=by simpa using h
 have h2:c.toNat=(35:UInt8).toNat:=by
  have:(35:UInt8).toNat=35:=rfl
  omega
 exact UInt8.toNat_inj.1 h2
theorem c37 (s:Bs) (hs:s.length≤100000):∀ H,CallOk E0 Tryz.prog 37 [.str s] H (.bool (Y6 s)) H:=by
 have hn:=c76 s (by unfold maxLen;omega)
 refine Jw tOk fe37.ok rfl ?_
 repeat' first|refine Jt ?_|refine Jo ?_|fail
 refine Wp.while (fun k tm H=>∃ (i:Nat) (base:TM),i+k=s.length∧((s.take i).any fun c=>c==35)=false∧tm=ovr base [(0,.str s),(3,.int .i64 (i:Int))]∧H=⟨[],0,[],0⟩)
  (fun k tm H hI=>?_) s.length _ _ ⟨0,_,by omega,by simp,Zi ⟨rfl,rfl,trivial⟩,rfl⟩
 obtain ⟨i,base,hi,hI,rfl,rfl⟩:=hI
 by_cases hlt:i<s.length
 · obtain ⟨c, hc⟩ : ∃ c, s[i]? = some c := ⟨s[i], by simp⟩
   have hlx:ZV E0 .lss 3 (.int .i64 (i:Int)) (.int .i64 (s.length:Int))=some (.bool true):=We (by omega)
   have hj:=ZjZ hc
   repeat' first|refine JX ?_|refine Ji ?_|refine Jt ?_|refine Jb ?_ ?_|refine Jo ?_|intro hb
   · rw [Zjl hc (ZiU hb)]
   · have hne : ¬ c = 35 := fun e => by rw [e] at hb; exact absurd hb (by decide)
     refine LoopI.go (k-1) (by omega) ⟨i+1,_,by omega,?_,Zi ⟨rfl,Zh (Ze (n:=i+1) (by omega)),trivial⟩,rfl⟩
     rw [List.take_add_one,hc]
     simp only [List.any_append,hI,Bool.false_or,Option.toList,List.any_cons,List.any_nil,Bool.or_false]
     simpa using hne
 · have e : i = s.length := by omega
   subst e
   rw [List.take_length] at hI
   have hlx:ZV E0 .lss 3 (.int .i64 (s.length:Int)) (.int .i64 (s.length:Int))=some (.bool false):=XS (by omega)
   have hr:Y6 s=VH s:=by simp only [Y6,hI,Bool.not_false,Bool.true_and]
   rw [hr]
   repeat' first|refine Jc (hn _) ?_|refine Ji ?_|refine Jb ?_ ?_|refine Jo ?_|intro hb
   all_goals first|rfl|rw [hb]
def skT (name:Bs):Tm:= .mk 3 [115,107] 0 true [.mk 2 name 1 true []]
theorem Ua (h:name.length≤1000):(skT name).Ok∧(skT name).size=2:=
 ⟨ok1 (by decide) (.mk (by decide) (by decide) (by unfold maxLen;omega) (by unfold maxLen;decide) (by simp)),rfl⟩
theorem c38 (name:Bs):∀ H,CallOk E0 Tryz.prog 38 [.str name] H (.agg (skT name).cells) H:=by
 have h1:=c72 name 1
 have h2:=Zkt [115,107] (Yq name 1)
 have hfr:=Zy 0 hNil (skT name)
 have e:Tm.mk 3 [115,107] 0 true [Yq name 1]=skT name:=rfl
 rw [e] at h2
 generalize skT name=R at h2 hfr ⊢
 generalize Yq name 1=A at h1 h2
 obtain ⟨k,nm,s,b,kids⟩:=R
 obtain ⟨k1,nm1,s1,b1,kids1⟩:=A
 simp only [Tm.cells] at h1 h2 hfr ⊢
 refine Jw tOk fe38.ok hfr ?_
 repeat' first|refine Jc (h1 _) ?_|refine Jc (h2 _) ?_|refine Js ?_|refine Jo ?_|fail
 all_goals exact Z2 _ _ _ _ _ _ _
theorem ZeE (t:Tm):frzG (.agg t.cells)=some (.agg t.cells):=by
 obtain ⟨k,nm,s,tb,kids⟩:=t
 simp only [Tm.cells,frzG,Xm,Zu]
 rfl
theorem Zua (b:Bool) (L:List (List PV)) (t k:Tm):ZC [slV b 4 L,.agg t.cells,.agg k.cells]=some [slV b 4 L,.agg t.cells,.agg k.cells]:=by
 simp only [ZC,Yl,ZeE]
def ZlO (B1 B2 B3 B4 F W:Bool) (Z:Bool):Bool:=if B1=true then false else if B2=true∨B3=false∨B4=true then false else ((F&&W)==Z)
def Za3 (l:List Tm) (t k:Tm):Bool:=
 ZlO (decide ((Zf t).2≠0)) (decide (((Zj (Zf t).1.sub (Zf t).1.key l.length (Zf t).1.till).issue k).2≠0)) (decide (t.cmp ((Zj (Zf t).1.sub (Zf t).1.key l.length (Zf t).1.till).issue k).1=0))
  (decide ((Zf t).1.till≠0)&&decide ((Zf t).1.till≠9999)) (Zx (Zf t).1.sub l.reverse).2.2 (decide ((Zx (Zf t).1.sub l.reverse).1.cmp (Zf t).1.key=0)) (decide ((Zf t).1.till=0))
theorem Zkv (a b:Int):ZV E0 .neq 3 (.int .i64 a) (.int .i64 b)=some (.bool (decide (a≠b))):=by
 show some (PV.bool (!(a==b)))=_
 by_cases h:a=b<;>simp [h]
theorem Zoi (a b:Int):ZV E0 .eql 3 (.int .i64 a) (.int .i64 b)=some (.bool (decide (a=b))):=by
 show some (PV.bool (a==b))=_
 by_cases h:a=b<;>simp [h]
theorem c45 {l : List Tm} (hok : ∀ t, t ∈ l → t.Ok) (hs : ∀ t, t ∈ l → t.size ≤ 900) (hll : l.length ≤ 40) (b : Bool) {t k : Tm} (ht : t.Ok) (hts : t.size ≤ 900) (hk : k.Ok) (hks : k.size ≤ 900) : ∀ H,
  CallOk E0 Tryz.prog 45 [slV b 4 (Za l),.agg t.cells,.agg k.cells] H (.bool (Za3 l t k)) H:=by
 obtain ⟨r1,r2,r3⟩:=WW ht hts (by omega)
 have cr:=c87 ht (by omega)
 have ce:=c68 (Zf t).1.sub (Zf t).1.key l.length (Zf t).1.till
 have ci:=c88 (Zj (Zf t).1.sub (Zf t).1.key l.length (Zf t).1.till) (key:=k) (by simp only [Zj];omega) (by simp [Zj]) (by simp [Zj]) (by simp [Zj]) (by simp [Zj]) r1 (by simp only [Zj];omega) hk (by omega)
 have hio:=Yv (x:=Zj (Zf t).1.sub (Zf t).1.key l.length (Zf t).1.till) (key:=k) r1 hk
 have hio2:((Zj (Zf t).1.sub (Zf t).1.key l.length (Zf t).1.till).issue k).1.size≤1000000:=by
  have:=hio.2
  simp only [Zj] at this ⊢
  omega
 have cq:=c23 ht hio.1 (by omega) hio2
 have cf:=c53 hok hs hll (name:=(Zf t).1.sub) b
 have hlo:=VK (name:=(Zf t).1.sub) (S:=900) (by omega) (l:=l.reverse) fun u hu=>⟨hok u (List.mem_reverse.1 hu),hs u (List.mem_reverse.1 hu)⟩
 have cw:=c23 hlo.1 r1 (by have:=hlo.2.1;omega) (by omega)
 have e1:=Ye (Zf t).2
 have e2:=Ye ((Zj (Zf t).1.sub (Zf t).1.key l.length (Zf t).1.till).issue k).2
 have e3:=Zkv (Zf t).1.till 0
 have e4:=Zkv (Zf t).1.till 9999
 have e5:=Zoi (Zf t).1.till 0
 have hln:=Zb l
 unfold Za3
 rw [Yy] at ce
 have ci:∀ H,CallOk E0 Tryz.prog 88 [.agg (.str (Zf t).1.sub::((Zf t).1.key.cells++ [.bool false,.nils,.nils,.int .i64 (l.length:Int),.int .i64 0,.int .i64 (Zf t).1.till])),.agg k.cells] H (.tup [.agg ((Zj (Zf t).1.sub (Zf t).1.key l.length (Zf t).1.till).issue k).1.cells,.int .i64 ((Zj (Zf t).1.sub (Zf t).1.key l.length (Zf t).1.till).issue k).2]) H:=by
  rw [← Yy]
  exact ci
 clear hio hio2 hlo r1 r2 r3 ht hts hk hks hok hs hll
 generalize (Zj (Zf t).1.sub (Zf t).1.key l.length (Zf t).1.till).issue k=I at ci cq e2 ⊢
 generalize Zf t=R at cr ce ci cf cw e1 e3 e4 e5 ⊢
 obtain ⟨⟨sub,⟨k8,nm8,s8,b8,kids8⟩,iss,pn,per,en',exc,ser,fr,till⟩,R2⟩:=R
 obtain ⟨I,I2⟩:=I
 simp only [] at cr ce ci cf cw e1 e2 e3 e4 e5 cq ⊢
 generalize Zx sub l.reverse=F at cf cw ⊢
 obtain ⟨X,n,ok⟩:=F
 simp only [] at cf cw ⊢
 rw [← hln] at ce ci
 generalize Za l=L at ce ci cf ⊢
 generalize decide (R2≠0)=B1 at e1 ⊢
 generalize decide (I2≠0)=B2 at e2 ⊢
 generalize decide (t.cmp I=0)=B3 at cq ⊢
 generalize decide (X.cmp (.mk k8 nm8 s8 b8 kids8)=0)=W at cw ⊢
 generalize decide (till≠0)=B4 at e3 ⊢
 generalize decide (till≠9999)=B5 at e4 ⊢
 generalize decide (till=0)=Z at e5 ⊢
 clear hln
 obtain ⟨kt,nmt,st,bt,kidst⟩:=t
 obtain ⟨kk,nmk,sk,bk,kidsk⟩:=k
 obtain ⟨ki,nmi,si,bi',kidsi⟩:=I
 obtain ⟨kx,nmx,sx,bx,kidsx⟩:=X
 simp only [Cred.cells,Tm.cells,List.cons_append,List.nil_append] at cr ce ci cq cf cw ⊢
 have hO : (B1 = true) ∨ (B1 = false ∧ B2 = true) ∨ (B1 = false ∧ B2 = false ∧ B3 = false) ∨ (B1 = false ∧ B2 = false ∧ B3 = true ∧ B4 = true ∧ B5 = true) ∨ (B1 = false ∧ B2 = false ∧ B3 = true ∧ B4 = true ∧ B5 = false ∧ ok = false) ∨ (B1 = false ∧ B2 = false ∧ B3 = true ∧ B4 = false ∧ ok = false)
   ∨(B1=false∧B2=false∧B3=true∧B4=true∧B5=false∧ok=true)∨(B1=false∧B2=false∧B3=true∧B4=false∧ok=true):=by
  cases B1<;>cases B2<;>cases B3<;>cases B4<;>cases B5<;>cases ok<;>simp
 rcases hO with rfl|⟨rfl,rfl⟩|⟨rfl,rfl,rfl⟩|⟨rfl,rfl,rfl,rfl,rfl⟩|⟨rfl,rfl,rfl,rfl,rfl,rfl⟩|⟨rfl,rfl,rfl,rfl,rfl⟩|⟨rfl,rfl,rfl,rfl,rfl,rfl⟩|⟨rfl,rfl,rfl,rfl,rfl⟩
 all_goals simp only [ZlO,Bool.true_eq_false,Bool.false_eq_true,if_false,if_true,or_true,true_or,or_self,Bool.and_true,Bool.and_false,Bool.true_and,Bool.false_and]
 all_goals
  refine Zr (own:=fun d=>Nat.beq d 30015) tOk fe45.ok (Zua b L (.mk kt nmt st bt kidst) (.mk kk nmk sk bk kidsk)) rfl ?_
  refine Wp.seq ?_
  repeat' first|refine Jk ?_|(apply qCl;rfl;rfl;rfl;rfl;first|exact cr _|exact cq _|exact cf _|exact cw _)|refine Ji ?_|refine Jt ?_|refine Jo ?_|refine Jd (ce _) ?_|refine Jd (ci _) ?_|(apply dAl;rfl;rfl;rfl;rfl;exact IsV.ptrM;exact IsH.mkN)|(apply dLn;rfl;rfl;rfl;rfl;rfl)|refine Jh ?_|(apply dWB tOk follows;rfl;kernel_rfl;rfl;exact IsH.mkN)|fail
 all_goals rfl
open Go.Proofs
theorem Zsm (e:En) (s:Bs):∀ H,CallOk E7 Tryz.prog 138 [.agg e.cells,.str s] H (.int .i64 (Xw e.name s)) H:=by
 have hc:=fun H=>Zft (Zll (Zsb e.name s H))
 obtain ⟨nm,⟨k,m,z,b,kids⟩,i⟩:=e
 simp only [En.cells,Tm.cells,List.cons_append,List.nil_append] at hc ⊢
 generalize Xw nm s=C at hc ⊢
 refine Jw WB fe138.ok rfl ?_
 repeat' first|refine Jc (hc _) ?_|refine Jo ?_|fail
 all_goals rfl
def Vo (M:List En):Prop:=∀ (i j:Nat) (a b:En),i<j→M[i]? = some a→M[j]? = some b→Xw a.name b.name<0
theorem UQ:Xw a b<0↔Op.bytesLess a b=true:=by
 unfold Xw
 split
 · simp_all
 · split<;>simp_all
theorem WO {c:Bs} (h1:Xw a b<0) (h2:Xw b c≤0):Xw a c<0:=cmpB_on.strict1 trivial trivial trivial h1 h2
theorem ZnU {p:Nat} (hp:p≤M.length) (h1:∀ (k:Nat) (e:En),k<p→M[k]? = some e→Xw e.name name<0) (h2:∀ (k:Nat) (e:En),p≤k→M[k]? = some e→¬ Xw e.name name<0):Wy name M=p:=by
 have e1:(M.take p).filter (fun e=>Op.bytesLess e.name name)=M.take p:=by
  rw [List.filter_eq_self]
  intro e he
  obtain ⟨k,hk,rfl⟩:=List.mem_iff_getElem.1 he
  have hk2:k<p:=by simp at hk;omega
  exact UQ.1 (h1 k _ hk2 (by rw [List.getElem_take];exact List.getElem?_eq_getElem _))
 have e2:(M.drop p).filter (fun e=>Op.bytesLess e.name name)= []:=by
  rw [List.filter_eq_nil_iff]
  intro e he hb
  obtain ⟨k,hk,rfl⟩:=List.mem_iff_getElem.1 he
  exact h2 (p+k) _ (by omega) (by rw [List.getElem_drop];exact List.getElem?_eq_getElem _) (UQ.2 hb)
 have e3:M.filter (fun e=>Op.bytesLess e.name name)=M.take p:=by
  conv=>lhs;rw [← List.take_append_drop p M]
  rw [List.filter_append,e1,e2,List.append_nil]
 rw [Wy,e3,List.length_take]
 omega
theorem Zlo {id j:Nat} {e:En} (hb:nth H.bx id=some (.cells 6 (enC L++D))) (hj:L[j]? = some e):YP E7 60 (.ptr id 6 j 0) H=some (.agg e.cells):=by
 have hlt:=ZN hj
 have h:(enC L++D)[j]? = some e.cells:=by rw [List.getElem?_append_left (by rw [Z6];exact hlt)];exact Xv hj
 obtain ⟨nm,⟨k,m,s,b,kids⟩,i⟩:=e
 exact Zag rfl rfl hb ((ZA _ _).trans h) rfl
theorem Zu8 {K A:Box} (hlen:M.length≤1000) (hO:Vo M) (name:Bs):∃ f,CallOk E7 Tryz.prog 137 [.own 2 6 0 M.length,.str name,.fn 138 []] ⟨[K,A,.cells 6 (enC M++D)],0,[],0⟩ (.tup [.int .i64 (Wy name M:Int),.bool f]) ⟨[K,A,.cells 6 (enC M++D)],0,[],0⟩:=by
 suffices h:∃ r H',CallOk E7 Tryz.prog 137 [.own 2 6 0 M.length,.str name,.fn 138 []] ⟨[K,A,.cells 6 (enC M++D)],0,[],0⟩ r H'∧(∃ f,r= .tup [.int .i64 (Wy name M:Int),.bool f]∧H'=⟨[K,A,.cells 6 (enC M++D)],0,[],0⟩) by
  obtain ⟨r,H',h1,f,rfl,rfl⟩:=h
  exact ⟨f,h1⟩
 have hnb:nth [K,A,.cells 6 (enC M++D)] 2=some (.cells 6 (enC M++D)):=rfl
 refine ZW (own:=fun _=>false) WB fe137.ok ?_
 refine Wp.seq ?_
 repeat' first|refine Jt ?_|refine Jo ?_|fail
 refine Wp.while (fun m tm H => ∃ (i : Nat) (base : TM), i + m ≤ M.length ∧ (∀ (k : Nat) (e : En), k < i → M[k]? = some e → Xw e.name name < 0) ∧ (∀ (k : Nat) (e : En), i + m ≤ k → M[k]? = some e → ¬ Xw e.name name < 0) ∧
   tm=ovr base [(0,.own 2 6 0 M.length),(1,.str name),(2,.fn 138 []),(8,.int .i64 (M.length:Int)),(9,.int .i64 (i:Int)),(10,.int .i64 ((i+m:Nat):Int))]∧H=⟨[K,A,.cells 6 (enC M++D)],0,[],0⟩)
  (fun m tm H hI=>?_) M.length _ _ ⟨0,_,by omega,fun k e h=>absurd h (by omega),fun k e h h'=>absurd (ZN h') (by omega),Zi ⟨rfl,rfl,rfl,rfl,rfl,Zh (by rw [Nat.zero_add];rfl),trivial⟩,rfl⟩
 obtain ⟨i,base,hi,h1,h2,rfl,rfl⟩:=hI
 by_cases hm:0<m
 · have hlx : ZV E7 .lss 3 (.int .i64 (i : Int)) (.int .i64 ((i + m : Nat) : Int)) = some (.bool true) := We (by omega)
   obtain ⟨p,hp⟩:∃ p,p=(i+(i+m)) / 2:=⟨_,rfl⟩
   have hpl:p<M.length:=by omega
   obtain ⟨e,he⟩:∃ e,M[p]? = some e:=⟨M[p],by simp⟩
   have b1:ZV E7 .add 3 (.int .i64 (i:Int)) (.int .i64 ((i+m:Nat):Int))=some (.int .i64 ((i+(i+m):Nat):Int)):=by
    show some (PV.int .i64 (IntKind.i64.wrap ((i:Int)+((i+m:Nat):Int))))=_
    rw [IntWalk.i64_in _ (by omega)]
    congr 2
   have k1:ZdG E7 3 172 (.int .i64 ((i+(i+m):Nat):Int))=some (.int .u64 ((i+(i+m):Nat):Int)):=by
    show some (PV.int .u64 (IntKind.u64.wrap ((i+(i+m):Nat):Int)))=_
    rw [IntWalk.u64_in _ (by omega)]
   have b2:∀ c,(c:PV)= .int .i64 1∨c= .int .u64 1→ZV E7 .shr 172 (.int .u64 ((i+(i+m):Nat):Int)) c=some (.int .u64 (p:Int)):=fun c hc=>by
    rcases hc with rfl|rfl
    all_goals
     show some (PV.int .u64 (Int.fdiv ((i+(i+m):Nat):Int) (2 ^ (min (Int.toNat 1) 64))))=_
     congr 2
     rw [hp]
     show Int.fdiv _ 2=_
     rw [Int.fdiv_eq_ediv_of_nonneg _ (by decide)]
     omega
   have b3:=b2 (.int .i64 1) (.inl rfl)
   have b4:=b2 (.int .u64 1) (.inr rfl)
   have k2:ZdG E7 172 3 (.int .u64 (p:Int))=some (.int .i64 (p:Int)):=by
    show some (PV.int .i64 (IntKind.i64.wrap (p:Int)))=_
    rw [IntWalk.i64_in _ (by omega)]
   have hia:=ZjE (id:=2) (ix:=0) hpl
   have hld:YP E7 60 (.ptr 2 6 (0+p) 0) ⟨[K,A,.cells 6 (enC M++D)],0,[],0⟩=some (.agg e.cells):=by rw [Nat.zero_add];exact Zlo rfl he
   have hc:=Zsm e name
   have hcm:ZV E7 .lss 3 (.int .i64 (Xw e.name name)) (.int .i64 0)=some (.bool (decide (Xw e.name name<0))):=rfl
   by_cases hlt:Xw e.name name<0
   · rw [decide_eq_true hlt] at hcm
     have g1:∀ (k:Nat) (u:En),k<p+1→M[k]? = some u→Xw u.name name<0:=fun k u hk hu=>by
      rcases Nat.lt_or_ge k p with h|h
      · exact WO (hO k p u e h hu he) (by omega)
      · obtain rfl : k = p := by omega
        rw [he] at hu;cases hu;exact hlt
     generalize Xw e.name name=C at hc hcm
     repeat' first|refine Jc (hc _) ?_|refine Ji ?_|(apply qCv;rfl;rfl;rfl;assumption;exact IsV.any _)|refine JJ ?_|(apply qLd;rfl;rfl;rfl;assumption;exact IsV.any _)|refine Jo ?_|fail
     exact LoopI.go (i+m-(p+1)) (by omega) ⟨p+1,_,by omega,g1,fun k u hk hu=>h2 k u (by omega) hu,Zi ⟨rfl,rfl,rfl,rfl,Zh (Ze (n:=p+1) (by omega)),Zh (by congr 1;omega),trivial⟩,rfl⟩
   · rw [decide_eq_false hlt] at hcm
     have g2:∀ (k:Nat) (u:En),p≤k→M[k]? = some u→¬ Xw u.name name<0:=fun k u hk hu hn=>by
      rcases Nat.lt_or_ge p k with h|h
      · exact hlt (WO (hO p k e u h he hu) (by omega))
      · obtain rfl : k = p := by omega
        rw [he] at hu;cases hu;exact hlt hn
     generalize Xw e.name name=C at hc hcm
     repeat' first|refine Jc (hc _) ?_|refine Ji ?_|(apply qCv;rfl;rfl;rfl;assumption;exact IsV.any _)|refine JJ ?_|(apply qLd;rfl;rfl;rfl;assumption;exact IsV.any _)|refine Jo ?_|fail
     exact LoopI.go (p-i) (by omega) ⟨i,_,by omega,h1,fun k u hk hu=>g2 k u (by omega) hu,Zi ⟨rfl,rfl,rfl,rfl,rfl,Zh (by congr 1;omega),trivial⟩,rfl⟩
 · obtain rfl : m = 0 := by omega
   have hlx:ZV E7 .lss 3 (.int .i64 (i:Int)) (.int .i64 ((i+0:Nat):Int))=some (.bool false):=XS (by omega)
   have hb:=ZnU (p:=i) (name:=name) (M:=M) (by omega) h1 (fun k e hk he=>h2 k e (by omega) he)
   rw [hb]
   by_cases hil:i<M.length
   · obtain ⟨e, he⟩ : ∃ e, M[i]? = some e := ⟨M[i], by simp⟩
     have hly:ZV E7 .lss 3 (.int .i64 (i:Int)) (.int .i64 (M.length:Int))=some (.bool true):=We (by omega)
     have hia:=ZjE (id:=2) (ix:=0) hil
     have hld:YP E7 60 (.ptr 2 6 (0+i) 0) ⟨[K,A,.cells 6 (enC M++D)],0,[],0⟩=some (.agg e.cells):=by rw [Nat.zero_add];exact Zlo rfl he
     have hc:=Zsm e name
     generalize Xw e.name name=C at hc
     have hcm:ZV E7 .eql 3 (.int .i64 C) (.int .i64 0)=some (.bool (decide (C=0))):=Zoi C 0
     repeat' first|refine Jc (hc _) ?_|refine Ji ?_|refine JJ ?_|(apply qLd;rfl;rfl;rfl;assumption;exact IsV.any _)|refine Jt ?_|refine Jo ?_|fail
     all_goals exact RetR.ret rfl ⟨_,rfl,rfl⟩
   · have hly : ZV E7 .lss 3 (.int .i64 (i : Int)) (.int .i64 (M.length : Int)) = some (.bool false) := XS (by omega)
     repeat' first|refine Jk ?_|refine Ji ?_|refine Jt ?_|refine Jo ?_|fail
     all_goals exact RetR.ret rfl ⟨_,rfl,rfl⟩
open Go.Proofs
def zV:Bool→PV
 |true=> .nils
 |false=> .sl .full 6 []
theorem ZnS (b:Bool) (bx:List Box):CallOk E7 Tryz.prog 135 [slV b 6 []] ⟨bx,0,[],0⟩ (zV b) ⟨bx,0,[],0⟩:=by
 have hap:∀ ro,Yg E7 25 25 (.sl .full 6 []) (.sl .none 6 []) ⟨bx,ro,[],0⟩=some (.sl .full 6 [],⟨bx,ro,[],0⟩):=fun ro=>rfl
 cases b
 · rw [Z8]
   refine YO (own:=fun _=>false) WB fe135.ok ?_
   refine Wp.seq ?_
   repeat' first|refine Js ?_|refine JA ?_|refine Jt ?_|refine Jo ?_|fail
   all_goals exact RetE.ret rfl rfl rfl
 · rw [Zq]
   refine YO (own:=fun _=>false) WB fe135.ok ?_
   refine Wp.seq ?_
   repeat' first|refine Jt ?_|refine Jo ?_|fail
   all_goals exact RetE.ret rfl rfl rfl
theorem ixZ (b:Bool) (K:Box) (name:Bs):CallOk E7 Tryz.prog 94 [zV b,.fn 136 [.ptr 1 1 0 0]] ⟨[K,Yi name],0,[],0⟩ (.int .i64 (-1)) ⟨[K,Yi name],0,[],0⟩:=by
 cases b
 all_goals
  unfold zV
  refine YO (own:=fun _=>false) WB fe94.ok ?_
  refine Wp.seq ?_
  repeat' first|refine Jo ?_|fail
  refine Wp.while (fun _ tm H=>∃ base:TM,tm=ovr base [(7,.int .i64 0),(8,.int .i64 0)]∧H=⟨[K,Yi name],0,[],0⟩)
   (fun m tm H hI=>?_) 0 _ _ ⟨_,Zi ⟨rfl,rfl,trivial⟩,rfl⟩
  obtain ⟨base,rfl,rfl⟩:=hI
  repeat' first|(apply qF (ty:=0);rfl;rfl;rfl)|refine Jo ?_|fail
  all_goals exact RetE.ret rfl rfl rfl
theorem Zvc (b:Bool) (K:Box) (name:Bs):CallOk E7 Tryz.prog 134 [zV b,.fn 136 [.ptr 1 1 0 0]] ⟨[K,Yi name],0,[],0⟩ (zV b) ⟨[K,Yi name],0,[],0⟩:=by
 have hc:=ixZ b K name
 cases b
 all_goals
  unfold zV at hc ⊢
  refine YO (own:=fun _=>false) WB fe134.ok ?_
  refine Wp.seq ?_
  repeat' first|refine Jc hc ?_|refine Jt ?_|refine Jo ?_|fail
  all_goals exact RetE.ret rfl rfl rfl
theorem ZuG (b:Bool) (K:Box) (name:Bs):CallOk E7 Tryz.prog 85 [slV b 6 [],.str name] ⟨[K],0,[],0⟩ (zV b) ⟨[K,Yi name],0,[],0⟩:=by
 have h1:=ZnS b [K,Yi name]
 have h2:=Zvc b K name
 unfold Yi at h1 h2 ⊢
 generalize zV b=Z at h1 h2 ⊢
 refine YO (own:=fun _=>false) WB fe85.ok ?_
 refine Wp.seq ?_
 repeat' first|refine Jc h1 ?_|refine Jc h2 ?_|refine Jo ?_|fail
 all_goals exact RetE.ret rfl rfl rfl
theorem Zs2 (b:Bool) (name:Bs) (bx:List Box):CallOk E7 Tryz.prog 137 [zV b,.str name,.fn 138 []] ⟨bx,0,[],0⟩ (.tup [.int .i64 0,.bool false]) ⟨bx,0,[],0⟩:=by
 cases b
 all_goals
  unfold zV
  refine YO (own:=fun _=>false) WB fe137.ok ?_
  refine Wp.seq ?_
  repeat' first|refine Jt ?_|refine Jo ?_|fail
  refine Wp.while (fun _ tm H=>∃ base:TM,tm=ovr base [(8,.int .i64 0),(9,.int .i64 0),(10,.int .i64 0)]∧H=⟨bx,0,[],0⟩)
   (fun m tm H hI=>?_) 0 _ _ ⟨_,Zi ⟨rfl,rfl,rfl,trivial⟩,rfl⟩
  obtain ⟨base,rfl,rfl⟩:=hI
  repeat' first|refine Jk ?_|refine Jt ?_|refine Jo ?_|fail
  all_goals exact RetE.ret rfl rfl rfl
theorem Zrn {id:Nat} (hb:nth H.bx id=some (.cells 6 [y.cells])) {s:PV} (h1:Vw 6 s=6) (h2:Zm3 s=true):Wl E7 25 25 s (.own id 6 0 1) H=some (6,80,[y.cells]):=by
 have hy:Xl [y.cells]=some [y.cells]:=by
  obtain ⟨nm,⟨k,m,s,tb,kids⟩,i⟩:=y
  simp only [En.cells,Tm.cells,List.cons_append,List.nil_append,Xl,Xm,Zu]
  rfl
 have hok:[y.cells].all (fun c=>c.all Z3)=true:=Qp [y]
 have hx:XK H (.own id 6 0 1)=some [y.cells]:=by
  simp only [XK,hb]
  show (if 6=6∧0+1≤1 then Xl [y.cells] else none)=_
  rw [if_pos (by omega),hy]
 have hT:ApT E7 25 25 6 80:=⟨_,_,_,_,_,rfl,rfl,rfl,rfl,rfl,rfl,rfl,by decide,rfl⟩
 obtain ⟨ti,ui,e,f,ei,q1,q2,q3,q4,q5,q6,q7,q8,q9⟩:=hT.h
 have q6':=q6
 have q7':=q7
 simp only [Wl,q1,q3,q5]
 rw [if_pos ⟨q8,q9,by rw [q6'];exact h1,by rw [q6'];rfl⟩,hx]
 simp only [hok,h2,and_self,if_true,q6',q7']
theorem ZtM (b:Bool) (K A:Box):CallOk E7 Tryz.prog 139 [zV b,.int .i64 0,.own 2 6 0 1] ⟨[K,A,.cells 6 [y.cells]],0,[],0⟩ (.own 3 6 0 1) ⟨[K,A,.cells 6 [y.cells],.cells 6 [y.cells]],0,[],0⟩:=by
 have hap:Yb E7 25 25 (zV b) (.own 2 6 0 1) ⟨[K,A,.cells 6 [y.cells]],0,[],0⟩=some (.own 3 6 0 1,⟨[K,A,.cells 6 [y.cells],.cells 6 [y.cells]],0,[],0⟩):=by
  cases b
  · have he := Zrn (y := y) (H := ⟨[K, A, .cells 6 [y.cells]], 0, [], 0⟩) (id := 2) rfl (s := .sl .full 6 []) rfl rfl
    simp only [zV,Yb,he,Xz]
    rfl
  · have he := Zrn (y := y) (H := ⟨[K, A, .cells 6 [y.cells]], 0, [], 0⟩) (id := 2) rfl (s := .nils) rfl rfl
    simp only [zV,Yb,he,Xz]
    rfl
 cases b
 all_goals
  unfold zV at hap ⊢
  refine YO (own:=fun d=>Nat.beq d 25) WB fe139.ok ?_
  refine Wp.seq ?_
  repeat' first|refine Jt ?_|refine Jo ?_|fail
  refine ZpW rfl rfl rfl rfl rfl hap ?_
  repeat' first|refine Jo ?_|fail
  all_goals exact RetE.ret rfl rfl rfl
end Go.Vm.Seat
