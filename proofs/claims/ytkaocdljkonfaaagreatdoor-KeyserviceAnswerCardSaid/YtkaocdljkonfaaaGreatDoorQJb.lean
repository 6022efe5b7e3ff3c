/-
  The place of a name among entries that stand in order: slices.BinarySearchFunc at entries. A key set among entries, and a key taken away, by the progr
-/
import Derived.Test.YtkaocdljkonfaaaGreatDoorQInsF
set_option maxHeartbeats 64000000
set_option maxRecDepth 100000
namespace Go.Vm.Seat
variable {a b name:Bs} {L M:List En} {H:Heap} {D:List (List PV)} {y:En}
open Go.Proofs
theorem Zqm (e:En) (s:Bs):∀ H,CallOk E7 Tryz.prog 138 [.agg e.cells,.str s] H (.int .i64 (Xp e.name s)) H:=by
 have hc:=fun H=>Zkr (Zkq (ZqX e.name s H))
 obtain ⟨nm,⟨k,m,z,b,kids⟩,i⟩:=e
 simp only [En.cells,Tm.cells,List.cons_append,List.nil_append] at hc ⊢
 generalize Xp nm s=C at hc ⊢
 refine Jw VS fe138.ok rfl ?_
 repeat' first|refine Jc (hc _) ?_|refine Jo ?_|fail
 all_goals rfl
def Uo (M:List En):Prop:=∀ (i j:Nat) (a b:En),i<j→M[i]? = some a→M[j]? = some b→Xp a.name b.name<0
theorem UE:Xp a b<0↔Op.bytesLess a b=true:=by
 unfold Xp
 split
 · simp_all
 · split<;>simp_all
theorem WB {c:Bs} (h1:Xp a b<0) (h2:Xp b c≤0):Xp a c<0:=cmpB_on.strict1 trivial trivial trivial h1 h2
theorem ZmV {p:Nat} (hp:p≤M.length) (h1:∀ (k:Nat) (e:En),k<p→M[k]? = some e→Xp e.name name<0) (h2:∀ (k:Nat) (e:En),p≤k→M[k]? = some e→¬ Xp e.name name<0):Ww name M=p:=by
 have e1:(M.take p).filter (fun e=>Op.bytesLess e.name name)=M.take p:=by
  rw [List.filter_eq_self]
  intro e he
  obtain ⟨k,hk,rfl⟩:=List.mem_iff_getElem.1 he
  have hk2:k<p:=by simp at hk;omega
  exact UE.1 (h1 k _ hk2 (by rw [List.getElem_take];exact List.getElem?_eq_getElem _))
 have e2:(M.drop p).filter (fun e=>Op.bytesLess e.name name)= []:=by
  rw [List.filter_eq_nil_iff]
  intro e he hb
  obtain ⟨k,hk,rfl⟩:=List.mem_iff_getElem.1 he
  exact h2 (p+k) _ (by omega) (by rw [List.getElem_drop];exact List.getElem?_eq_getElem _) (UE.2 hb)
 have e3:M.filter (fun e=>Op.bytesLess e.name name)=M.take p:=by
  conv=>lhs;rw [← List.take_append_drop p M]
  rw [List.filter_append,e1,e2,List.append_nil]
 rw [Ww,e3,List.length_take]
 omega
theorem Zkt {id j:Nat} {e:En} (hb:nth H.bx id=some (.cells 6 (enC L++D))) (hj:L[j]? = some e):YH E7 60 (.ptr id 6 j 0) H=some (.agg e.cells):=by
 have hlt:=ZS hj
 have h:(enC L++D)[j]? = some e.cells:=by rw [List.getElem?_append_left (by rw [Yh];exact hlt)];exact Wq hj
 obtain ⟨nm,⟨k,m,s,b,kids⟩,i⟩:=e
 exact Zah rfl rfl hb ((Zy _ _).trans h) rfl
theorem Zty {K A:Box} (hlen:M.length≤1000) (hO:Uo M) (name:Bs):∃ f,CallOk E7 Tryz.prog 137 [.own 2 6 0 M.length,.str name,.fn 138 []] ⟨[K,A,.cells 6 (enC M++D)],0,[],0⟩ (.tup [.int .i64 (Ww name M:Int),.bool f]) ⟨[K,A,.cells 6 (enC M++D)],0,[],0⟩:=by
 suffices h:∃ r H',CallOk E7 Tryz.prog 137 [.own 2 6 0 M.length,.str name,.fn 138 []] ⟨[K,A,.cells 6 (enC M++D)],0,[],0⟩ r H'∧(∃ f,r= .tup [.int .i64 (Ww name M:Int),.bool f]∧H'=⟨[K,A,.cells 6 (enC M++D)],0,[],0⟩) by
  obtain ⟨r,H',h1,f,rfl,rfl⟩:=h
  exact ⟨f,h1⟩
 have hnb:nth [K,A,.cells 6 (enC M++D)] 2=some (.cells 6 (enC M++D)):=rfl
 refine Z9 (own:=fun _=>false) VS fe137.ok ?_
 refine Wp.seq ?_
 repeat' first|refine Jt ?_|refine Jo ?_|fail
 refine Wp.while (fun m tm H => ∃ (i : Nat) (base : TM), i + m ≤ M.length ∧ (∀ (k : Nat) (e : En), k < i → M[k]? = some e → Xp e.name name < 0) ∧ (∀ (k : Nat) (e : En), i + m ≤ k → M[k]? = some e → ¬ Xp e.name name < 0) ∧
   tm=ovr base [(0,.own 2 6 0 M.length),(1,.str name),(2,.fn 138 []),(8,.int .i64 (M.length:Int)),(9,.int .i64 (i:Int)),(10,.int .i64 ((i+m:Nat):Int))]∧H=⟨[K,A,.cells 6 (enC M++D)],0,[],0⟩)
  (fun m tm H hI=>?_) M.length _ _ ⟨0,_,by omega,fun k e h=>absurd h (by omega),fun k e h h'=>absurd (ZS h') (by omega),Zh ⟨rfl,rfl,rfl,rfl,rfl,Zi (by rw [Nat.zero_add];rfl),trivial⟩,rfl⟩
 obtain ⟨i,base,hi,h1,h2,rfl,rfl⟩:=hI
 by_cases hm:0<m
 · have hlx : ZQ E7 .lss 3 (.int .i64 (i : Int)) (.int .i64 ((i + m : Nat) : Int)) = some (.bool true) := Wa (by omega)
   obtain ⟨p,hp⟩:∃ p,p=(i+(i+m)) / 2:=⟨_,rfl⟩
   have hpl:p<M.length:=by omega
   obtain ⟨e,he⟩:∃ e,M[p]? = some e:=⟨M[p],by simp⟩
   have b1:ZQ E7 .add 3 (.int .i64 (i:Int)) (.int .i64 ((i+m:Nat):Int))=some (.int .i64 ((i+(i+m):Nat):Int)):=by
    show some (PV.int .i64 (IntKind.i64.wrap ((i:Int)+((i+m:Nat):Int))))=_
    rw [IntWalk.i64_in _ (by omega)]
    congr 2
   have k1:ZcM E7 3 172 (.int .i64 ((i+(i+m):Nat):Int))=some (.int .u64 ((i+(i+m):Nat):Int)):=by
    show some (PV.int .u64 (IntKind.u64.wrap ((i+(i+m):Nat):Int)))=_
    rw [IntWalk.u64_in _ (by omega)]
   have b2:∀ c,(c:PV)= .int .i64 1∨c= .int .u64 1→ZQ E7 .shr 172 (.int .u64 ((i+(i+m):Nat):Int)) c=some (.int .u64 (p:Int)):=fun c hc=>by
    rcases hc with rfl|rfl
    all_goals
     show some (PV.int .u64 (Int.fdiv ((i+(i+m):Nat):Int) (2 ^ (min (Int.toNat 1) 64))))=_
     congr 2
     rw [hp]
     show Int.fdiv _ 2=_
     rw [Int.fdiv_eq_ediv_of_nonneg _ (by decide)]
     omega
   have b3:=b2 (.int .i64 1) (.inl rfl)
   have b4:=b2 (.int .u64 1) (.inr rfl)
   have k2:ZcM E7 172 3 (.int .u64 (p:Int))=some (.int .i64 (p:Int)):=by
    show some (PV.int .i64 (IntKind.i64.wrap (p:Int)))=_
    rw [IntWalk.i64_in _ (by omega)]
   have hia:=Zh2 (id:=2) (ix:=0) hpl
   have hld:YH E7 60 (.ptr 2 6 (0+p) 0) ⟨[K,A,.cells 6 (enC M++D)],0,[],0⟩=some (.agg e.cells):=by rw [Nat.zero_add];exact Zkt rfl he
   have hc:=Zqm e name
   have hcm:ZQ E7 .lss 3 (.int .i64 (Xp e.name name)) (.int .i64 0)=some (.bool (decide (Xp e.name name<0))):=rfl
   by_cases hlt:Xp e.name name<0
   · rw [decide_eq_true hlt] at hcm
     have g1:∀ (k:Nat) (u:En),k<p+1→M[k]? = some u→Xp u.name name<0:=fun k u hk hu=>by
      rcases Nat.lt_or_ge k p with h|h
      · exact WB (hO k p u e h hu he) (by omega)
      · obtain rfl : k = p := by omega
        rw [he] at hu;cases hu;exact hlt
     generalize Xp e.name name=C at hc hcm
     repeat' first|refine Jc (hc _) ?_|refine Ji ?_|(apply qCv;rfl;rfl;rfl;assumption;exact IsV.any _)|refine JJ ?_|(apply qLd;rfl;rfl;rfl;assumption;exact IsV.any _)|refine Jo ?_|fail
     exact LoopI.go (i+m-(p+1)) (by omega) ⟨p+1,_,by omega,g1,fun k u hk hu=>h2 k u (by omega) hu,Zh ⟨rfl,rfl,rfl,rfl,Zi (Zf (n:=p+1) (by omega)),Zi (by congr 1;omega),trivial⟩,rfl⟩
   · rw [decide_eq_false hlt] at hcm
     have g2:∀ (k:Nat) (u:En),p≤k→M[k]? = some u→¬ Xp u.name name<0:=fun k u hk hu hn=>by
      rcases Nat.lt_or_ge p k with h|h
      · exact hlt (WB (hO p k e u h he hu) (by omega))
      · obtain rfl : k = p := by omega
        rw [he] at hu;cases hu;exact hlt hn
     generalize Xp e.name name=C at hc hcm
     repeat' first|refine Jc (hc _) ?_|refine Ji ?_|(apply qCv;rfl;rfl;rfl;assumption;exact IsV.any _)|refine JJ ?_|(apply qLd;rfl;rfl;rfl;assumption;exact IsV.any _)|refine Jo ?_|fail
     exact LoopI.go (p-i) (by omega) ⟨i,_,by omega,h1,fun k u hk hu=>g2 k u (by omega) hu,Zh ⟨rfl,rfl,rfl,rfl,rfl,Zi (by congr 1;omega),trivial⟩,rfl⟩
 · obtain rfl : m = 0 := by omega
   have hlx:ZQ E7 .lss 3 (.int .i64 (i:Int)) (.int .i64 ((i+0:Nat):Int))=some (.bool false):=Xe (by omega)
   have hb:=ZmV (p:=i) (name:=name) (M:=M) (by omega) h1 (fun k e hk he=>h2 k e (by omega) he)
   rw [hb]
   by_cases hil:i<M.length
   · obtain ⟨e, he⟩ : ∃ e, M[i]? = some e := ⟨M[i], by simp⟩
     have hly:ZQ E7 .lss 3 (.int .i64 (i:Int)) (.int .i64 (M.length:Int))=some (.bool true):=Wa (by omega)
     have hia:=Zh2 (id:=2) (ix:=0) hil
     have hld:YH E7 60 (.ptr 2 6 (0+i) 0) ⟨[K,A,.cells 6 (enC M++D)],0,[],0⟩=some (.agg e.cells):=by rw [Nat.zero_add];exact Zkt rfl he
     have hc:=Zqm e name
     generalize Xp e.name name=C at hc
     have hcm:ZQ E7 .eql 3 (.int .i64 C) (.int .i64 0)=some (.bool (decide (C=0))):=Znt C 0
     repeat' first|refine Jc (hc _) ?_|refine Ji ?_|refine JJ ?_|(apply qLd;rfl;rfl;rfl;assumption;exact IsV.any _)|refine Jt ?_|refine Jo ?_|fail
     all_goals exact RetR.ret rfl ⟨_,rfl,rfl⟩
   · have hly : ZQ E7 .lss 3 (.int .i64 (i : Int)) (.int .i64 (M.length : Int)) = some (.bool false) := Xe (by omega)
     repeat' first|refine Jk ?_|refine Ji ?_|refine Jt ?_|refine Jo ?_|fail
     all_goals exact RetR.ret rfl ⟨_,rfl,rfl⟩
open Go.Proofs
def zV:Bool→PV
 |true=> .nils
 |false=> .sl .full 6 []
theorem Zmb (b:Bool) (bx:List Box):CallOk E7 Tryz.prog 135 [slV b 6 []] ⟨bx,0,[],0⟩ (zV b) ⟨bx,0,[],0⟩:=by
 have hap:∀ ro,Yb E7 25 25 (.sl .full 6 []) (.sl .none 6 []) ⟨bx,ro,[],0⟩=some (.sl .full 6 [],⟨bx,ro,[],0⟩):=fun ro=>rfl
 cases b
 · rw [Yf]
   refine ZV (own:=fun _=>false) VS fe135.ok ?_
   refine Wp.seq ?_
   repeat' first|refine Js ?_|refine JA ?_|refine Jt ?_|refine Jo ?_|fail
   all_goals exact RetE.ret rfl rfl rfl
 · rw [Zn]
   refine ZV (own:=fun _=>false) VS fe135.ok ?_
   refine Wp.seq ?_
   repeat' first|refine Jt ?_|refine Jo ?_|fail
   all_goals exact RetE.ret rfl rfl rfl
theorem ixZ (b:Bool) (K:Box) (name:Bs):CallOk E7 Tryz.prog 94 [zV b,.fn 136 [.ptr 1 1 0 0]] ⟨[K,Yd name],0,[],0⟩ (.int .i64 (-1)) ⟨[K,Yd name],0,[],0⟩:=by
 cases b
 all_goals
  unfold zV
  refine ZV (own:=fun _=>false) VS fe94.ok ?_
  refine Wp.seq ?_
  repeat' first|refine Jo ?_|fail
  refine Wp.while (fun _ tm H=>∃ base:TM,tm=ovr base [(7,.int .i64 0),(8,.int .i64 0)]∧H=⟨[K,Yd name],0,[],0⟩)
   (fun m tm H hI=>?_) 0 _ _ ⟨_,Zh ⟨rfl,rfl,trivial⟩,rfl⟩
  obtain ⟨base,rfl,rfl⟩:=hI
  repeat' first|(apply qF (ty:=0);rfl;rfl;rfl)|refine Jo ?_|fail
  all_goals exact RetE.ret rfl rfl rfl
theorem Zsb (b:Bool) (K:Box) (name:Bs):CallOk E7 Tryz.prog 134 [zV b,.fn 136 [.ptr 1 1 0 0]] ⟨[K,Yd name],0,[],0⟩ (zV b) ⟨[K,Yd name],0,[],0⟩:=by
 have hc:=ixZ b K name
 cases b
 all_goals
  unfold zV at hc ⊢
  refine ZV (own:=fun _=>false) VS fe134.ok ?_
  refine Wp.seq ?_
  repeat' first|refine Jc hc ?_|refine Jt ?_|refine Jo ?_|fail
  all_goals exact RetE.ret rfl rfl rfl
theorem Zq7 (b:Bool) (K:Box) (name:Bs):CallOk E7 Tryz.prog 85 [slV b 6 [],.str name] ⟨[K],0,[],0⟩ (zV b) ⟨[K,Yd name],0,[],0⟩:=by
 have h1:=Zmb b [K,Yd name]
 have h2:=Zsb b K name
 unfold Yd at h1 h2 ⊢
 generalize zV b=Z at h1 h2 ⊢
 refine ZV (own:=fun _=>false) VS fe85.ok ?_
 refine Wp.seq ?_
 repeat' first|refine Jc h1 ?_|refine Jc h2 ?_|refine Jo ?_|fail
 all_goals exact RetE.ret rfl rfl rfl
theorem Zss (b:Bool) (name:Bs) (bx:List Box):CallOk E7 Tryz.prog 137 [zV b,.str name,.fn 138 []] ⟨bx,0,[],0⟩ (.tup [.int .i64 0,.bool false]) ⟨bx,0,[],0⟩:=by
 cases b
 all_goals
  unfold zV
  refine ZV (own:=fun _=>false) VS fe137.ok ?_
  refine Wp.seq ?_
  repeat' first|refine Jt ?_|refine Jo ?_|fail
  refine Wp.while (fun _ tm H=>∃ base:TM,tm=ovr base [(8,.int .i64 0),(9,.int .i64 0),(10,.int .i64 0)]∧H=⟨bx,0,[],0⟩)
   (fun m tm H hI=>?_) 0 _ _ ⟨_,Zh ⟨rfl,rfl,rfl,trivial⟩,rfl⟩
  obtain ⟨base,rfl,rfl⟩:=hI
  repeat' first|refine Jk ?_|refine Jt ?_|refine Jo ?_|fail
  all_goals exact RetE.ret rfl rfl rfl
theorem ZoU {id:Nat} (hb:nth H.bx id=some (.cells 6 [y.cells])) {s:PV} (h1:Vi 6 s=6) (h2:Zld s=true):X3 E7 25 25 s (.own id 6 0 1) H=some (6,80,[y.cells]):=by
 have hy:Xf [y.cells]=some [y.cells]:=by
  obtain ⟨nm,⟨k,m,s,tb,kids⟩,i⟩:=y
  simp only [En.cells,Tm.cells,List.cons_append,List.nil_append,Xf,Vc,Z5]
  rfl
 have hok:[y.cells].all (fun c=>c.all Z4)=true:=Zat [y]
 have hx:Y9 H (.own id 6 0 1)=some [y.cells]:=by
  simp only [Y9,hb]
  show (if 6=6∧0+1≤1 then Xf [y.cells] else none)=_
  rw [if_pos (by omega),hy]
 have hT:ApT E7 25 25 6 80:=⟨_,_,_,_,_,rfl,rfl,rfl,rfl,rfl,rfl,rfl,by decide,rfl⟩
 obtain ⟨ti,ui,e,f,ei,q1,q2,q3,q4,q5,q6,q7,q8,q9⟩:=hT.h
 have q6':=q6
 have q7':=q7
 simp only [X3,q1,q3,q5]
 rw [if_pos ⟨q8,q9,by rw [q6'];exact h1,by rw [q6'];rfl⟩,hx]
 simp only [hok,h2,and_self,if_true,q6',q7']
theorem Zr3 (b:Bool) (K A:Box):CallOk E7 Tryz.prog 139 [zV b,.int .i64 0,.own 2 6 0 1] ⟨[K,A,.cells 6 [y.cells]],0,[],0⟩ (.own 3 6 0 1) ⟨[K,A,.cells 6 [y.cells],.cells 6 [y.cells]],0,[],0⟩:=by
 have hap:Z2 E7 25 25 (zV b) (.own 2 6 0 1) ⟨[K,A,.cells 6 [y.cells]],0,[],0⟩=some (.own 3 6 0 1,⟨[K,A,.cells 6 [y.cells],.cells 6 [y.cells]],0,[],0⟩):=by
  cases b
  · have he := ZoU (y := y) (H := ⟨[K, A, .cells 6 [y.cells]], 0, [], 0⟩) (id := 2) rfl (s := .sl .full 6 []) rfl rfl
    simp only [zV,Z2,he,Xb]
    rfl
  · have he := ZoU (y := y) (H := ⟨[K, A, .cells 6 [y.cells]], 0, [], 0⟩) (id := 2) rfl (s := .nils) rfl rfl
    simp only [zV,Z2,he,Xb]
    rfl
 cases b
 all_goals
  unfold zV at hap ⊢
  refine ZV (own:=fun d=>Nat.beq d 25) VS fe139.ok ?_
  refine Wp.seq ?_
  repeat' first|refine Jt ?_|refine Jo ?_|fail
  refine ZpE rfl rfl rfl rfl rfl hap ?_
  repeat' first|refine Jo ?_|fail
  all_goals exact RetE.ret rfl rfl rfl
open Go.Proofs
theorem QJ (M:List En):Xf (enC M)=some (enC M):=by
 induction M with
 |nil=>rfl
 | cons a r ih =>
   obtain ⟨nm,⟨k,m,s,b,kids⟩,i⟩:=a
   show Xf ((En.mk nm (.mk k m s b kids) i).cells::enC r)=_
   simp only [Xf,ih,En.cells,Tm.cells,List.cons_append,List.nil_append,Vc,Z5]
   rfl
theorem ZiF {id:Nat} (hb:nth H.bx id=some (.cells 6 (enC M++D))):Y9 H (.own id 6 0 M.length)=some (enC M):=by
 simp only [Y9,hb]
 rw [if_pos ⟨trivial,by rw [List.length_append,Yh];omega⟩,List.drop_zero,show (enC M++D).take M.length=enC M by rw [← Yh M,List.take_left],QJ]
theorem ZdZ {m:Nat} {id:Nat} (hid:m≤id) (hb:nth H.bx id=some (.cells 6 (enC M))):frz3 m H (.own id 6 0 M.length)=some (.sl .none 6 (enC M)):=by
 show frzC m H (.own id 6 0 M.length)=_
 simp only [frzC,if_neg (Nat.not_lt.2 hid),hb]
 rw [if_pos ⟨trivial,by rw [Yh];omega⟩,List.drop_zero,show (enC M).take M.length=enC M by rw [← Yh M,List.take_length],QJ]
theorem ZsW (K A:Box) (hl:M.length≤1000):CallOk E7 Tryz.prog 139 [.own 2 6 0 M.length,.int .i64 (M.length:Int),.own 3 6 0 1] ⟨[K,A,.cells 6 (enC M++D),.cells 6 [y.cells]],0,[],0⟩ (.own 4 6 0 (M.length+1)) ⟨[K,A,.dead,.cells 6 [y.cells],.cells 6 (enC (M++ [y]))],0,[],0⟩:=by
 have hsl:=Zkk (id:=2) (k:=M.length) (n:=M.length) (Nat.le_refl _)
 have heq:ZQ E7 .eql 3 (.int .i64 (M.length:Int)) (.int .i64 (M.length:Int))=some (.bool true):=by
  show some (PV.bool ((M.length:Int)==(M.length:Int)))=_
  simp
 have hs:=ZiF (H:=⟨[K,A,.cells 6 (enC M++D),.cells 6 [y.cells]],0,[],0⟩) (id:=2) (M:=M) (D:=D) rfl
 have he:=ZoU (y:=y) (H:=⟨[K,A,.cells 6 (enC M++D),.cells 6 [y.cells]],0,[],0⟩) (id:=3) rfl (s:= .own 2 6 0 M.length) rfl rfl
 have hap:Z2 E7 25 25 (.own 2 6 0 M.length) (.own 3 6 0 1) ⟨[K,A,.cells 6 (enC M++D),.cells 6 [y.cells]],0,[],0⟩=some (.own 4 6 0 (M.length+1),⟨[K,A,.dead,.cells 6 [y.cells],.cells 6 (enC (M++ [y]))],0,[],0⟩):=by
  simp only [Z2,he,Xb,Ud,hs]
  rw [if_pos ⟨trivial,Nat.zero_le _,Yh M,ZU (by rw [Yh];simp;omega) (by decide)⟩,Zab,Yh]
  rfl
 clear hs he
 generalize enC M++D=L at hap ⊢
 generalize enC (M++ [y])=L2 at hap ⊢
 generalize M.length+1=n1 at hap ⊢
 generalize M.length=n at hap hsl heq ⊢
 refine ZV (own:=fun d=>Nat.beq d 25) VS fe139.ok ?_
 refine Wp.seq ?_
 repeat' first|refine JS ?_|refine Ji ?_|refine Jt ?_|refine Jo ?_|fail
 refine ZpE rfl rfl rfl rfl rfl hap ?_
 repeat' first|refine Jo ?_|fail
 all_goals exact RetE.ret rfl rfl rfl
def Zaz (M:List En) (i:Nat) (e:En):List En:=M.take i++ [e]++M.drop i
theorem ZjF (M:List En) (i:Nat) (e:En):VR (enC M) i e.cells=enC (Zaz M i e):=by
 simp only [VR,Zaz,Zab,Zfx,Zem]
 rfl
theorem Zfm {i:Nat} (h:i≤M.length) (e:En):(Zaz M i e).length=M.length+1:=by
 simp only [Zaz,List.length_append,List.length_take,List.length_drop,List.length_singleton];omega
def QS (L:List En) (name:Bs) (key:Tm) (i:Int):List En:=Zaz (L.filter (Yn name)) (Ww name (L.filter (Yn name))) ⟨name,key.cl,i⟩
theorem ZmY (b:Bool) (L:List (List PV)) (name:Bs) (key:Tm) (i:Int):ZZ [slV b 6 L,.str name,.agg key.cells,.int .i64 i]=some [slV b 6 L,.str name,.agg key.cells,.int .i64 i]:=by
 obtain ⟨k,nm,s,tb,kids⟩:=key
 simp only [Tm.cells,ZZ,YU]
 simp only [frzG,Vc,Z5]
 rfl
theorem c86 (hl:L.length≤900) (hO:Uo (L.filter (Yn name))) {key:Tm} (hk:key.Ok) (hks:key.size≤100000) (i:Int) (b:Bool):∀ H,CallOk E0 Tryz.prog 86 [slV b 6 (enC L),.str name,.agg key.cells,.int .i64 i] H (.sl .none 6 (enC (QS L name key i))) H:=by
 have hcp:=fun H=>Zkr (c33 hk hks H)
 have hbd:=Zhd name key.cl i
 have hbd:XY E7 60 [(0,.str name),(1,.agg key.cl.cells),(2,.int .i64 i)]=some (.agg (En.mk name key.cl i).cells):=hbd
 have hfz:=ZmY b (enC L) name key i
 refine Zh8 ?_
 have hKU:∀ n,YF n (.cells 4 [key.cells])=true:=fun n=>by
  obtain ⟨k,nm,s,tb,kids⟩:=key
  show ([[PV.int .i64 k,.str nm,.int .i64 s,slV tb 4 (Za kids)]].all (ZP n))=true
  simp only [List.all_cons,List.all_nil,ZP,under,Zp]
  rfl
 have hce:∃ a c d e f g,(En.mk name key.cl i).cells= [a,c,d,e,f,g]:=by
  generalize key.cl=X
  obtain ⟨k,nm,s,tb,kids⟩:=X
  exact ⟨_,_,_,_,_,_,rfl⟩
 obtain ⟨Y,hY⟩:∃ Y,Y=En.mk name key.cl i:=⟨_,rfl⟩
 have hS:QS L name key i=Zaz (L.filter (Yn name)) (Ww name (L.filter (Yn name))) Y:=by rw [hY];rfl
 rw [hS]
 rw [← hY] at hbd hce
 have hfr:frz3 0 hNil (.sl .none 6 (enC (Zaz (L.filter (Yn name)) (Ww name (L.filter (Yn name))) Y)))=some (.sl .none 6 (enC (Zaz (L.filter (Yn name)) (Ww name (L.filter (Yn name))) Y))):=rfl
 clear hY hS
 by_cases hL:L= []
 · subst hL
   have k1:=Zq7 b (.cells 4 [key.cells]) name
   have k2:=Zss b name [.cells 4 [key.cells],Yd name]
   have k3:=Zr3 b (.cells 4 [key.cells]) (Yd name) (y:=Y)
   have hfin:=ZdZ (m:=0) (H:=⟨[.cells 4 [key.cells],Yd name,.cells 6 [Y.cells],.cells 6 [Y.cells]],0,[],0⟩) (id:=3) (M:=[Y]) (Nat.zero_le _) rfl
   have hfin:frz3 0 ⟨[.cells 4 [key.cells],Yd name,.cells 6 [Y.cells],.cells 6 [Y.cells]],0,[],0⟩ (.own 3 6 0 1)=some (.sl .none 6 (enC (Zaz (([]:List En).filter (Yn name)) (Ww name (([]:List En).filter (Yn name))) Y))):=hfin
   obtain ⟨a,c,d,e,f,g,hce⟩:=hce
   generalize enC (Zaz (([]:List En).filter (Yn name)) (Ww name (([]:List En).filter (Yn name))) Y)=R at hfin hfr ⊢
   rw [hce] at hbd k3 hfin
   generalize zV b=Z at k1 k2 k3
   generalize key.cl=X at hcp hbd
   obtain ⟨k,nm,s,tb,kids⟩:=X
   obtain ⟨k',nm',s',tb',kids'⟩:=key
   unfold Yd at k1 k2 k3 hfin
   simp only [Tm.cells,show enC []= [] from rfl] at hcp hbd hfz k1 k2 k3 hfin ⊢
   refine Zt (own:=fun d=>Nat.beq d 27) VS fe86.ok hfz hfr ?_
   refine Wp.seq ?_
   repeat' first|(apply qCl;rfl;rfl;rfl;rfl;first|exact hcp _|exact k1|exact k2|exact k3)|(apply qBd;rfl;rfl;rfl;assumption;exact IsV.aggN)|refine Jt ?_|refine Jo ?_|fail
   all_goals exact hfin
 · obtain ⟨r, H', k1, A, D, rfl, hA, rfl⟩ := Zqt (K := .cells 4 [key.cells]) hKU hL (by omega) b name
   have hMl:(L.filter (Yn name)).length≤900:=Nat.le_trans (List.length_filter_le _ _) hl
   generalize L.filter (Yn name)=M at hO k1 hfr hMl ⊢
   have hbl:=ZeE name M
   obtain ⟨ff,k2⟩:=Zty (K:= .cells 4 [key.cells]) (A:=A) (M:=M) (D:=D) (by omega) hO name
   obtain ⟨a,c,d,e,f,g,hce⟩:=hce
   by_cases hi:Ww name M<M.length
   · have hy6 : Y.cells.all Z4 = true := by
       have:=Zat [Y]
       simpa [enC] using this
     have k3:=Zkr (ZkP (H:=⟨[.cells 4 [key.cells],A,.cells 6 (enC M),.cells 6 [Y.cells]],0,[],0⟩) (id:=2) (id2:=3) (n:=M.length) (i:=Ww name M) (el:=enC M) (y:=Y.cells) rfl rfl (Nat.zero_le _) (by decide) (Yh M) hi (by omega) (Zat M) hy6)
     have k3:=CallOk.trunc (H:=⟨[.cells 4 [key.cells],A,.cells 6 (enC M++D),.cells 6 [Y.cells]],0,[],0⟩) (id:=2) (es:=6) (el:=enC M) (D:=D) rfl rfl k3
     rw [ZjF] at k3
     have hfin:=ZdZ (m:=0) (H:=⟨[.cells 4 [key.cells],A,.dead,.cells 6 [Y.cells],.cells 6 (enC (Zaz M (Ww name M) Y))],0,[],0⟩) (id:=4) (M:=Zaz M (Ww name M) Y) (Nat.zero_le _) rfl
     rw [Zfm (by omega)] at hfin
     have k3:CallOk E7 Tryz.prog 139 [.own 2 6 0 M.length,.int .i64 (Ww name M:Int),.own 3 6 0 1] ⟨[.cells 4 [key.cells],A,.cells 6 (enC M++D),.cells 6 [Y.cells]],0,[],0⟩ (.own 4 6 0 (M.length+1)) ⟨[.cells 4 [key.cells],A,.dead,.cells 6 [Y.cells],.cells 6 (enC (Zaz M (Ww name M) Y))],0,[],0⟩:=k3
     generalize enC (Zaz M (Ww name M) Y)=R at hfin hfr k3 ⊢
     generalize Ww name M=p at k2 k3
     generalize enC M++D=LL at k1 k2 k3
     generalize M.length+1=n1 at k3 hfin
     generalize M.length=n at k1 k2 k3
     rw [hce] at hbd k3 hfin
     generalize key.cl=X at hcp hbd
     generalize enC L=LE at k1 hfz ⊢
     obtain ⟨k,nm,s,tb,kids⟩:=X
     obtain ⟨k',nm',s',tb',kids'⟩:=key
     simp only [Tm.cells] at hcp hbd hfz k1 k2 k3 hfin ⊢
     refine Zt (own:=fun d=>Nat.beq d 27) VS fe86.ok hfz hfr ?_
     refine Wp.seq ?_
     repeat' first|(apply qCl;rfl;rfl;rfl;rfl;first|exact hcp _|exact k1|exact k2|exact k3)|(apply qBd;rfl;rfl;rfl;assumption;exact IsV.aggN)|refine Jt ?_|refine Jb ?_ ?_|refine Jo ?_|intro hb
     all_goals exact hfin
   · have hin : Ww name M = M.length := by omega
     have k3:=ZsW (.cells 4 [key.cells]) A (M:=M) (D:=D) (by omega) (y:=Y)
     have hR:Zaz M (Ww name M) Y=M++ [Y]:=by
      rw [hin,Zaz,List.take_length,List.drop_length,List.append_nil]
     rw [hR] at hfr ⊢
     have hfin:=ZdZ (m:=0) (H:=⟨[.cells 4 [key.cells],A,.dead,.cells 6 [Y.cells],.cells 6 (enC (M++ [Y]))],0,[],0⟩) (id:=4) (M:=M++ [Y]) (Nat.zero_le _) rfl
     rw [show (M++ [Y]).length=M.length+1 by simp] at hfin
     rw [hin] at k2
     generalize enC (M++ [Y])=R at hfin hfr k3 ⊢
     generalize enC M++D=LL at k1 k2 k3
     generalize M.length+1=n1 at k3 hfin
     generalize M.length=n at k1 k2 k3
     rw [hce] at hbd k3 hfin
     generalize key.cl=X at hcp hbd
     generalize enC L=LE at k1 hfz ⊢
     obtain ⟨k,nm,s,tb,kids⟩:=X
     obtain ⟨k',nm',s',tb',kids'⟩:=key
     simp only [Tm.cells] at hcp hbd hfz k1 k2 k3 hfin ⊢
     refine Zt (own:=fun d=>Nat.beq d 27) VS fe86.ok hfz hfr ?_
     refine Wp.seq ?_
     repeat' first|(apply qCl;rfl;rfl;rfl;rfl;first|exact hcp _|exact k1|exact k2|exact k3)|(apply qBd;rfl;rfl;rfl;assumption;exact IsV.aggN)|refine Jt ?_|refine Jb ?_ ?_|refine Jo ?_|intro hb
     all_goals exact hfin
end Go.Vm.Seat
