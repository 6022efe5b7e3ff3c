/-
  Names, valid terms: the program's and the reference's text compute the same. Valid terms of the program.
-/
import Derived.Test.YtjokjgoppbmaiaaGreatDoorStCmp
import Derived.Test.YtjokjgoppbmaiaaGreatDoorFh
import Derived.Test.YtjokjgoppbmaiaaGreatDoorFg
import Derived.Test.YtjokjgoppbmaiaaGreatDoorCrStr
set_option maxHeartbeats 64000000
set_option maxRecDepth 100000
namespace Go.Vm.Seat
open Go.Proofs
theorem bool_eq {a b:Bool} (h:a=true↔b=true):PV.bool a=PV.bool b:=by rw [Bool.eq_iff_iff.2 h]
theorem c235 (c:Int):∀ H,CallOk E0 Tryz.prog 235 [.int .u8 c] H (.bool (partI c)) H:=by
 refine κw tOk fe235.ok rfl ?_
 repeat' first | refine κn ?_ | refine κk ?_ | refine κt ?_ | refine κb ?_ ?_ | refine κg ?_ | refine κa ?_ | refine κf ?_ | intro hb
 all_goals
  refine bool_eq ?_
  simp [partI,ltrI,digI] at *
  try omega
theorem c187 (c:Int):∀ H,CallOk E0 Tryz.prog 187 [.int .u8 c] H (.bool (ltrI c)) H:=by
 refine κw tOk fe187.ok rfl ?_
 repeat' first | refine κn ?_ | refine κk ?_ | refine κt ?_ | refine κb ?_ ?_ | refine κg ?_ | refine κa ?_ | refine κf ?_ | intro hb
 all_goals
  refine bool_eq ?_
  simp [ltrI] at *
  try omega
theorem c188 (c:Int):∀ H,CallOk E0 Tryz.prog 188 [.int .u8 c] H (.bool (digI c)) H:=by
 refine κw tOk fe188.ok rfl ?_
 repeat' first | refine κn ?_ | refine κk ?_ | refine κt ?_ | refine κb ?_ ?_ | refine κg ?_ | refine κa ?_ | refine κf ?_ | intro hb
 all_goals
  refine bool_eq ?_
  simp [digI] at *
  try omega
theorem all_take_false {s:List UInt8} {i:Nat} {x:UInt8} (h:s[i]? = some x) (hx:partB x=false):s.all partB=false:=by
 rw [List.all_eq_false]
 exact ⟨x,List.mem_of_getElem? h,by simp [hx]⟩
theorem nameF_cons (c:UInt8) (r:List UInt8):nameF (c :: r)=(decide ((c :: r).length≤24) && (ltrI (Int.ofNat c.toNat) && (c :: r).all partB)):=rfl
theorem letI_part {c:Int} (h:partI c=true) (h1:¬ (48≤c∧c≤57)) (h2:c≠95) (h3:c≠35):ltrI c=true:=by
 simp [partI,ltrI,digI] at *
 omega
theorem eTs:E0.T 9=some ⟨.string,1,16,.str []⟩:=rfl
theorem idxS {s:List UInt8} {i:Nat} {c:UInt8} (h:s[i]? = some c):aIndex E0 9 (.str s) (.int .i64 (i:Int))=some (.int .u8 (c.toNat:Int)):=by
 have en:nat? (.int .i64 (i:Int))=some i:=rfl
 have hn:nth s i=some c:=by rw [nth_eq];exact h
 simp only [aIndex,eTs,en,hn]
 rfl
theorem bool_no {a b c:Bool} (h:a=false∨b=false∨c=false):PV.bool false=PV.bool (a && (b && c)):=by
 rcases h with rfl | rfl | rfl <;> simp
theorem all_take {s:List UInt8} {i:Nat} {x:UInt8} (h:s[i]? = some x) (hx:partB x=true) (ht:(s.take i).all partB=true):(s.take (i+1)).all partB=true:=by
 rw [List.take_add_one,h]
 simp [List.all_append,ht,hx]
theorem c186 (s:List UInt8) (hs:s.length≤maxLen):∀ H,CallOk E0 Tryz.prog 186 [.str s] H (.bool (nameF s)) H:=by
 refine κw tOk fe186.ok rfl ?_
 cases s with
 | nil =>
   repeat' first | refine κn ?_ | refine κk ?_ | refine κt ?_ | refine κg ?_ | refine κa ?_ | refine κf ?_ | fail
   all_goals first
    | rfl
    | (exfalso;simp at hb;done)
 | cons c r =>
   have hc:=c235 (Int.ofNat c.toNat)
   obtain ⟨S,hS⟩:∃ S,S=partI (Int.ofNat c.toNat):=⟨_,rfl⟩
   have hj:=idxS (show (c :: r)[0]? = some c from rfl)
   rw [nameF_cons]
   obtain ⟨s,hss⟩:∃ s,s=c :: r:=⟨_,rfl⟩
   rw [← hss] at hs hj ⊢
   have hne:¬ s= []:=by rw [hss];simp
   have hm:c∈s:=by rw [hss];simp
   have hall:S=false→s.all partB=false:=fun h=>by
    rw [List.all_eq_false]
    exact ⟨c,hm,by rw [show partB c=S from hS.symm,h];simp⟩
   rw [← hS] at hc
   repeat' first | refine κn ?_ | refine κk ?_ | refine κc (hc _) ?_ | refine κX ?_ | refine κt ?_ | refine κb ?_ ?_ | refine κg ?_ | refine κa ?_ | refine κf ?_ | intro hb
   all_goals first
    | (exfalso;simp at hb;exact hne hb)
    | (refine bool_no (.inl ?_);simp at hb;simp;omega)
    | (refine bool_no (.inr (.inr (hall (by simpa using hb))));done)
    | (refine bool_no (.inr (.inl ?_));clear hc hall hj hS hm hne hss;simp [ltrI] at *;omega)
    | skip
   all_goals
    have f1:S=true:=by simpa using ‹(!S)=false›
    have f2:¬ (48≤(c.toNat:Int)∧(c.toNat:Int)≤57):=by
     first
      | (have:= ‹decide ((c.toNat:Int)≤57)=false›;simp at this;omega)
      | (have:= ‹decide (48≤(c.toNat:Int))=false›;simp at this;omega)
    have f3:(c.toNat:Int)≠95:=by simpa using ‹((c.toNat:Int) == 95)=false›
    have f4:(c.toNat:Int)≠35:=by simpa using ‹((c.toNat:Int) == 35)=false›
    have hlt:ltrI (Int.ofNat c.toNat)=true:=letI_part (hS ▸ f1) f2 f3 f4
    have h24:s.length≤24:=by
     have:= ‹decide (24 < Int.ofNat s.length)=false›
     simp at this;omega
    rw [show (decide (s.length≤24) && (ltrI (Int.ofNat c.toNat) && s.all partB))=s.all partB by simp only [h24,hlt,decide_true,Bool.true_and]]
    refine Wp.while (fun m tm H=>∃ (i:Nat),∃ base,i+m=s.length∧(s.take i).all partB=true∧tm=ovr base [(0,.str s),(38,.int .i64 (s.length:Int)),(39,.int .i64 (i:Int))]∧H=⟨[],0,[],0⟩)
     (fun m tm H hI=> ?_) s.length _ _ ⟨0,_,by omega,by simp,ovr_mk ⟨rfl,rfl,rfl,trivial⟩,rfl⟩
    clear hc hall hj
    obtain ⟨i,base,hi,hall,rfl,rfl⟩:=hI
    by_cases hlt2:i < s.length
    · obtain ⟨d, hd⟩ : ∃ d, s[i]? = some d := ⟨s[i], by simp⟩
      have hj:=idxS hd
      have hc:=c235 (Int.ofNat d.toNat)
      obtain ⟨D,hD⟩:∃ D,D=partI (Int.ofNat d.toNat):=⟨_,rfl⟩
      rw [← hD] at hc
      repeat' first | refine κn ?_ | refine κc (hc _) ?_ | refine κX ?_ | refine κt ?_ | refine κb ?_ ?_ | refine κg ?_ | refine κa ?_ | refine κf ?_ | intro hb
      · rw [all_take_false hd (by rw [show partB d=D from hD.symm];simpa using hb)]
      · refine LoopI.go (m - 1) (by omega) ⟨i + 1, _, by omega, all_take hd (by rw [show partB d = D from hD.symm]; simpa using hb) hall, ovr_mk ⟨rfl, rfl, ?_, trivial⟩, rfl⟩
        exact int_eq (wrap_nat (n:=i+1) (by unfold maxLen at hs;omega))
      · exfalso;simp at hb;omega
    · have e : i = s.length := by omega
      subst e
      repeat' first | refine κn ?_ | refine κt ?_ | refine κb ?_ ?_ | refine κg ?_ | refine κa ?_ | refine κf ?_ | intro hb
      · exfalso;simp at hb
      · rw [← hall,List.take_length]
end Go.Vm.Seat
namespace Go.Vm.Seat
open Go.Proofs
theorem nodeF_1 {k:Int} {nm:List UInt8} {s:Int} {n:Nat} (h:¬ (k=1∨k=2∨k=3)∨s < 0∨5 < s∨(k=3∧s≠0)∨(k≠3∧0 < n)):nodeF k nm s n=1:=if_pos h
theorem nodeF_2 {k:Int} {nm:List UInt8} {s:Int} {n:Nat} (h:¬ (¬ (k=1∨k=2∨k=3)∨s < 0∨5 < s∨(k=3∧s≠0)∨(k≠3∧0 < n))) (h2:nameF nm=false):nodeF k nm s n=2:=by unfold nodeF;rw [if_neg h,if_pos h2]
theorem nodeF_3 {k:Int} {nm:List UInt8} {s:Int} {n:Nat} (h:¬ (¬ (k=1∨k=2∨k=3)∨s < 0∨5 < s∨(k=3∧s≠0)∨(k≠3∧0 < n))) (h2:nameF nm=true) (h3:8 < n):nodeF k nm s n=3:=by unfold nodeF;rw [if_neg h,if_neg (by simp [h2]),if_pos h3]
theorem nodeF_0 {k:Int} {nm:List UInt8} {s:Int} {n:Nat} (h:¬ (¬ (k=1∨k=2∨k=3)∨s < 0∨5 < s∨(k=3∧s≠0)∨(k≠3∧0 < n))) (h2:nameF nm=true) (h3:¬ 8 < n):nodeF k nm s n=0:=by unfold nodeF;rw [if_neg h,if_neg (by simp [h2]),if_neg h3]
theorem check_err {k:Int} {nm:List UInt8} {s:Int} {b:Bool} {kids:List Tm} {lvl n d e:Int} (h:nodeF k nm s kids.length=e) (he:e≠0):(Tm.mk k nm s b kids).check lvl n d=(e,n+1,if d < lvl then lvl else d):=by
 simp only [Tm.check];rw [h,if_pos he]
theorem check_go {k:Int} {nm:List UInt8} {s:Int} {b:Bool} {kids:List Tm} {lvl n d:Int} (h:nodeF k nm s kids.length=0):(Tm.mk k nm s b kids).check lvl n d=checkL kids (lvl+1) (n+1) (if d < lvl then lvl else d):=by
 simp only [Tm.check];rw [h,if_neg (by simp)]
theorem checkL_drop {l:List Tm} {i:Nat} {t:Tm} {lvl n d e n' d':Int} (h:l[i]? = some t) (hc:t.check lvl n d=(e,n',d')):checkL (l.drop i) lvl n d=if e≠0 then (e,n',d') else checkL (l.drop (i+1)) lvl n' d':=by
 rw [drop_cons h];simp only [checkL,hc]
theorem sizeL_drop {l:List Tm} {i:Nat} {t:Tm} (h:l[i]? = some t):sizeL (l.drop i)=t.size+sizeL (l.drop (i+1)):=by
 rw [drop_cons h];simp only [sizeL]
mutual
theorem under_mono {n m:Nat} (h:n≤m):∀ {p:PV},under n p=true→under m p=true
 | .ptr id _ _ _,hp=>by simp only [under,Nat.blt_eq] at *;omega
 | .own id _ _ _,hp=>by simp only [under,Nat.blt_eq] at *;omega
 | .map id,hp=>by simp only [under,Nat.blt_eq] at *;omega
 | .agg cs,hp=>by simp only [under] at *;exact underL_mono h hp
 | .tup cs,hp=>by simp only [under] at *;exact underL_mono h hp
 | .fn _ cs,hp=>by simp only [under] at *;exact underL_mono h hp
 | .undef,_ | .bool _,_ | .int _ _,_ | .str _,_ | .sl _ _ _,_ | .fptr _ _,_ | .nilp,_ | .nils,_ | .nilm,_ | .nilf,_=>rfl
theorem underL_mono {n m:Nat} (h:n≤m):∀ {l:List PV},underL n l=true→underL m l=true
 | [],_=>rfl
 | p :: r, hl => by
   simp only [underL,Bool.and_eq_true] at *
   exact ⟨under_mono h hl.1,underL_mono h hl.2⟩
end
theorem boxU_mono {n m:Nat} (h:n≤m) {b:Box} (hb:boxU n b=true):boxU m b=true:=by
 cases b with
 | cells es el=>exact List.all_eq_true.2 fun x hx=>underL_mono h (List.all_eq_true.1 hb x hx)
 | map es =>
   refine List.all_eq_true.2 fun x hx=> ?_
   have:=List.all_eq_true.1 hb x hx
   simp only [Bool.and_eq_true] at this ⊢
   exact ⟨under_mono h this.1,under_mono h this.2⟩
 | sp t cs=>exact underL_mono h hb
 | dead=>rfl
theorem boxes3 {n:Nat} {A:Box} (hA:boxU n A=true) (k k':IntKind) (x y:Int):[A,.cells 1 [[.int k x]],.cells 1 [[.int k' y]]].all (boxU n)=true:=by
 simp only [List.all_cons,hA];rfl
theorem boxes4 {n:Nat} {A B:Box} (hA:boxU n A=true) (k k':IntKind) (x y:Int) (hB:boxU n B=true):[A,.cells 1 [[.int k x]],.cells 1 [[.int k' y]],B].all (boxU n)=true:=by
 simp only [List.all_cons,hA,hB];rfl
theorem c107 {t : Tm} (ht : t.Ok) : ∀ {A : Box}, boxU 3 A = true → ∀ {lvl n d : Int}, 0 ≤ lvl → lvl + t.size < 4611686018427387904 → 0 ≤ n → n + t.size < 4611686018427387904 → 0 ≤ d → d < 4611686018427387904 →
  CallOk E0 Tryz.prog 107 [.agg t.cells,.int .i64 lvl,.ptr 1 1 0 0,.ptr 2 1 0 0] ⟨[A,.cells 1 [[.int .i64 n]],.cells 1 [[.int .i64 d]]],0,[],0⟩ (.int .i64 (t.check lvl n d).1) ⟨[A,.cells 1 [[.int .i64 (t.check lvl n d).2.1]],.cells 1 [[.int .i64 (t.check lvl n d).2.2]]],0,[],0⟩:=by
 induction ht with
 | @mk k nm s b kids hk hs hn hl hok ih=>
 intro A hA lvl n d hl0 hl1 hn0 hn1 hd0 hd1
 simp only [Tm.size] at hl1 hn1
 obtain ⟨e,n',d',hchk⟩:∃ e n' d',(Tm.mk k nm s b kids).check lvl n d=(e,n',d'):=⟨_,_,_,rfl⟩
 rw [hchk]
 have hw:IntKind.i64.wrap (n+1)=n+1:=IntWalk.i64_in _ (by omega)
 have hw2:IntKind.i64.wrap (lvl+1)=lvl+1:=IntWalk.i64_in _ (by omega)
 have hc:=c186 nm hn
 obtain ⟨N,hN⟩:∃ N,N=nameF nm:=⟨_,rfl⟩
 rw [← hN] at hc
 refine callOk_wpD (own:=fun _=>false) tOk fe107.ok ?_
 refine Wp.seq ?_
 repeat' first | refine κn ?_ | refine κk ?_ | refine κc (hc _) ?_ | refine κl ?_ | refine κt ?_ | refine κb ?_ ?_ | refine κg ?_ | refine κa ?_ | intro hb
 all_goals first
  | (have h0 := nodeF_1 (k := k) (nm := nm) (s := s) (n := kids.length) (by clear ih hok hc hchk; simp only [cellsL_length, beq_iff_eq, bne_iff_ne, decide_eq_true_eq, decide_eq_false_iff_not, beq_eq_false_iff_ne, bne_eq_false_iff_eq] at *; omega)
     cases hchk.symm.trans (check_err h0 (by decide))
     exact DropF.ret [(8,.int .i64 1)] ⟨rfl,trivial⟩ rfl rfl (boxes3 hA _ _ _ _) (RetE.ret rfl rfl (by rw [hw];rfl)))
  | (have h0 := nodeF_2 (k := k) (nm := nm) (s := s) (n := kids.length) (by clear ih hok hc hchk; simp only [cellsL_length, beq_iff_eq, decide_eq_true_eq, decide_eq_false_iff_not, beq_eq_false_iff_ne, bne_eq_false_iff_eq] at *; omega) (by rw [← hN]; simpa using hb)
     cases hchk.symm.trans (check_err h0 (by decide))
     exact DropF.ret [(8,.int .i64 2)] ⟨rfl,trivial⟩ rfl rfl (boxes3 hA _ _ _ _) (RetE.ret rfl rfl (by rw [hw];rfl)))
  | (have h0 := nodeF_3 (k := k) (nm := nm) (s := s) (n := kids.length) (by clear ih hok hc hchk; simp only [cellsL_length, beq_iff_eq, decide_eq_true_eq, decide_eq_false_iff_not, beq_eq_false_iff_ne, bne_eq_false_iff_eq] at *; omega) (by rw [← hN]; simpa using ‹(!N) = false›) (by simp [cellsL_length] at hb; omega)
     cases hchk.symm.trans (check_err h0 (by decide))
     exact DropF.ret [(8,.int .i64 3)] ⟨rfl,trivial⟩ rfl rfl (boxes3 hA _ _ _ _) (RetE.ret rfl rfl (by rw [hw];rfl)))
  | skip
 all_goals
  have h0:nodeF k nm s kids.length=0:=nodeF_0 (by clear ih hok hc hchk;simp only [cellsL_length,beq_iff_eq,decide_eq_false_iff_not,beq_eq_false_iff_ne,bne_eq_false_iff_eq] at *;omega) (by rw [← hN];simpa using ‹(!N)=false›) (by simp [cellsL_length] at hb;omega)
  have hgo:=hchk.symm.trans (check_go h0)
  clear hchk hc h0
  refine Wp.while (fun m tm H=>∃ (i:Nat),∃ base,∃ n1 d1:Int,i+m=kids.length∧(e,n',d')=checkL (kids.drop i) (lvl+1) n1 d1∧0≤n1∧n1+sizeL (kids.drop i) < 4611686018427387904∧0≤d1∧d1 < 4611686018427387904∧tm=ovr base [(1,.int .i64 lvl),(2,.ptr 1 1 0 0),(3,.ptr 2 1 0 0),(57,slV b 4 (cellsL kids)),(58,.int .i64 (kids.length:Int)),(59,.int .i64 (i:Int))]∧H=⟨[A,.cells 1 [[.int .i64 n1]],.cells 1 [[.int .i64 d1]],.cells 4 [[.int .i64 k,.str nm,.int .i64 s,slV b 4 (cellsL kids)]]],0,[],0⟩)
   (fun m tm H hI=>Wp.drop ?_) kids.length _ _ ⟨0,_,n+1,if d < lvl then lvl else d,by omega,by simpa using hgo,by omega,by simp;omega,by split <;> omega,by split <;> omega,ovr_mk ⟨rfl,rfl,rfl,rfl,int_eq (by rw [cellsL_length]),rfl,trivial⟩,by rw [hw]⟩
  clear hgo
  obtain ⟨i,base,n1,d1,hi,hgo,hn2,hn3,hd2,hd3,rfl,rfl⟩:=hI
  unfold maxLen at hl
  by_cases hlt:i < kids.length
  · obtain ⟨t', ht'⟩ : ∃ t', kids[i]? = some t' := ⟨kids[i], by simp⟩
    have hm:t'∈kids:=List.mem_of_getElem? ht'
    have hle:=size_le hm
    have hsd:=sizeL_drop ht'
    have hr:=t'.check_range (lvl+1) n1 d1
    obtain ⟨e1,n2,d2,h1⟩:∃ e1 n2 d2,t'.check (lvl+1) n1 d1=(e1,n2,d2):=⟨_,_,_,rfl⟩
    have hc:=ih t' hm hA (lvl:=lvl+1) (n:=n1) (d:=d1) (by omega) (by omega) (by omega) (by omega) (by omega) (by omega)
    rw [h1] at hc hr
    simp only [] at hc hr
    rw [← hw2] at hc
    rw [checkL_drop ht' h1] at hgo
    obtain ⟨k',nm',s',b',kids'⟩:=t'
    have hc:=hc.ext (ext:=[.cells 4 [[.int .i64 k,.str nm,.int .i64 s,slV b 4 (cellsL kids)]],.cells 4 [[.int .i64 k',.str nm',.int .i64 s',slV b' 4 (cellsL kids')]]]) rfl (by simp [underL,under,Tm.cells,under_slV]) (boxes3 hA _ _ _ _) (by simp)
    have hj:=cellsL_get ht'
    repeat' first | refine κn ?_ | refine κc hc ?_ | refine κx ?_ | refine κb ?_ ?_ | refine κz ?_ ?_ | refine κg ?_ | refine κa ?_ | intro hb
    · have hb1 : e1 ≠ 0 := by simpa using hb
      rw [if_pos hb1] at hgo
      cases hgo
      exact DropF.ret [(8,.int .i64 _)] ⟨rfl,trivial⟩ rfl rfl (boxes3 hA _ _ _ _) (RetE.ret rfl rfl rfl)
    · have hb1 : ¬ e1 ≠ 0 := by simpa using hb
      rw [if_neg hb1] at hgo
      exact DropQ.go [(1,.int .i64 lvl),(2,.ptr 1 1 0 0),(3,.ptr 2 1 0 0),(57,slV b 4 (cellsL kids)),(58,.int .i64 (kids.length:Int)),(59,.int .i64 ((i+1:Nat):Int))] ⟨rfl,rfl,rfl,rfl,rfl,int_eq (wrap_nat (n:=i+1) (by omega)),trivial⟩
       (by simp [under_slV,under]) rfl (boxes4 (boxU_mono (show 3≤4 by omega) hA) _ _ _ _ (by simp [boxU,underL,under_slV,under])) (LoopI.go (m - 1) (by omega) ⟨i+1,_,n2,d2,by omega,hgo,by omega,by omega,by omega,by omega,rfl,rfl⟩)
    · exfalso;simp at hb;omega
  · have e : i = kids.length := by omega
    subst e
    repeat' first | refine κn ?_ | refine κz ?_ ?_ | refine κg ?_ | refine κa ?_ | intro hb
    · exfalso;simp at hb
    · simp only [List.drop_length, checkL] at hgo
      cases hgo
      exact DropF.ret [(8,.int .i64 0)] ⟨rfl,trivial⟩ rfl rfl (boxes3 hA _ _ _ _) (RetE.ret rfl rfl rfl)
theorem c48 {t:Tm} (ht:t.Ok) (hsz:t.size < 4611686018427387000):∀ H,CallOk E0 Tryz.prog 48 [.agg t.cells] H (.int .i64 t.valid) H:=by
 have hc:=c107 ht (A:= .cells 4 [t.cells]) (by obtain ⟨k,nm,s,b,kids⟩:=t;simp [boxU,Tm.cells,underL,under_slV,under]) (lvl:=1) (n:=0) (d:=0) (by omega) (by omega) (by omega) (by omega) (by omega) (by omega)
 rw [t.valid_check]
 obtain ⟨e,n,d,h1⟩:∃ e n d,t.check 1 0 0=(e,n,d):=⟨_,_,_,rfl⟩
 rw [h1] at hc ⊢
 obtain ⟨k,nm,s,b,kids⟩:=t
 refine κw tOk fe48.ok rfl ?_
 repeat' first | refine κn ?_ | refine κk ?_ | refine κc hc ?_ | refine κt ?_ | refine κb ?_ ?_ | refine κg ?_ | refine κa ?_ | refine κf ?_ | intro hb
 all_goals (refine int_eq ?_;clear hc h1;simp only [bne_iff_ne,bne_eq_false_iff_eq,decide_eq_true_eq,decide_eq_false_iff_not] at *;(repeat' split) <;> omega)
end Go.Vm.Seat
