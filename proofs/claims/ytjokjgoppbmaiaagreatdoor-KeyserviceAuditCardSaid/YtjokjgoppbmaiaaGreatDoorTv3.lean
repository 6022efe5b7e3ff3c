/-
  Valid terms of the reference.
-/
import Derived.Test.YtjokjgoppbmaiaaGreatDoorTv2
set_option maxHeartbeats 64000000
set_option maxRecDepth 100000
namespace Go.Vm.Seat
open Go.Proofs
theorem ifq {a b:Bool} (h:a=b):PV.bool a=PV.bool b:=by rw [h]
theorem partB_eq {d:UInt8}:partB d=(ltrI (Int.ofNat d.toNat) || (digI (Int.ofNat d.toNat) || (decide ((d.toNat:Int)=95) || decide ((d.toNat:Int)=35)))):=rfl
theorem c109 (s:List UInt8) (hs:s.length≤maxLen):∀ H,CallOk E0 Tryz.prog 109 [.str s] H (.bool (nameF s)) H:=by
 refine κw tOk fe109.ok rfl ?_
 cases s with
 | nil =>
   repeat' first | refine κn ?_ | refine κk ?_ | refine κt ?_ | refine κg ?_ | refine κa ?_ | refine κf ?_ | fail
   all_goals first
    | rfl
    | (exfalso;simp at hb;done)
 | cons c r =>
   have hc:=c187 (Int.ofNat c.toNat)
   obtain ⟨L,hL⟩:∃ L,L=ltrI (Int.ofNat c.toNat):=⟨_,rfl⟩
   have hj:=idxS (show (c :: r)[0]? = some c from rfl)
   rw [nameF_cons]
   obtain ⟨s,hss⟩:∃ s,s=c :: r:=⟨_,rfl⟩
   rw [← hss] at hs hj ⊢
   have hne:s.length≠0:=by rw [hss];simp
   rw [← hL] at hc ⊢
   repeat' first | refine κn ?_ | refine κk ?_ | refine κc (hc _) ?_ | refine κX ?_ | refine κt ?_ | refine κb ?_ ?_ | refine κg ?_ | refine κa ?_ | refine κf ?_ | intro hb
   all_goals first
    | (exfalso;exact hne (by simpa using hb))
    | (refine bool_no (.inl ?_);simp at hb;simp;omega)
    | (refine bool_no (.inr (.inl (by simpa using hb)));done)
    | skip
   have h24:s.length≤24:=by
    have:= ‹decide (24 < Int.ofNat s.length)=false›
    simp at this;omega
   have hlt:L=true:=by simpa using hb
   rw [show (decide (s.length≤24) && (L && s.all partB))=s.all partB by simp only [h24,hlt,decide_true,Bool.true_and]]
   refine Wp.while (fun m tm H=>∃ (i:Nat),∃ base,i+m=s.length∧(s.take i).all partB=true∧tm=ovr base [(0,.str s),(3,.int .i64 (i:Int))]∧H=⟨[],0,[],0⟩)
    (fun m tm H hI=> ?_) s.length _ _ ⟨0,_,by omega,by simp,ovr_mk ⟨rfl,rfl,trivial⟩,rfl⟩
   clear hc hj
   obtain ⟨i,base,hi,hall,rfl,rfl⟩:=hI
   by_cases hlt2:i < s.length
   · obtain ⟨d, hd⟩ : ∃ d, s[i]? = some d := ⟨s[i], by simp⟩
     have hj:=idxS hd
     have hc:=c187 (Int.ofNat d.toNat)
     have hc2:=c188 (Int.ofNat d.toNat)
     have hp:=partB_eq (d:=d)
     generalize ltrI (Int.ofNat d.toNat)=D1 at hc hp
     generalize digI (Int.ofNat d.toNat)=D2 at hc2 hp
     repeat' first | refine κn ?_ | refine κk ?_ | refine κc (hc _) ?_ | refine κc (hc2 _) ?_ | refine κX ?_ | refine κt ?_ | refine κb ?_ ?_ | refine κg ?_ | refine κa ?_ | refine κf ?_ | intro hb
     all_goals first
      | (refine LoopI.go (m - 1) (by omega) ⟨i+1,_,by omega,all_take hd (by rw [hp];simp at hb;simp [hb]) hall,ovr_mk ⟨rfl,int_eq (wrap_nat (n:=i+1) (by unfold maxLen at hs;omega)),trivial⟩,rfl⟩;done)
      | (exfalso;simp at hb;omega)
      | skip
     have hq:partB d=false:=by
      rw [hp]
      clear hc hc2 hj hp hd hall hi
      simp at *
      simp [*]
     rw [all_take_false hd hq]
   · have e : i = s.length := by omega
     subst e
     repeat' first | refine κn ?_ | refine κt ?_ | refine κb ?_ ?_ | refine κg ?_ | refine κa ?_ | refine κf ?_ | intro hb
     · exfalso;simp at hb
     · rw [← hall,List.take_length]
theorem c190 (k:Int) (nm:List UInt8) (s:Int) (b:Bool) (kids:List Tm) (hn:nm.length≤maxLen):∀ H,CallOk E0 Tryz.prog 190 [.agg [.int .i64 k,.str nm,.int .i64 s,slV b 4 (cellsL kids)]] H (.int .i64 (nodeF k nm s kids.length)) H:=by
 have hc:=c109 nm hn
 obtain ⟨N,hN⟩:∃ N,N=nameF nm:=⟨_,rfl⟩
 rw [← hN] at hc
 refine κw tOk fe190.ok rfl ?_
 repeat' first | refine κn ?_ | refine κk ?_ | refine κc (hc _) ?_ | refine κl ?_ | refine κt ?_ | refine κb ?_ ?_ | refine κg ?_ | refine κa ?_ | refine κf ?_ | intro hb
 all_goals (refine int_eq ?_;clear hc)
 all_goals first
  | exact (nodeF_1 (by simp only [cellsL_length,beq_iff_eq,bne_iff_ne,decide_eq_true_eq,decide_eq_false_iff_not,beq_eq_false_iff_ne,bne_eq_false_iff_eq] at *;omega)).symm
  | exact (nodeF_2 (by simp only [cellsL_length,beq_iff_eq,decide_eq_true_eq,decide_eq_false_iff_not,beq_eq_false_iff_ne,bne_eq_false_iff_eq] at *;omega) (by rw [← hN];simpa using hb)).symm
  | exact (nodeF_3 (by simp only [cellsL_length,beq_iff_eq,decide_eq_true_eq,decide_eq_false_iff_not,beq_eq_false_iff_ne,bne_eq_false_iff_eq] at *;omega) (by rw [← hN];simpa using ‹(!N)=false›) (by simp [cellsL_length] at hb;omega)).symm
  | exact (nodeF_0 (by simp only [cellsL_length,beq_iff_eq,decide_eq_false_iff_not,beq_eq_false_iff_ne,bne_eq_false_iff_eq] at *;omega) (by rw [← hN];simpa using ‹(!N)=false›) (by simp [cellsL_length] at hb;omega)).symm
theorem nodesL_drop {l:List Tm} {i:Nat} {t:Tm} {e:Int} (h:l[i]? = some t) (he:t.nodes=e):nodesL (l.drop i)=if e≠0 then e else nodesL (l.drop (i+1)):=by
 rw [drop_cons h];simp only [nodesL,he]
theorem c111 {t:Tm} (ht:t.Ok):∀ H,CallOk E0 Tryz.prog 111 [.agg t.cells] H (.int .i64 t.nodes) H:=by
 induction ht with
 | @mk k nm s b kids hk hs hn hl hok ih=>
 have hc:=c190 k nm s b kids hn
 simp only [Tm.nodes]
 generalize nodeF k nm s kids.length=e at hc
 refine κw tOk fe111.ok rfl ?_
 repeat' first | refine κn ?_ | refine κc (hc _) ?_ | refine κb ?_ ?_ | refine κg ?_ | refine κa ?_ | refine κf ?_ | intro hb
 · have h1 : e ≠ 0 := by simpa using hb
   rw [if_pos h1]
 rw [if_neg (by simpa using hb)]
 clear hc
 refine Wp.while (fun m tm H=>∃ (i:Nat),∃ base,i+m=kids.length∧nodesL kids=nodesL (kids.drop i)∧tm=ovr base [(1,.ptr 0 4 0 0),(4,.int .i64 (i:Int))]∧H=⟨[.cells 4 [[.int .i64 k,.str nm,.int .i64 s,slV b 4 (cellsL kids)]]],0,[],0⟩)
  (fun m tm H hI=> ?_) kids.length _ _ ⟨0,_,by omega,by simp,ovr_mk ⟨rfl,rfl,trivial⟩,rfl⟩
 obtain ⟨i,base,hi,hgo,rfl,rfl⟩:=hI
 rw [hgo]
 unfold maxLen at hl
 by_cases hlt:i < kids.length
 · obtain ⟨t', ht'⟩ : ∃ t', kids[i]? = some t' := ⟨kids[i], by simp⟩
   have hm:t'∈kids:=List.mem_of_getElem? ht'
   have hc:=ih t' hm
   obtain ⟨e1,he1⟩:∃ e1,t'.nodes=e1:=⟨_,rfl⟩
   rw [he1] at hc
   rw [nodesL_drop ht' he1]
   obtain ⟨k',nm',s',b',kids'⟩:=t'
   have hj:=cellsL_get ht'
   repeat' first | refine κn ?_ | refine κc (hc _) ?_ | refine κl ?_ | refine κx ?_ | refine κb ?_ ?_ | refine κg ?_ | refine κa ?_ | refine κf ?_ | intro hb
   · rw [if_pos (by simpa using hb)]
   · rw [if_neg (by simpa using hb)]
     exact LoopI.go (m - 1) (by omega) ⟨i+1,_,by omega,rfl,ovr_mk ⟨rfl,int_eq (wrap_nat (n:=i+1) (by omega)),trivial⟩,rfl⟩
   · exfalso;rw [cellsL_length] at hb;simp at hb;omega
 · have e : i = kids.length := by omega
   subst e
   repeat' first | refine κn ?_ | refine κl ?_ | refine κb ?_ ?_ | refine κg ?_ | refine κa ?_ | refine κf ?_ | intro hb
   · exfalso;rw [cellsL_length] at hb;simp at hb
   · simp [nodesL]
theorem c112 {t:Tm} (ht:t.Ok):t.size < 4611686018427387904→∀ H,CallOk E0 Tryz.prog 112 [.agg t.cells] H (.int .i64 (t.depth:Int)) H:=by
 induction ht with
 | @mk k nm s b kids hk hs hn hl hok ih=>
 intro hsz
 simp only [Tm.size] at hsz
 have hdl:=depthL_le kids
 simp only [Tm.depth]
 refine κw tOk fe112.ok rfl ?_
 repeat' first | refine κn ?_ | refine κg ?_ | refine κa ?_ | fail
 refine Wp.while (fun m tm H=>∃ (i:Nat),∃ base,i+m=kids.length∧tm=ovr base [(1,.ptr 0 4 0 0),(3,.int .i64 (depthL (kids.take i):Int)),(4,.int .i64 (i:Int))]∧H=⟨[.cells 4 [[.int .i64 k,.str nm,.int .i64 s,slV b 4 (cellsL kids)]]],0,[],0⟩)
  (fun m tm H hI=> ?_) kids.length _ _ ⟨0,_,by omega,ovr_mk ⟨rfl,rfl,rfl,trivial⟩,rfl⟩
 obtain ⟨i,base,hi,rfl,rfl⟩:=hI
 unfold maxLen at hl
 by_cases hlt:i < kids.length
 · obtain ⟨t', ht'⟩ : ∃ t', kids[i]? = some t' := ⟨kids[i], by simp⟩
   have hm:t'∈kids:=List.mem_of_getElem? ht'
   have hle:=size_le hm
   have hdt:=depthL_take ht'
   have hc:=ih t' hm (by omega)
   obtain ⟨k',nm',s',b',kids'⟩:=t'
   have hj:=cellsL_get ht'
   repeat' first | refine κn ?_ | refine κc (hc _) ?_ | refine κl ?_ | refine κx ?_ | refine κb ?_ ?_ | refine κg ?_ | refine κa ?_ | refine κf ?_ | intro hb
   · refine LoopI.go (m - 1) (by omega) ⟨i + 1, _, by omega, ovr_mk ⟨rfl, int_eq ?_, int_eq (wrap_nat (n := i + 1) (by omega)), trivial⟩, rfl⟩
     rw [hdt]
     split <;> omega
   · exfalso;rw [cellsL_length] at hb;simp at hb;omega
 · have e : i = kids.length := by omega
   subst e
   repeat' first | refine κn ?_ | refine κl ?_ | refine κb ?_ ?_ | refine κg ?_ | refine κa ?_ | refine κf ?_ | intro hb
   · exfalso;rw [cellsL_length] at hb;simp at hb
   · refine int_eq ?_
     rw [List.take_length]
     exact wrap_nat (n:=depthL kids+1) (by omega)
theorem c50 {t:Tm} (ht:t.Ok) (hsz:t.size < 4611686018427387904):∀ H,CallOk E0 Tryz.prog 50 [.agg t.cells] H (.int .i64 t.valid) H:=by
 have h1:=c111 ht
 have h2:=c91 ht hsz
 have h3:=c112 ht hsz
 unfold Tm.valid
 generalize t.nodes=e at h1
 generalize t.size=n at h2
 generalize t.depth=d at h3
 obtain ⟨k,nm,s,b,kids⟩:=t
 refine κw tOk fe50.ok rfl ?_
 repeat' first | refine κn ?_ | refine κk ?_ | (apply qCl;rfl;rfl;rfl;rfl;first | exact h1 _ | exact h2 _ | exact h3 _) | refine κt ?_ | refine κb ?_ ?_ | refine κg ?_ | refine κa ?_ | refine κf ?_ | intro hb
 all_goals (refine int_eq ?_;clear h1 h2 h3;simp only [bne_iff_ne,bne_eq_false_iff_eq,decide_eq_true_eq,decide_eq_false_iff_not] at *;(repeat' split) <;> omega)
end Go.Vm.Seat
