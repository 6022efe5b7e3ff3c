/-
  The key of a name in a log: the program's text and the reference's say the same. The key of a name in a log, by the reference.
-/
import Derived.Test.YtajpkolimokcdaaGreatDoorEg
set_option maxHeartbeats 64000000
set_option maxRecDepth 100000
namespace Go.Vm.Seat
open Go.Proofs
theorem lookR_end {name : Bs} {l : List Tm} {j : Nat} {t : Tm} (h : l[j]? = some t) : lookR name (l.take (j + 1)).reverse = if (readP t).2 = 0 ∧ (readP t).1.sub = name then some ((readP t).1.key, (readP t).1.till) else lookR name (l.take j).reverse := by
 have e : l.take (j + 1) = l.take j ++ [t] := by
  rw [List.take_add_one, h]
  rfl
 rw [e, List.reverse_append]
 rfl
theorem curC_at {l : List Tm} {name : Bs} (h1 : ¬ 32 < l.length) (h2 : dottedB name = true) : curC l name = match lookR name l.reverse with
  | none => (Tm.zero, 4)
  | some (k, e) => if e = 0 then (Tm.zero, 4) else (k.cl, 0) := by
 unfold curC curP
 rw [if_neg h1, if_neg (by rw [h2]; simp)]
 cases lookR name l.reverse with
 | none => rfl
 | some p =>
   obtain ⟨k, e⟩ := p
   by_cases he : e = 0
   · simp only [if_pos he]; rfl
   · simp only [if_neg he]
theorem c34 {l : List Tm} (hok : ∀ t, t ∈ l → t.Ok) (hs : ∀ t, t ∈ l → t.size ≤ 900) (hll : l.length ≤ 40) {name : Bs} (hn : name.length ≤ 100) (b : Bool) : ∀ H, CallOk E0 Tryz.prog 34 [slV b 4 (cellsL l), .str name] H (.tup [.agg (curC l name).1.cells, .int .i64 (curC l name).2]) H := by
 have hw := within_same (s := name) (by omega)
 have hfr := frz3_te 0 hNil (curC l name).1 (curC l name).2
 refine callOk_wp (own := fun _ => false) tOk fe34.ok (by simp only [frzGL, frzG_slV]; rfl) hfr ?_
 clear hfr
 refine Wp.seq ?_
 have b0 : aBin E0 .gtr 3 (.int .i64 ((cellsL l).length : Int)) (.int .i64 32) = some (.bool (decide (32 < l.length))) := by
  show some (PV.bool (decide ((32 : Int) < ((cellsL l).length : Int)))) = _
  rw [cellsL_length]
  simp
  omega
 by_cases h1 : 32 < l.length
 · rw [decide_eq_true h1] at b0
   have hr : curC l name = (Tm.zero, 3) := by unfold curC curP; rw [if_pos h1]; rfl
   rw [hr, zero_cells]
   repeat' first | refine κn ?_ | refine κi ?_ | refine κl ?_ | refine κg ?_ | refine κa ?_ | refine κf ?_ | fail
   all_goals rfl
 · rw [decide_eq_false h1] at b0
   cases hd : dottedB name with
   | false =>
     have hr : curC l name = (Tm.zero, 2) := by unfold curC curP; rw [if_neg h1, if_pos hd]; rfl
     rw [hr, zero_cells]
     rw [hd] at hw
     repeat' first | refine κn ?_ | refine κc (hw _) ?_ | refine κi ?_ | refine κl ?_ | refine κt ?_ | refine κg ?_ | refine κa ?_ | refine κf ?_ | fail
     all_goals rfl
   | true =>
     rw [hd] at hw
     have hr := curC_at (l := l) (name := name) h1 hd
     have b1 : aBin E0 .sub 3 (.int .i64 ((cellsL l).length : Int)) (.int .i64 1) = some (.int .i64 ((l.length : Int) - 1)) := by
      show some (PV.int .i64 (IntKind.i64.wrap (((cellsL l).length : Int) - 1))) = _
      rw [cellsL_length, show IntKind.i64.wrap ((l.length : Int) - 1) = (l.length : Int) - 1 from IntWalk.i64_in _ (by omega)]
     repeat' first | refine κn ?_ | refine κc (hw _) ?_ | refine κi ?_ | refine κl ?_ | refine κt ?_ | refine κg ?_ | refine κa ?_ | fail
     clear b0 b1
     refine Wp.while (fun m tm H => ∃ base : TM, m ≤ l.length ∧ lookR name l.reverse = lookR name (l.take m).reverse ∧ tm = ovr base [(0, slV b 4 (cellsL l)), (1, .str name), (4, .ptr 0 4 0 0), (6, .int .i64 ((m : Int) - 1))] ∧ H = ⟨[.cells 4 [[.int .i64 0, .str [], .int .i64 0, .nils]]], 0, [], 0⟩)
      (fun m tm H hI => Wp.drop ?_) l.length _ _ ⟨_, Nat.le_refl _, by rw [List.take_length], ovr_mk ⟨rfl, rfl, rfl, rfl, trivial⟩, rfl⟩
     obtain ⟨base, hm, hgo, rfl, rfl⟩ := hI
     cases m with
     | zero =>
       have b1 : aBin E0 .geq 3 (.int .i64 (((0 : Nat) : Int) - 1)) (.int .i64 0) = some (.bool false) := rfl
       rw [hgo] at hr
       rw [hr]
       show Wp _ _ _ _ _ _ _ _
       rw [List.take_zero, List.reverse_nil, lookR]
       simp only [zero_cells]
       repeat' first | refine κn ?_ | refine κi ?_ | refine κg ?_ | refine κa ?_ | refine κf ?_ | fail
       all_goals rfl
     | succ j =>
       obtain ⟨t, ht⟩ : ∃ t, l[j]? = some t := ⟨l[j], by simp⟩
       have e1 : (((j + 1 : Nat) : Int) - 1) = (j : Int) := by omega
       rw [e1]
       have hj : (cellsL l)[j]? = some t.cells := by
        obtain ⟨k, nm, s, tb, kids⟩ := t
        exact cellsL_get ht
       have hmem := List.mem_of_getElem? ht
       have hc := c16 (hok t hmem) (by have := hs t hmem; omega)
       have b1 : aBin E0 .geq 3 (.int .i64 (j : Int)) (.int .i64 0) = some (.bool true) := by
        show some (PV.bool (decide ((0 : Int) ≤ (j : Int)))) = _
        simp
       have b2 : aBin E0 .sub 3 (.int .i64 (j : Int)) (.int .i64 1) = some (.int .i64 ((j : Int) - 1)) := by
        show some (PV.int .i64 (IntKind.i64.wrap ((j : Int) - 1))) = _
        rw [show IntKind.i64.wrap ((j : Int) - 1) = (j : Int) - 1 from IntWalk.i64_in _ (by omega)]
       rw [lookR_end ht] at hgo
       have hkey : (readP t).1.key.Ok ∧ (readP t).1.key.size ≤ 900 := by
        rcases readP_case t with e | ⟨_, _, e, _⟩
        · rw [e]; exact ⟨Tm.ok_zero, by decide⟩
        · exact ⟨(hok t hmem).part e, by have := e.1; have := hs t hmem; omega⟩
       have hcp := c71 hkey.1 (by omega)
       generalize (readP t).2 = e at hc hgo
       generalize (readP t).1 = X at hc hgo hcp
       clear hkey hmem ht
       obtain ⟨k, nm, s, tb, kids⟩ := t
       obtain ⟨sub, ⟨k4, m4, s4, t4, q4⟩, iss, pn, per, en, exc, ser, fr, till⟩ := X
       simp only [Cred.cells, Tm.cells, List.cons_append, List.nil_append] at hc hj hcp
       have hco : [slV t4 4 (cellsL q4), slV pn 1 (strC per), slV en 1 (strC exc)].all cellOk = true := by simp only [List.all_cons, List.all_nil, cellOk_slV, Bool.and_self]
       by_cases he : e = 0
       · subst he
         have b3 : aBin E0 .neq 33 (.int .i64 0) (.int .i64 0) = some (.bool false) := rfl
         by_cases hsn : sub = name
         · rw [if_pos ⟨rfl, hsn⟩] at hgo
           rw [hgo] at hr
           subst hsn
           have b4 : aBin E0 .neq 9 (.str sub) (.str sub) = some (.bool false) := by
            show some (PV.bool (!(sub == sub))) = _
            simp
           by_cases htl : till = 0
           · subst htl
             have b5 : aBin E0 .eql 3 (.int .i64 0) (.int .i64 0) = some (.bool true) := rfl
             have hr : curC l sub = (Tm.zero, 4) := by rw [hr]; simp only [if_true]
             rw [hr, zero_cells]
             repeat' first | refine κn ?_ | refine κc (hc _) ?_ | refine κi ?_ | refine κx ?_ | refine κt ?_ | refine κg ?_ | refine κa ?_ | refine κf ?_ | fail
             all_goals rfl
           · have b5 : aBin E0 .eql 3 (.int .i64 till) (.int .i64 0) = some (.bool false) := by
               show some (PV.bool (till == 0)) = _
               simp [htl]
             have hr : curC l sub = ((Tm.mk k4 m4 s4 t4 q4).cl, 0) := by rw [hr]; simp only [if_neg htl]
             rw [hr]
             generalize (Tm.mk k4 m4 s4 t4 q4).cl = u at hcp ⊢
             obtain ⟨k', nm', s', b', kids'⟩ := u
             simp only [Tm.cells] at hcp ⊢
             repeat' first | refine κn ?_ | refine κc (hc _) ?_ | refine κc (hcp _) ?_ | refine κi ?_ | refine κx ?_ | refine κt ?_ | refine κg ?_ | refine κa ?_ | refine κf ?_ | fail
             all_goals exact frz3_te _ _ (.mk k' nm' s' b' kids') 0
         · rw [if_neg (fun h => hsn h.2)] at hgo
           have b4 : aBin E0 .neq 9 (.str sub) (.str name) = some (.bool true) := by
            show some (PV.bool (!(sub == name))) = _
            simp [hsn]
           repeat' first | refine κn ?_ | refine κc (hc _) ?_ | refine κi ?_ | refine κx ?_ | refine κt ?_ | refine κg ?_ | refine κa ?_ | fail
           exact DropQ.go [(0, slV b 4 (cellsL l)), (1, .str name), (4, .ptr 0 4 0 0), (6, .int .i64 ((j : Int) - 1))] ⟨rfl, rfl, rfl, rfl, trivial⟩ (by simp [under_slV, under]) rfl (by simp [boxU, underL, under]) (LoopI.go j (by omega) ⟨_, by omega, hgo, rfl, rfl⟩)
       · rw [if_neg (fun h => he h.1)] at hgo
         have b3 : aBin E0 .neq 33 (.int .i64 e) (.int .i64 0) = some (.bool true) := by
          show some (PV.bool (e != 0)) = _
          simp [he]
         repeat' first | refine κn ?_ | refine κk ?_ | refine κc (hc _) ?_ | refine κi ?_ | refine κx ?_ | refine κt ?_ | refine κg ?_ | refine κa ?_ | fail
         exact DropQ.go [(0, slV b 4 (cellsL l)), (1, .str name), (4, .ptr 0 4 0 0), (6, .int .i64 ((j : Int) - 1))] ⟨rfl, rfl, rfl, rfl, trivial⟩ (by simp [under_slV, under]) rfl (by simp [boxU, underL, under]) (LoopI.go j (by omega) ⟨_, by omega, hgo, rfl, rfl⟩)
end Go.Vm.Seat
namespace Go.Vm.Seat
open Go.Proofs
def lookF (name : Bs) : List Tm → Tm × Nat × Bool
 | [] => (.zero, 0, false)
 | t :: r => if (readP t).2 = 0 ∧ (readP t).1.sub = name then ((readP t).1.key, r.length, decide ((readP t).1.till ≠ 0)) else lookF name r
theorem lookF_end {name : Bs} {l : List Tm} {j : Nat} {t : Tm} (h : l[j]? = some t) : lookF name (l.take (j + 1)).reverse = if (readP t).2 = 0 ∧ (readP t).1.sub = name then ((readP t).1.key, j, decide ((readP t).1.till ≠ 0)) else lookF name (l.take j).reverse := by
 have e : l.take (j + 1) = l.take j ++ [t] := by
  rw [List.take_add_one, h]
  rfl
 have hj : j < l.length := (List.getElem?_eq_some_iff.1 h).1
 rw [e, List.reverse_append, List.reverse_singleton, List.singleton_append]
 simp only [lookF, List.length_reverse, List.length_take]
 rw [Nat.min_eq_left (by omega)]
theorem look_FR (name : Bs) : ∀ l : List Tm, (lookR name l = none ∧ (lookF name l).2.2 = false) ∨ ∃ k e, lookR name l = some (k, e) ∧ (lookF name l).1 = k ∧ (lookF name l).2.2 = decide (e ≠ 0)
 | [] => .inl ⟨rfl, rfl⟩
 | t :: r => by
   simp only [lookR, lookF]
   split
   · exact .inr ⟨_, _, rfl, rfl, rfl⟩
   · exact look_FR name r
theorem frz3_tib (m : Nat) (H : Heap) (t : Tm) (e : Int) (b : Bool) : frz3 m H (.tup [.agg t.cells, .int .i64 e, .bool b]) = some (.tup [.agg t.cells, .int .i64 e, .bool b]) := by
 have h : frz2 m H (.agg t.cells) = some (.agg t.cells) := frz3_cells m H t
 show (match frz2L m H [.agg t.cells, .int .i64 e, .bool b] with | some vs' => some (PV.tup vs') | none => none) = _
 simp only [frz2L, h]
 rfl
theorem c97 {l : List Tm} (hok : ∀ t, t ∈ l → t.Ok) (hs : ∀ t, t ∈ l → t.size ≤ 900) (hll : l.length ≤ 40) {name : Bs} (b : Bool) : ∀ H, CallOk E0 Tryz.prog 97 [slV b 4 (cellsL l), .str name] H (.tup [.agg (lookF name l.reverse).1.cells, .int .i64 ((lookF name l.reverse).2.1 : Int), .bool (lookF name l.reverse).2.2]) H := by
 have hfr := frz3_tib 0 hNil (lookF name l.reverse).1 (lookF name l.reverse).2.1 (lookF name l.reverse).2.2
 refine callOk_wp (own := (fun d => [29999, 40272, 40296].any (Nat.beq d))) tOk fe97.ok (by simp only [frzGL, frzG_slV]; rfl) hfr ?_
 clear hfr
 refine Wp.seq ?_
 have b1 : aBin E0 .sub 3 (.int .i64 ((cellsL l).length : Int)) (.int .i64 1) = some (.int .i64 ((l.length : Int) - 1)) := by
  show some (PV.int .i64 (IntKind.i64.wrap (((cellsL l).length : Int) - 1))) = _
  rw [cellsL_length, show IntKind.i64.wrap ((l.length : Int) - 1) = (l.length : Int) - 1 from IntWalk.i64_in _ (by omega)]
 repeat' first | refine κn ?_ | refine κi ?_ | refine κl ?_ | refine κt ?_ | refine κg ?_ | refine κa ?_ | fail
 clear b1
 refine Wp.while (fun m tm H => ∃ base : TM, m ≤ l.length ∧ lookF name l.reverse = lookF name (l.take m).reverse ∧ tm = ovr base [(0, slV b 4 (cellsL l)), (1, .str name), (4, .ptr 0 4 0 0), (7, .int .i64 ((m : Int) - 1))] ∧ H = ⟨[.cells 4 [[.int .i64 0, .str [], .int .i64 0, .nils]]], 0, [], 0⟩)
  (fun m tm H hI => Wp.drop ?_) l.length _ _ ⟨_, Nat.le_refl _, by rw [List.take_length], ovr_mk ⟨rfl, rfl, rfl, rfl, trivial⟩, rfl⟩
 obtain ⟨base, hm, hgo, rfl, rfl⟩ := hI
 cases m with
 | zero =>
   have b1 : aBin E0 .geq 3 (.int .i64 (((0 : Nat) : Int) - 1)) (.int .i64 0) = some (.bool false) := rfl
   rw [hgo]
   rw [List.take_zero, List.reverse_nil, lookF]
   simp only [zero_cells]
   repeat' first | refine κn ?_ | refine κi ?_ | refine κt ?_ | refine κg ?_ | refine κa ?_ | refine κf ?_ | fail
   all_goals rfl
 | succ j =>
   obtain ⟨t, ht⟩ : ∃ t, l[j]? = some t := ⟨l[j], by simp⟩
   have e1 : (((j + 1 : Nat) : Int) - 1) = (j : Int) := by omega
   rw [e1]
   have hj : (cellsL l)[j]? = some t.cells := by
    obtain ⟨k, nm, s, tb, kids⟩ := t
    exact cellsL_get ht
   have hmem := List.mem_of_getElem? ht
   have hc := c18 (hok t hmem) (by have := hs t hmem; omega)
   have b1 : aBin E0 .geq 3 (.int .i64 (j : Int)) (.int .i64 0) = some (.bool true) := by
    show some (PV.bool (decide ((0 : Int) ≤ (j : Int)))) = _
    simp
   have b2 : aBin E0 .sub 3 (.int .i64 (j : Int)) (.int .i64 1) = some (.int .i64 ((j : Int) - 1)) := by
    show some (PV.int .i64 (IntKind.i64.wrap ((j : Int) - 1))) = _
    rw [show IntKind.i64.wrap ((j : Int) - 1) = (j : Int) - 1 from IntWalk.i64_in _ (by omega)]
   rw [lookF_end ht] at hgo
   generalize (readP t).2 = e at hc hgo
   generalize (readP t).1 = X at hc hgo
   clear hmem ht
   obtain ⟨k, nm, s, tb, kids⟩ := t
   obtain ⟨sub, ⟨k4, m4, s4, t4, q4⟩, iss, pn, per, en, exc, ser, fr, till⟩ := X
   simp only [Cred.cells, Tm.cells, List.cons_append, List.nil_append] at hc hj
   have hco : [slV t4 4 (cellsL q4), slV pn 1 (strC per), slV en 1 (strC exc)].all cellOk = true := by simp only [List.all_cons, List.all_nil, cellOk_slV, Bool.and_self]
   by_cases he : e = 0
   · subst he
     have b3 : aBin E0 .eql 33 (.int .i64 0) (.int .i64 0) = some (.bool true) := rfl
     by_cases hsn : sub = name
     · rw [if_pos ⟨rfl, hsn⟩] at hgo
       rw [hgo]
       subst hsn
       have b4 : aBin E0 .eql 9 (.str sub) (.str sub) = some (.bool true) := by
        show some (PV.bool (sub == sub)) = _
        simp
       have b5 : aBin E0 .neq 3 (.int .i64 till) (.int .i64 0) = some (.bool (decide (till ≠ 0))) := by
        show some (PV.bool (till != 0)) = _
        congr 2
        rw [Bool.eq_iff_iff]
        simp
       simp only [Tm.cells]
       repeat' first | refine κn ?_ | refine κc (hc _) ?_ | refine κi ?_ | refine κx ?_ | refine κt ?_ | refine κg ?_ | refine κD ?_ | refine κh ?_ | refine κa ?_ | (apply Wp.drawS tOk follows; kernel_rfl; rfl) | refine κf ?_ | fail
       all_goals exact frz3_tib _ _ (.mk k4 m4 s4 t4 q4) _ _
     · rw [if_neg (fun h => hsn h.2)] at hgo
       have b4 : aBin E0 .eql 9 (.str sub) (.str name) = some (.bool false) := by
        show some (PV.bool (sub == name)) = _
        simp [hsn]
       repeat' first | refine κn ?_ | refine κc (hc _) ?_ | refine κi ?_ | refine κx ?_ | refine κt ?_ | refine κg ?_ | refine κa ?_ | fail
       exact DropQ.go [(0, slV b 4 (cellsL l)), (1, .str name), (4, .ptr 0 4 0 0), (7, .int .i64 ((j : Int) - 1))] ⟨rfl, rfl, rfl, rfl, trivial⟩ (by simp [under_slV, under]) rfl (by simp [boxU, underL, under]) (LoopI.go j (by omega) ⟨_, by omega, hgo, rfl, rfl⟩)
   · rw [if_neg (fun h => he h.1)] at hgo
     have b3 : aBin E0 .eql 33 (.int .i64 e) (.int .i64 0) = some (.bool false) := by
      show some (PV.bool (e == 0)) = _
      simp [he]
     repeat' first | refine κn ?_ | refine κk ?_ | refine κc (hc _) ?_ | refine κi ?_ | refine κx ?_ | refine κt ?_ | refine κg ?_ | refine κa ?_ | fail
     exact DropQ.go [(0, slV b 4 (cellsL l)), (1, .str name), (4, .ptr 0 4 0 0), (7, .int .i64 ((j : Int) - 1))] ⟨rfl, rfl, rfl, rfl, trivial⟩ (by simp [under_slV, under]) rfl (by simp [boxU, underL, under]) (LoopI.go j (by omega) ⟨_, by omega, hgo, rfl, rfl⟩)
end Go.Vm.Seat
