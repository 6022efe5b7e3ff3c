/-
  The key of a name in a log, by the reference.
-/
import Derived.Test.YtajpkolimokcdaaGreatDoorEb
namespace Go.Vm.Seat
open Go.Proofs
set_option maxRecDepth 100000
def lookF (name : Bs) : List Tm → Tm × Nat × Bool
 | [] => (.zero, 0, false)
 | t :: r => if (readP t).2 = 0 ∧ (readP t).1.sub = name then ((readP t).1.key, r.length, decide ((readP t).1.till ≠ 0)) else lookF name r
theorem lookF_end {name : Bs} {l : List Tm} {j : Nat} {t : Tm} (h : l[j]? = some t) : lookF name (l.take (j + 1)).reverse = if (readP t).2 = 0 ∧ (readP t).1.sub = name then ((readP t).1.key, j, decide ((readP t).1.till ≠ 0)) else lookF name (l.take j).reverse := by
 have e : l.take (j + 1) = l.take j ++ [t] := by
  rw [List.take_add_one, h]
  rfl
 have hj : j < l.length := (List.getElem?_eq_some_iff.1 h).1
 rw [e, List.reverse_append, List.reverse_singleton, List.singleton_append]
 simp only [lookF, List.length_reverse, List.length_take]
 rw [Nat.min_eq_left (by omega)]
theorem look_FR (name : Bs) : ∀ l : List Tm, (lookR name l = none ∧ (lookF name l).2.2 = false) ∨ ∃ k e, lookR name l = some (k, e) ∧ (lookF name l).1 = k ∧ (lookF name l).2.2 = decide (e ≠ 0)
 | [] => .inl ⟨rfl, rfl⟩
 | t :: r => by
   simp only [lookR, lookF]
   split
   · exact .inr ⟨_, _, rfl, rfl, rfl⟩
   · exact look_FR name r
theorem frz3_tib (m : Nat) (H : Heap) (t : Tm) (e : Int) (b : Bool) : frz3 m H (.tup [.agg t.cells, .int .i64 e, .bool b]) = some (.tup [.agg t.cells, .int .i64 e, .bool b]) := by
 have h : frz2 m H (.agg t.cells) = some (.agg t.cells) := frz3_cells m H t
 show (match frz2L m H [.agg t.cells, .int .i64 e, .bool b] with | some vs' => some (PV.tup vs') | none => none) = _
 simp only [frz2L, h]
 rfl
set_option maxHeartbeats 8000000 in
theorem c97 {l : List Tm} (hok : ∀ t, t ∈ l → t.Ok) (hs : ∀ t, t ∈ l → t.size ≤ 900) (hll : l.length ≤ 40) {name : Bs} (b : Bool) : ∀ H, CallOk E0 Tryz.prog 97 [slV b 4 (cellsL l), .str name] H (.tup [.agg (lookF name l.reverse).1.cells, .int .i64 ((lookF name l.reverse).2.1 : Int), .bool (lookF name l.reverse).2.2]) H := by
 have hfr := frz3_tib 0 hNil (lookF name l.reverse).1 (lookF name l.reverse).2.1 (lookF name l.reverse).2.2
 refine callOk_wp (own := (fun d => [29999, 40272, 40296].any (Nat.beq d))) tOk fe97.ok (by simp only [frzGL, frzG_slV]; rfl) hfr ?_
 clear hfr
 refine Wp.seq ?_
 have b1 : aBin E0 .sub 3 (.int .i64 ((cellsL l).length : Int)) (.int .i64 1) = some (.int .i64 ((l.length : Int) - 1)) := by
  show some (PV.int .i64 (IntKind.i64.wrap (((cellsL l).length : Int) - 1))) = _
  rw [cellsL_length, show IntKind.i64.wrap ((l.length : Int) - 1) = (l.length : Int) - 1 from IntWalk.i64_in _ (by omega)]
 repeat' first | apply RegQ.nil | (apply qBi; rfl; rfl; rfl; rfl; assumption; exact IsV.any _) | (apply qLn; rfl; rfl; rfl; rfl; rfl) | (apply qF (ty := 4); rfl; rfl; rfl) | (apply g0; rfl; rfl; rfl; exact IsV.n) | (apply g1; rfl; rfl; rfl; exact IsV.n; exact IsH.mkN) | apply Wp.seq | apply SeqQ.go | apply Wp.region | apply Wp.block
 clear b1
 refine Wp.while (fun m tm H => ∃ base : TM, m ≤ l.length ∧ lookF name l.reverse = lookF name (l.take m).reverse ∧ tm = ovr base [(0, slV b 4 (cellsL l)), (1, .str name), (4, .ptr 0 4 0 0), (7, .int .i64 ((m : Int) - 1))] ∧ H = ⟨[.cells 4 [[.int .i64 0, .str [], .int .i64 0, .nils]]], 0, [], 0⟩)
  (fun m tm H hI => Wp.drop ?_) l.length _ _ ⟨_, Nat.le_refl _, by rw [List.take_length], ovr_mk ⟨rfl, rfl, rfl, rfl, trivial⟩, rfl⟩
 obtain ⟨base, hm, hgo, rfl, rfl⟩ := hI
 cases m with
 | zero =>
   have b1 : aBin E0 .geq 3 (.int .i64 (((0 : Nat) : Int) - 1)) (.int .i64 0) = some (.bool false) := rfl
   rw [hgo]
   rw [List.take_zero, List.reverse_nil, lookF]
   simp only [zero_cells]
   repeat' first | apply RegQ.nil | (apply qBi; rfl; rfl; rfl; rfl; assumption; exact IsV.any _) | (apply qF (ty := 4); rfl; rfl; rfl) | (apply g0; rfl; rfl; rfl; exact IsV.n) | (apply qSt; rfl; rfl; rfl; exact IsL.n; (first | rfl | assumption); (first | rfl | assumption | (simp only [List.all_cons, List.all_nil, cellOk_slV, Bool.and_true]; rfl)); (first | rfl | assumption); exact IsH.mkN) | apply Wp.seq | apply SeqQ.go | apply Wp.region | (apply Wp.condF; rfl) | apply Wp.ret | apply Wp.exit | apply SeqQ.exit | (apply BlockQ.hit; rfl) | apply LoopI.exit | apply DropQ.exit | (apply rFin; rfl; exact IsL.n)
   all_goals rfl
 | succ j =>
   obtain ⟨t, ht⟩ : ∃ t, l[j]? = some t := ⟨l[j], by simp⟩
   have e1 : (((j + 1 : Nat) : Int) - 1) = (j : Int) := by omega
   rw [e1]
   have hj : (cellsL l)[j]? = some t.cells := by
    obtain ⟨k, nm, s, tb, kids⟩ := t
    exact cellsL_get ht
   have hmem := List.mem_of_getElem? ht
   have hc := c18 (hok t hmem) (by have := hs t hmem; omega)
   have b1 : aBin E0 .geq 3 (.int .i64 (j : Int)) (.int .i64 0) = some (.bool true) := by
    show some (PV.bool (decide ((0 : Int) ≤ (j : Int)))) = _
    simp
   have b2 : aBin E0 .sub 3 (.int .i64 (j : Int)) (.int .i64 1) = some (.int .i64 ((j : Int) - 1)) := by
    show some (PV.int .i64 (IntKind.i64.wrap ((j : Int) - 1))) = _
    rw [show IntKind.i64.wrap ((j : Int) - 1) = (j : Int) - 1 from IntWalk.i64_in _ (by omega)]
   rw [lookF_end ht] at hgo
   generalize (readP t).2 = e at hc hgo
   generalize (readP t).1 = X at hc hgo
   clear hmem ht
   obtain ⟨k, nm, s, tb, kids⟩ := t
   obtain ⟨sub, ⟨k4, m4, s4, t4, q4⟩, iss, pn, per, en, exc, ser, fr, till⟩ := X
   simp only [Cred.cells, Tm.cells, List.cons_append, List.nil_append] at hc hj
   have hco : [slV t4 4 (cellsL q4), slV pn 1 (strC per), slV en 1 (strC exc)].all cellOk = true := by simp only [List.all_cons, List.all_nil, cellOk_slV, Bool.and_self]
   by_cases he : e = 0
   · subst he
     have b3 : aBin E0 .eql 33 (.int .i64 0) (.int .i64 0) = some (.bool true) := rfl
     by_cases hsn : sub = name
     · rw [if_pos ⟨rfl, hsn⟩] at hgo
       rw [hgo]
       subst hsn
       have b4 : aBin E0 .eql 9 (.str sub) (.str sub) = some (.bool true) := by
        show some (PV.bool (sub == sub)) = _
        simp
       have b5 : aBin E0 .neq 3 (.int .i64 till) (.int .i64 0) = some (.bool (decide (till ≠ 0))) := by
        show some (PV.bool (till != 0)) = _
        congr 2
        rw [Bool.eq_iff_iff]
        simp
       simp only [Tm.cells]
       repeat' first | apply RegQ.nil | (apply qCl; rfl; rfl; rfl; rfl; exact hc _) | (apply qBi; rfl; rfl; rfl; rfl; assumption; exact IsV.any _) | (apply qIx; rfl; rfl; rfl; rfl; rfl; rfl; rfl; rfl; assumption) | (apply qT (ty := 4); rfl; rfl; rfl) | (apply g0; rfl; rfl; rfl; exact IsV.n) | (apply g1; rfl; rfl; rfl; exact IsV.n; exact IsH.mkN) | (apply qSt; rfl; rfl; rfl; exact IsL.n; (first | rfl | assumption); (first | rfl | assumption | (simp only [List.all_cons, List.all_nil, cellOk_slV, Bool.and_true]; rfl)); (first | rfl | assumption); exact IsH.mkN) | apply DrwQ.nil | (apply dBi; rfl; rfl; rfl; rfl; assumption; exact IsV.any _; rfl) | (apply dSt; rfl; rfl; rfl; rfl; exact IsL.n; rfl; (first | rfl | assumption | (simp only [List.all_cons, List.all_nil, cellOk_slV, Bool.and_true]; rfl)); (first | rfl | assumption); exact IsH.mkN; (first | rfl | (simp [nth_eq]; done)); (first | rfl | (simp; done)); rfl) | (apply h0; rfl; rfl; rfl; exact IsV.n; rfl) | apply Wp.seq | apply SeqQ.go | apply Wp.region | (apply Wp.drawS tOk follows; kernel_rfl; rfl) | (apply Wp.condT; rfl) | apply Wp.skip | apply Wp.ret | apply Wp.block | apply BlockQ.ret | apply SeqQ.ret | apply LoopI.ret | apply DropQ.ret | (apply rFin; rfl; exact IsL.n)
       all_goals exact frz3_tib _ _ (.mk k4 m4 s4 t4 q4) _ _
     · rw [if_neg (fun h => hsn h.2)] at hgo
       have b4 : aBin E0 .eql 9 (.str sub) (.str name) = some (.bool false) := by
        show some (PV.bool (sub == name)) = _
        simp [hsn]
       repeat' first | apply RegQ.nil | (apply qCl; rfl; rfl; rfl; rfl; exact hc _) | (apply qBi; rfl; rfl; rfl; rfl; assumption; exact IsV.any _) | (apply qIx; rfl; rfl; rfl; rfl; rfl; rfl; rfl; rfl; assumption) | (apply qT (ty := 4); rfl; rfl; rfl) | (apply qF (ty := 4); rfl; rfl; rfl) | (apply g0; rfl; rfl; rfl; exact IsV.n) | (apply g1; rfl; rfl; rfl; exact IsV.n; exact IsH.mkN) | (apply qSt; rfl; rfl; rfl; exact IsL.n; (first | rfl | assumption); (first | rfl | assumption | (simp only [List.all_cons, List.all_nil, cellOk_slV, Bool.and_true]; rfl)); (first | rfl | assumption); exact IsH.mkN) | apply Wp.seq | apply SeqQ.go | apply Wp.region | (apply Wp.condT; rfl) | (apply Wp.condF; rfl) | apply Wp.skip | apply Wp.block | apply BlockQ.go
       exact DropQ.go [(0, slV b 4 (cellsL l)), (1, .str name), (4, .ptr 0 4 0 0), (7, .int .i64 ((j : Int) - 1))] ⟨rfl, rfl, rfl, rfl, trivial⟩ (by simp [under_slV, under]) rfl (by simp [boxU, underL, under]) (LoopI.go j (by omega) ⟨_, by omega, hgo, rfl, rfl⟩)
   · rw [if_neg (fun h => he h.1)] at hgo
     have b3 : aBin E0 .eql 33 (.int .i64 e) (.int .i64 0) = some (.bool false) := by
      show some (PV.bool (e == 0)) = _
      simp [he]
     repeat' first | apply RegQ.nil | (apply qK; rfl; rfl) | (apply qCl; rfl; rfl; rfl; rfl; exact hc _) | (apply qBi; rfl; rfl; rfl; rfl; assumption; exact IsV.any _) | (apply qIx; rfl; rfl; rfl; rfl; rfl; rfl; rfl; rfl; assumption) | (apply qF (ty := 4); rfl; rfl; rfl) | (apply g0; rfl; rfl; rfl; exact IsV.n) | (apply g1; rfl; rfl; rfl; exact IsV.n; exact IsH.mkN) | (apply qSt; rfl; rfl; rfl; exact IsL.n; (first | rfl | assumption); (first | rfl | assumption | (simp only [List.all_cons, List.all_nil, cellOk_slV, Bool.and_true]; rfl)); (first | rfl | assumption); exact IsH.mkN) | apply Wp.seq | apply SeqQ.go | apply Wp.region | (apply Wp.condT; rfl) | (apply Wp.condF; rfl) | apply Wp.skip | apply Wp.block | apply BlockQ.go
     exact DropQ.go [(0, slV b 4 (cellsL l)), (1, .str name), (4, .ptr 0 4 0 0), (7, .int .i64 ((j : Int) - 1))] ⟨rfl, rfl, rfl, rfl, trivial⟩ (by simp [under_slV, under]) rfl (by simp [boxU, underL, under]) (LoopI.go j (by omega) ⟨_, by omega, hgo, rfl, rfl⟩)
end Go.Vm.Seat
