/-
  Within and Permits, as the program computes them.
-/
import Derived.Test.YthkpihmifojnoaaGreatDoorCrLab
import Derived.Test.YthkpihmifojnoaaGreatDoorVe
namespace Go.Vm.Seat
open Go.Proofs
set_option maxRecDepth 100000

def sufB (s t : Bs) : Bool := decide (t.length ≤ s.length) && (s.drop (s.length - t.length) == t)
theorem sufB_iff {s t : Bs} : sufB s (46 :: t) = true ↔ ∃ x, s = x ++ 46 :: t := by
  simp only [sufB, Bool.and_eq_true, decide_eq_true_eq, beq_iff_eq]
  constructor
  · rintro ⟨h1, h2⟩
    exact ⟨s.take (s.length - (46 :: t).length), by
      conv => lhs; rw [← List.take_append_drop (s.length - (46 :: t).length) s]
      rw [h2]⟩
  · rintro ⟨x, rfl⟩
    exact ⟨by simp, by simp⟩
theorem within_eq (s t : Bs) : withinB s t = (dottedB s && (dottedB t && (s == t || sufB s (46 :: t)))) := by
  have : endsL (splitD s) (splitD t) = (s == t || sufB s (46 :: t)) := by
    rw [Bool.eq_iff_iff, ends_iff, Bool.or_eq_true, sufB_iff]
    simp
  simp only [withinB, this]

set_option maxHeartbeats 4000000 in
theorem c112 {s t : Bs} (hs : s.length ≤ 2000) (ht : t.length ≤ 2000) : ∀ H, CallOk E0 Tryz.prog 112 [.str s, .str t] H (.bool (sufB s t)) H := by
  refine callOk_wp (own := fun _ => false) tOk fe112.ok rfl rfl ?_
  refine Wp.seq ?_
  by_cases hle : t.length ≤ s.length
  · have hsl : aSlice E0 9 (.str s) (some (.int .i64 (IntKind.i64.wrap (Int.ofNat s.length - Int.ofNat t.length)))) none none = some (.str (s.drop (s.length - t.length))) := by
      have ew : IntKind.i64.wrap (Int.ofNat s.length - Int.ofNat t.length) = ((s.length - t.length : Nat) : Int) := by
        have e : Int.ofNat s.length - Int.ofNat t.length = ((s.length - t.length : Nat) : Int) := by
          simp only [Int.ofNat_eq_natCast]; omega
        rw [e]; exact wrap_nat (by omega)
      have en : nat? (.int .i64 ((s.length - t.length : Nat) : Int)) = some (s.length - t.length) := rfl
      rw [ew]
      simp only [aSlice, e9s, bound, en]
      rw [if_pos (by omega), List.take_length]
    repeat' first
      | refine RegQ.nil ?_
      | (apply RegQ.rSkip; rfl; rfl)
      | (apply RegQ.rSl; rfl; rfl; rfl; rfl; rfl; rfl; assumption; exact (IsV.any _))
      | (apply RegQ.rBi; rfl; rfl; rfl; rfl; assumption; exact (IsV.any _))
      | (apply RegQ.rOp (ty := 3); rfl; rfl; rfl; exact (IsV.int _ _))
      | (apply RegQ.rLen (ty := 3); rfl; rfl; rfl; rfl; rfl)
      | (apply RegQ.rOp (ty := 4); rfl; rfl; rfl; exact (IsV.bool true))
      | (apply RegQ.rOp (ty := 4); rfl; rfl; rfl; exact (IsV.bool false))
      | (apply RegQ.rB (ty := 4); rfl; rfl; rfl)
      | (apply RegQ.rOp (ty := 9); rfl; rfl; rfl; exact (IsV.str _))
      | intro hb
      | refine Wp.seq ?_
      | refine SeqQ.go ?_
      | refine Wp.region ?_
      | refine Wp.condT rfl ?_
      | refine Wp.condF rfl ?_
      | refine Wp.skip ?_
      | refine Wp.ret ?_
      | refine Wp.exit ?_
      | refine Wp.block ?_
      | refine SeqQ.ret ?_
      | refine SeqQ.exit ?_
      | refine BlockQ.go ?_
      | refine BlockQ.ret ?_
      | refine BlockQ.hit rfl ?_
      | refine BlockQ.miss rfl ?_
      | refine LoopI.ret ?_
      | refine LoopI.exit ?_
      | refine RetQ.end rfl rfl (IsV.int _ _) ?_
      | refine RetQ.end rfl rfl (IsV.bool _) ?_
      | refine RetQ.fin rfl (by repeat' first | exact IsL.nil | exact IsV.int _ _ | exact IsV.str _ | exact IsV.slV _ _ _ | exact IsV.nils | exact IsV.bool _ | exact IsV.sl _ _ _ | apply IsL.cons | apply IsV.agg | exact IsV.any _ | exact IsL.any _) ?_
      | refine RetM.fin rfl (by repeat' first | exact IsL.nil | exact IsV.int _ _ | exact IsV.str _ | exact IsV.slV _ _ _ | exact IsV.nils | exact IsV.bool _ | exact IsV.sl _ _ _ | apply IsL.cons | apply IsV.agg | exact IsV.any _ | exact IsL.any _) ?_
    all_goals first
      | (exfalso; simp at hb; omega)
      | (simp [sufB, hle, hb]; done)
      | (simp at hb; simp [sufB, hle, hb]; done)
  · skip
    repeat' first
      | refine RegQ.nil ?_
      | (apply RegQ.rSkip; rfl; rfl)
      | (apply RegQ.rSl; rfl; rfl; rfl; rfl; rfl; rfl; assumption; exact (IsV.any _))
      | (apply RegQ.rBi; rfl; rfl; rfl; rfl; assumption; exact (IsV.any _))
      | (apply RegQ.rOp (ty := 3); rfl; rfl; rfl; exact (IsV.int _ _))
      | (apply RegQ.rLen (ty := 3); rfl; rfl; rfl; rfl; rfl)
      | (apply RegQ.rOp (ty := 4); rfl; rfl; rfl; exact (IsV.bool true))
      | (apply RegQ.rOp (ty := 4); rfl; rfl; rfl; exact (IsV.bool false))
      | (apply RegQ.rB (ty := 4); rfl; rfl; rfl)
      | (apply RegQ.rOp (ty := 9); rfl; rfl; rfl; exact (IsV.str _))
      | intro hb
      | refine Wp.seq ?_
      | refine SeqQ.go ?_
      | refine Wp.region ?_
      | refine Wp.condT rfl ?_
      | refine Wp.condF rfl ?_
      | refine Wp.skip ?_
      | refine Wp.ret ?_
      | refine Wp.exit ?_
      | refine Wp.block ?_
      | refine SeqQ.ret ?_
      | refine SeqQ.exit ?_
      | refine BlockQ.go ?_
      | refine BlockQ.ret ?_
      | refine BlockQ.hit rfl ?_
      | refine BlockQ.miss rfl ?_
      | refine LoopI.ret ?_
      | refine LoopI.exit ?_
      | refine RetQ.end rfl rfl (IsV.int _ _) ?_
      | refine RetQ.end rfl rfl (IsV.bool _) ?_
      | refine RetQ.fin rfl (by repeat' first | exact IsL.nil | exact IsV.int _ _ | exact IsV.str _ | exact IsV.slV _ _ _ | exact IsV.nils | exact IsV.bool _ | exact IsV.sl _ _ _ | apply IsL.cons | apply IsV.agg | exact IsV.any _ | exact IsL.any _) ?_
      | refine RetM.fin rfl (by repeat' first | exact IsL.nil | exact IsV.int _ _ | exact IsV.str _ | exact IsV.slV _ _ _ | exact IsV.nils | exact IsV.bool _ | exact IsV.sl _ _ _ | apply IsL.cons | apply IsV.agg | exact IsV.any _ | exact IsL.any _) ?_
    all_goals first
      | (exfalso; simp at hb; omega)
      | (simp [sufB, hle]; done)

theorem c70 {s t : Bs} (hs : s.length ≤ 2000) (ht : t.length ≤ 2000) : ∀ H, CallOk E0 Tryz.prog 70 [.str s, .str t] H (.bool (sufB s t)) H := by
  have hc := c112 hs ht
  refine callOk_wp (own := fun _ => false) tOk fe70.ok rfl rfl ?_
  refine Wp.seq ?_
  repeat' first
    | refine RegQ.nil ?_
    | (apply RegQ.rCall; rfl; rfl; rfl; rfl; exact (hc _); exact (IsV.int _ _))
    | (apply RegQ.rCall; rfl; rfl; rfl; rfl; exact (hc _); exact (IsV.str _))
    | (apply RegQ.rCall; rfl; rfl; rfl; rfl; exact (hc _); exact (IsV.agg _ _ (by repeat' first | exact IsL.nil | exact IsV.int _ _ | exact IsV.str _ | exact IsV.slV _ _ _ | exact IsV.nils | exact IsV.bool _ | exact IsV.sl _ _ _ | apply IsL.cons | apply IsV.agg | exact IsV.any _ | exact IsL.any _)))
    | (apply RegQ.rCall; rfl; rfl; rfl; rfl; exact (hc _); exact (IsV.tup _ _ (by repeat' first | exact IsL.nil | exact IsV.int _ _ | exact IsV.str _ | exact IsV.slV _ _ _ | exact IsV.nils | exact IsV.bool _ | exact IsV.sl _ _ _ | apply IsL.cons | apply IsV.agg | exact IsV.any _ | exact IsL.any _)))
    | (apply RegQ.rCall; rfl; rfl; rfl; rfl; exact (hc _); exact (IsV.any _))
    | (apply RegQ.rOp (ty := 4); rfl; rfl; rfl; exact (IsV.bool true))
    | (apply RegQ.rOp (ty := 4); rfl; rfl; rfl; exact (IsV.bool false))
    | (apply RegQ.rB (ty := 4); rfl; rfl; rfl)
    | (apply RegQ.rOp (ty := 9); rfl; rfl; rfl; exact (IsV.str _))
    | intro hb
    | refine Wp.seq ?_
    | refine SeqQ.go ?_
    | refine Wp.region ?_
    | refine Wp.condT rfl ?_
    | refine Wp.condF rfl ?_
    | refine Wp.skip ?_
    | refine Wp.ret ?_
    | refine Wp.exit ?_
    | refine Wp.block ?_
    | refine SeqQ.ret ?_
    | refine SeqQ.exit ?_
    | refine BlockQ.go ?_
    | refine BlockQ.ret ?_
    | refine BlockQ.hit rfl ?_
    | refine BlockQ.miss rfl ?_
    | refine LoopI.ret ?_
    | refine LoopI.exit ?_
    | refine RetQ.end rfl rfl (IsV.int _ _) ?_
    | refine RetQ.end rfl rfl (IsV.bool _) ?_
    | refine RetQ.fin rfl (by repeat' first | exact IsL.nil | exact IsV.int _ _ | exact IsV.str _ | exact IsV.slV _ _ _ | exact IsV.nils | exact IsV.bool _ | exact IsV.sl _ _ _ | apply IsL.cons | apply IsV.agg | exact IsV.any _ | exact IsL.any _) ?_
    | refine RetM.fin rfl (by repeat' first | exact IsL.nil | exact IsV.int _ _ | exact IsV.str _ | exact IsV.slV _ _ _ | exact IsV.nils | exact IsV.bool _ | exact IsV.sl _ _ _ | apply IsL.cons | apply IsV.agg | exact IsV.any _ | exact IsL.any _) ?_
  all_goals first
    | rfl
    | (rw [hb]; done)
    | (simp [hb]; done)

set_option maxHeartbeats 4000000 in
theorem c30 {s t : Bs} (hs : s.length ≤ 1000) (ht : t.length ≤ 1000) : ∀ H, CallOk E0 Tryz.prog 30 [.str s, .str t] H (.bool (withinB s t)) H := by
  have h1 := c66 hs
  have h2 := c66 ht
  have h3 := c70 (s := s) (t := 46 :: t) (by omega) (by simp; omega)
  have hcat : aBin E0 .add 9 (.str [46]) (.str t) = some (.str (46 :: t)) := by
    simp only [aBin, aStr]
    rw [if_pos (by simp; omega)]
    rfl
  refine callOk_wp (own := fun _ => false) tOk fe30.ok rfl rfl ?_
  refine Wp.seq ?_
  repeat' first
    | refine RegQ.nil ?_
    | (apply RegQ.rSkip; rfl; rfl)
    | (apply RegQ.rCall; rfl; rfl; rfl; rfl; exact (h1 _); exact (IsV.int _ _))
    | (apply RegQ.rCall; rfl; rfl; rfl; rfl; exact (h1 _); exact (IsV.str _))
    | (apply RegQ.rCall; rfl; rfl; rfl; rfl; exact (h1 _); exact (IsV.agg _ _ (by repeat' first | exact IsL.nil | exact IsV.int _ _ | exact IsV.str _ | exact IsV.slV _ _ _ | exact IsV.nils | exact IsV.bool _ | exact IsV.sl _ _ _ | apply IsL.cons | apply IsV.agg | exact IsV.any _ | exact IsL.any _)))
    | (apply RegQ.rCall; rfl; rfl; rfl; rfl; exact (h1 _); exact (IsV.tup _ _ (by repeat' first | exact IsL.nil | exact IsV.int _ _ | exact IsV.str _ | exact IsV.slV _ _ _ | exact IsV.nils | exact IsV.bool _ | exact IsV.sl _ _ _ | apply IsL.cons | apply IsV.agg | exact IsV.any _ | exact IsL.any _)))
    | (apply RegQ.rCall; rfl; rfl; rfl; rfl; exact (h1 _); exact (IsV.any _))
    | (apply RegQ.rCall; rfl; rfl; rfl; rfl; exact (h2 _); exact (IsV.int _ _))
    | (apply RegQ.rCall; rfl; rfl; rfl; rfl; exact (h2 _); exact (IsV.str _))
    | (apply RegQ.rCall; rfl; rfl; rfl; rfl; exact (h2 _); exact (IsV.agg _ _ (by repeat' first | exact IsL.nil | exact IsV.int _ _ | exact IsV.str _ | exact IsV.slV _ _ _ | exact IsV.nils | exact IsV.bool _ | exact IsV.sl _ _ _ | apply IsL.cons | apply IsV.agg | exact IsV.any _ | exact IsL.any _)))
    | (apply RegQ.rCall; rfl; rfl; rfl; rfl; exact (h2 _); exact (IsV.tup _ _ (by repeat' first | exact IsL.nil | exact IsV.int _ _ | exact IsV.str _ | exact IsV.slV _ _ _ | exact IsV.nils | exact IsV.bool _ | exact IsV.sl _ _ _ | apply IsL.cons | apply IsV.agg | exact IsV.any _ | exact IsL.any _)))
    | (apply RegQ.rCall; rfl; rfl; rfl; rfl; exact (h2 _); exact (IsV.any _))
    | (apply RegQ.rCall; rfl; rfl; rfl; rfl; exact (h3 _); exact (IsV.int _ _))
    | (apply RegQ.rCall; rfl; rfl; rfl; rfl; exact (h3 _); exact (IsV.str _))
    | (apply RegQ.rCall; rfl; rfl; rfl; rfl; exact (h3 _); exact (IsV.agg _ _ (by repeat' first | exact IsL.nil | exact IsV.int _ _ | exact IsV.str _ | exact IsV.slV _ _ _ | exact IsV.nils | exact IsV.bool _ | exact IsV.sl _ _ _ | apply IsL.cons | apply IsV.agg | exact IsV.any _ | exact IsL.any _)))
    | (apply RegQ.rCall; rfl; rfl; rfl; rfl; exact (h3 _); exact (IsV.tup _ _ (by repeat' first | exact IsL.nil | exact IsV.int _ _ | exact IsV.str _ | exact IsV.slV _ _ _ | exact IsV.nils | exact IsV.bool _ | exact IsV.sl _ _ _ | apply IsL.cons | apply IsV.agg | exact IsV.any _ | exact IsL.any _)))
    | (apply RegQ.rCall; rfl; rfl; rfl; rfl; exact (h3 _); exact (IsV.any _))
    | (apply RegQ.rBi; rfl; rfl; rfl; rfl; assumption; exact (IsV.any _))
    | (apply RegQ.rOp (ty := 4); rfl; rfl; rfl; exact (IsV.bool true))
    | (apply RegQ.rOp (ty := 4); rfl; rfl; rfl; exact (IsV.bool false))
    | (apply RegQ.rB (ty := 4); rfl; rfl; rfl)
    | (apply RegQ.rOp (ty := 9); rfl; rfl; rfl; exact (IsV.str _))
    | intro hb
    | refine Wp.seq ?_
    | refine SeqQ.go ?_
    | refine Wp.region ?_
    | refine Wp.condT rfl ?_
    | refine Wp.condF rfl ?_
    | refine Wp.skip ?_
    | refine Wp.ret ?_
    | refine Wp.exit ?_
    | refine Wp.block ?_
    | refine SeqQ.ret ?_
    | refine SeqQ.exit ?_
    | refine BlockQ.go ?_
    | refine BlockQ.ret ?_
    | refine BlockQ.hit rfl ?_
    | refine BlockQ.miss rfl ?_
    | refine LoopI.ret ?_
    | refine LoopI.exit ?_
    | refine RetQ.end rfl rfl (IsV.int _ _) ?_
    | refine RetQ.end rfl rfl (IsV.bool _) ?_
    | refine RetQ.fin rfl (by repeat' first | exact IsL.nil | exact IsV.int _ _ | exact IsV.str _ | exact IsV.slV _ _ _ | exact IsV.nils | exact IsV.bool _ | exact IsV.sl _ _ _ | apply IsL.cons | apply IsV.agg | exact IsV.any _ | exact IsL.any _) ?_
    | refine RetM.fin rfl (by repeat' first | exact IsL.nil | exact IsV.int _ _ | exact IsV.str _ | exact IsV.slV _ _ _ | exact IsV.nils | exact IsV.bool _ | exact IsV.sl _ _ _ | apply IsL.cons | apply IsV.agg | exact IsV.any _ | exact IsL.any _) ?_
  all_goals (rw [within_eq]; simp_all)

/-- The heap in which the name lies that a closure looks at. -/
abbrev nmH (nm : Bs) (ro : Nat) (lv : List Nat) (nt : Nat) : Heap := ⟨[.cells 1 [[.str nm]]], ro, lv, nt⟩

theorem c111 {x nm : Bs} (hx : x.length ≤ 1000) (hn : nm.length ≤ 1000) (ro : Nat) (lv : List Nat) (nt : Nat) : CallOk E0 Tryz.prog 111 [.str x, .ptr 0 1 0 0] (nmH nm ro lv nt) (.bool (withinB nm x)) (nmH nm ro lv nt) := by
  have hc := c30 hn hx
  refine callOk_wpH (own := fun _ => false) tOk fe111.ok ?_
  refine Wp.seq ?_
  repeat' first
    | refine RegQ.nil ?_
    | (apply RegQ.rCall; rfl; rfl; rfl; rfl; exact (hc _); exact (IsV.int _ _))
    | (apply RegQ.rCall; rfl; rfl; rfl; rfl; exact (hc _); exact (IsV.str _))
    | (apply RegQ.rCall; rfl; rfl; rfl; rfl; exact (hc _); exact (IsV.agg _ _ (by repeat' first | exact IsL.nil | exact IsV.int _ _ | exact IsV.str _ | exact IsV.slV _ _ _ | exact IsV.nils | exact IsV.bool _ | exact IsV.sl _ _ _ | apply IsL.cons | apply IsV.agg | exact IsV.any _ | exact IsL.any _)))
    | (apply RegQ.rCall; rfl; rfl; rfl; rfl; exact (hc _); exact (IsV.tup _ _ (by repeat' first | exact IsL.nil | exact IsV.int _ _ | exact IsV.str _ | exact IsV.slV _ _ _ | exact IsV.nils | exact IsV.bool _ | exact IsV.sl _ _ _ | apply IsL.cons | apply IsV.agg | exact IsV.any _ | exact IsL.any _)))
    | (apply RegQ.rCall; rfl; rfl; rfl; rfl; exact (hc _); exact (IsV.any _))
    | (apply RegQ.rLd; rfl; rfl; rfl; assumption; exact (IsV.any _))
    | (apply RegQ.rOp (ty := 4); rfl; rfl; rfl; exact (IsV.bool true))
    | (apply RegQ.rOp (ty := 4); rfl; rfl; rfl; exact (IsV.bool false))
    | (apply RegQ.rB (ty := 4); rfl; rfl; rfl)
    | (apply RegQ.rOp (ty := 9); rfl; rfl; rfl; exact (IsV.str _))
    | intro hb
    | refine Wp.seq ?_
    | refine SeqQ.go ?_
    | refine Wp.region ?_
    | refine Wp.condT rfl ?_
    | refine Wp.condF rfl ?_
    | refine Wp.skip ?_
    | refine Wp.ret ?_
    | refine Wp.exit ?_
    | refine Wp.block ?_
    | refine SeqQ.ret ?_
    | refine SeqQ.exit ?_
    | refine BlockQ.go ?_
    | refine BlockQ.ret ?_
    | refine BlockQ.hit rfl ?_
    | refine BlockQ.miss rfl ?_
    | refine LoopI.ret ?_
    | refine LoopI.exit ?_
    | refine RetQ.end rfl rfl (IsV.int _ _) ?_
    | refine RetQ.end rfl rfl (IsV.bool _) ?_
    | refine RetQ.fin rfl (by repeat' first | exact IsL.nil | exact IsV.int _ _ | exact IsV.str _ | exact IsV.slV _ _ _ | exact IsV.nils | exact IsV.bool _ | exact IsV.sl _ _ _ | apply IsL.cons | apply IsV.agg | exact IsV.any _ | exact IsL.any _) ?_
    | refine RetM.fin rfl (by repeat' first | exact IsL.nil | exact IsV.int _ _ | exact IsV.str _ | exact IsV.slV _ _ _ | exact IsV.nils | exact IsV.bool _ | exact IsV.sl _ _ _ | apply IsL.cons | apply IsV.agg | exact IsV.any _ | exact IsL.any _) ?_
  all_goals first
    | rfl
    | (simp only [one, hb]; rfl)

def firstI (p : Bs → Bool) : List Bs → Nat → Int
  | [], _ => -1
  | x :: r, i => if p x = true then (i : Int) else firstI p r (i + 1)
theorem firstI_any (p : Bs → Bool) : ∀ (l : List Bs) (i : Nat), decide (0 ≤ firstI p l i) = l.any p
  | [], i => by simp [firstI]
  | x :: r, i => by
    simp only [firstI, List.any_cons]
    by_cases h : p x = true
    · simp [h]
    · simp [h, firstI_any p r (i + 1)]

theorem partsC_get {l : List Bs} {i : Nat} {x : Bs} (h : l[i]? = some x) : (partsC l)[i]? = some [.str x] := by simp [partsC, h]
theorem partsC_len (l : List Bs) : (partsC l).length = l.length := by simp [partsC]

set_option maxHeartbeats 4000000 in
theorem c169 {l : List Bs} {nm : Bs} (hl : ∀ x, x ∈ l → x.length ≤ 1000) (hll : l.length ≤ maxLen) (hn : nm.length ≤ 1000) (b : Bool) (ro : Nat) (lv : List Nat) (nt : Nat) :
    CallOk E0 Tryz.prog 169 [slV b 1 (partsC l), .fn 111 [.ptr 0 1 0 0]] (nmH nm ro lv nt) (.int .i64 (firstI (withinB nm) l 0)) (nmH nm ro lv nt) := by
  refine callOk_wpH (own := fun _ => false) tOk fe169.ok ?_
  have ea : [slV b 1 (partsC l), .fn 111 [.ptr 0 1 0 0]].map argV = [slV b 1 (partsC l), .fn 111 [.ptr 0 1 0 0]] := by
    simp only [List.map_cons, List.map_nil, argV_slV]; rfl
  rw [ea]
  refine Wp.seq ?_
  repeat' first
    | refine RegQ.nil ?_
    | (apply RegQ.rBi; rfl; rfl; rfl; rfl; assumption; exact (IsV.any _))
    | (apply RegQ.rIa; rfl; rfl; rfl; rfl; assumption; exact (IsV.any _))
    | (apply RegQ.rLd; rfl; rfl; rfl; assumption; exact (IsV.any _))
    | (apply RegQ.rOp (ty := 0); rfl; rfl; rfl; exact (IsV.fptr _ _))
    | (apply RegQ.rOpH (ty := 0); rfl; rfl; rfl; exact (IsV.ptr4 (by first | exact (rfl : (_ : Nat) = 0) | exact (rfl : (_ : Nat) = 1) | exact (rfl : (_ : Nat) = 2) | exact (rfl : (_ : Nat) = 3) | exact (rfl : (_ : Nat) = 4) | exact (rfl : (_ : Nat) = 5) | exact (rfl : (_ : Nat) = 6) | exact (rfl : (_ : Nat) = 7) | exact (rfl : (_ : Nat) = 8) | exact (rfl : (_ : Nat) = 9) | exact (rfl : (_ : Nat) = 10) | exact (rfl : (_ : Nat) = 11) | exact (rfl : (_ : Nat) = 12) | exact rfl) (by first | exact (rfl : (_ : Nat) = 0) | exact (rfl : (_ : Nat) = 1) | exact (rfl : (_ : Nat) = 2) | exact (rfl : (_ : Nat) = 3) | exact (rfl : (_ : Nat) = 4) | exact (rfl : (_ : Nat) = 5) | exact (rfl : (_ : Nat) = 6) | exact (rfl : (_ : Nat) = 7) | exact (rfl : (_ : Nat) = 8) | exact (rfl : (_ : Nat) = 9) | exact (rfl : (_ : Nat) = 10) | exact (rfl : (_ : Nat) = 11) | exact (rfl : (_ : Nat) = 12) | exact rfl) (by first | exact (rfl : (_ : Nat) = 0) | exact (rfl : (_ : Nat) = 1) | exact (rfl : (_ : Nat) = 2) | exact (rfl : (_ : Nat) = 3) | exact (rfl : (_ : Nat) = 4) | exact (rfl : (_ : Nat) = 5) | exact (rfl : (_ : Nat) = 6) | exact (rfl : (_ : Nat) = 7) | exact (rfl : (_ : Nat) = 8) | exact (rfl : (_ : Nat) = 9) | exact (rfl : (_ : Nat) = 10) | exact (rfl : (_ : Nat) = 11) | exact (rfl : (_ : Nat) = 12) | exact rfl) (by first | exact (rfl : (_ : Nat) = 0) | exact (rfl : (_ : Nat) = 1) | exact (rfl : (_ : Nat) = 2) | exact (rfl : (_ : Nat) = 3) | exact (rfl : (_ : Nat) = 4) | exact (rfl : (_ : Nat) = 5) | exact (rfl : (_ : Nat) = 6) | exact (rfl : (_ : Nat) = 7) | exact (rfl : (_ : Nat) = 8) | exact (rfl : (_ : Nat) = 9) | exact (rfl : (_ : Nat) = 10) | exact (rfl : (_ : Nat) = 11) | exact (rfl : (_ : Nat) = 12) | exact rfl)); exact (IsH.mk _ _ _ _ _ _ _ _ (by repeat' first | exact IsBL.nil | apply IsBL.cells | apply IsBL.cons | exact IsLL.nil | apply IsLL.cons | exact IsL.nil | exact IsV.int _ _ | exact IsV.str _ | exact IsV.slV _ _ _ | exact IsV.nils | exact IsV.bool _ | exact IsV.sl _ _ _ | apply IsL.cons | exact IsV.any _ | exact IsL.any _ | exact IsLL.any _ | exact IsBL.any _ | exact (rfl : (_ : Nat) = 1) | exact (rfl : (_ : Nat) = 2) | exact (rfl : (_ : Nat) = 3) | exact (rfl : (_ : Nat) = 4) | exact (rfl : (_ : Nat) = 5) | exact (rfl : (_ : Nat) = 6) | exact (rfl : (_ : Nat) = 7) | exact (rfl : (_ : Nat) = 8) | exact (rfl : (_ : Nat) = 9) | exact (rfl : (_ : Nat) = 10) | exact (rfl : (_ : Nat) = 11) | exact (rfl : (_ : Nat) = 12) | exact (rfl : (_ : Nat) = 256) | exact rfl) (by first | exact (rfl : (_ : Nat) = 0) | exact (rfl : (_ : Nat) = 1) | exact rfl) (by first | exact (rfl : (_ : List Nat) = []) | exact rfl) (by first | exact (rfl : (_ : Nat) = 0) | exact (rfl : (_ : Nat) = 1) | exact (rfl : (_ : Nat) = 2) | exact (rfl : (_ : Nat) = 3) | exact (rfl : (_ : Nat) = 4) | exact (rfl : (_ : Nat) = 5) | exact (rfl : (_ : Nat) = 6) | exact (rfl : (_ : Nat) = 7) | exact (rfl : (_ : Nat) = 8) | exact (rfl : (_ : Nat) = 9) | exact (rfl : (_ : Nat) = 10) | exact (rfl : (_ : Nat) = 11) | exact (rfl : (_ : Nat) = 12) | exact rfl)))
    | (apply RegQ.rIdx; rfl; rfl; rfl; rfl; rfl; rfl; rfl; rfl; assumption)
    | (apply RegQ.rOp (ty := 0); rfl; rfl; rfl; exact (IsV.bool true))
    | (apply RegQ.rOp (ty := 0); rfl; rfl; rfl; exact (IsV.bool false))
    | (apply RegQ.rB (ty := 0); rfl; rfl; rfl)
    | (apply RegQ.rOp (ty := 3); rfl; rfl; rfl; exact (IsV.int _ _))
    | (apply RegQ.rLen (ty := 3); rfl; rfl; rfl; rfl; rfl)
    | (apply RegQ.rOp (ty := 4); rfl; rfl; rfl; exact (IsV.bool true))
    | (apply RegQ.rOp (ty := 4); rfl; rfl; rfl; exact (IsV.bool false))
    | (apply RegQ.rB (ty := 4); rfl; rfl; rfl)
    | (apply RegQ.rOp (ty := 9); rfl; rfl; rfl; exact (IsV.str _))
    | (apply RegQ.rOp (ty := 22); rfl; rfl; rfl; exact (IsV.slV _ _ _))
    | (apply RegQ.rOp (ty := 22); rfl; rfl; rfl; exact IsV.nils)
    | (apply RegQ.rOpH (ty := 22); rfl; rfl; rfl; exact (IsV.sl _ _ _); exact (IsH.mk _ _ _ _ _ _ _ _ (by repeat' first | exact IsBL.nil | apply IsBL.cells | apply IsBL.cons | exact IsLL.nil | apply IsLL.cons | exact IsL.nil | exact IsV.int _ _ | exact IsV.str _ | exact IsV.slV _ _ _ | exact IsV.nils | exact IsV.bool _ | exact IsV.sl _ _ _ | apply IsL.cons | exact IsV.any _ | exact IsL.any _ | exact IsLL.any _ | exact IsBL.any _ | exact (rfl : (_ : Nat) = 1) | exact (rfl : (_ : Nat) = 2) | exact (rfl : (_ : Nat) = 3) | exact (rfl : (_ : Nat) = 4) | exact (rfl : (_ : Nat) = 5) | exact (rfl : (_ : Nat) = 6) | exact (rfl : (_ : Nat) = 7) | exact (rfl : (_ : Nat) = 8) | exact (rfl : (_ : Nat) = 9) | exact (rfl : (_ : Nat) = 10) | exact (rfl : (_ : Nat) = 11) | exact (rfl : (_ : Nat) = 12) | exact (rfl : (_ : Nat) = 256) | exact rfl) (by first | exact (rfl : (_ : Nat) = 0) | exact (rfl : (_ : Nat) = 1) | exact rfl) (by first | exact (rfl : (_ : List Nat) = []) | exact rfl) (by first | exact (rfl : (_ : Nat) = 0) | exact (rfl : (_ : Nat) = 1) | exact (rfl : (_ : Nat) = 2) | exact (rfl : (_ : Nat) = 3) | exact (rfl : (_ : Nat) = 4) | exact (rfl : (_ : Nat) = 5) | exact (rfl : (_ : Nat) = 6) | exact (rfl : (_ : Nat) = 7) | exact (rfl : (_ : Nat) = 8) | exact (rfl : (_ : Nat) = 9) | exact (rfl : (_ : Nat) = 10) | exact (rfl : (_ : Nat) = 11) | exact (rfl : (_ : Nat) = 12) | exact rfl)))
    | (apply RegQ.rOpH (ty := 22); rfl; rfl; rfl; exact (IsV.own _ _ _ _); exact (IsH.mk _ _ _ _ _ _ _ _ (by repeat' first | exact IsBL.nil | apply IsBL.cells | apply IsBL.cons | exact IsLL.nil | apply IsLL.cons | exact IsL.nil | exact IsV.int _ _ | exact IsV.str _ | exact IsV.slV _ _ _ | exact IsV.nils | exact IsV.bool _ | exact IsV.sl _ _ _ | apply IsL.cons | exact IsV.any _ | exact IsL.any _ | exact IsLL.any _ | exact IsBL.any _ | exact (rfl : (_ : Nat) = 1) | exact (rfl : (_ : Nat) = 2) | exact (rfl : (_ : Nat) = 3) | exact (rfl : (_ : Nat) = 4) | exact (rfl : (_ : Nat) = 5) | exact (rfl : (_ : Nat) = 6) | exact (rfl : (_ : Nat) = 7) | exact (rfl : (_ : Nat) = 8) | exact (rfl : (_ : Nat) = 9) | exact (rfl : (_ : Nat) = 10) | exact (rfl : (_ : Nat) = 11) | exact (rfl : (_ : Nat) = 12) | exact (rfl : (_ : Nat) = 256) | exact rfl) (by first | exact (rfl : (_ : Nat) = 0) | exact (rfl : (_ : Nat) = 1) | exact rfl) (by first | exact (rfl : (_ : List Nat) = []) | exact rfl) (by first | exact (rfl : (_ : Nat) = 0) | exact (rfl : (_ : Nat) = 1) | exact (rfl : (_ : Nat) = 2) | exact (rfl : (_ : Nat) = 3) | exact (rfl : (_ : Nat) = 4) | exact (rfl : (_ : Nat) = 5) | exact (rfl : (_ : Nat) = 6) | exact (rfl : (_ : Nat) = 7) | exact (rfl : (_ : Nat) = 8) | exact (rfl : (_ : Nat) = 9) | exact (rfl : (_ : Nat) = 10) | exact (rfl : (_ : Nat) = 11) | exact (rfl : (_ : Nat) = 12) | exact rfl)))
    | (apply RegQ.rOp (ty := 93); rfl; rfl; rfl; exact (IsV.fptr _ _))
    | (apply RegQ.rOpH (ty := 93); rfl; rfl; rfl; exact (IsV.ptr4 (by first | exact (rfl : (_ : Nat) = 0) | exact (rfl : (_ : Nat) = 1) | exact (rfl : (_ : Nat) = 2) | exact (rfl : (_ : Nat) = 3) | exact (rfl : (_ : Nat) = 4) | exact (rfl : (_ : Nat) = 5) | exact (rfl : (_ : Nat) = 6) | exact (rfl : (_ : Nat) = 7) | exact (rfl : (_ : Nat) = 8) | exact (rfl : (_ : Nat) = 9) | exact (rfl : (_ : Nat) = 10) | exact (rfl : (_ : Nat) = 11) | exact (rfl : (_ : Nat) = 12) | exact rfl) (by first | exact (rfl : (_ : Nat) = 0) | exact (rfl : (_ : Nat) = 1) | exact (rfl : (_ : Nat) = 2) | exact (rfl : (_ : Nat) = 3) | exact (rfl : (_ : Nat) = 4) | exact (rfl : (_ : Nat) = 5) | exact (rfl : (_ : Nat) = 6) | exact (rfl : (_ : Nat) = 7) | exact (rfl : (_ : Nat) = 8) | exact (rfl : (_ : Nat) = 9) | exact (rfl : (_ : Nat) = 10) | exact (rfl : (_ : Nat) = 11) | exact (rfl : (_ : Nat) = 12) | exact rfl) (by first | exact (rfl : (_ : Nat) = 0) | exact (rfl : (_ : Nat) = 1) | exact (rfl : (_ : Nat) = 2) | exact (rfl : (_ : Nat) = 3) | exact (rfl : (_ : Nat) = 4) | exact (rfl : (_ : Nat) = 5) | exact (rfl : (_ : Nat) = 6) | exact (rfl : (_ : Nat) = 7) | exact (rfl : (_ : Nat) = 8) | exact (rfl : (_ : Nat) = 9) | exact (rfl : (_ : Nat) = 10) | exact (rfl : (_ : Nat) = 11) | exact (rfl : (_ : Nat) = 12) | exact rfl) (by first | exact (rfl : (_ : Nat) = 0) | exact (rfl : (_ : Nat) = 1) | exact (rfl : (_ : Nat) = 2) | exact (rfl : (_ : Nat) = 3) | exact (rfl : (_ : Nat) = 4) | exact (rfl : (_ : Nat) = 5) | exact (rfl : (_ : Nat) = 6) | exact (rfl : (_ : Nat) = 7) | exact (rfl : (_ : Nat) = 8) | exact (rfl : (_ : Nat) = 9) | exact (rfl : (_ : Nat) = 10) | exact (rfl : (_ : Nat) = 11) | exact (rfl : (_ : Nat) = 12) | exact rfl)); exact (IsH.mk _ _ _ _ _ _ _ _ (by repeat' first | exact IsBL.nil | apply IsBL.cells | apply IsBL.cons | exact IsLL.nil | apply IsLL.cons | exact IsL.nil | exact IsV.int _ _ | exact IsV.str _ | exact IsV.slV _ _ _ | exact IsV.nils | exact IsV.bool _ | exact IsV.sl _ _ _ | apply IsL.cons | exact IsV.any _ | exact IsL.any _ | exact IsLL.any _ | exact IsBL.any _ | exact (rfl : (_ : Nat) = 1) | exact (rfl : (_ : Nat) = 2) | exact (rfl : (_ : Nat) = 3) | exact (rfl : (_ : Nat) = 4) | exact (rfl : (_ : Nat) = 5) | exact (rfl : (_ : Nat) = 6) | exact (rfl : (_ : Nat) = 7) | exact (rfl : (_ : Nat) = 8) | exact (rfl : (_ : Nat) = 9) | exact (rfl : (_ : Nat) = 10) | exact (rfl : (_ : Nat) = 11) | exact (rfl : (_ : Nat) = 12) | exact (rfl : (_ : Nat) = 256) | exact rfl) (by first | exact (rfl : (_ : Nat) = 0) | exact (rfl : (_ : Nat) = 1) | exact rfl) (by first | exact (rfl : (_ : List Nat) = []) | exact rfl) (by first | exact (rfl : (_ : Nat) = 0) | exact (rfl : (_ : Nat) = 1) | exact (rfl : (_ : Nat) = 2) | exact (rfl : (_ : Nat) = 3) | exact (rfl : (_ : Nat) = 4) | exact (rfl : (_ : Nat) = 5) | exact (rfl : (_ : Nat) = 6) | exact (rfl : (_ : Nat) = 7) | exact (rfl : (_ : Nat) = 8) | exact (rfl : (_ : Nat) = 9) | exact (rfl : (_ : Nat) = 10) | exact (rfl : (_ : Nat) = 11) | exact (rfl : (_ : Nat) = 12) | exact rfl)))
    | (apply RegQ.rIdx; rfl; rfl; rfl; rfl; rfl; rfl; rfl; rfl; assumption)
    | (apply RegQ.rOp (ty := 93); rfl; rfl; rfl; exact (IsV.fn _ _))
    | (apply RegQ.rOp (ty := 93); rfl; rfl; rfl; exact (IsV.tup _ _ (by repeat' first | exact IsL.nil | exact IsV.int _ _ | exact IsV.str _ | exact IsV.slV _ _ _ | exact IsV.nils | exact IsV.bool _ | exact IsV.sl _ _ _ | apply IsL.cons | apply IsV.agg | exact IsV.any _ | exact IsL.any _)))
    | intro hb
    | refine Wp.seq ?_
    | refine SeqQ.go ?_
    | refine Wp.region ?_
    | refine Wp.condT rfl ?_
    | refine Wp.condF rfl ?_
    | refine Wp.skip ?_
    | refine Wp.ret ?_
    | refine Wp.exit ?_
    | refine Wp.block ?_
    | refine SeqQ.ret ?_
    | refine SeqQ.exit ?_
    | refine BlockQ.go ?_
    | refine BlockQ.ret ?_
    | refine BlockQ.hit rfl ?_
    | refine BlockQ.miss rfl ?_
    | refine LoopI.ret ?_
    | refine LoopI.exit ?_
    | refine RetQ.end rfl rfl (IsV.int _ _) ?_
    | refine RetQ.end rfl rfl (IsV.bool _) ?_
    | refine RetQ.fin rfl (by repeat' first | exact IsL.nil | exact IsV.int _ _ | exact IsV.str _ | exact IsV.slV _ _ _ | exact IsV.nils | exact IsV.bool _ | exact IsV.sl _ _ _ | apply IsL.cons | apply IsV.agg | exact IsV.any _ | exact IsL.any _) ?_
    | refine RetM.fin rfl (by repeat' first | exact IsL.nil | exact IsV.int _ _ | exact IsV.str _ | exact IsV.slV _ _ _ | exact IsV.nils | exact IsV.bool _ | exact IsV.sl _ _ _ | apply IsL.cons | apply IsV.agg | exact IsV.any _ | exact IsL.any _) ?_
  refine Wp.while (fun m tm H => ∃ (i : Nat) (base : TM), i + m = l.length ∧ firstI (withinB nm) l 0 = firstI (withinB nm) (l.drop i) i ∧
      tm = ovr base [(0, slV b 1 (partsC l)), (1, .fn 111 [.ptr 0 1 0 0]), (7, .int .i64 (l.length : Int)), (8, .int .i64 (i : Int))] ∧ H = nmH nm 1 [] nt)
    (fun m tm H hI => ?_) l.length _ _ ⟨0, _, by omega, by simp, ovr_mk ⟨rfl, rfl, int_eq (by rw [partsC_len]), rfl, trivial⟩, rfl⟩
  obtain ⟨i, base, hi, hf, rfl, rfl⟩ := hI
  unfold maxLen at hll
  by_cases hlt : i < l.length
  · obtain ⟨x, hx⟩ : ∃ x, l[i]? = some x := ⟨l[i], by simp⟩
    have hxm : x ∈ l := List.mem_of_getElem? hx
    have hj := partsC_get hx
    have hc := c111 (hl x hxm) hn 1 [] nt
    rw [drop_cons hx] at hf
    simp only [firstI] at hf
    cases hw : withinB nm x with
    | true =>
      rw [hw] at hc hf
      repeat' first
        | refine RegQ.nil ?_
        | (apply RegQ.rCall; rfl; rfl; rfl; rfl; exact (hc); exact (IsV.int _ _))
        | (apply RegQ.rCall; rfl; rfl; rfl; rfl; exact (hc); exact (IsV.str _))
        | (apply RegQ.rCall; rfl; rfl; rfl; rfl; exact (hc); exact (IsV.agg _ _ (by repeat' first | exact IsL.nil | exact IsV.int _ _ | exact IsV.str _ | exact IsV.slV _ _ _ | exact IsV.nils | exact IsV.bool _ | exact IsV.sl _ _ _ | apply IsL.cons | apply IsV.agg | exact IsV.any _ | exact IsL.any _)))
        | (apply RegQ.rCall; rfl; rfl; rfl; rfl; exact (hc); exact (IsV.tup _ _ (by repeat' first | exact IsL.nil | exact IsV.int _ _ | exact IsV.str _ | exact IsV.slV _ _ _ | exact IsV.nils | exact IsV.bool _ | exact IsV.sl _ _ _ | apply IsL.cons | apply IsV.agg | exact IsV.any _ | exact IsL.any _)))
        | (apply RegQ.rCall; rfl; rfl; rfl; rfl; exact (hc); exact (IsV.any _))
        | (apply RegQ.rBi; rfl; rfl; rfl; rfl; assumption; exact (IsV.any _))
        | (apply RegQ.rIa; rfl; rfl; rfl; rfl; assumption; exact (IsV.any _))
        | (apply RegQ.rLd; rfl; rfl; rfl; assumption; exact (IsV.any _))
        | (apply RegQ.rOp (ty := 0); rfl; rfl; rfl; exact (IsV.fptr _ _))
        | (apply RegQ.rOpH (ty := 0); rfl; rfl; rfl; exact (IsV.ptr4 (by first | exact (rfl : (_ : Nat) = 0) | exact (rfl : (_ : Nat) = 1) | exact (rfl : (_ : Nat) = 2) | exact (rfl : (_ : Nat) = 3) | exact (rfl : (_ : Nat) = 4) | exact (rfl : (_ : Nat) = 5) | exact (rfl : (_ : Nat) = 6) | exact (rfl : (_ : Nat) = 7) | exact (rfl : (_ : Nat) = 8) | exact (rfl : (_ : Nat) = 9) | exact (rfl : (_ : Nat) = 10) | exact (rfl : (_ : Nat) = 11) | exact (rfl : (_ : Nat) = 12) | exact rfl) (by first | exact (rfl : (_ : Nat) = 0) | exact (rfl : (_ : Nat) = 1) | exact (rfl : (_ : Nat) = 2) | exact (rfl : (_ : Nat) = 3) | exact (rfl : (_ : Nat) = 4) | exact (rfl : (_ : Nat) = 5) | exact (rfl : (_ : Nat) = 6) | exact (rfl : (_ : Nat) = 7) | exact (rfl : (_ : Nat) = 8) | exact (rfl : (_ : Nat) = 9) | exact (rfl : (_ : Nat) = 10) | exact (rfl : (_ : Nat) = 11) | exact (rfl : (_ : Nat) = 12) | exact rfl) (by first | exact (rfl : (_ : Nat) = 0) | exact (rfl : (_ : Nat) = 1) | exact (rfl : (_ : Nat) = 2) | exact (rfl : (_ : Nat) = 3) | exact (rfl : (_ : Nat) = 4) | exact (rfl : (_ : Nat) = 5) | exact (rfl : (_ : Nat) = 6) | exact (rfl : (_ : Nat) = 7) | exact (rfl : (_ : Nat) = 8) | exact (rfl : (_ : Nat) = 9) | exact (rfl : (_ : Nat) = 10) | exact (rfl : (_ : Nat) = 11) | exact (rfl : (_ : Nat) = 12) | exact rfl) (by first | exact (rfl : (_ : Nat) = 0) | exact (rfl : (_ : Nat) = 1) | exact (rfl : (_ : Nat) = 2) | exact (rfl : (_ : Nat) = 3) | exact (rfl : (_ : Nat) = 4) | exact (rfl : (_ : Nat) = 5) | exact (rfl : (_ : Nat) = 6) | exact (rfl : (_ : Nat) = 7) | exact (rfl : (_ : Nat) = 8) | exact (rfl : (_ : Nat) = 9) | exact (rfl : (_ : Nat) = 10) | exact (rfl : (_ : Nat) = 11) | exact (rfl : (_ : Nat) = 12) | exact rfl)); exact (IsH.mk _ _ _ _ _ _ _ _ (by repeat' first | exact IsBL.nil | apply IsBL.cells | apply IsBL.cons | exact IsLL.nil | apply IsLL.cons | exact IsL.nil | exact IsV.int _ _ | exact IsV.str _ | exact IsV.slV _ _ _ | exact IsV.nils | exact IsV.bool _ | exact IsV.sl _ _ _ | apply IsL.cons | exact IsV.any _ | exact IsL.any _ | exact IsLL.any _ | exact IsBL.any _ | exact (rfl : (_ : Nat) = 1) | exact (rfl : (_ : Nat) = 2) | exact (rfl : (_ : Nat) = 3) | exact (rfl : (_ : Nat) = 4) | exact (rfl : (_ : Nat) = 5) | exact (rfl : (_ : Nat) = 6) | exact (rfl : (_ : Nat) = 7) | exact (rfl : (_ : Nat) = 8) | exact (rfl : (_ : Nat) = 9) | exact (rfl : (_ : Nat) = 10) | exact (rfl : (_ : Nat) = 11) | exact (rfl : (_ : Nat) = 12) | exact (rfl : (_ : Nat) = 256) | exact rfl) (by first | exact (rfl : (_ : Nat) = 0) | exact (rfl : (_ : Nat) = 1) | exact rfl) (by first | exact (rfl : (_ : List Nat) = []) | exact rfl) (by first | exact (rfl : (_ : Nat) = 0) | exact (rfl : (_ : Nat) = 1) | exact (rfl : (_ : Nat) = 2) | exact (rfl : (_ : Nat) = 3) | exact (rfl : (_ : Nat) = 4) | exact (rfl : (_ : Nat) = 5) | exact (rfl : (_ : Nat) = 6) | exact (rfl : (_ : Nat) = 7) | exact (rfl : (_ : Nat) = 8) | exact (rfl : (_ : Nat) = 9) | exact (rfl : (_ : Nat) = 10) | exact (rfl : (_ : Nat) = 11) | exact (rfl : (_ : Nat) = 12) | exact rfl)))
        | (apply RegQ.rIdx; rfl; rfl; rfl; rfl; rfl; rfl; rfl; rfl; assumption)
        | (apply RegQ.rOp (ty := 0); rfl; rfl; rfl; exact (IsV.bool true))
        | (apply RegQ.rOp (ty := 0); rfl; rfl; rfl; exact (IsV.bool false))
        | (apply RegQ.rB (ty := 0); rfl; rfl; rfl)
        | (apply RegQ.rOp (ty := 3); rfl; rfl; rfl; exact (IsV.int _ _))
        | (apply RegQ.rLen (ty := 3); rfl; rfl; rfl; rfl; rfl)
        | (apply RegQ.rOp (ty := 4); rfl; rfl; rfl; exact (IsV.bool true))
        | (apply RegQ.rOp (ty := 4); rfl; rfl; rfl; exact (IsV.bool false))
        | (apply RegQ.rB (ty := 4); rfl; rfl; rfl)
        | (apply RegQ.rOp (ty := 9); rfl; rfl; rfl; exact (IsV.str _))
        | (apply RegQ.rOp (ty := 22); rfl; rfl; rfl; exact (IsV.slV _ _ _))
        | (apply RegQ.rOp (ty := 22); rfl; rfl; rfl; exact IsV.nils)
        | (apply RegQ.rOpH (ty := 22); rfl; rfl; rfl; exact (IsV.sl _ _ _); exact (IsH.mk _ _ _ _ _ _ _ _ (by repeat' first | exact IsBL.nil | apply IsBL.cells | apply IsBL.cons | exact IsLL.nil | apply IsLL.cons | exact IsL.nil | exact IsV.int _ _ | exact IsV.str _ | exact IsV.slV _ _ _ | exact IsV.nils | exact IsV.bool _ | exact IsV.sl _ _ _ | apply IsL.cons | exact IsV.any _ | exact IsL.any _ | exact IsLL.any _ | exact IsBL.any _ | exact (rfl : (_ : Nat) = 1) | exact (rfl : (_ : Nat) = 2) | exact (rfl : (_ : Nat) = 3) | exact (rfl : (_ : Nat) = 4) | exact (rfl : (_ : Nat) = 5) | exact (rfl : (_ : Nat) = 6) | exact (rfl : (_ : Nat) = 7) | exact (rfl : (_ : Nat) = 8) | exact (rfl : (_ : Nat) = 9) | exact (rfl : (_ : Nat) = 10) | exact (rfl : (_ : Nat) = 11) | exact (rfl : (_ : Nat) = 12) | exact (rfl : (_ : Nat) = 256) | exact rfl) (by first | exact (rfl : (_ : Nat) = 0) | exact (rfl : (_ : Nat) = 1) | exact rfl) (by first | exact (rfl : (_ : List Nat) = []) | exact rfl) (by first | exact (rfl : (_ : Nat) = 0) | exact (rfl : (_ : Nat) = 1) | exact (rfl : (_ : Nat) = 2) | exact (rfl : (_ : Nat) = 3) | exact (rfl : (_ : Nat) = 4) | exact (rfl : (_ : Nat) = 5) | exact (rfl : (_ : Nat) = 6) | exact (rfl : (_ : Nat) = 7) | exact (rfl : (_ : Nat) = 8) | exact (rfl : (_ : Nat) = 9) | exact (rfl : (_ : Nat) = 10) | exact (rfl : (_ : Nat) = 11) | exact (rfl : (_ : Nat) = 12) | exact rfl)))
        | (apply RegQ.rOpH (ty := 22); rfl; rfl; rfl; exact (IsV.own _ _ _ _); exact (IsH.mk _ _ _ _ _ _ _ _ (by repeat' first | exact IsBL.nil | apply IsBL.cells | apply IsBL.cons | exact IsLL.nil | apply IsLL.cons | exact IsL.nil | exact IsV.int _ _ | exact IsV.str _ | exact IsV.slV _ _ _ | exact IsV.nils | exact IsV.bool _ | exact IsV.sl _ _ _ | apply IsL.cons | exact IsV.any _ | exact IsL.any _ | exact IsLL.any _ | exact IsBL.any _ | exact (rfl : (_ : Nat) = 1) | exact (rfl : (_ : Nat) = 2) | exact (rfl : (_ : Nat) = 3) | exact (rfl : (_ : Nat) = 4) | exact (rfl : (_ : Nat) = 5) | exact (rfl : (_ : Nat) = 6) | exact (rfl : (_ : Nat) = 7) | exact (rfl : (_ : Nat) = 8) | exact (rfl : (_ : Nat) = 9) | exact (rfl : (_ : Nat) = 10) | exact (rfl : (_ : Nat) = 11) | exact (rfl : (_ : Nat) = 12) | exact (rfl : (_ : Nat) = 256) | exact rfl) (by first | exact (rfl : (_ : Nat) = 0) | exact (rfl : (_ : Nat) = 1) | exact rfl) (by first | exact (rfl : (_ : List Nat) = []) | exact rfl) (by first | exact (rfl : (_ : Nat) = 0) | exact (rfl : (_ : Nat) = 1) | exact (rfl : (_ : Nat) = 2) | exact (rfl : (_ : Nat) = 3) | exact (rfl : (_ : Nat) = 4) | exact (rfl : (_ : Nat) = 5) | exact (rfl : (_ : Nat) = 6) | exact (rfl : (_ : Nat) = 7) | exact (rfl : (_ : Nat) = 8) | exact (rfl : (_ : Nat) = 9) | exact (rfl : (_ : Nat) = 10) | exact (rfl : (_ : Nat) = 11) | exact (rfl : (_ : Nat) = 12) | exact rfl)))
        | (apply RegQ.rOp (ty := 93); rfl; rfl; rfl; exact (IsV.fptr _ _))
        | (apply RegQ.rOpH (ty := 93); rfl; rfl; rfl; exact (IsV.ptr4 (by first | exact (rfl : (_ : Nat) = 0) | exact (rfl : (_ : Nat) = 1) | exact (rfl : (_ : Nat) = 2) | exact (rfl : (_ : Nat) = 3) | exact (rfl : (_ : Nat) = 4) | exact (rfl : (_ : Nat) = 5) | exact (rfl : (_ : Nat) = 6) | exact (rfl : (_ : Nat) = 7) | exact (rfl : (_ : Nat) = 8) | exact (rfl : (_ : Nat) = 9) | exact (rfl : (_ : Nat) = 10) | exact (rfl : (_ : Nat) = 11) | exact (rfl : (_ : Nat) = 12) | exact rfl) (by first | exact (rfl : (_ : Nat) = 0) | exact (rfl : (_ : Nat) = 1) | exact (rfl : (_ : Nat) = 2) | exact (rfl : (_ : Nat) = 3) | exact (rfl : (_ : Nat) = 4) | exact (rfl : (_ : Nat) = 5) | exact (rfl : (_ : Nat) = 6) | exact (rfl : (_ : Nat) = 7) | exact (rfl : (_ : Nat) = 8) | exact (rfl : (_ : Nat) = 9) | exact (rfl : (_ : Nat) = 10) | exact (rfl : (_ : Nat) = 11) | exact (rfl : (_ : Nat) = 12) | exact rfl) (by first | exact (rfl : (_ : Nat) = 0) | exact (rfl : (_ : Nat) = 1) | exact (rfl : (_ : Nat) = 2) | exact (rfl : (_ : Nat) = 3) | exact (rfl : (_ : Nat) = 4) | exact (rfl : (_ : Nat) = 5) | exact (rfl : (_ : Nat) = 6) | exact (rfl : (_ : Nat) = 7) | exact (rfl : (_ : Nat) = 8) | exact (rfl : (_ : Nat) = 9) | exact (rfl : (_ : Nat) = 10) | exact (rfl : (_ : Nat) = 11) | exact (rfl : (_ : Nat) = 12) | exact rfl) (by first | exact (rfl : (_ : Nat) = 0) | exact (rfl : (_ : Nat) = 1) | exact (rfl : (_ : Nat) = 2) | exact (rfl : (_ : Nat) = 3) | exact (rfl : (_ : Nat) = 4) | exact (rfl : (_ : Nat) = 5) | exact (rfl : (_ : Nat) = 6) | exact (rfl : (_ : Nat) = 7) | exact (rfl : (_ : Nat) = 8) | exact (rfl : (_ : Nat) = 9) | exact (rfl : (_ : Nat) = 10) | exact (rfl : (_ : Nat) = 11) | exact (rfl : (_ : Nat) = 12) | exact rfl)); exact (IsH.mk _ _ _ _ _ _ _ _ (by repeat' first | exact IsBL.nil | apply IsBL.cells | apply IsBL.cons | exact IsLL.nil | apply IsLL.cons | exact IsL.nil | exact IsV.int _ _ | exact IsV.str _ | exact IsV.slV _ _ _ | exact IsV.nils | exact IsV.bool _ | exact IsV.sl _ _ _ | apply IsL.cons | exact IsV.any _ | exact IsL.any _ | exact IsLL.any _ | exact IsBL.any _ | exact (rfl : (_ : Nat) = 1) | exact (rfl : (_ : Nat) = 2) | exact (rfl : (_ : Nat) = 3) | exact (rfl : (_ : Nat) = 4) | exact (rfl : (_ : Nat) = 5) | exact (rfl : (_ : Nat) = 6) | exact (rfl : (_ : Nat) = 7) | exact (rfl : (_ : Nat) = 8) | exact (rfl : (_ : Nat) = 9) | exact (rfl : (_ : Nat) = 10) | exact (rfl : (_ : Nat) = 11) | exact (rfl : (_ : Nat) = 12) | exact (rfl : (_ : Nat) = 256) | exact rfl) (by first | exact (rfl : (_ : Nat) = 0) | exact (rfl : (_ : Nat) = 1) | exact rfl) (by first | exact (rfl : (_ : List Nat) = []) | exact rfl) (by first | exact (rfl : (_ : Nat) = 0) | exact (rfl : (_ : Nat) = 1) | exact (rfl : (_ : Nat) = 2) | exact (rfl : (_ : Nat) = 3) | exact (rfl : (_ : Nat) = 4) | exact (rfl : (_ : Nat) = 5) | exact (rfl : (_ : Nat) = 6) | exact (rfl : (_ : Nat) = 7) | exact (rfl : (_ : Nat) = 8) | exact (rfl : (_ : Nat) = 9) | exact (rfl : (_ : Nat) = 10) | exact (rfl : (_ : Nat) = 11) | exact (rfl : (_ : Nat) = 12) | exact rfl)))
        | (apply RegQ.rIdx; rfl; rfl; rfl; rfl; rfl; rfl; rfl; rfl; assumption)
        | (apply RegQ.rOp (ty := 93); rfl; rfl; rfl; exact (IsV.fn _ _))
        | (apply RegQ.rOp (ty := 93); rfl; rfl; rfl; exact (IsV.tup _ _ (by repeat' first | exact IsL.nil | exact IsV.int _ _ | exact IsV.str _ | exact IsV.slV _ _ _ | exact IsV.nils | exact IsV.bool _ | exact IsV.sl _ _ _ | apply IsL.cons | apply IsV.agg | exact IsV.any _ | exact IsL.any _)))
        | intro hb
        | refine Wp.seq ?_
        | refine SeqQ.go ?_
        | refine Wp.region ?_
        | refine Wp.condT rfl ?_
        | refine Wp.condF rfl ?_
        | refine Wp.skip ?_
        | refine Wp.ret ?_
        | refine Wp.exit ?_
        | refine Wp.block ?_
        | refine SeqQ.ret ?_
        | refine SeqQ.exit ?_
        | refine BlockQ.go ?_
        | refine BlockQ.ret ?_
        | refine BlockQ.hit rfl ?_
        | refine BlockQ.miss rfl ?_
        | refine LoopI.ret ?_
        | refine LoopI.exit ?_
        | refine RetQ.end rfl rfl (IsV.int _ _) ?_
        | refine RetQ.end rfl rfl (IsV.bool _) ?_
        | refine RetQ.fin rfl (by repeat' first | exact IsL.nil | exact IsV.int _ _ | exact IsV.str _ | exact IsV.slV _ _ _ | exact IsV.nils | exact IsV.bool _ | exact IsV.sl _ _ _ | apply IsL.cons | apply IsV.agg | exact IsV.any _ | exact IsL.any _) ?_
        | refine RetM.fin rfl (by repeat' first | exact IsL.nil | exact IsV.int _ _ | exact IsV.str _ | exact IsV.slV _ _ _ | exact IsV.nils | exact IsV.bool _ | exact IsV.sl _ _ _ | apply IsL.cons | apply IsV.agg | exact IsV.any _ | exact IsL.any _) ?_
      · rw [hf]; rfl
      · exfalso; simp at hb; omega
    | false =>
      rw [hw] at hc hf
      repeat' first
        | refine RegQ.nil ?_
        | (apply RegQ.rCall; rfl; rfl; rfl; rfl; exact (hc); exact (IsV.int _ _))
        | (apply RegQ.rCall; rfl; rfl; rfl; rfl; exact (hc); exact (IsV.str _))
        | (apply RegQ.rCall; rfl; rfl; rfl; rfl; exact (hc); exact (IsV.agg _ _ (by repeat' first | exact IsL.nil | exact IsV.int _ _ | exact IsV.str _ | exact IsV.slV _ _ _ | exact IsV.nils | exact IsV.bool _ | exact IsV.sl _ _ _ | apply IsL.cons | apply IsV.agg | exact IsV.any _ | exact IsL.any _)))
        | (apply RegQ.rCall; rfl; rfl; rfl; rfl; exact (hc); exact (IsV.tup _ _ (by repeat' first | exact IsL.nil | exact IsV.int _ _ | exact IsV.str _ | exact IsV.slV _ _ _ | exact IsV.nils | exact IsV.bool _ | exact IsV.sl _ _ _ | apply IsL.cons | apply IsV.agg | exact IsV.any _ | exact IsL.any _)))
        | (apply RegQ.rCall; rfl; rfl; rfl; rfl; exact (hc); exact (IsV.any _))
        | (apply RegQ.rBi; rfl; rfl; rfl; rfl; assumption; exact (IsV.any _))
        | (apply RegQ.rIa; rfl; rfl; rfl; rfl; assumption; exact (IsV.any _))
        | (apply RegQ.rLd; rfl; rfl; rfl; assumption; exact (IsV.any _))
        | (apply RegQ.rOp (ty := 0); rfl; rfl; rfl; exact (IsV.fptr _ _))
        | (apply RegQ.rOpH (ty := 0); rfl; rfl; rfl; exact (IsV.ptr4 (by first | exact (rfl : (_ : Nat) = 0) | exact (rfl : (_ : Nat) = 1) | exact (rfl : (_ : Nat) = 2) | exact (rfl : (_ : Nat) = 3) | exact (rfl : (_ : Nat) = 4) | exact (rfl : (_ : Nat) = 5) | exact (rfl : (_ : Nat) = 6) | exact (rfl : (_ : Nat) = 7) | exact (rfl : (_ : Nat) = 8) | exact (rfl : (_ : Nat) = 9) | exact (rfl : (_ : Nat) = 10) | exact (rfl : (_ : Nat) = 11) | exact (rfl : (_ : Nat) = 12) | exact rfl) (by first | exact (rfl : (_ : Nat) = 0) | exact (rfl : (_ : Nat) = 1) | exact (rfl : (_ : Nat) = 2) | exact (rfl : (_ : Nat) = 3) | exact (rfl : (_ : Nat) = 4) | exact (rfl : (_ : Nat) = 5) | exact (rfl : (_ : Nat) = 6) | exact (rfl : (_ : Nat) = 7) | exact (rfl : (_ : Nat) = 8) | exact (rfl : (_ : Nat) = 9) | exact (rfl : (_ : Nat) = 10) | exact (rfl : (_ : Nat) = 11) | exact (rfl : (_ : Nat) = 12) | exact rfl) (by first | exact (rfl : (_ : Nat) = 0) | exact (rfl : (_ : Nat) = 1) | exact (rfl : (_ : Nat) = 2) | exact (rfl : (_ : Nat) = 3) | exact (rfl : (_ : Nat) = 4) | exact (rfl : (_ : Nat) = 5) | exact (rfl : (_ : Nat) = 6) | exact (rfl : (_ : Nat) = 7) | exact (rfl : (_ : Nat) = 8) | exact (rfl : (_ : Nat) = 9) | exact (rfl : (_ : Nat) = 10) | exact (rfl : (_ : Nat) = 11) | exact (rfl : (_ : Nat) = 12) | exact rfl) (by first | exact (rfl : (_ : Nat) = 0) | exact (rfl : (_ : Nat) = 1) | exact (rfl : (_ : Nat) = 2) | exact (rfl : (_ : Nat) = 3) | exact (rfl : (_ : Nat) = 4) | exact (rfl : (_ : Nat) = 5) | exact (rfl : (_ : Nat) = 6) | exact (rfl : (_ : Nat) = 7) | exact (rfl : (_ : Nat) = 8) | exact (rfl : (_ : Nat) = 9) | exact (rfl : (_ : Nat) = 10) | exact (rfl : (_ : Nat) = 11) | exact (rfl : (_ : Nat) = 12) | exact rfl)); exact (IsH.mk _ _ _ _ _ _ _ _ (by repeat' first | exact IsBL.nil | apply IsBL.cells | apply IsBL.cons | exact IsLL.nil | apply IsLL.cons | exact IsL.nil | exact IsV.int _ _ | exact IsV.str _ | exact IsV.slV _ _ _ | exact IsV.nils | exact IsV.bool _ | exact IsV.sl _ _ _ | apply IsL.cons | exact IsV.any _ | exact IsL.any _ | exact IsLL.any _ | exact IsBL.any _ | exact (rfl : (_ : Nat) = 1) | exact (rfl : (_ : Nat) = 2) | exact (rfl : (_ : Nat) = 3) | exact (rfl : (_ : Nat) = 4) | exact (rfl : (_ : Nat) = 5) | exact (rfl : (_ : Nat) = 6) | exact (rfl : (_ : Nat) = 7) | exact (rfl : (_ : Nat) = 8) | exact (rfl : (_ : Nat) = 9) | exact (rfl : (_ : Nat) = 10) | exact (rfl : (_ : Nat) = 11) | exact (rfl : (_ : Nat) = 12) | exact (rfl : (_ : Nat) = 256) | exact rfl) (by first | exact (rfl : (_ : Nat) = 0) | exact (rfl : (_ : Nat) = 1) | exact rfl) (by first | exact (rfl : (_ : List Nat) = []) | exact rfl) (by first | exact (rfl : (_ : Nat) = 0) | exact (rfl : (_ : Nat) = 1) | exact (rfl : (_ : Nat) = 2) | exact (rfl : (_ : Nat) = 3) | exact (rfl : (_ : Nat) = 4) | exact (rfl : (_ : Nat) = 5) | exact (rfl : (_ : Nat) = 6) | exact (rfl : (_ : Nat) = 7) | exact (rfl : (_ : Nat) = 8) | exact (rfl : (_ : Nat) = 9) | exact (rfl : (_ : Nat) = 10) | exact (rfl : (_ : Nat) = 11) | exact (rfl : (_ : Nat) = 12) | exact rfl)))
        | (apply RegQ.rIdx; rfl; rfl; rfl; rfl; rfl; rfl; rfl; rfl; assumption)
        | (apply RegQ.rOp (ty := 0); rfl; rfl; rfl; exact (IsV.bool true))
        | (apply RegQ.rOp (ty := 0); rfl; rfl; rfl; exact (IsV.bool false))
        | (apply RegQ.rB (ty := 0); rfl; rfl; rfl)
        | (apply RegQ.rOp (ty := 3); rfl; rfl; rfl; exact (IsV.int _ _))
        | (apply RegQ.rLen (ty := 3); rfl; rfl; rfl; rfl; rfl)
        | (apply RegQ.rOp (ty := 4); rfl; rfl; rfl; exact (IsV.bool true))
        | (apply RegQ.rOp (ty := 4); rfl; rfl; rfl; exact (IsV.bool false))
        | (apply RegQ.rB (ty := 4); rfl; rfl; rfl)
        | (apply RegQ.rOp (ty := 9); rfl; rfl; rfl; exact (IsV.str _))
        | (apply RegQ.rOp (ty := 22); rfl; rfl; rfl; exact (IsV.slV _ _ _))
        | (apply RegQ.rOp (ty := 22); rfl; rfl; rfl; exact IsV.nils)
        | (apply RegQ.rOpH (ty := 22); rfl; rfl; rfl; exact (IsV.sl _ _ _); exact (IsH.mk _ _ _ _ _ _ _ _ (by repeat' first | exact IsBL.nil | apply IsBL.cells | apply IsBL.cons | exact IsLL.nil | apply IsLL.cons | exact IsL.nil | exact IsV.int _ _ | exact IsV.str _ | exact IsV.slV _ _ _ | exact IsV.nils | exact IsV.bool _ | exact IsV.sl _ _ _ | apply IsL.cons | exact IsV.any _ | exact IsL.any _ | exact IsLL.any _ | exact IsBL.any _ | exact (rfl : (_ : Nat) = 1) | exact (rfl : (_ : Nat) = 2) | exact (rfl : (_ : Nat) = 3) | exact (rfl : (_ : Nat) = 4) | exact (rfl : (_ : Nat) = 5) | exact (rfl : (_ : Nat) = 6) | exact (rfl : (_ : Nat) = 7) | exact (rfl : (_ : Nat) = 8) | exact (rfl : (_ : Nat) = 9) | exact (rfl : (_ : Nat) = 10) | exact (rfl : (_ : Nat) = 11) | exact (rfl : (_ : Nat) = 12) | exact (rfl : (_ : Nat) = 256) | exact rfl) (by first | exact (rfl : (_ : Nat) = 0) | exact (rfl : (_ : Nat) = 1) | exact rfl) (by first | exact (rfl : (_ : List Nat) = []) | exact rfl) (by first | exact (rfl : (_ : Nat) = 0) | exact (rfl : (_ : Nat) = 1) | exact (rfl : (_ : Nat) = 2) | exact (rfl : (_ : Nat) = 3) | exact (rfl : (_ : Nat) = 4) | exact (rfl : (_ : Nat) = 5) | exact (rfl : (_ : Nat) = 6) | exact (rfl : (_ : Nat) = 7) | exact (rfl : (_ : Nat) = 8) | exact (rfl : (_ : Nat) = 9) | exact (rfl : (_ : Nat) = 10) | exact (rfl : (_ : Nat) = 11) | exact (rfl : (_ : Nat) = 12) | exact rfl)))
        | (apply RegQ.rOpH (ty := 22); rfl; rfl; rfl; exact (IsV.own _ _ _ _); exact (IsH.mk _ _ _ _ _ _ _ _ (by repeat' first | exact IsBL.nil | apply IsBL.cells | apply IsBL.cons | exact IsLL.nil | apply IsLL.cons | exact IsL.nil | exact IsV.int _ _ | exact IsV.str _ | exact IsV.slV _ _ _ | exact IsV.nils | exact IsV.bool _ | exact IsV.sl _ _ _ | apply IsL.cons | exact IsV.any _ | exact IsL.any _ | exact IsLL.any _ | exact IsBL.any _ | exact (rfl : (_ : Nat) = 1) | exact (rfl : (_ : Nat) = 2) | exact (rfl : (_ : Nat) = 3) | exact (rfl : (_ : Nat) = 4) | exact (rfl : (_ : Nat) = 5) | exact (rfl : (_ : Nat) = 6) | exact (rfl : (_ : Nat) = 7) | exact (rfl : (_ : Nat) = 8) | exact (rfl : (_ : Nat) = 9) | exact (rfl : (_ : Nat) = 10) | exact (rfl : (_ : Nat) = 11) | exact (rfl : (_ : Nat) = 12) | exact (rfl : (_ : Nat) = 256) | exact rfl) (by first | exact (rfl : (_ : Nat) = 0) | exact (rfl : (_ : Nat) = 1) | exact rfl) (by first | exact (rfl : (_ : List Nat) = []) | exact rfl) (by first | exact (rfl : (_ : Nat) = 0) | exact (rfl : (_ : Nat) = 1) | exact (rfl : (_ : Nat) = 2) | exact (rfl : (_ : Nat) = 3) | exact (rfl : (_ : Nat) = 4) | exact (rfl : (_ : Nat) = 5) | exact (rfl : (_ : Nat) = 6) | exact (rfl : (_ : Nat) = 7) | exact (rfl : (_ : Nat) = 8) | exact (rfl : (_ : Nat) = 9) | exact (rfl : (_ : Nat) = 10) | exact (rfl : (_ : Nat) = 11) | exact (rfl : (_ : Nat) = 12) | exact rfl)))
        | (apply RegQ.rOp (ty := 93); rfl; rfl; rfl; exact (IsV.fptr _ _))
        | (apply RegQ.rOpH (ty := 93); rfl; rfl; rfl; exact (IsV.ptr4 (by first | exact (rfl : (_ : Nat) = 0) | exact (rfl : (_ : Nat) = 1) | exact (rfl : (_ : Nat) = 2) | exact (rfl : (_ : Nat) = 3) | exact (rfl : (_ : Nat) = 4) | exact (rfl : (_ : Nat) = 5) | exact (rfl : (_ : Nat) = 6) | exact (rfl : (_ : Nat) = 7) | exact (rfl : (_ : Nat) = 8) | exact (rfl : (_ : Nat) = 9) | exact (rfl : (_ : Nat) = 10) | exact (rfl : (_ : Nat) = 11) | exact (rfl : (_ : Nat) = 12) | exact rfl) (by first | exact (rfl : (_ : Nat) = 0) | exact (rfl : (_ : Nat) = 1) | exact (rfl : (_ : Nat) = 2) | exact (rfl : (_ : Nat) = 3) | exact (rfl : (_ : Nat) = 4) | exact (rfl : (_ : Nat) = 5) | exact (rfl : (_ : Nat) = 6) | exact (rfl : (_ : Nat) = 7) | exact (rfl : (_ : Nat) = 8) | exact (rfl : (_ : Nat) = 9) | exact (rfl : (_ : Nat) = 10) | exact (rfl : (_ : Nat) = 11) | exact (rfl : (_ : Nat) = 12) | exact rfl) (by first | exact (rfl : (_ : Nat) = 0) | exact (rfl : (_ : Nat) = 1) | exact (rfl : (_ : Nat) = 2) | exact (rfl : (_ : Nat) = 3) | exact (rfl : (_ : Nat) = 4) | exact (rfl : (_ : Nat) = 5) | exact (rfl : (_ : Nat) = 6) | exact (rfl : (_ : Nat) = 7) | exact (rfl : (_ : Nat) = 8) | exact (rfl : (_ : Nat) = 9) | exact (rfl : (_ : Nat) = 10) | exact (rfl : (_ : Nat) = 11) | exact (rfl : (_ : Nat) = 12) | exact rfl) (by first | exact (rfl : (_ : Nat) = 0) | exact (rfl : (_ : Nat) = 1) | exact (rfl : (_ : Nat) = 2) | exact (rfl : (_ : Nat) = 3) | exact (rfl : (_ : Nat) = 4) | exact (rfl : (_ : Nat) = 5) | exact (rfl : (_ : Nat) = 6) | exact (rfl : (_ : Nat) = 7) | exact (rfl : (_ : Nat) = 8) | exact (rfl : (_ : Nat) = 9) | exact (rfl : (_ : Nat) = 10) | exact (rfl : (_ : Nat) = 11) | exact (rfl : (_ : Nat) = 12) | exact rfl)); exact (IsH.mk _ _ _ _ _ _ _ _ (by repeat' first | exact IsBL.nil | apply IsBL.cells | apply IsBL.cons | exact IsLL.nil | apply IsLL.cons | exact IsL.nil | exact IsV.int _ _ | exact IsV.str _ | exact IsV.slV _ _ _ | exact IsV.nils | exact IsV.bool _ | exact IsV.sl _ _ _ | apply IsL.cons | exact IsV.any _ | exact IsL.any _ | exact IsLL.any _ | exact IsBL.any _ | exact (rfl : (_ : Nat) = 1) | exact (rfl : (_ : Nat) = 2) | exact (rfl : (_ : Nat) = 3) | exact (rfl : (_ : Nat) = 4) | exact (rfl : (_ : Nat) = 5) | exact (rfl : (_ : Nat) = 6) | exact (rfl : (_ : Nat) = 7) | exact (rfl : (_ : Nat) = 8) | exact (rfl : (_ : Nat) = 9) | exact (rfl : (_ : Nat) = 10) | exact (rfl : (_ : Nat) = 11) | exact (rfl : (_ : Nat) = 12) | exact (rfl : (_ : Nat) = 256) | exact rfl) (by first | exact (rfl : (_ : Nat) = 0) | exact (rfl : (_ : Nat) = 1) | exact rfl) (by first | exact (rfl : (_ : List Nat) = []) | exact rfl) (by first | exact (rfl : (_ : Nat) = 0) | exact (rfl : (_ : Nat) = 1) | exact (rfl : (_ : Nat) = 2) | exact (rfl : (_ : Nat) = 3) | exact (rfl : (_ : Nat) = 4) | exact (rfl : (_ : Nat) = 5) | exact (rfl : (_ : Nat) = 6) | exact (rfl : (_ : Nat) = 7) | exact (rfl : (_ : Nat) = 8) | exact (rfl : (_ : Nat) = 9) | exact (rfl : (_ : Nat) = 10) | exact (rfl : (_ : Nat) = 11) | exact (rfl : (_ : Nat) = 12) | exact rfl)))
        | (apply RegQ.rIdx; rfl; rfl; rfl; rfl; rfl; rfl; rfl; rfl; assumption)
        | (apply RegQ.rOp (ty := 93); rfl; rfl; rfl; exact (IsV.fn _ _))
        | (apply RegQ.rOp (ty := 93); rfl; rfl; rfl; exact (IsV.tup _ _ (by repeat' first | exact IsL.nil | exact IsV.int _ _ | exact IsV.str _ | exact IsV.slV _ _ _ | exact IsV.nils | exact IsV.bool _ | exact IsV.sl _ _ _ | apply IsL.cons | apply IsV.agg | exact IsV.any _ | exact IsL.any _)))
        | intro hb
        | refine Wp.seq ?_
        | refine SeqQ.go ?_
        | refine Wp.region ?_
        | refine Wp.condT rfl ?_
        | refine Wp.condF rfl ?_
        | refine Wp.skip ?_
        | refine Wp.ret ?_
        | refine Wp.exit ?_
        | refine Wp.block ?_
        | refine SeqQ.ret ?_
        | refine SeqQ.exit ?_
        | refine BlockQ.go ?_
        | refine BlockQ.ret ?_
        | refine BlockQ.hit rfl ?_
        | refine BlockQ.miss rfl ?_
        | refine LoopI.ret ?_
        | refine LoopI.exit ?_
        | refine RetQ.end rfl rfl (IsV.int _ _) ?_
        | refine RetQ.end rfl rfl (IsV.bool _) ?_
        | refine RetQ.fin rfl (by repeat' first | exact IsL.nil | exact IsV.int _ _ | exact IsV.str _ | exact IsV.slV _ _ _ | exact IsV.nils | exact IsV.bool _ | exact IsV.sl _ _ _ | apply IsL.cons | apply IsV.agg | exact IsV.any _ | exact IsL.any _) ?_
        | refine RetM.fin rfl (by repeat' first | exact IsL.nil | exact IsV.int _ _ | exact IsV.str _ | exact IsV.slV _ _ _ | exact IsV.nils | exact IsV.bool _ | exact IsV.sl _ _ _ | apply IsL.cons | apply IsV.agg | exact IsV.any _ | exact IsL.any _) ?_
      · refine LoopI.go (m - 1) (by omega) ⟨i + 1, _, by omega, by rw [hf]; rfl, ovr_mk ⟨rfl, rfl, rfl, int_eq (wrap_nat (n := i + 1) (by omega)), trivial⟩, rfl⟩
      · exfalso; simp at hb; omega
  · have e : i = l.length := by omega
    subst e
    rw [List.drop_length] at hf
    repeat' first
      | refine RegQ.nil ?_
      | (apply RegQ.rBi; rfl; rfl; rfl; rfl; assumption; exact (IsV.any _))
      | (apply RegQ.rIa; rfl; rfl; rfl; rfl; assumption; exact (IsV.any _))
      | (apply RegQ.rLd; rfl; rfl; rfl; assumption; exact (IsV.any _))
      | (apply RegQ.rOp (ty := 0); rfl; rfl; rfl; exact (IsV.fptr _ _))
      | (apply RegQ.rOpH (ty := 0); rfl; rfl; rfl; exact (IsV.ptr4 (by first | exact (rfl : (_ : Nat) = 0) | exact (rfl : (_ : Nat) = 1) | exact (rfl : (_ : Nat) = 2) | exact (rfl : (_ : Nat) = 3) | exact (rfl : (_ : Nat) = 4) | exact (rfl : (_ : Nat) = 5) | exact (rfl : (_ : Nat) = 6) | exact (rfl : (_ : Nat) = 7) | exact (rfl : (_ : Nat) = 8) | exact (rfl : (_ : Nat) = 9) | exact (rfl : (_ : Nat) = 10) | exact (rfl : (_ : Nat) = 11) | exact (rfl : (_ : Nat) = 12) | exact rfl) (by first | exact (rfl : (_ : Nat) = 0) | exact (rfl : (_ : Nat) = 1) | exact (rfl : (_ : Nat) = 2) | exact (rfl : (_ : Nat) = 3) | exact (rfl : (_ : Nat) = 4) | exact (rfl : (_ : Nat) = 5) | exact (rfl : (_ : Nat) = 6) | exact (rfl : (_ : Nat) = 7) | exact (rfl : (_ : Nat) = 8) | exact (rfl : (_ : Nat) = 9) | exact (rfl : (_ : Nat) = 10) | exact (rfl : (_ : Nat) = 11) | exact (rfl : (_ : Nat) = 12) | exact rfl) (by first | exact (rfl : (_ : Nat) = 0) | exact (rfl : (_ : Nat) = 1) | exact (rfl : (_ : Nat) = 2) | exact (rfl : (_ : Nat) = 3) | exact (rfl : (_ : Nat) = 4) | exact (rfl : (_ : Nat) = 5) | exact (rfl : (_ : Nat) = 6) | exact (rfl : (_ : Nat) = 7) | exact (rfl : (_ : Nat) = 8) | exact (rfl : (_ : Nat) = 9) | exact (rfl : (_ : Nat) = 10) | exact (rfl : (_ : Nat) = 11) | exact (rfl : (_ : Nat) = 12) | exact rfl) (by first | exact (rfl : (_ : Nat) = 0) | exact (rfl : (_ : Nat) = 1) | exact (rfl : (_ : Nat) = 2) | exact (rfl : (_ : Nat) = 3) | exact (rfl : (_ : Nat) = 4) | exact (rfl : (_ : Nat) = 5) | exact (rfl : (_ : Nat) = 6) | exact (rfl : (_ : Nat) = 7) | exact (rfl : (_ : Nat) = 8) | exact (rfl : (_ : Nat) = 9) | exact (rfl : (_ : Nat) = 10) | exact (rfl : (_ : Nat) = 11) | exact (rfl : (_ : Nat) = 12) | exact rfl)); exact (IsH.mk _ _ _ _ _ _ _ _ (by repeat' first | exact IsBL.nil | apply IsBL.cells | apply IsBL.cons | exact IsLL.nil | apply IsLL.cons | exact IsL.nil | exact IsV.int _ _ | exact IsV.str _ | exact IsV.slV _ _ _ | exact IsV.nils | exact IsV.bool _ | exact IsV.sl _ _ _ | apply IsL.cons | exact IsV.any _ | exact IsL.any _ | exact IsLL.any _ | exact IsBL.any _ | exact (rfl : (_ : Nat) = 1) | exact (rfl : (_ : Nat) = 2) | exact (rfl : (_ : Nat) = 3) | exact (rfl : (_ : Nat) = 4) | exact (rfl : (_ : Nat) = 5) | exact (rfl : (_ : Nat) = 6) | exact (rfl : (_ : Nat) = 7) | exact (rfl : (_ : Nat) = 8) | exact (rfl : (_ : Nat) = 9) | exact (rfl : (_ : Nat) = 10) | exact (rfl : (_ : Nat) = 11) | exact (rfl : (_ : Nat) = 12) | exact (rfl : (_ : Nat) = 256) | exact rfl) (by first | exact (rfl : (_ : Nat) = 0) | exact (rfl : (_ : Nat) = 1) | exact rfl) (by first | exact (rfl : (_ : List Nat) = []) | exact rfl) (by first | exact (rfl : (_ : Nat) = 0) | exact (rfl : (_ : Nat) = 1) | exact (rfl : (_ : Nat) = 2) | exact (rfl : (_ : Nat) = 3) | exact (rfl : (_ : Nat) = 4) | exact (rfl : (_ : Nat) = 5) | exact (rfl : (_ : Nat) = 6) | exact (rfl : (_ : Nat) = 7) | exact (rfl : (_ : Nat) = 8) | exact (rfl : (_ : Nat) = 9) | exact (rfl : (_ : Nat) = 10) | exact (rfl : (_ : Nat) = 11) | exact (rfl : (_ : Nat) = 12) | exact rfl)))
      | (apply RegQ.rIdx; rfl; rfl; rfl; rfl; rfl; rfl; rfl; rfl; assumption)
      | (apply RegQ.rOp (ty := 0); rfl; rfl; rfl; exact (IsV.bool true))
      | (apply RegQ.rOp (ty := 0); rfl; rfl; rfl; exact (IsV.bool false))
      | (apply RegQ.rB (ty := 0); rfl; rfl; rfl)
      | (apply RegQ.rOp (ty := 3); rfl; rfl; rfl; exact (IsV.int _ _))
      | (apply RegQ.rLen (ty := 3); rfl; rfl; rfl; rfl; rfl)
      | (apply RegQ.rOp (ty := 4); rfl; rfl; rfl; exact (IsV.bool true))
      | (apply RegQ.rOp (ty := 4); rfl; rfl; rfl; exact (IsV.bool false))
      | (apply RegQ.rB (ty := 4); rfl; rfl; rfl)
      | (apply RegQ.rOp (ty := 9); rfl; rfl; rfl; exact (IsV.str _))
      | (apply RegQ.rOp (ty := 22); rfl; rfl; rfl; exact (IsV.slV _ _ _))
      | (apply RegQ.rOp (ty := 22); rfl; rfl; rfl; exact IsV.nils)
      | (apply RegQ.rOpH (ty := 22); rfl; rfl; rfl; exact (IsV.sl _ _ _); exact (IsH.mk _ _ _ _ _ _ _ _ (by repeat' first | exact IsBL.nil | apply IsBL.cells | apply IsBL.cons | exact IsLL.nil | apply IsLL.cons | exact IsL.nil | exact IsV.int _ _ | exact IsV.str _ | exact IsV.slV _ _ _ | exact IsV.nils | exact IsV.bool _ | exact IsV.sl _ _ _ | apply IsL.cons | exact IsV.any _ | exact IsL.any _ | exact IsLL.any _ | exact IsBL.any _ | exact (rfl : (_ : Nat) = 1) | exact (rfl : (_ : Nat) = 2) | exact (rfl : (_ : Nat) = 3) | exact (rfl : (_ : Nat) = 4) | exact (rfl : (_ : Nat) = 5) | exact (rfl : (_ : Nat) = 6) | exact (rfl : (_ : Nat) = 7) | exact (rfl : (_ : Nat) = 8) | exact (rfl : (_ : Nat) = 9) | exact (rfl : (_ : Nat) = 10) | exact (rfl : (_ : Nat) = 11) | exact (rfl : (_ : Nat) = 12) | exact (rfl : (_ : Nat) = 256) | exact rfl) (by first | exact (rfl : (_ : Nat) = 0) | exact (rfl : (_ : Nat) = 1) | exact rfl) (by first | exact (rfl : (_ : List Nat) = []) | exact rfl) (by first | exact (rfl : (_ : Nat) = 0) | exact (rfl : (_ : Nat) = 1) | exact (rfl : (_ : Nat) = 2) | exact (rfl : (_ : Nat) = 3) | exact (rfl : (_ : Nat) = 4) | exact (rfl : (_ : Nat) = 5) | exact (rfl : (_ : Nat) = 6) | exact (rfl : (_ : Nat) = 7) | exact (rfl : (_ : Nat) = 8) | exact (rfl : (_ : Nat) = 9) | exact (rfl : (_ : Nat) = 10) | exact (rfl : (_ : Nat) = 11) | exact (rfl : (_ : Nat) = 12) | exact rfl)))
      | (apply RegQ.rOpH (ty := 22); rfl; rfl; rfl; exact (IsV.own _ _ _ _); exact (IsH.mk _ _ _ _ _ _ _ _ (by repeat' first | exact IsBL.nil | apply IsBL.cells | apply IsBL.cons | exact IsLL.nil | apply IsLL.cons | exact IsL.nil | exact IsV.int _ _ | exact IsV.str _ | exact IsV.slV _ _ _ | exact IsV.nils | exact IsV.bool _ | exact IsV.sl _ _ _ | apply IsL.cons | exact IsV.any _ | exact IsL.any _ | exact IsLL.any _ | exact IsBL.any _ | exact (rfl : (_ : Nat) = 1) | exact (rfl : (_ : Nat) = 2) | exact (rfl : (_ : Nat) = 3) | exact (rfl : (_ : Nat) = 4) | exact (rfl : (_ : Nat) = 5) | exact (rfl : (_ : Nat) = 6) | exact (rfl : (_ : Nat) = 7) | exact (rfl : (_ : Nat) = 8) | exact (rfl : (_ : Nat) = 9) | exact (rfl : (_ : Nat) = 10) | exact (rfl : (_ : Nat) = 11) | exact (rfl : (_ : Nat) = 12) | exact (rfl : (_ : Nat) = 256) | exact rfl) (by first | exact (rfl : (_ : Nat) = 0) | exact (rfl : (_ : Nat) = 1) | exact rfl) (by first | exact (rfl : (_ : List Nat) = []) | exact rfl) (by first | exact (rfl : (_ : Nat) = 0) | exact (rfl : (_ : Nat) = 1) | exact (rfl : (_ : Nat) = 2) | exact (rfl : (_ : Nat) = 3) | exact (rfl : (_ : Nat) = 4) | exact (rfl : (_ : Nat) = 5) | exact (rfl : (_ : Nat) = 6) | exact (rfl : (_ : Nat) = 7) | exact (rfl : (_ : Nat) = 8) | exact (rfl : (_ : Nat) = 9) | exact (rfl : (_ : Nat) = 10) | exact (rfl : (_ : Nat) = 11) | exact (rfl : (_ : Nat) = 12) | exact rfl)))
      | (apply RegQ.rOp (ty := 93); rfl; rfl; rfl; exact (IsV.fptr _ _))
      | (apply RegQ.rOpH (ty := 93); rfl; rfl; rfl; exact (IsV.ptr4 (by first | exact (rfl : (_ : Nat) = 0) | exact (rfl : (_ : Nat) = 1) | exact (rfl : (_ : Nat) = 2) | exact (rfl : (_ : Nat) = 3) | exact (rfl : (_ : Nat) = 4) | exact (rfl : (_ : Nat) = 5) | exact (rfl : (_ : Nat) = 6) | exact (rfl : (_ : Nat) = 7) | exact (rfl : (_ : Nat) = 8) | exact (rfl : (_ : Nat) = 9) | exact (rfl : (_ : Nat) = 10) | exact (rfl : (_ : Nat) = 11) | exact (rfl : (_ : Nat) = 12) | exact rfl) (by first | exact (rfl : (_ : Nat) = 0) | exact (rfl : (_ : Nat) = 1) | exact (rfl : (_ : Nat) = 2) | exact (rfl : (_ : Nat) = 3) | exact (rfl : (_ : Nat) = 4) | exact (rfl : (_ : Nat) = 5) | exact (rfl : (_ : Nat) = 6) | exact (rfl : (_ : Nat) = 7) | exact (rfl : (_ : Nat) = 8) | exact (rfl : (_ : Nat) = 9) | exact (rfl : (_ : Nat) = 10) | exact (rfl : (_ : Nat) = 11) | exact (rfl : (_ : Nat) = 12) | exact rfl) (by first | exact (rfl : (_ : Nat) = 0) | exact (rfl : (_ : Nat) = 1) | exact (rfl : (_ : Nat) = 2) | exact (rfl : (_ : Nat) = 3) | exact (rfl : (_ : Nat) = 4) | exact (rfl : (_ : Nat) = 5) | exact (rfl : (_ : Nat) = 6) | exact (rfl : (_ : Nat) = 7) | exact (rfl : (_ : Nat) = 8) | exact (rfl : (_ : Nat) = 9) | exact (rfl : (_ : Nat) = 10) | exact (rfl : (_ : Nat) = 11) | exact (rfl : (_ : Nat) = 12) | exact rfl) (by first | exact (rfl : (_ : Nat) = 0) | exact (rfl : (_ : Nat) = 1) | exact (rfl : (_ : Nat) = 2) | exact (rfl : (_ : Nat) = 3) | exact (rfl : (_ : Nat) = 4) | exact (rfl : (_ : Nat) = 5) | exact (rfl : (_ : Nat) = 6) | exact (rfl : (_ : Nat) = 7) | exact (rfl : (_ : Nat) = 8) | exact (rfl : (_ : Nat) = 9) | exact (rfl : (_ : Nat) = 10) | exact (rfl : (_ : Nat) = 11) | exact (rfl : (_ : Nat) = 12) | exact rfl)); exact (IsH.mk _ _ _ _ _ _ _ _ (by repeat' first | exact IsBL.nil | apply IsBL.cells | apply IsBL.cons | exact IsLL.nil | apply IsLL.cons | exact IsL.nil | exact IsV.int _ _ | exact IsV.str _ | exact IsV.slV _ _ _ | exact IsV.nils | exact IsV.bool _ | exact IsV.sl _ _ _ | apply IsL.cons | exact IsV.any _ | exact IsL.any _ | exact IsLL.any _ | exact IsBL.any _ | exact (rfl : (_ : Nat) = 1) | exact (rfl : (_ : Nat) = 2) | exact (rfl : (_ : Nat) = 3) | exact (rfl : (_ : Nat) = 4) | exact (rfl : (_ : Nat) = 5) | exact (rfl : (_ : Nat) = 6) | exact (rfl : (_ : Nat) = 7) | exact (rfl : (_ : Nat) = 8) | exact (rfl : (_ : Nat) = 9) | exact (rfl : (_ : Nat) = 10) | exact (rfl : (_ : Nat) = 11) | exact (rfl : (_ : Nat) = 12) | exact (rfl : (_ : Nat) = 256) | exact rfl) (by first | exact (rfl : (_ : Nat) = 0) | exact (rfl : (_ : Nat) = 1) | exact rfl) (by first | exact (rfl : (_ : List Nat) = []) | exact rfl) (by first | exact (rfl : (_ : Nat) = 0) | exact (rfl : (_ : Nat) = 1) | exact (rfl : (_ : Nat) = 2) | exact (rfl : (_ : Nat) = 3) | exact (rfl : (_ : Nat) = 4) | exact (rfl : (_ : Nat) = 5) | exact (rfl : (_ : Nat) = 6) | exact (rfl : (_ : Nat) = 7) | exact (rfl : (_ : Nat) = 8) | exact (rfl : (_ : Nat) = 9) | exact (rfl : (_ : Nat) = 10) | exact (rfl : (_ : Nat) = 11) | exact (rfl : (_ : Nat) = 12) | exact rfl)))
      | (apply RegQ.rIdx; rfl; rfl; rfl; rfl; rfl; rfl; rfl; rfl; assumption)
      | (apply RegQ.rOp (ty := 93); rfl; rfl; rfl; exact (IsV.fn _ _))
      | (apply RegQ.rOp (ty := 93); rfl; rfl; rfl; exact (IsV.tup _ _ (by repeat' first | exact IsL.nil | exact IsV.int _ _ | exact IsV.str _ | exact IsV.slV _ _ _ | exact IsV.nils | exact IsV.bool _ | exact IsV.sl _ _ _ | apply IsL.cons | apply IsV.agg | exact IsV.any _ | exact IsL.any _)))
      | intro hb
      | refine Wp.seq ?_
      | refine SeqQ.go ?_
      | refine Wp.region ?_
      | refine Wp.condT rfl ?_
      | refine Wp.condF rfl ?_
      | refine Wp.skip ?_
      | refine Wp.ret ?_
      | refine Wp.exit ?_
      | refine Wp.block ?_
      | refine SeqQ.ret ?_
      | refine SeqQ.exit ?_
      | refine BlockQ.go ?_
      | refine BlockQ.ret ?_
      | refine BlockQ.hit rfl ?_
      | refine BlockQ.miss rfl ?_
      | refine LoopI.ret ?_
      | refine LoopI.exit ?_
      | refine RetQ.end rfl rfl (IsV.int _ _) ?_
      | refine RetQ.end rfl rfl (IsV.bool _) ?_
      | refine RetQ.fin rfl (by repeat' first | exact IsL.nil | exact IsV.int _ _ | exact IsV.str _ | exact IsV.slV _ _ _ | exact IsV.nils | exact IsV.bool _ | exact IsV.sl _ _ _ | apply IsL.cons | apply IsV.agg | exact IsV.any _ | exact IsL.any _) ?_
      | refine RetM.fin rfl (by repeat' first | exact IsL.nil | exact IsV.int _ _ | exact IsV.str _ | exact IsV.slV _ _ _ | exact IsV.nils | exact IsV.bool _ | exact IsV.sl _ _ _ | apply IsL.cons | apply IsV.agg | exact IsV.any _ | exact IsL.any _) ?_
    · exfalso; simp at hb
    · rw [hf]; rfl

theorem c110 {l : List Bs} {nm : Bs} (hl : ∀ x, x ∈ l → x.length ≤ 1000) (hll : l.length ≤ maxLen) (hn : nm.length ≤ 1000) (b : Bool) (ro : Nat) (lv : List Nat) (nt : Nat) :
    CallOk E0 Tryz.prog 110 [slV b 1 (partsC l), .fn 111 [.ptr 0 1 0 0]] (nmH nm ro lv nt) (.bool (l.any (withinB nm))) (nmH nm ro lv nt) := by
  refine callOk_wpH (own := fun _ => false) tOk fe110.ok ?_
  have ea : [slV b 1 (partsC l), .fn 111 [.ptr 0 1 0 0]].map argV = [slV b 1 (partsC l), .fn 111 [.ptr 0 1 0 0]] := by
    simp only [List.map_cons, List.map_nil, argV_slV]; rfl
  rw [ea]
  have hc := c169 hl hll hn b 1 [] nt
  have hany := firstI_any (withinB nm) l 0
  refine Wp.seq ?_
  repeat' first
    | refine RegQ.nil ?_
    | (apply RegQ.rCall; rfl; rfl; rfl; rfl; exact (hc); exact (IsV.int _ _))
    | (apply RegQ.rCall; rfl; rfl; rfl; rfl; exact (hc); exact (IsV.str _))
    | (apply RegQ.rCall; rfl; rfl; rfl; rfl; exact (hc); exact (IsV.agg _ _ (by repeat' first | exact IsL.nil | exact IsV.int _ _ | exact IsV.str _ | exact IsV.slV _ _ _ | exact IsV.nils | exact IsV.bool _ | exact IsV.sl _ _ _ | apply IsL.cons | apply IsV.agg | exact IsV.any _ | exact IsL.any _)))
    | (apply RegQ.rCall; rfl; rfl; rfl; rfl; exact (hc); exact (IsV.tup _ _ (by repeat' first | exact IsL.nil | exact IsV.int _ _ | exact IsV.str _ | exact IsV.slV _ _ _ | exact IsV.nils | exact IsV.bool _ | exact IsV.sl _ _ _ | apply IsL.cons | apply IsV.agg | exact IsV.any _ | exact IsL.any _)))
    | (apply RegQ.rCall; rfl; rfl; rfl; rfl; exact (hc); exact (IsV.any _))
    | (apply RegQ.rOp (ty := 3); rfl; rfl; rfl; exact (IsV.int _ _))
    | (apply RegQ.rOp (ty := 4); rfl; rfl; rfl; exact (IsV.bool true))
    | (apply RegQ.rOp (ty := 4); rfl; rfl; rfl; exact (IsV.bool false))
    | (apply RegQ.rB (ty := 4); rfl; rfl; rfl)
    | (apply RegQ.rOp (ty := 22); rfl; rfl; rfl; exact (IsV.slV _ _ _))
    | (apply RegQ.rOp (ty := 22); rfl; rfl; rfl; exact IsV.nils)
    | (apply RegQ.rOpH (ty := 22); rfl; rfl; rfl; exact (IsV.sl _ _ _); exact (IsH.mk _ _ _ _ _ _ _ _ (by repeat' first | exact IsBL.nil | apply IsBL.cells | apply IsBL.cons | exact IsLL.nil | apply IsLL.cons | exact IsL.nil | exact IsV.int _ _ | exact IsV.str _ | exact IsV.slV _ _ _ | exact IsV.nils | exact IsV.bool _ | exact IsV.sl _ _ _ | apply IsL.cons | exact IsV.any _ | exact IsL.any _ | exact IsLL.any _ | exact IsBL.any _ | exact (rfl : (_ : Nat) = 1) | exact (rfl : (_ : Nat) = 2) | exact (rfl : (_ : Nat) = 3) | exact (rfl : (_ : Nat) = 4) | exact (rfl : (_ : Nat) = 5) | exact (rfl : (_ : Nat) = 6) | exact (rfl : (_ : Nat) = 7) | exact (rfl : (_ : Nat) = 8) | exact (rfl : (_ : Nat) = 9) | exact (rfl : (_ : Nat) = 10) | exact (rfl : (_ : Nat) = 11) | exact (rfl : (_ : Nat) = 12) | exact (rfl : (_ : Nat) = 256) | exact rfl) (by first | exact (rfl : (_ : Nat) = 0) | exact (rfl : (_ : Nat) = 1) | exact rfl) (by first | exact (rfl : (_ : List Nat) = []) | exact rfl) (by first | exact (rfl : (_ : Nat) = 0) | exact (rfl : (_ : Nat) = 1) | exact (rfl : (_ : Nat) = 2) | exact (rfl : (_ : Nat) = 3) | exact (rfl : (_ : Nat) = 4) | exact (rfl : (_ : Nat) = 5) | exact (rfl : (_ : Nat) = 6) | exact (rfl : (_ : Nat) = 7) | exact (rfl : (_ : Nat) = 8) | exact (rfl : (_ : Nat) = 9) | exact (rfl : (_ : Nat) = 10) | exact (rfl : (_ : Nat) = 11) | exact (rfl : (_ : Nat) = 12) | exact rfl)))
    | (apply RegQ.rOpH (ty := 22); rfl; rfl; rfl; exact (IsV.own _ _ _ _); exact (IsH.mk _ _ _ _ _ _ _ _ (by repeat' first | exact IsBL.nil | apply IsBL.cells | apply IsBL.cons | exact IsLL.nil | apply IsLL.cons | exact IsL.nil | exact IsV.int _ _ | exact IsV.str _ | exact IsV.slV _ _ _ | exact IsV.nils | exact IsV.bool _ | exact IsV.sl _ _ _ | apply IsL.cons | exact IsV.any _ | exact IsL.any _ | exact IsLL.any _ | exact IsBL.any _ | exact (rfl : (_ : Nat) = 1) | exact (rfl : (_ : Nat) = 2) | exact (rfl : (_ : Nat) = 3) | exact (rfl : (_ : Nat) = 4) | exact (rfl : (_ : Nat) = 5) | exact (rfl : (_ : Nat) = 6) | exact (rfl : (_ : Nat) = 7) | exact (rfl : (_ : Nat) = 8) | exact (rfl : (_ : Nat) = 9) | exact (rfl : (_ : Nat) = 10) | exact (rfl : (_ : Nat) = 11) | exact (rfl : (_ : Nat) = 12) | exact (rfl : (_ : Nat) = 256) | exact rfl) (by first | exact (rfl : (_ : Nat) = 0) | exact (rfl : (_ : Nat) = 1) | exact rfl) (by first | exact (rfl : (_ : List Nat) = []) | exact rfl) (by first | exact (rfl : (_ : Nat) = 0) | exact (rfl : (_ : Nat) = 1) | exact (rfl : (_ : Nat) = 2) | exact (rfl : (_ : Nat) = 3) | exact (rfl : (_ : Nat) = 4) | exact (rfl : (_ : Nat) = 5) | exact (rfl : (_ : Nat) = 6) | exact (rfl : (_ : Nat) = 7) | exact (rfl : (_ : Nat) = 8) | exact (rfl : (_ : Nat) = 9) | exact (rfl : (_ : Nat) = 10) | exact (rfl : (_ : Nat) = 11) | exact (rfl : (_ : Nat) = 12) | exact rfl)))
    | (apply RegQ.rOp (ty := 93); rfl; rfl; rfl; exact (IsV.fptr _ _))
    | (apply RegQ.rOpH (ty := 93); rfl; rfl; rfl; exact (IsV.ptr4 (by first | exact (rfl : (_ : Nat) = 0) | exact (rfl : (_ : Nat) = 1) | exact (rfl : (_ : Nat) = 2) | exact (rfl : (_ : Nat) = 3) | exact (rfl : (_ : Nat) = 4) | exact (rfl : (_ : Nat) = 5) | exact (rfl : (_ : Nat) = 6) | exact (rfl : (_ : Nat) = 7) | exact (rfl : (_ : Nat) = 8) | exact (rfl : (_ : Nat) = 9) | exact (rfl : (_ : Nat) = 10) | exact (rfl : (_ : Nat) = 11) | exact (rfl : (_ : Nat) = 12) | exact rfl) (by first | exact (rfl : (_ : Nat) = 0) | exact (rfl : (_ : Nat) = 1) | exact (rfl : (_ : Nat) = 2) | exact (rfl : (_ : Nat) = 3) | exact (rfl : (_ : Nat) = 4) | exact (rfl : (_ : Nat) = 5) | exact (rfl : (_ : Nat) = 6) | exact (rfl : (_ : Nat) = 7) | exact (rfl : (_ : Nat) = 8) | exact (rfl : (_ : Nat) = 9) | exact (rfl : (_ : Nat) = 10) | exact (rfl : (_ : Nat) = 11) | exact (rfl : (_ : Nat) = 12) | exact rfl) (by first | exact (rfl : (_ : Nat) = 0) | exact (rfl : (_ : Nat) = 1) | exact (rfl : (_ : Nat) = 2) | exact (rfl : (_ : Nat) = 3) | exact (rfl : (_ : Nat) = 4) | exact (rfl : (_ : Nat) = 5) | exact (rfl : (_ : Nat) = 6) | exact (rfl : (_ : Nat) = 7) | exact (rfl : (_ : Nat) = 8) | exact (rfl : (_ : Nat) = 9) | exact (rfl : (_ : Nat) = 10) | exact (rfl : (_ : Nat) = 11) | exact (rfl : (_ : Nat) = 12) | exact rfl) (by first | exact (rfl : (_ : Nat) = 0) | exact (rfl : (_ : Nat) = 1) | exact (rfl : (_ : Nat) = 2) | exact (rfl : (_ : Nat) = 3) | exact (rfl : (_ : Nat) = 4) | exact (rfl : (_ : Nat) = 5) | exact (rfl : (_ : Nat) = 6) | exact (rfl : (_ : Nat) = 7) | exact (rfl : (_ : Nat) = 8) | exact (rfl : (_ : Nat) = 9) | exact (rfl : (_ : Nat) = 10) | exact (rfl : (_ : Nat) = 11) | exact (rfl : (_ : Nat) = 12) | exact rfl)); exact (IsH.mk _ _ _ _ _ _ _ _ (by repeat' first | exact IsBL.nil | apply IsBL.cells | apply IsBL.cons | exact IsLL.nil | apply IsLL.cons | exact IsL.nil | exact IsV.int _ _ | exact IsV.str _ | exact IsV.slV _ _ _ | exact IsV.nils | exact IsV.bool _ | exact IsV.sl _ _ _ | apply IsL.cons | exact IsV.any _ | exact IsL.any _ | exact IsLL.any _ | exact IsBL.any _ | exact (rfl : (_ : Nat) = 1) | exact (rfl : (_ : Nat) = 2) | exact (rfl : (_ : Nat) = 3) | exact (rfl : (_ : Nat) = 4) | exact (rfl : (_ : Nat) = 5) | exact (rfl : (_ : Nat) = 6) | exact (rfl : (_ : Nat) = 7) | exact (rfl : (_ : Nat) = 8) | exact (rfl : (_ : Nat) = 9) | exact (rfl : (_ : Nat) = 10) | exact (rfl : (_ : Nat) = 11) | exact (rfl : (_ : Nat) = 12) | exact (rfl : (_ : Nat) = 256) | exact rfl) (by first | exact (rfl : (_ : Nat) = 0) | exact (rfl : (_ : Nat) = 1) | exact rfl) (by first | exact (rfl : (_ : List Nat) = []) | exact rfl) (by first | exact (rfl : (_ : Nat) = 0) | exact (rfl : (_ : Nat) = 1) | exact (rfl : (_ : Nat) = 2) | exact (rfl : (_ : Nat) = 3) | exact (rfl : (_ : Nat) = 4) | exact (rfl : (_ : Nat) = 5) | exact (rfl : (_ : Nat) = 6) | exact (rfl : (_ : Nat) = 7) | exact (rfl : (_ : Nat) = 8) | exact (rfl : (_ : Nat) = 9) | exact (rfl : (_ : Nat) = 10) | exact (rfl : (_ : Nat) = 11) | exact (rfl : (_ : Nat) = 12) | exact rfl)))
    | (apply RegQ.rOp (ty := 93); rfl; rfl; rfl; exact (IsV.fn _ _))
    | (apply RegQ.rOp (ty := 93); rfl; rfl; rfl; exact (IsV.tup _ _ (by repeat' first | exact IsL.nil | exact IsV.int _ _ | exact IsV.str _ | exact IsV.slV _ _ _ | exact IsV.nils | exact IsV.bool _ | exact IsV.sl _ _ _ | apply IsL.cons | apply IsV.agg | exact IsV.any _ | exact IsL.any _)))
    | intro hb
    | refine Wp.seq ?_
    | refine SeqQ.go ?_
    | refine Wp.region ?_
    | refine Wp.condT rfl ?_
    | refine Wp.condF rfl ?_
    | refine Wp.skip ?_
    | refine Wp.ret ?_
    | refine Wp.exit ?_
    | refine Wp.block ?_
    | refine SeqQ.ret ?_
    | refine SeqQ.exit ?_
    | refine BlockQ.go ?_
    | refine BlockQ.ret ?_
    | refine BlockQ.hit rfl ?_
    | refine BlockQ.miss rfl ?_
    | refine LoopI.ret ?_
    | refine LoopI.exit ?_
    | refine RetQ.end rfl rfl (IsV.int _ _) ?_
    | refine RetQ.end rfl rfl (IsV.bool _) ?_
    | refine RetQ.fin rfl (by repeat' first | exact IsL.nil | exact IsV.int _ _ | exact IsV.str _ | exact IsV.slV _ _ _ | exact IsV.nils | exact IsV.bool _ | exact IsV.sl _ _ _ | apply IsL.cons | apply IsV.agg | exact IsV.any _ | exact IsL.any _) ?_
    | refine RetM.fin rfl (by repeat' first | exact IsL.nil | exact IsV.int _ _ | exact IsV.str _ | exact IsV.slV _ _ _ | exact IsV.nils | exact IsV.bool _ | exact IsV.sl _ _ _ | apply IsL.cons | apply IsV.agg | exact IsV.any _ | exact IsL.any _) ?_
  all_goals (rw [← hany, hb]; rfl)

theorem frzGL_slS (b : Bool) (es : Nat) (el : List (List PV)) (s : Bs) : frzGL [slV b es el, .str s] = some [slV b es el, .str s] := by
  simp only [frzGL, frzG_slV]; rfl

theorem c67 {l : List Bs} {nm : Bs} (hl : ∀ x, x ∈ l → x.length ≤ 1000) (hll : l.length ≤ maxLen) (hn : nm.length ≤ 1000) (b : Bool) :
    ∀ H, CallOk E0 Tryz.prog 67 [slV b 1 (partsC l), .str nm] H (.bool (l.any (withinB nm))) H := by
  have hc := fun ro lv nt => c110 hl hll hn b ro lv nt
  refine callOk_wp (own := fun _ => false) tOk fe67.ok (frzGL_slS _ _ _ _) rfl ?_
  refine Wp.seq ?_
  repeat' first
    | refine RegQ.nil ?_
    | (apply RegQ.rCall; rfl; rfl; rfl; rfl; exact (hc _ _ _); exact (IsV.int _ _))
    | (apply RegQ.rCall; rfl; rfl; rfl; rfl; exact (hc _ _ _); exact (IsV.str _))
    | (apply RegQ.rCall; rfl; rfl; rfl; rfl; exact (hc _ _ _); exact (IsV.agg _ _ (by repeat' first | exact IsL.nil | exact IsV.int _ _ | exact IsV.str _ | exact IsV.slV _ _ _ | exact IsV.nils | exact IsV.bool _ | exact IsV.sl _ _ _ | apply IsL.cons | apply IsV.agg | exact IsV.any _ | exact IsL.any _)))
    | (apply RegQ.rCall; rfl; rfl; rfl; rfl; exact (hc _ _ _); exact (IsV.tup _ _ (by repeat' first | exact IsL.nil | exact IsV.int _ _ | exact IsV.str _ | exact IsV.slV _ _ _ | exact IsV.nils | exact IsV.bool _ | exact IsV.sl _ _ _ | apply IsL.cons | apply IsV.agg | exact IsV.any _ | exact IsL.any _)))
    | (apply RegQ.rCall; rfl; rfl; rfl; rfl; exact (hc _ _ _); exact (IsV.any _))
    | (apply RegQ.rOp (ty := 0); rfl; rfl; rfl; exact (IsV.fptr _ _))
    | (apply RegQ.rOpH (ty := 0); rfl; rfl; rfl; exact (IsV.ptr4 (by first | exact (rfl : (_ : Nat) = 0) | exact (rfl : (_ : Nat) = 1) | exact (rfl : (_ : Nat) = 2) | exact (rfl : (_ : Nat) = 3) | exact (rfl : (_ : Nat) = 4) | exact (rfl : (_ : Nat) = 5) | exact (rfl : (_ : Nat) = 6) | exact (rfl : (_ : Nat) = 7) | exact (rfl : (_ : Nat) = 8) | exact (rfl : (_ : Nat) = 9) | exact (rfl : (_ : Nat) = 10) | exact (rfl : (_ : Nat) = 11) | exact (rfl : (_ : Nat) = 12) | exact rfl) (by first | exact (rfl : (_ : Nat) = 0) | exact (rfl : (_ : Nat) = 1) | exact (rfl : (_ : Nat) = 2) | exact (rfl : (_ : Nat) = 3) | exact (rfl : (_ : Nat) = 4) | exact (rfl : (_ : Nat) = 5) | exact (rfl : (_ : Nat) = 6) | exact (rfl : (_ : Nat) = 7) | exact (rfl : (_ : Nat) = 8) | exact (rfl : (_ : Nat) = 9) | exact (rfl : (_ : Nat) = 10) | exact (rfl : (_ : Nat) = 11) | exact (rfl : (_ : Nat) = 12) | exact rfl) (by first | exact (rfl : (_ : Nat) = 0) | exact (rfl : (_ : Nat) = 1) | exact (rfl : (_ : Nat) = 2) | exact (rfl : (_ : Nat) = 3) | exact (rfl : (_ : Nat) = 4) | exact (rfl : (_ : Nat) = 5) | exact (rfl : (_ : Nat) = 6) | exact (rfl : (_ : Nat) = 7) | exact (rfl : (_ : Nat) = 8) | exact (rfl : (_ : Nat) = 9) | exact (rfl : (_ : Nat) = 10) | exact (rfl : (_ : Nat) = 11) | exact (rfl : (_ : Nat) = 12) | exact rfl) (by first | exact (rfl : (_ : Nat) = 0) | exact (rfl : (_ : Nat) = 1) | exact (rfl : (_ : Nat) = 2) | exact (rfl : (_ : Nat) = 3) | exact (rfl : (_ : Nat) = 4) | exact (rfl : (_ : Nat) = 5) | exact (rfl : (_ : Nat) = 6) | exact (rfl : (_ : Nat) = 7) | exact (rfl : (_ : Nat) = 8) | exact (rfl : (_ : Nat) = 9) | exact (rfl : (_ : Nat) = 10) | exact (rfl : (_ : Nat) = 11) | exact (rfl : (_ : Nat) = 12) | exact rfl)); exact (IsH.mk _ _ _ _ _ _ _ _ (by repeat' first | exact IsBL.nil | apply IsBL.cells | apply IsBL.cons | exact IsLL.nil | apply IsLL.cons | exact IsL.nil | exact IsV.int _ _ | exact IsV.str _ | exact IsV.slV _ _ _ | exact IsV.nils | exact IsV.bool _ | exact IsV.sl _ _ _ | apply IsL.cons | exact IsV.any _ | exact IsL.any _ | exact IsLL.any _ | exact IsBL.any _ | exact (rfl : (_ : Nat) = 1) | exact (rfl : (_ : Nat) = 2) | exact (rfl : (_ : Nat) = 3) | exact (rfl : (_ : Nat) = 4) | exact (rfl : (_ : Nat) = 5) | exact (rfl : (_ : Nat) = 6) | exact (rfl : (_ : Nat) = 7) | exact (rfl : (_ : Nat) = 8) | exact (rfl : (_ : Nat) = 9) | exact (rfl : (_ : Nat) = 10) | exact (rfl : (_ : Nat) = 11) | exact (rfl : (_ : Nat) = 12) | exact (rfl : (_ : Nat) = 256) | exact rfl) (by first | exact (rfl : (_ : Nat) = 0) | exact (rfl : (_ : Nat) = 1) | exact rfl) (by first | exact (rfl : (_ : List Nat) = []) | exact rfl) (by first | exact (rfl : (_ : Nat) = 0) | exact (rfl : (_ : Nat) = 1) | exact (rfl : (_ : Nat) = 2) | exact (rfl : (_ : Nat) = 3) | exact (rfl : (_ : Nat) = 4) | exact (rfl : (_ : Nat) = 5) | exact (rfl : (_ : Nat) = 6) | exact (rfl : (_ : Nat) = 7) | exact (rfl : (_ : Nat) = 8) | exact (rfl : (_ : Nat) = 9) | exact (rfl : (_ : Nat) = 10) | exact (rfl : (_ : Nat) = 11) | exact (rfl : (_ : Nat) = 12) | exact rfl)))
    | (apply RegQ.rOp (ty := 4); rfl; rfl; rfl; exact (IsV.bool true))
    | (apply RegQ.rOp (ty := 4); rfl; rfl; rfl; exact (IsV.bool false))
    | (apply RegQ.rB (ty := 4); rfl; rfl; rfl)
    | (apply RegQ.rOp (ty := 22); rfl; rfl; rfl; exact (IsV.slV _ _ _))
    | (apply RegQ.rOp (ty := 22); rfl; rfl; rfl; exact IsV.nils)
    | (apply RegQ.rOpH (ty := 22); rfl; rfl; rfl; exact (IsV.sl _ _ _); exact (IsH.mk _ _ _ _ _ _ _ _ (by repeat' first | exact IsBL.nil | apply IsBL.cells | apply IsBL.cons | exact IsLL.nil | apply IsLL.cons | exact IsL.nil | exact IsV.int _ _ | exact IsV.str _ | exact IsV.slV _ _ _ | exact IsV.nils | exact IsV.bool _ | exact IsV.sl _ _ _ | apply IsL.cons | exact IsV.any _ | exact IsL.any _ | exact IsLL.any _ | exact IsBL.any _ | exact (rfl : (_ : Nat) = 1) | exact (rfl : (_ : Nat) = 2) | exact (rfl : (_ : Nat) = 3) | exact (rfl : (_ : Nat) = 4) | exact (rfl : (_ : Nat) = 5) | exact (rfl : (_ : Nat) = 6) | exact (rfl : (_ : Nat) = 7) | exact (rfl : (_ : Nat) = 8) | exact (rfl : (_ : Nat) = 9) | exact (rfl : (_ : Nat) = 10) | exact (rfl : (_ : Nat) = 11) | exact (rfl : (_ : Nat) = 12) | exact (rfl : (_ : Nat) = 256) | exact rfl) (by first | exact (rfl : (_ : Nat) = 0) | exact (rfl : (_ : Nat) = 1) | exact rfl) (by first | exact (rfl : (_ : List Nat) = []) | exact rfl) (by first | exact (rfl : (_ : Nat) = 0) | exact (rfl : (_ : Nat) = 1) | exact (rfl : (_ : Nat) = 2) | exact (rfl : (_ : Nat) = 3) | exact (rfl : (_ : Nat) = 4) | exact (rfl : (_ : Nat) = 5) | exact (rfl : (_ : Nat) = 6) | exact (rfl : (_ : Nat) = 7) | exact (rfl : (_ : Nat) = 8) | exact (rfl : (_ : Nat) = 9) | exact (rfl : (_ : Nat) = 10) | exact (rfl : (_ : Nat) = 11) | exact (rfl : (_ : Nat) = 12) | exact rfl)))
    | (apply RegQ.rOpH (ty := 22); rfl; rfl; rfl; exact (IsV.own _ _ _ _); exact (IsH.mk _ _ _ _ _ _ _ _ (by repeat' first | exact IsBL.nil | apply IsBL.cells | apply IsBL.cons | exact IsLL.nil | apply IsLL.cons | exact IsL.nil | exact IsV.int _ _ | exact IsV.str _ | exact IsV.slV _ _ _ | exact IsV.nils | exact IsV.bool _ | exact IsV.sl _ _ _ | apply IsL.cons | exact IsV.any _ | exact IsL.any _ | exact IsLL.any _ | exact IsBL.any _ | exact (rfl : (_ : Nat) = 1) | exact (rfl : (_ : Nat) = 2) | exact (rfl : (_ : Nat) = 3) | exact (rfl : (_ : Nat) = 4) | exact (rfl : (_ : Nat) = 5) | exact (rfl : (_ : Nat) = 6) | exact (rfl : (_ : Nat) = 7) | exact (rfl : (_ : Nat) = 8) | exact (rfl : (_ : Nat) = 9) | exact (rfl : (_ : Nat) = 10) | exact (rfl : (_ : Nat) = 11) | exact (rfl : (_ : Nat) = 12) | exact (rfl : (_ : Nat) = 256) | exact rfl) (by first | exact (rfl : (_ : Nat) = 0) | exact (rfl : (_ : Nat) = 1) | exact rfl) (by first | exact (rfl : (_ : List Nat) = []) | exact rfl) (by first | exact (rfl : (_ : Nat) = 0) | exact (rfl : (_ : Nat) = 1) | exact (rfl : (_ : Nat) = 2) | exact (rfl : (_ : Nat) = 3) | exact (rfl : (_ : Nat) = 4) | exact (rfl : (_ : Nat) = 5) | exact (rfl : (_ : Nat) = 6) | exact (rfl : (_ : Nat) = 7) | exact (rfl : (_ : Nat) = 8) | exact (rfl : (_ : Nat) = 9) | exact (rfl : (_ : Nat) = 10) | exact (rfl : (_ : Nat) = 11) | exact (rfl : (_ : Nat) = 12) | exact rfl)))
    | (apply RegQ.rOp (ty := 93); rfl; rfl; rfl; exact (IsV.fptr _ _))
    | (apply RegQ.rOpH (ty := 93); rfl; rfl; rfl; exact (IsV.ptr4 (by first | exact (rfl : (_ : Nat) = 0) | exact (rfl : (_ : Nat) = 1) | exact (rfl : (_ : Nat) = 2) | exact (rfl : (_ : Nat) = 3) | exact (rfl : (_ : Nat) = 4) | exact (rfl : (_ : Nat) = 5) | exact (rfl : (_ : Nat) = 6) | exact (rfl : (_ : Nat) = 7) | exact (rfl : (_ : Nat) = 8) | exact (rfl : (_ : Nat) = 9) | exact (rfl : (_ : Nat) = 10) | exact (rfl : (_ : Nat) = 11) | exact (rfl : (_ : Nat) = 12) | exact rfl) (by first | exact (rfl : (_ : Nat) = 0) | exact (rfl : (_ : Nat) = 1) | exact (rfl : (_ : Nat) = 2) | exact (rfl : (_ : Nat) = 3) | exact (rfl : (_ : Nat) = 4) | exact (rfl : (_ : Nat) = 5) | exact (rfl : (_ : Nat) = 6) | exact (rfl : (_ : Nat) = 7) | exact (rfl : (_ : Nat) = 8) | exact (rfl : (_ : Nat) = 9) | exact (rfl : (_ : Nat) = 10) | exact (rfl : (_ : Nat) = 11) | exact (rfl : (_ : Nat) = 12) | exact rfl) (by first | exact (rfl : (_ : Nat) = 0) | exact (rfl : (_ : Nat) = 1) | exact (rfl : (_ : Nat) = 2) | exact (rfl : (_ : Nat) = 3) | exact (rfl : (_ : Nat) = 4) | exact (rfl : (_ : Nat) = 5) | exact (rfl : (_ : Nat) = 6) | exact (rfl : (_ : Nat) = 7) | exact (rfl : (_ : Nat) = 8) | exact (rfl : (_ : Nat) = 9) | exact (rfl : (_ : Nat) = 10) | exact (rfl : (_ : Nat) = 11) | exact (rfl : (_ : Nat) = 12) | exact rfl) (by first | exact (rfl : (_ : Nat) = 0) | exact (rfl : (_ : Nat) = 1) | exact (rfl : (_ : Nat) = 2) | exact (rfl : (_ : Nat) = 3) | exact (rfl : (_ : Nat) = 4) | exact (rfl : (_ : Nat) = 5) | exact (rfl : (_ : Nat) = 6) | exact (rfl : (_ : Nat) = 7) | exact (rfl : (_ : Nat) = 8) | exact (rfl : (_ : Nat) = 9) | exact (rfl : (_ : Nat) = 10) | exact (rfl : (_ : Nat) = 11) | exact (rfl : (_ : Nat) = 12) | exact rfl)); exact (IsH.mk _ _ _ _ _ _ _ _ (by repeat' first | exact IsBL.nil | apply IsBL.cells | apply IsBL.cons | exact IsLL.nil | apply IsLL.cons | exact IsL.nil | exact IsV.int _ _ | exact IsV.str _ | exact IsV.slV _ _ _ | exact IsV.nils | exact IsV.bool _ | exact IsV.sl _ _ _ | apply IsL.cons | exact IsV.any _ | exact IsL.any _ | exact IsLL.any _ | exact IsBL.any _ | exact (rfl : (_ : Nat) = 1) | exact (rfl : (_ : Nat) = 2) | exact (rfl : (_ : Nat) = 3) | exact (rfl : (_ : Nat) = 4) | exact (rfl : (_ : Nat) = 5) | exact (rfl : (_ : Nat) = 6) | exact (rfl : (_ : Nat) = 7) | exact (rfl : (_ : Nat) = 8) | exact (rfl : (_ : Nat) = 9) | exact (rfl : (_ : Nat) = 10) | exact (rfl : (_ : Nat) = 11) | exact (rfl : (_ : Nat) = 12) | exact (rfl : (_ : Nat) = 256) | exact rfl) (by first | exact (rfl : (_ : Nat) = 0) | exact (rfl : (_ : Nat) = 1) | exact rfl) (by first | exact (rfl : (_ : List Nat) = []) | exact rfl) (by first | exact (rfl : (_ : Nat) = 0) | exact (rfl : (_ : Nat) = 1) | exact (rfl : (_ : Nat) = 2) | exact (rfl : (_ : Nat) = 3) | exact (rfl : (_ : Nat) = 4) | exact (rfl : (_ : Nat) = 5) | exact (rfl : (_ : Nat) = 6) | exact (rfl : (_ : Nat) = 7) | exact (rfl : (_ : Nat) = 8) | exact (rfl : (_ : Nat) = 9) | exact (rfl : (_ : Nat) = 10) | exact (rfl : (_ : Nat) = 11) | exact (rfl : (_ : Nat) = 12) | exact rfl)))
    | (apply RegQ.rOp (ty := 93); rfl; rfl; rfl; exact (IsV.fn _ _))
    | (apply RegQ.rOp (ty := 93); rfl; rfl; rfl; exact (IsV.tup _ _ (by repeat' first | exact IsL.nil | exact IsV.int _ _ | exact IsV.str _ | exact IsV.slV _ _ _ | exact IsV.nils | exact IsV.bool _ | exact IsV.sl _ _ _ | apply IsL.cons | apply IsV.agg | exact IsV.any _ | exact IsL.any _)))
    | intro hb
    | refine Wp.seq ?_
    | refine SeqQ.go ?_
    | refine Wp.region ?_
    | refine Wp.condT rfl ?_
    | refine Wp.condF rfl ?_
    | refine Wp.skip ?_
    | refine Wp.ret ?_
    | refine Wp.exit ?_
    | refine Wp.block ?_
    | refine SeqQ.ret ?_
    | refine SeqQ.exit ?_
    | refine BlockQ.go ?_
    | refine BlockQ.ret ?_
    | refine BlockQ.hit rfl ?_
    | refine BlockQ.miss rfl ?_
    | refine LoopI.ret ?_
    | refine LoopI.exit ?_
    | refine RetQ.end rfl rfl (IsV.int _ _) ?_
    | refine RetQ.end rfl rfl (IsV.bool _) ?_
    | refine RetQ.fin rfl (by repeat' first | exact IsL.nil | exact IsV.int _ _ | exact IsV.str _ | exact IsV.slV _ _ _ | exact IsV.nils | exact IsV.bool _ | exact IsV.sl _ _ _ | apply IsL.cons | apply IsV.agg | exact IsV.any _ | exact IsL.any _) ?_
    | refine RetM.fin rfl (by repeat' first | exact IsL.nil | exact IsV.int _ _ | exact IsV.str _ | exact IsV.slV _ _ _ | exact IsV.nils | exact IsV.bool _ | exact IsV.sl _ _ _ | apply IsL.cons | apply IsV.agg | exact IsV.any _ | exact IsL.any _) ?_
  all_goals (rw [hb]; done)

/-- The struct that a credential's constraint lies in. -/
abbrev conV (b b' : Bool) (P X : List Bs) : PV := .agg [slV b 1 (partsC P), slV b' 1 (partsC X)]
theorem frzGL_con (b b' : Bool) (P X : List Bs) (s : Bs) : frzGL [conV b b' P X, .str s] = some [conV b b' P X, .str s] := by
  simp only [frzGL, frzG, frzL, frz1_slV]
  rfl

set_option maxHeartbeats 4000000 in
theorem c28 {P X : List Bs} {s : Bs} (hp : ∀ x, x ∈ P → x.length ≤ 1000) (hpl : P.length ≤ maxLen) (hx : ∀ x, x ∈ X → x.length ≤ 1000) (hxl : X.length ≤ maxLen) (hs : s.length ≤ 1000) (b b' : Bool) :
    ∀ H, CallOk E0 Tryz.prog 28 [conV b b' P X, .str s] H (.bool (permitsB P X s)) H := by
  have h66 := c66 hs
  have hP := c67 hp hpl hs b
  have hX := c67 hx hxl hs b'
  have hz : (((partsC P).length : Int) == 0) = P.isEmpty := by
    rw [partsC_len]
    cases P with
    | nil => rfl
    | cons x r => simp only [List.length_cons, List.isEmpty_cons, beq_eq_false_iff_ne]; omega
  refine callOk_wp (own := fun _ => false) tOk fe28.ok (frzGL_con _ _ _ _ _) rfl ?_
  unfold permitsB
  refine Wp.seq ?_
  repeat' first
    | refine RegQ.nil ?_
    | (apply RegQ.rSkip; rfl; rfl)
    | (apply RegQ.rCall; rfl; rfl; rfl; rfl; exact (h66 _); exact (IsV.int _ _))
    | (apply RegQ.rCall; rfl; rfl; rfl; rfl; exact (h66 _); exact (IsV.str _))
    | (apply RegQ.rCall; rfl; rfl; rfl; rfl; exact (h66 _); exact (IsV.agg _ _ (by repeat' first | exact IsL.nil | exact IsV.int _ _ | exact IsV.str _ | exact IsV.slV _ _ _ | exact IsV.nils | exact IsV.bool _ | exact IsV.sl _ _ _ | apply IsL.cons | apply IsV.agg | exact IsV.any _ | exact IsL.any _)))
    | (apply RegQ.rCall; rfl; rfl; rfl; rfl; exact (h66 _); exact (IsV.tup _ _ (by repeat' first | exact IsL.nil | exact IsV.int _ _ | exact IsV.str _ | exact IsV.slV _ _ _ | exact IsV.nils | exact IsV.bool _ | exact IsV.sl _ _ _ | apply IsL.cons | apply IsV.agg | exact IsV.any _ | exact IsL.any _)))
    | (apply RegQ.rCall; rfl; rfl; rfl; rfl; exact (h66 _); exact (IsV.any _))
    | (apply RegQ.rCall; rfl; rfl; rfl; rfl; exact (hP _); exact (IsV.int _ _))
    | (apply RegQ.rCall; rfl; rfl; rfl; rfl; exact (hP _); exact (IsV.str _))
    | (apply RegQ.rCall; rfl; rfl; rfl; rfl; exact (hP _); exact (IsV.agg _ _ (by repeat' first | exact IsL.nil | exact IsV.int _ _ | exact IsV.str _ | exact IsV.slV _ _ _ | exact IsV.nils | exact IsV.bool _ | exact IsV.sl _ _ _ | apply IsL.cons | apply IsV.agg | exact IsV.any _ | exact IsL.any _)))
    | (apply RegQ.rCall; rfl; rfl; rfl; rfl; exact (hP _); exact (IsV.tup _ _ (by repeat' first | exact IsL.nil | exact IsV.int _ _ | exact IsV.str _ | exact IsV.slV _ _ _ | exact IsV.nils | exact IsV.bool _ | exact IsV.sl _ _ _ | apply IsL.cons | apply IsV.agg | exact IsV.any _ | exact IsL.any _)))
    | (apply RegQ.rCall; rfl; rfl; rfl; rfl; exact (hP _); exact (IsV.any _))
    | (apply RegQ.rCall; rfl; rfl; rfl; rfl; exact (hX _); exact (IsV.int _ _))
    | (apply RegQ.rCall; rfl; rfl; rfl; rfl; exact (hX _); exact (IsV.str _))
    | (apply RegQ.rCall; rfl; rfl; rfl; rfl; exact (hX _); exact (IsV.agg _ _ (by repeat' first | exact IsL.nil | exact IsV.int _ _ | exact IsV.str _ | exact IsV.slV _ _ _ | exact IsV.nils | exact IsV.bool _ | exact IsV.sl _ _ _ | apply IsL.cons | apply IsV.agg | exact IsV.any _ | exact IsL.any _)))
    | (apply RegQ.rCall; rfl; rfl; rfl; rfl; exact (hX _); exact (IsV.tup _ _ (by repeat' first | exact IsL.nil | exact IsV.int _ _ | exact IsV.str _ | exact IsV.slV _ _ _ | exact IsV.nils | exact IsV.bool _ | exact IsV.sl _ _ _ | apply IsL.cons | apply IsV.agg | exact IsV.any _ | exact IsL.any _)))
    | (apply RegQ.rCall; rfl; rfl; rfl; rfl; exact (hX _); exact (IsV.any _))
    | (apply RegQ.rLd; rfl; rfl; rfl; assumption; exact (IsV.any _))
    | (apply RegQ.rOp (ty := 0); rfl; rfl; rfl; exact (IsV.fptr _ _))
    | (apply RegQ.rOpH (ty := 0); rfl; rfl; rfl; exact (IsV.ptr4 (by first | exact (rfl : (_ : Nat) = 0) | exact (rfl : (_ : Nat) = 1) | exact (rfl : (_ : Nat) = 2) | exact (rfl : (_ : Nat) = 3) | exact (rfl : (_ : Nat) = 4) | exact (rfl : (_ : Nat) = 5) | exact (rfl : (_ : Nat) = 6) | exact (rfl : (_ : Nat) = 7) | exact (rfl : (_ : Nat) = 8) | exact (rfl : (_ : Nat) = 9) | exact (rfl : (_ : Nat) = 10) | exact (rfl : (_ : Nat) = 11) | exact (rfl : (_ : Nat) = 12) | exact rfl) (by first | exact (rfl : (_ : Nat) = 0) | exact (rfl : (_ : Nat) = 1) | exact (rfl : (_ : Nat) = 2) | exact (rfl : (_ : Nat) = 3) | exact (rfl : (_ : Nat) = 4) | exact (rfl : (_ : Nat) = 5) | exact (rfl : (_ : Nat) = 6) | exact (rfl : (_ : Nat) = 7) | exact (rfl : (_ : Nat) = 8) | exact (rfl : (_ : Nat) = 9) | exact (rfl : (_ : Nat) = 10) | exact (rfl : (_ : Nat) = 11) | exact (rfl : (_ : Nat) = 12) | exact rfl) (by first | exact (rfl : (_ : Nat) = 0) | exact (rfl : (_ : Nat) = 1) | exact (rfl : (_ : Nat) = 2) | exact (rfl : (_ : Nat) = 3) | exact (rfl : (_ : Nat) = 4) | exact (rfl : (_ : Nat) = 5) | exact (rfl : (_ : Nat) = 6) | exact (rfl : (_ : Nat) = 7) | exact (rfl : (_ : Nat) = 8) | exact (rfl : (_ : Nat) = 9) | exact (rfl : (_ : Nat) = 10) | exact (rfl : (_ : Nat) = 11) | exact (rfl : (_ : Nat) = 12) | exact rfl) (by first | exact (rfl : (_ : Nat) = 0) | exact (rfl : (_ : Nat) = 1) | exact (rfl : (_ : Nat) = 2) | exact (rfl : (_ : Nat) = 3) | exact (rfl : (_ : Nat) = 4) | exact (rfl : (_ : Nat) = 5) | exact (rfl : (_ : Nat) = 6) | exact (rfl : (_ : Nat) = 7) | exact (rfl : (_ : Nat) = 8) | exact (rfl : (_ : Nat) = 9) | exact (rfl : (_ : Nat) = 10) | exact (rfl : (_ : Nat) = 11) | exact (rfl : (_ : Nat) = 12) | exact rfl)); exact (IsH.mk _ _ _ _ _ _ _ _ (by repeat' first | exact IsBL.nil | apply IsBL.cells | apply IsBL.cons | exact IsLL.nil | apply IsLL.cons | exact IsL.nil | exact IsV.int _ _ | exact IsV.str _ | exact IsV.slV _ _ _ | exact IsV.nils | exact IsV.bool _ | exact IsV.sl _ _ _ | apply IsL.cons | exact IsV.any _ | exact IsL.any _ | exact IsLL.any _ | exact IsBL.any _ | exact (rfl : (_ : Nat) = 1) | exact (rfl : (_ : Nat) = 2) | exact (rfl : (_ : Nat) = 3) | exact (rfl : (_ : Nat) = 4) | exact (rfl : (_ : Nat) = 5) | exact (rfl : (_ : Nat) = 6) | exact (rfl : (_ : Nat) = 7) | exact (rfl : (_ : Nat) = 8) | exact (rfl : (_ : Nat) = 9) | exact (rfl : (_ : Nat) = 10) | exact (rfl : (_ : Nat) = 11) | exact (rfl : (_ : Nat) = 12) | exact (rfl : (_ : Nat) = 256) | exact rfl) (by first | exact (rfl : (_ : Nat) = 0) | exact (rfl : (_ : Nat) = 1) | exact rfl) (by first | exact (rfl : (_ : List Nat) = []) | exact rfl) (by first | exact (rfl : (_ : Nat) = 0) | exact (rfl : (_ : Nat) = 1) | exact (rfl : (_ : Nat) = 2) | exact (rfl : (_ : Nat) = 3) | exact (rfl : (_ : Nat) = 4) | exact (rfl : (_ : Nat) = 5) | exact (rfl : (_ : Nat) = 6) | exact (rfl : (_ : Nat) = 7) | exact (rfl : (_ : Nat) = 8) | exact (rfl : (_ : Nat) = 9) | exact (rfl : (_ : Nat) = 10) | exact (rfl : (_ : Nat) = 11) | exact (rfl : (_ : Nat) = 12) | exact rfl)))
    | (apply RegQ.rOp (ty := 3); rfl; rfl; rfl; exact (IsV.int _ _))
    | (apply RegQ.rLen (ty := 3); rfl; rfl; rfl; rfl; rfl)
    | (apply RegQ.rOp (ty := 4); rfl; rfl; rfl; exact (IsV.bool true))
    | (apply RegQ.rOp (ty := 4); rfl; rfl; rfl; exact (IsV.bool false))
    | (apply RegQ.rB (ty := 4); rfl; rfl; rfl)
    | (apply RegQ.rOp (ty := 9); rfl; rfl; rfl; exact (IsV.str _))
    | (apply RegQ.rOp (ty := 22); rfl; rfl; rfl; exact (IsV.slV _ _ _))
    | (apply RegQ.rOp (ty := 22); rfl; rfl; rfl; exact IsV.nils)
    | (apply RegQ.rOpH (ty := 22); rfl; rfl; rfl; exact (IsV.sl _ _ _); exact (IsH.mk _ _ _ _ _ _ _ _ (by repeat' first | exact IsBL.nil | apply IsBL.cells | apply IsBL.cons | exact IsLL.nil | apply IsLL.cons | exact IsL.nil | exact IsV.int _ _ | exact IsV.str _ | exact IsV.slV _ _ _ | exact IsV.nils | exact IsV.bool _ | exact IsV.sl _ _ _ | apply IsL.cons | exact IsV.any _ | exact IsL.any _ | exact IsLL.any _ | exact IsBL.any _ | exact (rfl : (_ : Nat) = 1) | exact (rfl : (_ : Nat) = 2) | exact (rfl : (_ : Nat) = 3) | exact (rfl : (_ : Nat) = 4) | exact (rfl : (_ : Nat) = 5) | exact (rfl : (_ : Nat) = 6) | exact (rfl : (_ : Nat) = 7) | exact (rfl : (_ : Nat) = 8) | exact (rfl : (_ : Nat) = 9) | exact (rfl : (_ : Nat) = 10) | exact (rfl : (_ : Nat) = 11) | exact (rfl : (_ : Nat) = 12) | exact (rfl : (_ : Nat) = 256) | exact rfl) (by first | exact (rfl : (_ : Nat) = 0) | exact (rfl : (_ : Nat) = 1) | exact rfl) (by first | exact (rfl : (_ : List Nat) = []) | exact rfl) (by first | exact (rfl : (_ : Nat) = 0) | exact (rfl : (_ : Nat) = 1) | exact (rfl : (_ : Nat) = 2) | exact (rfl : (_ : Nat) = 3) | exact (rfl : (_ : Nat) = 4) | exact (rfl : (_ : Nat) = 5) | exact (rfl : (_ : Nat) = 6) | exact (rfl : (_ : Nat) = 7) | exact (rfl : (_ : Nat) = 8) | exact (rfl : (_ : Nat) = 9) | exact (rfl : (_ : Nat) = 10) | exact (rfl : (_ : Nat) = 11) | exact (rfl : (_ : Nat) = 12) | exact rfl)))
    | (apply RegQ.rOpH (ty := 22); rfl; rfl; rfl; exact (IsV.own _ _ _ _); exact (IsH.mk _ _ _ _ _ _ _ _ (by repeat' first | exact IsBL.nil | apply IsBL.cells | apply IsBL.cons | exact IsLL.nil | apply IsLL.cons | exact IsL.nil | exact IsV.int _ _ | exact IsV.str _ | exact IsV.slV _ _ _ | exact IsV.nils | exact IsV.bool _ | exact IsV.sl _ _ _ | apply IsL.cons | exact IsV.any _ | exact IsL.any _ | exact IsLL.any _ | exact IsBL.any _ | exact (rfl : (_ : Nat) = 1) | exact (rfl : (_ : Nat) = 2) | exact (rfl : (_ : Nat) = 3) | exact (rfl : (_ : Nat) = 4) | exact (rfl : (_ : Nat) = 5) | exact (rfl : (_ : Nat) = 6) | exact (rfl : (_ : Nat) = 7) | exact (rfl : (_ : Nat) = 8) | exact (rfl : (_ : Nat) = 9) | exact (rfl : (_ : Nat) = 10) | exact (rfl : (_ : Nat) = 11) | exact (rfl : (_ : Nat) = 12) | exact (rfl : (_ : Nat) = 256) | exact rfl) (by first | exact (rfl : (_ : Nat) = 0) | exact (rfl : (_ : Nat) = 1) | exact rfl) (by first | exact (rfl : (_ : List Nat) = []) | exact rfl) (by first | exact (rfl : (_ : Nat) = 0) | exact (rfl : (_ : Nat) = 1) | exact (rfl : (_ : Nat) = 2) | exact (rfl : (_ : Nat) = 3) | exact (rfl : (_ : Nat) = 4) | exact (rfl : (_ : Nat) = 5) | exact (rfl : (_ : Nat) = 6) | exact (rfl : (_ : Nat) = 7) | exact (rfl : (_ : Nat) = 8) | exact (rfl : (_ : Nat) = 9) | exact (rfl : (_ : Nat) = 10) | exact (rfl : (_ : Nat) = 11) | exact (rfl : (_ : Nat) = 12) | exact rfl)))
    | intro hb
    | refine Wp.seq ?_
    | refine SeqQ.go ?_
    | refine Wp.region ?_
    | refine Wp.condT rfl ?_
    | refine Wp.condF rfl ?_
    | refine Wp.skip ?_
    | refine Wp.ret ?_
    | refine Wp.exit ?_
    | refine Wp.block ?_
    | refine SeqQ.ret ?_
    | refine SeqQ.exit ?_
    | refine BlockQ.go ?_
    | refine BlockQ.ret ?_
    | refine BlockQ.hit rfl ?_
    | refine BlockQ.miss rfl ?_
    | refine LoopI.ret ?_
    | refine LoopI.exit ?_
    | refine RetQ.end rfl rfl (IsV.int _ _) ?_
    | refine RetQ.end rfl rfl (IsV.bool _) ?_
    | refine RetQ.fin rfl (by repeat' first | exact IsL.nil | exact IsV.int _ _ | exact IsV.str _ | exact IsV.slV _ _ _ | exact IsV.nils | exact IsV.bool _ | exact IsV.sl _ _ _ | apply IsL.cons | apply IsV.agg | exact IsV.any _ | exact IsL.any _) ?_
    | refine RetM.fin rfl (by repeat' first | exact IsL.nil | exact IsV.int _ _ | exact IsV.str _ | exact IsV.slV _ _ _ | exact IsV.nils | exact IsV.bool _ | exact IsV.sl _ _ _ | apply IsL.cons | apply IsV.agg | exact IsV.any _ | exact IsL.any _) ?_
  all_goals (clear hp hpl hx hxl h66 hP hX; simp_all)
end Go.Vm.Seat
