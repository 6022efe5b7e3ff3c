/-
  The statement's function returns true for all names.
-/
import Derived.Test.YthkpihmifojnoaaGreatDoorCrRef2
import Derived.Test.YthkpihmifojnoaaGreatDoorCrAwake
namespace Go.Vm.Seat
open Go.Proofs
set_option maxRecDepth 100000

def fewB (l : List Bs) : Bool := l.all (fun x => decide (x.length ≤ 100)) && decide (l.length ≤ 60)

/-- A slice that an append has made, or that is empty. -/
structure Lst (L : PV) (l : List Bs) : Prop where
  len : ∀ H, aLen E0 22 L H = some (.int .i64 (l.length : Int))
  get : ∀ (i : Nat) (x : Bs), l[i]? = some x → aIndexAddr E0 22 L (.int .i64 (i : Int)) = some (.fptr [.str x] 0)
theorem lst_sl (tl : Tail) (l : List Bs) : Lst (.sl tl 1 (partsC l)) l where
  len H := by
    simp only [aLen, e22, partsC_len]
    rfl
  get i x h := by
    have en : nat? (.int .i64 (i : Int)) = some i := rfl
    have hn : nth (partsC l) i = some [.str x] := by rw [nth_eq]; exact partsC_get h
    simp only [aIndexAddr, e22, en, e9s, if_true, hn]

theorem elems_slV (H : Heap) (b : Bool) (es : Nat) (el : List (List PV)) : slElems H (slV b es el) = some el := by
  cases el with
  | nil => cases b
           · rw [slV_nil_false]; rfl
           · rw [slV_nil_true]; rfl
  | cons c r => rw [slV_cons]; rfl
theorem size_slV (d : Nat) (b : Bool) (el : List (List PV)) (h : d = 1) : slSize d (slV b 1 el) = 1 := by
  subst h
  cases el with
  | nil => cases b
           · rw [slV_nil_false]; rfl
           · rw [slV_nil_true]; rfl
  | cons c r => rw [slV_cons]; rfl
theorem partsC_all (l : List Bs) : (partsC l).all (fun c => c.all cellOk) = true := by
  simp [partsC, cellOk]
theorem apEl {s : PV} {b : Bool} {l : List Bs} {H : Heap} (hs : slSize 1 s = 1) (ho : slOk s = true) : apElems E0 22 22 s (slV b 1 (partsC l)) H = some (1, 16, partsC l) := by
  have hz : (E0.T 9) = some ⟨.string, 1, 16, .str []⟩ := e9s
  have h2 := size_slV 1 b (partsC l) rfl
  simp only [apElems, e22, hz, hs, h2, elems_slV, partsC_all, ho]
  rfl

theorem apC {y : Bs} {q : List Bs} : partsC (y :: q) = [.str y] :: partsC q := rfl
/-- Two lists behind one another. -/
theorem app2 (b b' : Bool) (P X : List Bs) (hl : P.length + X.length ≤ 3000000) (bx : List Box) : ∃ L1 lv1 n1 L2 lv2 n2,
    (∀ ro, aAppend E0 22 22 (.sl .full 1 []) (slV b 1 (partsC P)) ⟨bx, ro, [], 0⟩ = some (L1, ⟨bx, ro, lv1, n1⟩)) ∧
    (∀ ro, aAppend E0 22 22 L1 (slV b' 1 (partsC X)) ⟨bx, ro, lv1, n1⟩ = some (L2, ⟨bx, ro, lv2, n2⟩)) ∧ Lst L2 (P ++ X) := by
  have hfit : ∀ n m, n + m ≤ 3000000 → apFits n m 16 = true := fun n m h => by
    simp only [apFits, Bool.and_eq_true, Nat.ble_eq]
    omega
  cases P with
  | nil =>
    cases X with
    | nil =>
      refine ⟨.sl .full 1 [], [], 0, .sl .full 1 [], [], 0, fun ro => ?_, fun ro => ?_, lst_sl .full []⟩
      · simp only [aAppend, apEl (s := .sl .full 1 []) rfl rfl]; rfl
      · simp only [aAppend, apEl (s := .sl .full 1 []) rfl rfl]; rfl
    | cons x r =>
      refine ⟨.sl .full 1 [], [], 0, .sl (.tok 0) 1 (partsC (x :: r)), [0], 1, fun ro => ?_, fun ro => ?_, lst_sl (.tok 0) (x :: r)⟩
      · simp only [aAppend, apEl (s := .sl .full 1 []) rfl rfl]; rfl
      · have hf := hfit 0 (partsC r).length.succ (by rw [partsC_len]; simp only [List.length_cons] at hl; omega)
        simp only [aAppend, apEl (s := .sl .full 1 []) rfl rfl]
        simp only [apC, slFull, List.length_nil, List.length_cons, List.nil_append]
        rw [if_pos hf]
  | cons y q =>
    have hf := hfit 0 (partsC q).length.succ (by rw [partsC_len]; simp only [List.length_cons] at hl; omega)
    cases X with
    | nil =>
      refine ⟨.sl (.tok 0) 1 (partsC (y :: q)), [0], 1, .sl (.tok 0) 1 (partsC (y :: q)), [0], 1, fun ro => ?_, fun ro => ?_, by rw [List.append_nil]; exact lst_sl (.tok 0) (y :: q)⟩
      · simp only [aAppend, apEl (s := .sl .full 1 []) rfl rfl]
        simp only [apC, slFull, List.length_nil, List.length_cons, List.nil_append]
        rw [if_pos hf]
      · simp only [aAppend, apEl (s := .sl (.tok 0) 1 (partsC (y :: q))) rfl rfl]; rfl
    | cons x r =>
      refine ⟨.sl (.tok 0) 1 (partsC (y :: q)), [0], 1, .sl (.tok 1) 1 (partsC (y :: q ++ x :: r)), [1], 2, fun ro => ?_, fun ro => ?_, lst_sl (.tok 1) _⟩
      · simp only [aAppend, apEl (s := .sl .full 1 []) rfl rfl]
        simp only [apC, slFull, List.length_nil, List.length_cons, List.nil_append]
        rw [if_pos hf]
      · have hf2 := hfit (partsC (y :: q)).length (partsC r).length.succ (by rw [partsC_len, partsC_len]; simp only [List.length_cons] at hl ⊢; omega)
        have e : partsC (y :: q ++ x :: r) = partsC (y :: q) ++ [.str x] :: partsC r := by simp [partsC]
        rw [e]
        simp only [aAppend, apEl (s := .sl (.tok 0) 1 (partsC (y :: q))) rfl rfl]
        rw [show partsC (x :: r) = [.str x] :: partsC r from rfl]
        simp only [List.length_cons, eraseTok, if_true]
        rw [if_pos hf2]

set_option maxHeartbeats 4000000 in
theorem c27 {P X : List Bs} (hl : P.length + X.length ≤ 3000000) (b b' : Bool) :
    ∀ H, CallOk E0 Tryz.prog 27 [conV b b' P X] H (.bool (fewB (P ++ X))) H := by
  refine callOk_wp (own := fun d => Nat.beq d 5008 || Nat.beq d 5011) tOk fe27.ok (by simp only [frzGL, frzG, frzL, frz1_slV]) rfl ?_
  obtain ⟨L1, lv1, n1, L2, lv2, n2, ha1, ha2, hL⟩ := app2 b b' P X hl [.cells 2 [[slV b 1 (partsC P), slV b' 1 (partsC X)]]]
  have hle := hL.len
  refine Wp.seq ?_
  repeat' first
    | refine RegQ.nil ?_
    | (apply RegQ.rBs; rfl; rfl; rfl; rfl; exact (by repeat' first | exact IsLL.nil | apply IsLL.cons | exact IsL.nil | exact IsV.int _ _ | exact IsV.str _ | exact IsV.slV _ _ _ | exact IsV.nils | exact IsV.bool _ | exact IsV.sl _ _ _ | apply IsL.cons | exact IsV.any _ | exact IsL.any _ | exact IsLL.any _); exact (by first | rfl | (simp only [frzLL, frzL, frz1_slV]; rfl)))
    | (apply RegQ.rBi; rfl; rfl; rfl; rfl; assumption; exact (IsV.any _))
    | (apply RegQ.rIa; rfl; rfl; rfl; rfl; assumption; exact (IsV.any _))
    | (apply RegQ.rLe; rfl; rfl; rfl; assumption; exact (IsV.any _))
    | (apply RegQ.rLd; rfl; rfl; rfl; assumption; exact (IsV.any _))
    | (apply RegQ.rAp; rfl; rfl; rfl; rfl; rfl; assumption)
    | (apply RegQ.rOp (ty := 0); rfl; rfl; rfl; exact (IsV.fptr _ _))
    | (apply RegQ.rOpH (ty := 0); rfl; rfl; rfl; exact (IsV.ptr4 (by first | exact (rfl : (_ : Nat) = 0) | exact (rfl : (_ : Nat) = 1) | exact (rfl : (_ : Nat) = 2) | exact (rfl : (_ : Nat) = 3) | exact (rfl : (_ : Nat) = 4) | exact (rfl : (_ : Nat) = 5) | exact (rfl : (_ : Nat) = 6) | exact (rfl : (_ : Nat) = 7) | exact (rfl : (_ : Nat) = 8) | exact (rfl : (_ : Nat) = 9) | exact (rfl : (_ : Nat) = 10) | exact (rfl : (_ : Nat) = 11) | exact (rfl : (_ : Nat) = 12) | exact rfl) (by first | exact (rfl : (_ : Nat) = 0) | exact (rfl : (_ : Nat) = 1) | exact (rfl : (_ : Nat) = 2) | exact (rfl : (_ : Nat) = 3) | exact (rfl : (_ : Nat) = 4) | exact (rfl : (_ : Nat) = 5) | exact (rfl : (_ : Nat) = 6) | exact (rfl : (_ : Nat) = 7) | exact (rfl : (_ : Nat) = 8) | exact (rfl : (_ : Nat) = 9) | exact (rfl : (_ : Nat) = 10) | exact (rfl : (_ : Nat) = 11) | exact (rfl : (_ : Nat) = 12) | exact rfl) (by first | exact (rfl : (_ : Nat) = 0) | exact (rfl : (_ : Nat) = 1) | exact (rfl : (_ : Nat) = 2) | exact (rfl : (_ : Nat) = 3) | exact (rfl : (_ : Nat) = 4) | exact (rfl : (_ : Nat) = 5) | exact (rfl : (_ : Nat) = 6) | exact (rfl : (_ : Nat) = 7) | exact (rfl : (_ : Nat) = 8) | exact (rfl : (_ : Nat) = 9) | exact (rfl : (_ : Nat) = 10) | exact (rfl : (_ : Nat) = 11) | exact (rfl : (_ : Nat) = 12) | exact rfl) (by first | exact (rfl : (_ : Nat) = 0) | exact (rfl : (_ : Nat) = 1) | exact (rfl : (_ : Nat) = 2) | exact (rfl : (_ : Nat) = 3) | exact (rfl : (_ : Nat) = 4) | exact (rfl : (_ : Nat) = 5) | exact (rfl : (_ : Nat) = 6) | exact (rfl : (_ : Nat) = 7) | exact (rfl : (_ : Nat) = 8) | exact (rfl : (_ : Nat) = 9) | exact (rfl : (_ : Nat) = 10) | exact (rfl : (_ : Nat) = 11) | exact (rfl : (_ : Nat) = 12) | exact rfl)); exact (IsH.mk _ _ _ _ _ _ _ _ (by repeat' first | exact IsBL.nil | apply IsBL.cells | apply IsBL.cons | exact IsLL.nil | apply IsLL.cons | exact IsL.nil | exact IsV.int _ _ | exact IsV.str _ | exact IsV.slV _ _ _ | exact IsV.nils | exact IsV.bool _ | exact IsV.sl _ _ _ | apply IsL.cons | exact IsV.any _ | exact IsL.any _ | exact IsLL.any _ | exact IsBL.any _ | exact (rfl : (_ : Nat) = 1) | exact (rfl : (_ : Nat) = 2) | exact (rfl : (_ : Nat) = 3) | exact (rfl : (_ : Nat) = 4) | exact (rfl : (_ : Nat) = 5) | exact (rfl : (_ : Nat) = 6) | exact (rfl : (_ : Nat) = 7) | exact (rfl : (_ : Nat) = 8) | exact (rfl : (_ : Nat) = 9) | exact (rfl : (_ : Nat) = 10) | exact (rfl : (_ : Nat) = 11) | exact (rfl : (_ : Nat) = 12) | exact (rfl : (_ : Nat) = 256) | exact rfl) (by first | exact (rfl : (_ : Nat) = 0) | exact (rfl : (_ : Nat) = 1) | exact rfl) (by first | exact (rfl : (_ : List Nat) = []) | exact rfl) (by first | exact (rfl : (_ : Nat) = 0) | exact (rfl : (_ : Nat) = 1) | exact (rfl : (_ : Nat) = 2) | exact (rfl : (_ : Nat) = 3) | exact (rfl : (_ : Nat) = 4) | exact (rfl : (_ : Nat) = 5) | exact (rfl : (_ : Nat) = 6) | exact (rfl : (_ : Nat) = 7) | exact (rfl : (_ : Nat) = 8) | exact (rfl : (_ : Nat) = 9) | exact (rfl : (_ : Nat) = 10) | exact (rfl : (_ : Nat) = 11) | exact (rfl : (_ : Nat) = 12) | exact rfl)))
    | (apply RegQ.rIdx; rfl; rfl; rfl; rfl; rfl; rfl; rfl; rfl; assumption)
    | (apply RegQ.rOp (ty := 3); rfl; rfl; rfl; exact (IsV.int _ _))
    | (apply RegQ.rLen (ty := 3); rfl; rfl; rfl; rfl; rfl)
    | (apply RegQ.rOp (ty := 4); rfl; rfl; rfl; exact (IsV.bool true))
    | (apply RegQ.rOp (ty := 4); rfl; rfl; rfl; exact (IsV.bool false))
    | (apply RegQ.rB (ty := 4); rfl; rfl; rfl)
    | (apply RegQ.rOp (ty := 9); rfl; rfl; rfl; exact (IsV.str _))
    | (apply RegQ.rOp (ty := 22); rfl; rfl; rfl; exact (IsV.slV _ _ _))
    | (apply RegQ.rOp (ty := 22); rfl; rfl; rfl; exact IsV.nils)
    | (apply RegQ.rOpH (ty := 22); rfl; rfl; rfl; exact (IsV.sl _ _ _); exact (IsH.mk _ _ _ _ _ _ _ _ (by repeat' first | exact IsBL.nil | apply IsBL.cells | apply IsBL.cons | exact IsLL.nil | apply IsLL.cons | exact IsL.nil | exact IsV.int _ _ | exact IsV.str _ | exact IsV.slV _ _ _ | exact IsV.nils | exact IsV.bool _ | exact IsV.sl _ _ _ | apply IsL.cons | exact IsV.any _ | exact IsL.any _ | exact IsLL.any _ | exact IsBL.any _ | exact (rfl : (_ : Nat) = 1) | exact (rfl : (_ : Nat) = 2) | exact (rfl : (_ : Nat) = 3) | exact (rfl : (_ : Nat) = 4) | exact (rfl : (_ : Nat) = 5) | exact (rfl : (_ : Nat) = 6) | exact (rfl : (_ : Nat) = 7) | exact (rfl : (_ : Nat) = 8) | exact (rfl : (_ : Nat) = 9) | exact (rfl : (_ : Nat) = 10) | exact (rfl : (_ : Nat) = 11) | exact (rfl : (_ : Nat) = 12) | exact (rfl : (_ : Nat) = 256) | exact rfl) (by first | exact (rfl : (_ : Nat) = 0) | exact (rfl : (_ : Nat) = 1) | exact rfl) (by first | exact (rfl : (_ : List Nat) = []) | exact rfl) (by first | exact (rfl : (_ : Nat) = 0) | exact (rfl : (_ : Nat) = 1) | exact (rfl : (_ : Nat) = 2) | exact (rfl : (_ : Nat) = 3) | exact (rfl : (_ : Nat) = 4) | exact (rfl : (_ : Nat) = 5) | exact (rfl : (_ : Nat) = 6) | exact (rfl : (_ : Nat) = 7) | exact (rfl : (_ : Nat) = 8) | exact (rfl : (_ : Nat) = 9) | exact (rfl : (_ : Nat) = 10) | exact (rfl : (_ : Nat) = 11) | exact (rfl : (_ : Nat) = 12) | exact rfl)))
    | (apply RegQ.rOpH (ty := 22); rfl; rfl; rfl; exact (IsV.own _ _ _ _); exact (IsH.mk _ _ _ _ _ _ _ _ (by repeat' first | exact IsBL.nil | apply IsBL.cells | apply IsBL.cons | exact IsLL.nil | apply IsLL.cons | exact IsL.nil | exact IsV.int _ _ | exact IsV.str _ | exact IsV.slV _ _ _ | exact IsV.nils | exact IsV.bool _ | exact IsV.sl _ _ _ | apply IsL.cons | exact IsV.any _ | exact IsL.any _ | exact IsLL.any _ | exact IsBL.any _ | exact (rfl : (_ : Nat) = 1) | exact (rfl : (_ : Nat) = 2) | exact (rfl : (_ : Nat) = 3) | exact (rfl : (_ : Nat) = 4) | exact (rfl : (_ : Nat) = 5) | exact (rfl : (_ : Nat) = 6) | exact (rfl : (_ : Nat) = 7) | exact (rfl : (_ : Nat) = 8) | exact (rfl : (_ : Nat) = 9) | exact (rfl : (_ : Nat) = 10) | exact (rfl : (_ : Nat) = 11) | exact (rfl : (_ : Nat) = 12) | exact (rfl : (_ : Nat) = 256) | exact rfl) (by first | exact (rfl : (_ : Nat) = 0) | exact (rfl : (_ : Nat) = 1) | exact rfl) (by first | exact (rfl : (_ : List Nat) = []) | exact rfl) (by first | exact (rfl : (_ : Nat) = 0) | exact (rfl : (_ : Nat) = 1) | exact (rfl : (_ : Nat) = 2) | exact (rfl : (_ : Nat) = 3) | exact (rfl : (_ : Nat) = 4) | exact (rfl : (_ : Nat) = 5) | exact (rfl : (_ : Nat) = 6) | exact (rfl : (_ : Nat) = 7) | exact (rfl : (_ : Nat) = 8) | exact (rfl : (_ : Nat) = 9) | exact (rfl : (_ : Nat) = 10) | exact (rfl : (_ : Nat) = 11) | exact (rfl : (_ : Nat) = 12) | exact rfl)))
    | (apply RegQ.rOp (ty := 22); rfl; rfl; rfl; exact (IsV.any _))
    | refine DrwQ.nil ?_
    | (apply DrwQ.rBs; rfl; rfl; rfl; rfl; exact (by repeat' first | exact IsLL.nil | apply IsLL.cons | exact IsL.nil | exact IsV.int _ _ | exact IsV.str _ | exact IsV.slV _ _ _ | exact IsV.nils | exact IsV.bool _ | exact IsV.sl _ _ _ | apply IsL.cons | exact IsV.any _ | exact IsL.any _ | exact IsLL.any _); exact (by first | rfl | (simp only [frzLL, frzL, frz1_slV]; rfl)); rfl)
    | (apply DrwQ.rBi; rfl; rfl; rfl; rfl; assumption; exact (IsV.any _); rfl)
    | (apply DrwQ.rIa; rfl; rfl; rfl; rfl; assumption; exact (IsV.any _))
    | (apply DrwQ.rLe; rfl; rfl; rfl; assumption; exact (IsV.any _); rfl)
    | (apply DrwQ.rApT; rfl; rfl; rfl; rfl; rfl; rfl; assumption)
    | (apply DrwQ.rAp; rfl; rfl; rfl; rfl; rfl; assumption; rfl)
    | (apply DrwQ.rOp (ty := 0); rfl; rfl; rfl; exact (IsV.fptr _ _); rfl)
    | (apply DrwQ.rOpH (ty := 0); rfl; rfl; rfl; exact (IsV.ptr4 (by first | exact (rfl : (_ : Nat) = 0) | exact (rfl : (_ : Nat) = 1) | exact (rfl : (_ : Nat) = 2) | exact (rfl : (_ : Nat) = 3) | exact (rfl : (_ : Nat) = 4) | exact (rfl : (_ : Nat) = 5) | exact (rfl : (_ : Nat) = 6) | exact (rfl : (_ : Nat) = 7) | exact (rfl : (_ : Nat) = 8) | exact (rfl : (_ : Nat) = 9) | exact (rfl : (_ : Nat) = 10) | exact (rfl : (_ : Nat) = 11) | exact (rfl : (_ : Nat) = 12) | exact rfl) (by first | exact (rfl : (_ : Nat) = 0) | exact (rfl : (_ : Nat) = 1) | exact (rfl : (_ : Nat) = 2) | exact (rfl : (_ : Nat) = 3) | exact (rfl : (_ : Nat) = 4) | exact (rfl : (_ : Nat) = 5) | exact (rfl : (_ : Nat) = 6) | exact (rfl : (_ : Nat) = 7) | exact (rfl : (_ : Nat) = 8) | exact (rfl : (_ : Nat) = 9) | exact (rfl : (_ : Nat) = 10) | exact (rfl : (_ : Nat) = 11) | exact (rfl : (_ : Nat) = 12) | exact rfl) (by first | exact (rfl : (_ : Nat) = 0) | exact (rfl : (_ : Nat) = 1) | exact (rfl : (_ : Nat) = 2) | exact (rfl : (_ : Nat) = 3) | exact (rfl : (_ : Nat) = 4) | exact (rfl : (_ : Nat) = 5) | exact (rfl : (_ : Nat) = 6) | exact (rfl : (_ : Nat) = 7) | exact (rfl : (_ : Nat) = 8) | exact (rfl : (_ : Nat) = 9) | exact (rfl : (_ : Nat) = 10) | exact (rfl : (_ : Nat) = 11) | exact (rfl : (_ : Nat) = 12) | exact rfl) (by first | exact (rfl : (_ : Nat) = 0) | exact (rfl : (_ : Nat) = 1) | exact (rfl : (_ : Nat) = 2) | exact (rfl : (_ : Nat) = 3) | exact (rfl : (_ : Nat) = 4) | exact (rfl : (_ : Nat) = 5) | exact (rfl : (_ : Nat) = 6) | exact (rfl : (_ : Nat) = 7) | exact (rfl : (_ : Nat) = 8) | exact (rfl : (_ : Nat) = 9) | exact (rfl : (_ : Nat) = 10) | exact (rfl : (_ : Nat) = 11) | exact (rfl : (_ : Nat) = 12) | exact rfl)); exact (IsH.mk _ _ _ _ _ _ _ _ (by repeat' first | exact IsBL.nil | apply IsBL.cells | apply IsBL.cons | exact IsLL.nil | apply IsLL.cons | exact IsL.nil | exact IsV.int _ _ | exact IsV.str _ | exact IsV.slV _ _ _ | exact IsV.nils | exact IsV.bool _ | exact IsV.sl _ _ _ | apply IsL.cons | exact IsV.any _ | exact IsL.any _ | exact IsLL.any _ | exact IsBL.any _ | exact (rfl : (_ : Nat) = 1) | exact (rfl : (_ : Nat) = 2) | exact (rfl : (_ : Nat) = 3) | exact (rfl : (_ : Nat) = 4) | exact (rfl : (_ : Nat) = 5) | exact (rfl : (_ : Nat) = 6) | exact (rfl : (_ : Nat) = 7) | exact (rfl : (_ : Nat) = 8) | exact (rfl : (_ : Nat) = 9) | exact (rfl : (_ : Nat) = 10) | exact (rfl : (_ : Nat) = 11) | exact (rfl : (_ : Nat) = 12) | exact (rfl : (_ : Nat) = 256) | exact rfl) (by first | exact (rfl : (_ : Nat) = 0) | exact (rfl : (_ : Nat) = 1) | exact rfl) (by first | exact (rfl : (_ : List Nat) = []) | exact rfl) (by first | exact (rfl : (_ : Nat) = 0) | exact (rfl : (_ : Nat) = 1) | exact (rfl : (_ : Nat) = 2) | exact (rfl : (_ : Nat) = 3) | exact (rfl : (_ : Nat) = 4) | exact (rfl : (_ : Nat) = 5) | exact (rfl : (_ : Nat) = 6) | exact (rfl : (_ : Nat) = 7) | exact (rfl : (_ : Nat) = 8) | exact (rfl : (_ : Nat) = 9) | exact (rfl : (_ : Nat) = 10) | exact (rfl : (_ : Nat) = 11) | exact (rfl : (_ : Nat) = 12) | exact rfl)); rfl)
    | (apply DrwQ.rIdx; rfl; rfl; rfl; rfl; rfl; rfl; rfl; rfl; assumption)
    | (apply DrwQ.rOp (ty := 3); rfl; rfl; rfl; exact (IsV.int _ _); rfl)
    | (apply DrwQ.rLen (ty := 3); rfl; rfl; rfl; rfl; rfl)
    | (apply DrwQ.rOp (ty := 4); rfl; rfl; rfl; exact (IsV.bool true); rfl)
    | (apply DrwQ.rOp (ty := 4); rfl; rfl; rfl; exact (IsV.bool false); rfl)
    | (apply DrwQ.rB (ty := 4); rfl; rfl; rfl; rfl)
    | (apply DrwQ.rOp (ty := 9); rfl; rfl; rfl; exact (IsV.str _); rfl)
    | (apply DrwQ.rOp (ty := 22); rfl; rfl; rfl; exact (IsV.slV _ _ _); rfl)
    | (apply DrwQ.rOp (ty := 22); rfl; rfl; rfl; exact IsV.nils; rfl)
    | (apply DrwQ.rOpH (ty := 22); rfl; rfl; rfl; exact (IsV.sl _ _ _); exact (IsH.mk _ _ _ _ _ _ _ _ (by repeat' first | exact IsBL.nil | apply IsBL.cells | apply IsBL.cons | exact IsLL.nil | apply IsLL.cons | exact IsL.nil | exact IsV.int _ _ | exact IsV.str _ | exact IsV.slV _ _ _ | exact IsV.nils | exact IsV.bool _ | exact IsV.sl _ _ _ | apply IsL.cons | exact IsV.any _ | exact IsL.any _ | exact IsLL.any _ | exact IsBL.any _ | exact (rfl : (_ : Nat) = 1) | exact (rfl : (_ : Nat) = 2) | exact (rfl : (_ : Nat) = 3) | exact (rfl : (_ : Nat) = 4) | exact (rfl : (_ : Nat) = 5) | exact (rfl : (_ : Nat) = 6) | exact (rfl : (_ : Nat) = 7) | exact (rfl : (_ : Nat) = 8) | exact (rfl : (_ : Nat) = 9) | exact (rfl : (_ : Nat) = 10) | exact (rfl : (_ : Nat) = 11) | exact (rfl : (_ : Nat) = 12) | exact (rfl : (_ : Nat) = 256) | exact rfl) (by first | exact (rfl : (_ : Nat) = 0) | exact (rfl : (_ : Nat) = 1) | exact rfl) (by first | exact (rfl : (_ : List Nat) = []) | exact rfl) (by first | exact (rfl : (_ : Nat) = 0) | exact (rfl : (_ : Nat) = 1) | exact (rfl : (_ : Nat) = 2) | exact (rfl : (_ : Nat) = 3) | exact (rfl : (_ : Nat) = 4) | exact (rfl : (_ : Nat) = 5) | exact (rfl : (_ : Nat) = 6) | exact (rfl : (_ : Nat) = 7) | exact (rfl : (_ : Nat) = 8) | exact (rfl : (_ : Nat) = 9) | exact (rfl : (_ : Nat) = 10) | exact (rfl : (_ : Nat) = 11) | exact (rfl : (_ : Nat) = 12) | exact rfl)); rfl)
    | (apply DrwQ.rOpH (ty := 22); rfl; rfl; rfl; exact (IsV.own _ _ _ _); exact (IsH.mk _ _ _ _ _ _ _ _ (by repeat' first | exact IsBL.nil | apply IsBL.cells | apply IsBL.cons | exact IsLL.nil | apply IsLL.cons | exact IsL.nil | exact IsV.int _ _ | exact IsV.str _ | exact IsV.slV _ _ _ | exact IsV.nils | exact IsV.bool _ | exact IsV.sl _ _ _ | apply IsL.cons | exact IsV.any _ | exact IsL.any _ | exact IsLL.any _ | exact IsBL.any _ | exact (rfl : (_ : Nat) = 1) | exact (rfl : (_ : Nat) = 2) | exact (rfl : (_ : Nat) = 3) | exact (rfl : (_ : Nat) = 4) | exact (rfl : (_ : Nat) = 5) | exact (rfl : (_ : Nat) = 6) | exact (rfl : (_ : Nat) = 7) | exact (rfl : (_ : Nat) = 8) | exact (rfl : (_ : Nat) = 9) | exact (rfl : (_ : Nat) = 10) | exact (rfl : (_ : Nat) = 11) | exact (rfl : (_ : Nat) = 12) | exact (rfl : (_ : Nat) = 256) | exact rfl) (by first | exact (rfl : (_ : Nat) = 0) | exact (rfl : (_ : Nat) = 1) | exact rfl) (by first | exact (rfl : (_ : List Nat) = []) | exact rfl) (by first | exact (rfl : (_ : Nat) = 0) | exact (rfl : (_ : Nat) = 1) | exact (rfl : (_ : Nat) = 2) | exact (rfl : (_ : Nat) = 3) | exact (rfl : (_ : Nat) = 4) | exact (rfl : (_ : Nat) = 5) | exact (rfl : (_ : Nat) = 6) | exact (rfl : (_ : Nat) = 7) | exact (rfl : (_ : Nat) = 8) | exact (rfl : (_ : Nat) = 9) | exact (rfl : (_ : Nat) = 10) | exact (rfl : (_ : Nat) = 11) | exact (rfl : (_ : Nat) = 12) | exact rfl)); rfl)
    | (apply DrwQ.rOp (ty := 22); rfl; rfl; rfl; exact (IsV.any _); rfl)
    | intro hb
    | refine Wp.seq ?_
    | refine SeqQ.go ?_
    | refine Wp.region ?_
    | refine Wp.draw tOk follows (by kernel_rfl) ?_
    | refine Wp.condT rfl ?_
    | refine Wp.condF rfl ?_
    | refine Wp.skip ?_
    | refine Wp.ret ?_
    | refine Wp.exit ?_
    | refine Wp.block ?_
    | refine SeqQ.ret ?_
    | refine SeqQ.exit ?_
    | refine BlockQ.go ?_
    | refine BlockQ.ret ?_
    | refine BlockQ.hit rfl ?_
    | refine BlockQ.miss rfl ?_
    | refine LoopI.ret ?_
    | refine LoopI.exit ?_
    | refine RetQ.end rfl rfl (IsV.int _ _) ?_
    | refine RetQ.end rfl rfl (IsV.bool _) ?_
    | refine RetQ.fin rfl (by repeat' first | exact IsL.nil | exact IsV.int _ _ | exact IsV.str _ | exact IsV.slV _ _ _ | exact IsV.nils | exact IsV.bool _ | exact IsV.sl _ _ _ | apply IsL.cons | apply IsV.agg | exact IsV.any _ | exact IsL.any _) ?_
    | refine RetM.fin rfl (by repeat' first | exact IsL.nil | exact IsV.int _ _ | exact IsV.str _ | exact IsV.slV _ _ _ | exact IsV.nils | exact IsV.bool _ | exact IsV.sl _ _ _ | apply IsL.cons | apply IsV.agg | exact IsV.any _ | exact IsL.any _) ?_
  obtain ⟨l, el⟩ : ∃ l, l = P ++ X := ⟨_, rfl⟩
  have hll : l.length ≤ 3000000 := by rw [el, List.length_append]; exact hl
  rw [← el] at hL hle ⊢
  clear el ha1 ha2
  obtain ⟨bx, hbx⟩ : ∃ bx, bx = [Box.cells 2 [[slV b 1 (partsC P), slV b' 1 (partsC X)]]] := ⟨_, rfl⟩
  rw [← hbx]
  clear hbx
  refine Wp.while (fun m tm H => ∃ (i : Nat) (base : TM), i + m = l.length ∧ l.all (fun x => decide (x.length ≤ 100)) = (l.drop i).all (fun x => decide (x.length ≤ 100)) ∧
      tm = ovr base [(3, L2), (4, .int .i64 (i : Int))] ∧ H = ⟨bx, 0, lv2, n2⟩)
    (fun m tm H hI => ?_) l.length _ _ ⟨0, _, by omega, by simp, ovr_mk ⟨rfl, rfl, trivial⟩, rfl⟩
  obtain ⟨i, base, hi, hf, rfl, rfl⟩ := hI
  by_cases hlt : i < l.length
  · obtain ⟨x, hx⟩ : ∃ x, l[i]? = some x := ⟨l[i], by simp⟩
    have hg := hL.get i x hx
    rw [drop_cons hx, List.all_cons] at hf
    repeat' first
      | refine RegQ.nil ?_
      | (apply RegQ.rBs; rfl; rfl; rfl; rfl; exact (by repeat' first | exact IsLL.nil | apply IsLL.cons | exact IsL.nil | exact IsV.int _ _ | exact IsV.str _ | exact IsV.slV _ _ _ | exact IsV.nils | exact IsV.bool _ | exact IsV.sl _ _ _ | apply IsL.cons | exact IsV.any _ | exact IsL.any _ | exact IsLL.any _); exact (by first | rfl | (simp only [frzLL, frzL, frz1_slV]; rfl)))
      | (apply RegQ.rBi; rfl; rfl; rfl; rfl; assumption; exact (IsV.any _))
      | (apply RegQ.rIa; rfl; rfl; rfl; rfl; assumption; exact (IsV.any _))
      | (apply RegQ.rLe; rfl; rfl; rfl; assumption; exact (IsV.any _))
      | (apply RegQ.rLd; rfl; rfl; rfl; assumption; exact (IsV.any _))
      | (apply RegQ.rAp; rfl; rfl; rfl; rfl; rfl; assumption)
      | (apply RegQ.rOp (ty := 0); rfl; rfl; rfl; exact (IsV.fptr _ _))
      | (apply RegQ.rOpH (ty := 0); rfl; rfl; rfl; exact (IsV.ptr4 (by first | exact (rfl : (_ : Nat) = 0) | exact (rfl : (_ : Nat) = 1) | exact (rfl : (_ : Nat) = 2) | exact (rfl : (_ : Nat) = 3) | exact (rfl : (_ : Nat) = 4) | exact (rfl : (_ : Nat) = 5) | exact (rfl : (_ : Nat) = 6) | exact (rfl : (_ : Nat) = 7) | exact (rfl : (_ : Nat) = 8) | exact (rfl : (_ : Nat) = 9) | exact (rfl : (_ : Nat) = 10) | exact (rfl : (_ : Nat) = 11) | exact (rfl : (_ : Nat) = 12) | exact rfl) (by first | exact (rfl : (_ : Nat) = 0) | exact (rfl : (_ : Nat) = 1) | exact (rfl : (_ : Nat) = 2) | exact (rfl : (_ : Nat) = 3) | exact (rfl : (_ : Nat) = 4) | exact (rfl : (_ : Nat) = 5) | exact (rfl : (_ : Nat) = 6) | exact (rfl : (_ : Nat) = 7) | exact (rfl : (_ : Nat) = 8) | exact (rfl : (_ : Nat) = 9) | exact (rfl : (_ : Nat) = 10) | exact (rfl : (_ : Nat) = 11) | exact (rfl : (_ : Nat) = 12) | exact rfl) (by first | exact (rfl : (_ : Nat) = 0) | exact (rfl : (_ : Nat) = 1) | exact (rfl : (_ : Nat) = 2) | exact (rfl : (_ : Nat) = 3) | exact (rfl : (_ : Nat) = 4) | exact (rfl : (_ : Nat) = 5) | exact (rfl : (_ : Nat) = 6) | exact (rfl : (_ : Nat) = 7) | exact (rfl : (_ : Nat) = 8) | exact (rfl : (_ : Nat) = 9) | exact (rfl : (_ : Nat) = 10) | exact (rfl : (_ : Nat) = 11) | exact (rfl : (_ : Nat) = 12) | exact rfl) (by first | exact (rfl : (_ : Nat) = 0) | exact (rfl : (_ : Nat) = 1) | exact (rfl : (_ : Nat) = 2) | exact (rfl : (_ : Nat) = 3) | exact (rfl : (_ : Nat) = 4) | exact (rfl : (_ : Nat) = 5) | exact (rfl : (_ : Nat) = 6) | exact (rfl : (_ : Nat) = 7) | exact (rfl : (_ : Nat) = 8) | exact (rfl : (_ : Nat) = 9) | exact (rfl : (_ : Nat) = 10) | exact (rfl : (_ : Nat) = 11) | exact (rfl : (_ : Nat) = 12) | exact rfl)); exact (IsH.mk _ _ _ _ _ _ _ _ (by repeat' first | exact IsBL.nil | apply IsBL.cells | apply IsBL.cons | exact IsLL.nil | apply IsLL.cons | exact IsL.nil | exact IsV.int _ _ | exact IsV.str _ | exact IsV.slV _ _ _ | exact IsV.nils | exact IsV.bool _ | exact IsV.sl _ _ _ | apply IsL.cons | exact IsV.any _ | exact IsL.any _ | exact IsLL.any _ | exact IsBL.any _ | exact (rfl : (_ : Nat) = 1) | exact (rfl : (_ : Nat) = 2) | exact (rfl : (_ : Nat) = 3) | exact (rfl : (_ : Nat) = 4) | exact (rfl : (_ : Nat) = 5) | exact (rfl : (_ : Nat) = 6) | exact (rfl : (_ : Nat) = 7) | exact (rfl : (_ : Nat) = 8) | exact (rfl : (_ : Nat) = 9) | exact (rfl : (_ : Nat) = 10) | exact (rfl : (_ : Nat) = 11) | exact (rfl : (_ : Nat) = 12) | exact (rfl : (_ : Nat) = 256) | exact rfl) (by first | exact (rfl : (_ : Nat) = 0) | exact (rfl : (_ : Nat) = 1) | exact rfl) (by first | exact (rfl : (_ : List Nat) = []) | exact rfl) (by first | exact (rfl : (_ : Nat) = 0) | exact (rfl : (_ : Nat) = 1) | exact (rfl : (_ : Nat) = 2) | exact (rfl : (_ : Nat) = 3) | exact (rfl : (_ : Nat) = 4) | exact (rfl : (_ : Nat) = 5) | exact (rfl : (_ : Nat) = 6) | exact (rfl : (_ : Nat) = 7) | exact (rfl : (_ : Nat) = 8) | exact (rfl : (_ : Nat) = 9) | exact (rfl : (_ : Nat) = 10) | exact (rfl : (_ : Nat) = 11) | exact (rfl : (_ : Nat) = 12) | exact rfl)))
      | (apply RegQ.rIdx; rfl; rfl; rfl; rfl; rfl; rfl; rfl; rfl; assumption)
      | (apply RegQ.rOp (ty := 3); rfl; rfl; rfl; exact (IsV.int _ _))
      | (apply RegQ.rLen (ty := 3); rfl; rfl; rfl; rfl; rfl)
      | (apply RegQ.rOp (ty := 4); rfl; rfl; rfl; exact (IsV.bool true))
      | (apply RegQ.rOp (ty := 4); rfl; rfl; rfl; exact (IsV.bool false))
      | (apply RegQ.rB (ty := 4); rfl; rfl; rfl)
      | (apply RegQ.rOp (ty := 9); rfl; rfl; rfl; exact (IsV.str _))
      | (apply RegQ.rOp (ty := 22); rfl; rfl; rfl; exact (IsV.slV _ _ _))
      | (apply RegQ.rOp (ty := 22); rfl; rfl; rfl; exact IsV.nils)
      | (apply RegQ.rOpH (ty := 22); rfl; rfl; rfl; exact (IsV.sl _ _ _); exact (IsH.mk _ _ _ _ _ _ _ _ (by repeat' first | exact IsBL.nil | apply IsBL.cells | apply IsBL.cons | exact IsLL.nil | apply IsLL.cons | exact IsL.nil | exact IsV.int _ _ | exact IsV.str _ | exact IsV.slV _ _ _ | exact IsV.nils | exact IsV.bool _ | exact IsV.sl _ _ _ | apply IsL.cons | exact IsV.any _ | exact IsL.any _ | exact IsLL.any _ | exact IsBL.any _ | exact (rfl : (_ : Nat) = 1) | exact (rfl : (_ : Nat) = 2) | exact (rfl : (_ : Nat) = 3) | exact (rfl : (_ : Nat) = 4) | exact (rfl : (_ : Nat) = 5) | exact (rfl : (_ : Nat) = 6) | exact (rfl : (_ : Nat) = 7) | exact (rfl : (_ : Nat) = 8) | exact (rfl : (_ : Nat) = 9) | exact (rfl : (_ : Nat) = 10) | exact (rfl : (_ : Nat) = 11) | exact (rfl : (_ : Nat) = 12) | exact (rfl : (_ : Nat) = 256) | exact rfl) (by first | exact (rfl : (_ : Nat) = 0) | exact (rfl : (_ : Nat) = 1) | exact rfl) (by first | exact (rfl : (_ : List Nat) = []) | exact rfl) (by first | exact (rfl : (_ : Nat) = 0) | exact (rfl : (_ : Nat) = 1) | exact (rfl : (_ : Nat) = 2) | exact (rfl : (_ : Nat) = 3) | exact (rfl : (_ : Nat) = 4) | exact (rfl : (_ : Nat) = 5) | exact (rfl : (_ : Nat) = 6) | exact (rfl : (_ : Nat) = 7) | exact (rfl : (_ : Nat) = 8) | exact (rfl : (_ : Nat) = 9) | exact (rfl : (_ : Nat) = 10) | exact (rfl : (_ : Nat) = 11) | exact (rfl : (_ : Nat) = 12) | exact rfl)))
      | (apply RegQ.rOpH (ty := 22); rfl; rfl; rfl; exact (IsV.own _ _ _ _); exact (IsH.mk _ _ _ _ _ _ _ _ (by repeat' first | exact IsBL.nil | apply IsBL.cells | apply IsBL.cons | exact IsLL.nil | apply IsLL.cons | exact IsL.nil | exact IsV.int _ _ | exact IsV.str _ | exact IsV.slV _ _ _ | exact IsV.nils | exact IsV.bool _ | exact IsV.sl _ _ _ | apply IsL.cons | exact IsV.any _ | exact IsL.any _ | exact IsLL.any _ | exact IsBL.any _ | exact (rfl : (_ : Nat) = 1) | exact (rfl : (_ : Nat) = 2) | exact (rfl : (_ : Nat) = 3) | exact (rfl : (_ : Nat) = 4) | exact (rfl : (_ : Nat) = 5) | exact (rfl : (_ : Nat) = 6) | exact (rfl : (_ : Nat) = 7) | exact (rfl : (_ : Nat) = 8) | exact (rfl : (_ : Nat) = 9) | exact (rfl : (_ : Nat) = 10) | exact (rfl : (_ : Nat) = 11) | exact (rfl : (_ : Nat) = 12) | exact (rfl : (_ : Nat) = 256) | exact rfl) (by first | exact (rfl : (_ : Nat) = 0) | exact (rfl : (_ : Nat) = 1) | exact rfl) (by first | exact (rfl : (_ : List Nat) = []) | exact rfl) (by first | exact (rfl : (_ : Nat) = 0) | exact (rfl : (_ : Nat) = 1) | exact (rfl : (_ : Nat) = 2) | exact (rfl : (_ : Nat) = 3) | exact (rfl : (_ : Nat) = 4) | exact (rfl : (_ : Nat) = 5) | exact (rfl : (_ : Nat) = 6) | exact (rfl : (_ : Nat) = 7) | exact (rfl : (_ : Nat) = 8) | exact (rfl : (_ : Nat) = 9) | exact (rfl : (_ : Nat) = 10) | exact (rfl : (_ : Nat) = 11) | exact (rfl : (_ : Nat) = 12) | exact rfl)))
      | (apply RegQ.rOp (ty := 22); rfl; rfl; rfl; exact (IsV.any _))
      | refine DrwQ.nil ?_
      | (apply DrwQ.rBs; rfl; rfl; rfl; rfl; exact (by repeat' first | exact IsLL.nil | apply IsLL.cons | exact IsL.nil | exact IsV.int _ _ | exact IsV.str _ | exact IsV.slV _ _ _ | exact IsV.nils | exact IsV.bool _ | exact IsV.sl _ _ _ | apply IsL.cons | exact IsV.any _ | exact IsL.any _ | exact IsLL.any _); exact (by first | rfl | (simp only [frzLL, frzL, frz1_slV]; rfl)); rfl)
      | (apply DrwQ.rBi; rfl; rfl; rfl; rfl; assumption; exact (IsV.any _); rfl)
      | (apply DrwQ.rIa; rfl; rfl; rfl; rfl; assumption; exact (IsV.any _))
      | (apply DrwQ.rLe; rfl; rfl; rfl; assumption; exact (IsV.any _); rfl)
      | (apply DrwQ.rApT; rfl; rfl; rfl; rfl; rfl; rfl; assumption)
      | (apply DrwQ.rAp; rfl; rfl; rfl; rfl; rfl; assumption; rfl)
      | (apply DrwQ.rOp (ty := 0); rfl; rfl; rfl; exact (IsV.fptr _ _); rfl)
      | (apply DrwQ.rOpH (ty := 0); rfl; rfl; rfl; exact (IsV.ptr4 (by first | exact (rfl : (_ : Nat) = 0) | exact (rfl : (_ : Nat) = 1) | exact (rfl : (_ : Nat) = 2) | exact (rfl : (_ : Nat) = 3) | exact (rfl : (_ : Nat) = 4) | exact (rfl : (_ : Nat) = 5) | exact (rfl : (_ : Nat) = 6) | exact (rfl : (_ : Nat) = 7) | exact (rfl : (_ : Nat) = 8) | exact (rfl : (_ : Nat) = 9) | exact (rfl : (_ : Nat) = 10) | exact (rfl : (_ : Nat) = 11) | exact (rfl : (_ : Nat) = 12) | exact rfl) (by first | exact (rfl : (_ : Nat) = 0) | exact (rfl : (_ : Nat) = 1) | exact (rfl : (_ : Nat) = 2) | exact (rfl : (_ : Nat) = 3) | exact (rfl : (_ : Nat) = 4) | exact (rfl : (_ : Nat) = 5) | exact (rfl : (_ : Nat) = 6) | exact (rfl : (_ : Nat) = 7) | exact (rfl : (_ : Nat) = 8) | exact (rfl : (_ : Nat) = 9) | exact (rfl : (_ : Nat) = 10) | exact (rfl : (_ : Nat) = 11) | exact (rfl : (_ : Nat) = 12) | exact rfl) (by first | exact (rfl : (_ : Nat) = 0) | exact (rfl : (_ : Nat) = 1) | exact (rfl : (_ : Nat) = 2) | exact (rfl : (_ : Nat) = 3) | exact (rfl : (_ : Nat) = 4) | exact (rfl : (_ : Nat) = 5) | exact (rfl : (_ : Nat) = 6) | exact (rfl : (_ : Nat) = 7) | exact (rfl : (_ : Nat) = 8) | exact (rfl : (_ : Nat) = 9) | exact (rfl : (_ : Nat) = 10) | exact (rfl : (_ : Nat) = 11) | exact (rfl : (_ : Nat) = 12) | exact rfl) (by first | exact (rfl : (_ : Nat) = 0) | exact (rfl : (_ : Nat) = 1) | exact (rfl : (_ : Nat) = 2) | exact (rfl : (_ : Nat) = 3) | exact (rfl : (_ : Nat) = 4) | exact (rfl : (_ : Nat) = 5) | exact (rfl : (_ : Nat) = 6) | exact (rfl : (_ : Nat) = 7) | exact (rfl : (_ : Nat) = 8) | exact (rfl : (_ : Nat) = 9) | exact (rfl : (_ : Nat) = 10) | exact (rfl : (_ : Nat) = 11) | exact (rfl : (_ : Nat) = 12) | exact rfl)); exact (IsH.mk _ _ _ _ _ _ _ _ (by repeat' first | exact IsBL.nil | apply IsBL.cells | apply IsBL.cons | exact IsLL.nil | apply IsLL.cons | exact IsL.nil | exact IsV.int _ _ | exact IsV.str _ | exact IsV.slV _ _ _ | exact IsV.nils | exact IsV.bool _ | exact IsV.sl _ _ _ | apply IsL.cons | exact IsV.any _ | exact IsL.any _ | exact IsLL.any _ | exact IsBL.any _ | exact (rfl : (_ : Nat) = 1) | exact (rfl : (_ : Nat) = 2) | exact (rfl : (_ : Nat) = 3) | exact (rfl : (_ : Nat) = 4) | exact (rfl : (_ : Nat) = 5) | exact (rfl : (_ : Nat) = 6) | exact (rfl : (_ : Nat) = 7) | exact (rfl : (_ : Nat) = 8) | exact (rfl : (_ : Nat) = 9) | exact (rfl : (_ : Nat) = 10) | exact (rfl : (_ : Nat) = 11) | exact (rfl : (_ : Nat) = 12) | exact (rfl : (_ : Nat) = 256) | exact rfl) (by first | exact (rfl : (_ : Nat) = 0) | exact (rfl : (_ : Nat) = 1) | exact rfl) (by first | exact (rfl : (_ : List Nat) = []) | exact rfl) (by first | exact (rfl : (_ : Nat) = 0) | exact (rfl : (_ : Nat) = 1) | exact (rfl : (_ : Nat) = 2) | exact (rfl : (_ : Nat) = 3) | exact (rfl : (_ : Nat) = 4) | exact (rfl : (_ : Nat) = 5) | exact (rfl : (_ : Nat) = 6) | exact (rfl : (_ : Nat) = 7) | exact (rfl : (_ : Nat) = 8) | exact (rfl : (_ : Nat) = 9) | exact (rfl : (_ : Nat) = 10) | exact (rfl : (_ : Nat) = 11) | exact (rfl : (_ : Nat) = 12) | exact rfl)); rfl)
      | (apply DrwQ.rIdx; rfl; rfl; rfl; rfl; rfl; rfl; rfl; rfl; assumption)
      | (apply DrwQ.rOp (ty := 3); rfl; rfl; rfl; exact (IsV.int _ _); rfl)
      | (apply DrwQ.rLen (ty := 3); rfl; rfl; rfl; rfl; rfl)
      | (apply DrwQ.rOp (ty := 4); rfl; rfl; rfl; exact (IsV.bool true); rfl)
      | (apply DrwQ.rOp (ty := 4); rfl; rfl; rfl; exact (IsV.bool false); rfl)
      | (apply DrwQ.rB (ty := 4); rfl; rfl; rfl; rfl)
      | (apply DrwQ.rOp (ty := 9); rfl; rfl; rfl; exact (IsV.str _); rfl)
      | (apply DrwQ.rOp (ty := 22); rfl; rfl; rfl; exact (IsV.slV _ _ _); rfl)
      | (apply DrwQ.rOp (ty := 22); rfl; rfl; rfl; exact IsV.nils; rfl)
      | (apply DrwQ.rOpH (ty := 22); rfl; rfl; rfl; exact (IsV.sl _ _ _); exact (IsH.mk _ _ _ _ _ _ _ _ (by repeat' first | exact IsBL.nil | apply IsBL.cells | apply IsBL.cons | exact IsLL.nil | apply IsLL.cons | exact IsL.nil | exact IsV.int _ _ | exact IsV.str _ | exact IsV.slV _ _ _ | exact IsV.nils | exact IsV.bool _ | exact IsV.sl _ _ _ | apply IsL.cons | exact IsV.any _ | exact IsL.any _ | exact IsLL.any _ | exact IsBL.any _ | exact (rfl : (_ : Nat) = 1) | exact (rfl : (_ : Nat) = 2) | exact (rfl : (_ : Nat) = 3) | exact (rfl : (_ : Nat) = 4) | exact (rfl : (_ : Nat) = 5) | exact (rfl : (_ : Nat) = 6) | exact (rfl : (_ : Nat) = 7) | exact (rfl : (_ : Nat) = 8) | exact (rfl : (_ : Nat) = 9) | exact (rfl : (_ : Nat) = 10) | exact (rfl : (_ : Nat) = 11) | exact (rfl : (_ : Nat) = 12) | exact (rfl : (_ : Nat) = 256) | exact rfl) (by first | exact (rfl : (_ : Nat) = 0) | exact (rfl : (_ : Nat) = 1) | exact rfl) (by first | exact (rfl : (_ : List Nat) = []) | exact rfl) (by first | exact (rfl : (_ : Nat) = 0) | exact (rfl : (_ : Nat) = 1) | exact (rfl : (_ : Nat) = 2) | exact (rfl : (_ : Nat) = 3) | exact (rfl : (_ : Nat) = 4) | exact (rfl : (_ : Nat) = 5) | exact (rfl : (_ : Nat) = 6) | exact (rfl : (_ : Nat) = 7) | exact (rfl : (_ : Nat) = 8) | exact (rfl : (_ : Nat) = 9) | exact (rfl : (_ : Nat) = 10) | exact (rfl : (_ : Nat) = 11) | exact (rfl : (_ : Nat) = 12) | exact rfl)); rfl)
      | (apply DrwQ.rOpH (ty := 22); rfl; rfl; rfl; exact (IsV.own _ _ _ _); exact (IsH.mk _ _ _ _ _ _ _ _ (by repeat' first | exact IsBL.nil | apply IsBL.cells | apply IsBL.cons | exact IsLL.nil | apply IsLL.cons | exact IsL.nil | exact IsV.int _ _ | exact IsV.str _ | exact IsV.slV _ _ _ | exact IsV.nils | exact IsV.bool _ | exact IsV.sl _ _ _ | apply IsL.cons | exact IsV.any _ | exact IsL.any _ | exact IsLL.any _ | exact IsBL.any _ | exact (rfl : (_ : Nat) = 1) | exact (rfl : (_ : Nat) = 2) | exact (rfl : (_ : Nat) = 3) | exact (rfl : (_ : Nat) = 4) | exact (rfl : (_ : Nat) = 5) | exact (rfl : (_ : Nat) = 6) | exact (rfl : (_ : Nat) = 7) | exact (rfl : (_ : Nat) = 8) | exact (rfl : (_ : Nat) = 9) | exact (rfl : (_ : Nat) = 10) | exact (rfl : (_ : Nat) = 11) | exact (rfl : (_ : Nat) = 12) | exact (rfl : (_ : Nat) = 256) | exact rfl) (by first | exact (rfl : (_ : Nat) = 0) | exact (rfl : (_ : Nat) = 1) | exact rfl) (by first | exact (rfl : (_ : List Nat) = []) | exact rfl) (by first | exact (rfl : (_ : Nat) = 0) | exact (rfl : (_ : Nat) = 1) | exact (rfl : (_ : Nat) = 2) | exact (rfl : (_ : Nat) = 3) | exact (rfl : (_ : Nat) = 4) | exact (rfl : (_ : Nat) = 5) | exact (rfl : (_ : Nat) = 6) | exact (rfl : (_ : Nat) = 7) | exact (rfl : (_ : Nat) = 8) | exact (rfl : (_ : Nat) = 9) | exact (rfl : (_ : Nat) = 10) | exact (rfl : (_ : Nat) = 11) | exact (rfl : (_ : Nat) = 12) | exact rfl)); rfl)
      | (apply DrwQ.rOp (ty := 22); rfl; rfl; rfl; exact (IsV.any _); rfl)
      | intro hb
      | refine Wp.seq ?_
      | refine SeqQ.go ?_
      | refine Wp.region ?_
      | refine Wp.draw tOk follows (by kernel_rfl) ?_
      | refine Wp.condT rfl ?_
      | refine Wp.condF rfl ?_
      | refine Wp.skip ?_
      | refine Wp.ret ?_
      | refine Wp.exit ?_
      | refine Wp.block ?_
      | refine SeqQ.ret ?_
      | refine SeqQ.exit ?_
      | refine BlockQ.go ?_
      | refine BlockQ.ret ?_
      | refine BlockQ.hit rfl ?_
      | refine BlockQ.miss rfl ?_
      | refine LoopI.ret ?_
      | refine LoopI.exit ?_
      | refine RetQ.end rfl rfl (IsV.int _ _) ?_
      | refine RetQ.end rfl rfl (IsV.bool _) ?_
      | refine RetQ.fin rfl (by repeat' first | exact IsL.nil | exact IsV.int _ _ | exact IsV.str _ | exact IsV.slV _ _ _ | exact IsV.nils | exact IsV.bool _ | exact IsV.sl _ _ _ | apply IsL.cons | apply IsV.agg | exact IsV.any _ | exact IsL.any _) ?_
      | refine RetM.fin rfl (by repeat' first | exact IsL.nil | exact IsV.int _ _ | exact IsV.str _ | exact IsV.slV _ _ _ | exact IsV.nils | exact IsV.bool _ | exact IsV.sl _ _ _ | apply IsL.cons | apply IsV.agg | exact IsV.any _ | exact IsL.any _) ?_
    · have hx0 : decide (x.length ≤ 100) = false := by simp at hb ⊢; omega
      rw [hx0] at hf
      simp only [fewB, hf]; rfl
    · have hx0 : decide (x.length ≤ 100) = true := by simp at hb ⊢; omega
      rw [hx0] at hf
      refine LoopI.go (m - 1) (by omega) ⟨i + 1, _, by omega, by rw [hf]; rfl, ovr_mk ⟨rfl, int_eq (wrap_nat (n := i + 1) (by omega)), trivial⟩, rfl⟩
    all_goals (exfalso; rename_i hq; simp at hq; omega)
  · have e : i = l.length := by omega
    subst e
    rw [List.drop_length] at hf
    have hfe : fewB l = decide ((l.length : Int) ≤ 60) := by
      simp only [fewB, hf]
      rw [Bool.eq_iff_iff]; simp; omega
    repeat' first
      | refine RegQ.nil ?_
      | (apply RegQ.rBs; rfl; rfl; rfl; rfl; exact (by repeat' first | exact IsLL.nil | apply IsLL.cons | exact IsL.nil | exact IsV.int _ _ | exact IsV.str _ | exact IsV.slV _ _ _ | exact IsV.nils | exact IsV.bool _ | exact IsV.sl _ _ _ | apply IsL.cons | exact IsV.any _ | exact IsL.any _ | exact IsLL.any _); exact (by first | rfl | (simp only [frzLL, frzL, frz1_slV]; rfl)))
      | (apply RegQ.rBi; rfl; rfl; rfl; rfl; assumption; exact (IsV.any _))
      | (apply RegQ.rIa; rfl; rfl; rfl; rfl; assumption; exact (IsV.any _))
      | (apply RegQ.rLe; rfl; rfl; rfl; assumption; exact (IsV.any _))
      | (apply RegQ.rLd; rfl; rfl; rfl; assumption; exact (IsV.any _))
      | (apply RegQ.rAp; rfl; rfl; rfl; rfl; rfl; assumption)
      | (apply RegQ.rOp (ty := 0); rfl; rfl; rfl; exact (IsV.fptr _ _))
      | (apply RegQ.rOpH (ty := 0); rfl; rfl; rfl; exact (IsV.ptr4 (by first | exact (rfl : (_ : Nat) = 0) | exact (rfl : (_ : Nat) = 1) | exact (rfl : (_ : Nat) = 2) | exact (rfl : (_ : Nat) = 3) | exact (rfl : (_ : Nat) = 4) | exact (rfl : (_ : Nat) = 5) | exact (rfl : (_ : Nat) = 6) | exact (rfl : (_ : Nat) = 7) | exact (rfl : (_ : Nat) = 8) | exact (rfl : (_ : Nat) = 9) | exact (rfl : (_ : Nat) = 10) | exact (rfl : (_ : Nat) = 11) | exact (rfl : (_ : Nat) = 12) | exact rfl) (by first | exact (rfl : (_ : Nat) = 0) | exact (rfl : (_ : Nat) = 1) | exact (rfl : (_ : Nat) = 2) | exact (rfl : (_ : Nat) = 3) | exact (rfl : (_ : Nat) = 4) | exact (rfl : (_ : Nat) = 5) | exact (rfl : (_ : Nat) = 6) | exact (rfl : (_ : Nat) = 7) | exact (rfl : (_ : Nat) = 8) | exact (rfl : (_ : Nat) = 9) | exact (rfl : (_ : Nat) = 10) | exact (rfl : (_ : Nat) = 11) | exact (rfl : (_ : Nat) = 12) | exact rfl) (by first | exact (rfl : (_ : Nat) = 0) | exact (rfl : (_ : Nat) = 1) | exact (rfl : (_ : Nat) = 2) | exact (rfl : (_ : Nat) = 3) | exact (rfl : (_ : Nat) = 4) | exact (rfl : (_ : Nat) = 5) | exact (rfl : (_ : Nat) = 6) | exact (rfl : (_ : Nat) = 7) | exact (rfl : (_ : Nat) = 8) | exact (rfl : (_ : Nat) = 9) | exact (rfl : (_ : Nat) = 10) | exact (rfl : (_ : Nat) = 11) | exact (rfl : (_ : Nat) = 12) | exact rfl) (by first | exact (rfl : (_ : Nat) = 0) | exact (rfl : (_ : Nat) = 1) | exact (rfl : (_ : Nat) = 2) | exact (rfl : (_ : Nat) = 3) | exact (rfl : (_ : Nat) = 4) | exact (rfl : (_ : Nat) = 5) | exact (rfl : (_ : Nat) = 6) | exact (rfl : (_ : Nat) = 7) | exact (rfl : (_ : Nat) = 8) | exact (rfl : (_ : Nat) = 9) | exact (rfl : (_ : Nat) = 10) | exact (rfl : (_ : Nat) = 11) | exact (rfl : (_ : Nat) = 12) | exact rfl)); exact (IsH.mk _ _ _ _ _ _ _ _ (by repeat' first | exact IsBL.nil | apply IsBL.cells | apply IsBL.cons | exact IsLL.nil | apply IsLL.cons | exact IsL.nil | exact IsV.int _ _ | exact IsV.str _ | exact IsV.slV _ _ _ | exact IsV.nils | exact IsV.bool _ | exact IsV.sl _ _ _ | apply IsL.cons | exact IsV.any _ | exact IsL.any _ | exact IsLL.any _ | exact IsBL.any _ | exact (rfl : (_ : Nat) = 1) | exact (rfl : (_ : Nat) = 2) | exact (rfl : (_ : Nat) = 3) | exact (rfl : (_ : Nat) = 4) | exact (rfl : (_ : Nat) = 5) | exact (rfl : (_ : Nat) = 6) | exact (rfl : (_ : Nat) = 7) | exact (rfl : (_ : Nat) = 8) | exact (rfl : (_ : Nat) = 9) | exact (rfl : (_ : Nat) = 10) | exact (rfl : (_ : Nat) = 11) | exact (rfl : (_ : Nat) = 12) | exact (rfl : (_ : Nat) = 256) | exact rfl) (by first | exact (rfl : (_ : Nat) = 0) | exact (rfl : (_ : Nat) = 1) | exact rfl) (by first | exact (rfl : (_ : List Nat) = []) | exact rfl) (by first | exact (rfl : (_ : Nat) = 0) | exact (rfl : (_ : Nat) = 1) | exact (rfl : (_ : Nat) = 2) | exact (rfl : (_ : Nat) = 3) | exact (rfl : (_ : Nat) = 4) | exact (rfl : (_ : Nat) = 5) | exact (rfl : (_ : Nat) = 6) | exact (rfl : (_ : Nat) = 7) | exact (rfl : (_ : Nat) = 8) | exact (rfl : (_ : Nat) = 9) | exact (rfl : (_ : Nat) = 10) | exact (rfl : (_ : Nat) = 11) | exact (rfl : (_ : Nat) = 12) | exact rfl)))
      | (apply RegQ.rIdx; rfl; rfl; rfl; rfl; rfl; rfl; rfl; rfl; assumption)
      | (apply RegQ.rOp (ty := 3); rfl; rfl; rfl; exact (IsV.int _ _))
      | (apply RegQ.rLen (ty := 3); rfl; rfl; rfl; rfl; rfl)
      | (apply RegQ.rOp (ty := 4); rfl; rfl; rfl; exact (IsV.bool true))
      | (apply RegQ.rOp (ty := 4); rfl; rfl; rfl; exact (IsV.bool false))
      | (apply RegQ.rB (ty := 4); rfl; rfl; rfl)
      | (apply RegQ.rOp (ty := 9); rfl; rfl; rfl; exact (IsV.str _))
      | (apply RegQ.rOp (ty := 22); rfl; rfl; rfl; exact (IsV.slV _ _ _))
      | (apply RegQ.rOp (ty := 22); rfl; rfl; rfl; exact IsV.nils)
      | (apply RegQ.rOpH (ty := 22); rfl; rfl; rfl; exact (IsV.sl _ _ _); exact (IsH.mk _ _ _ _ _ _ _ _ (by repeat' first | exact IsBL.nil | apply IsBL.cells | apply IsBL.cons | exact IsLL.nil | apply IsLL.cons | exact IsL.nil | exact IsV.int _ _ | exact IsV.str _ | exact IsV.slV _ _ _ | exact IsV.nils | exact IsV.bool _ | exact IsV.sl _ _ _ | apply IsL.cons | exact IsV.any _ | exact IsL.any _ | exact IsLL.any _ | exact IsBL.any _ | exact (rfl : (_ : Nat) = 1) | exact (rfl : (_ : Nat) = 2) | exact (rfl : (_ : Nat) = 3) | exact (rfl : (_ : Nat) = 4) | exact (rfl : (_ : Nat) = 5) | exact (rfl : (_ : Nat) = 6) | exact (rfl : (_ : Nat) = 7) | exact (rfl : (_ : Nat) = 8) | exact (rfl : (_ : Nat) = 9) | exact (rfl : (_ : Nat) = 10) | exact (rfl : (_ : Nat) = 11) | exact (rfl : (_ : Nat) = 12) | exact (rfl : (_ : Nat) = 256) | exact rfl) (by first | exact (rfl : (_ : Nat) = 0) | exact (rfl : (_ : Nat) = 1) | exact rfl) (by first | exact (rfl : (_ : List Nat) = []) | exact rfl) (by first | exact (rfl : (_ : Nat) = 0) | exact (rfl : (_ : Nat) = 1) | exact (rfl : (_ : Nat) = 2) | exact (rfl : (_ : Nat) = 3) | exact (rfl : (_ : Nat) = 4) | exact (rfl : (_ : Nat) = 5) | exact (rfl : (_ : Nat) = 6) | exact (rfl : (_ : Nat) = 7) | exact (rfl : (_ : Nat) = 8) | exact (rfl : (_ : Nat) = 9) | exact (rfl : (_ : Nat) = 10) | exact (rfl : (_ : Nat) = 11) | exact (rfl : (_ : Nat) = 12) | exact rfl)))
      | (apply RegQ.rOpH (ty := 22); rfl; rfl; rfl; exact (IsV.own _ _ _ _); exact (IsH.mk _ _ _ _ _ _ _ _ (by repeat' first | exact IsBL.nil | apply IsBL.cells | apply IsBL.cons | exact IsLL.nil | apply IsLL.cons | exact IsL.nil | exact IsV.int _ _ | exact IsV.str _ | exact IsV.slV _ _ _ | exact IsV.nils | exact IsV.bool _ | exact IsV.sl _ _ _ | apply IsL.cons | exact IsV.any _ | exact IsL.any _ | exact IsLL.any _ | exact IsBL.any _ | exact (rfl : (_ : Nat) = 1) | exact (rfl : (_ : Nat) = 2) | exact (rfl : (_ : Nat) = 3) | exact (rfl : (_ : Nat) = 4) | exact (rfl : (_ : Nat) = 5) | exact (rfl : (_ : Nat) = 6) | exact (rfl : (_ : Nat) = 7) | exact (rfl : (_ : Nat) = 8) | exact (rfl : (_ : Nat) = 9) | exact (rfl : (_ : Nat) = 10) | exact (rfl : (_ : Nat) = 11) | exact (rfl : (_ : Nat) = 12) | exact (rfl : (_ : Nat) = 256) | exact rfl) (by first | exact (rfl : (_ : Nat) = 0) | exact (rfl : (_ : Nat) = 1) | exact rfl) (by first | exact (rfl : (_ : List Nat) = []) | exact rfl) (by first | exact (rfl : (_ : Nat) = 0) | exact (rfl : (_ : Nat) = 1) | exact (rfl : (_ : Nat) = 2) | exact (rfl : (_ : Nat) = 3) | exact (rfl : (_ : Nat) = 4) | exact (rfl : (_ : Nat) = 5) | exact (rfl : (_ : Nat) = 6) | exact (rfl : (_ : Nat) = 7) | exact (rfl : (_ : Nat) = 8) | exact (rfl : (_ : Nat) = 9) | exact (rfl : (_ : Nat) = 10) | exact (rfl : (_ : Nat) = 11) | exact (rfl : (_ : Nat) = 12) | exact rfl)))
      | (apply RegQ.rOp (ty := 22); rfl; rfl; rfl; exact (IsV.any _))
      | refine DrwQ.nil ?_
      | (apply DrwQ.rBs; rfl; rfl; rfl; rfl; exact (by repeat' first | exact IsLL.nil | apply IsLL.cons | exact IsL.nil | exact IsV.int _ _ | exact IsV.str _ | exact IsV.slV _ _ _ | exact IsV.nils | exact IsV.bool _ | exact IsV.sl _ _ _ | apply IsL.cons | exact IsV.any _ | exact IsL.any _ | exact IsLL.any _); exact (by first | rfl | (simp only [frzLL, frzL, frz1_slV]; rfl)); rfl)
      | (apply DrwQ.rBi; rfl; rfl; rfl; rfl; assumption; exact (IsV.any _); rfl)
      | (apply DrwQ.rIa; rfl; rfl; rfl; rfl; assumption; exact (IsV.any _))
      | (apply DrwQ.rLe; rfl; rfl; rfl; assumption; exact (IsV.any _); rfl)
      | (apply DrwQ.rApT; rfl; rfl; rfl; rfl; rfl; rfl; assumption)
      | (apply DrwQ.rAp; rfl; rfl; rfl; rfl; rfl; assumption; rfl)
      | (apply DrwQ.rOp (ty := 0); rfl; rfl; rfl; exact (IsV.fptr _ _); rfl)
      | (apply DrwQ.rOpH (ty := 0); rfl; rfl; rfl; exact (IsV.ptr4 (by first | exact (rfl : (_ : Nat) = 0) | exact (rfl : (_ : Nat) = 1) | exact (rfl : (_ : Nat) = 2) | exact (rfl : (_ : Nat) = 3) | exact (rfl : (_ : Nat) = 4) | exact (rfl : (_ : Nat) = 5) | exact (rfl : (_ : Nat) = 6) | exact (rfl : (_ : Nat) = 7) | exact (rfl : (_ : Nat) = 8) | exact (rfl : (_ : Nat) = 9) | exact (rfl : (_ : Nat) = 10) | exact (rfl : (_ : Nat) = 11) | exact (rfl : (_ : Nat) = 12) | exact rfl) (by first | exact (rfl : (_ : Nat) = 0) | exact (rfl : (_ : Nat) = 1) | exact (rfl : (_ : Nat) = 2) | exact (rfl : (_ : Nat) = 3) | exact (rfl : (_ : Nat) = 4) | exact (rfl : (_ : Nat) = 5) | exact (rfl : (_ : Nat) = 6) | exact (rfl : (_ : Nat) = 7) | exact (rfl : (_ : Nat) = 8) | exact (rfl : (_ : Nat) = 9) | exact (rfl : (_ : Nat) = 10) | exact (rfl : (_ : Nat) = 11) | exact (rfl : (_ : Nat) = 12) | exact rfl) (by first | exact (rfl : (_ : Nat) = 0) | exact (rfl : (_ : Nat) = 1) | exact (rfl : (_ : Nat) = 2) | exact (rfl : (_ : Nat) = 3) | exact (rfl : (_ : Nat) = 4) | exact (rfl : (_ : Nat) = 5) | exact (rfl : (_ : Nat) = 6) | exact (rfl : (_ : Nat) = 7) | exact (rfl : (_ : Nat) = 8) | exact (rfl : (_ : Nat) = 9) | exact (rfl : (_ : Nat) = 10) | exact (rfl : (_ : Nat) = 11) | exact (rfl : (_ : Nat) = 12) | exact rfl) (by first | exact (rfl : (_ : Nat) = 0) | exact (rfl : (_ : Nat) = 1) | exact (rfl : (_ : Nat) = 2) | exact (rfl : (_ : Nat) = 3) | exact (rfl : (_ : Nat) = 4) | exact (rfl : (_ : Nat) = 5) | exact (rfl : (_ : Nat) = 6) | exact (rfl : (_ : Nat) = 7) | exact (rfl : (_ : Nat) = 8) | exact (rfl : (_ : Nat) = 9) | exact (rfl : (_ : Nat) = 10) | exact (rfl : (_ : Nat) = 11) | exact (rfl : (_ : Nat) = 12) | exact rfl)); exact (IsH.mk _ _ _ _ _ _ _ _ (by repeat' first | exact IsBL.nil | apply IsBL.cells | apply IsBL.cons | exact IsLL.nil | apply IsLL.cons | exact IsL.nil | exact IsV.int _ _ | exact IsV.str _ | exact IsV.slV _ _ _ | exact IsV.nils | exact IsV.bool _ | exact IsV.sl _ _ _ | apply IsL.cons | exact IsV.any _ | exact IsL.any _ | exact IsLL.any _ | exact IsBL.any _ | exact (rfl : (_ : Nat) = 1) | exact (rfl : (_ : Nat) = 2) | exact (rfl : (_ : Nat) = 3) | exact (rfl : (_ : Nat) = 4) | exact (rfl : (_ : Nat) = 5) | exact (rfl : (_ : Nat) = 6) | exact (rfl : (_ : Nat) = 7) | exact (rfl : (_ : Nat) = 8) | exact (rfl : (_ : Nat) = 9) | exact (rfl : (_ : Nat) = 10) | exact (rfl : (_ : Nat) = 11) | exact (rfl : (_ : Nat) = 12) | exact (rfl : (_ : Nat) = 256) | exact rfl) (by first | exact (rfl : (_ : Nat) = 0) | exact (rfl : (_ : Nat) = 1) | exact rfl) (by first | exact (rfl : (_ : List Nat) = []) | exact rfl) (by first | exact (rfl : (_ : Nat) = 0) | exact (rfl : (_ : Nat) = 1) | exact (rfl : (_ : Nat) = 2) | exact (rfl : (_ : Nat) = 3) | exact (rfl : (_ : Nat) = 4) | exact (rfl : (_ : Nat) = 5) | exact (rfl : (_ : Nat) = 6) | exact (rfl : (_ : Nat) = 7) | exact (rfl : (_ : Nat) = 8) | exact (rfl : (_ : Nat) = 9) | exact (rfl : (_ : Nat) = 10) | exact (rfl : (_ : Nat) = 11) | exact (rfl : (_ : Nat) = 12) | exact rfl)); rfl)
      | (apply DrwQ.rIdx; rfl; rfl; rfl; rfl; rfl; rfl; rfl; rfl; assumption)
      | (apply DrwQ.rOp (ty := 3); rfl; rfl; rfl; exact (IsV.int _ _); rfl)
      | (apply DrwQ.rLen (ty := 3); rfl; rfl; rfl; rfl; rfl)
      | (apply DrwQ.rOp (ty := 4); rfl; rfl; rfl; exact (IsV.bool true); rfl)
      | (apply DrwQ.rOp (ty := 4); rfl; rfl; rfl; exact (IsV.bool false); rfl)
      | (apply DrwQ.rB (ty := 4); rfl; rfl; rfl; rfl)
      | (apply DrwQ.rOp (ty := 9); rfl; rfl; rfl; exact (IsV.str _); rfl)
      | (apply DrwQ.rOp (ty := 22); rfl; rfl; rfl; exact (IsV.slV _ _ _); rfl)
      | (apply DrwQ.rOp (ty := 22); rfl; rfl; rfl; exact IsV.nils; rfl)
      | (apply DrwQ.rOpH (ty := 22); rfl; rfl; rfl; exact (IsV.sl _ _ _); exact (IsH.mk _ _ _ _ _ _ _ _ (by repeat' first | exact IsBL.nil | apply IsBL.cells | apply IsBL.cons | exact IsLL.nil | apply IsLL.cons | exact IsL.nil | exact IsV.int _ _ | exact IsV.str _ | exact IsV.slV _ _ _ | exact IsV.nils | exact IsV.bool _ | exact IsV.sl _ _ _ | apply IsL.cons | exact IsV.any _ | exact IsL.any _ | exact IsLL.any _ | exact IsBL.any _ | exact (rfl : (_ : Nat) = 1) | exact (rfl : (_ : Nat) = 2) | exact (rfl : (_ : Nat) = 3) | exact (rfl : (_ : Nat) = 4) | exact (rfl : (_ : Nat) = 5) | exact (rfl : (_ : Nat) = 6) | exact (rfl : (_ : Nat) = 7) | exact (rfl : (_ : Nat) = 8) | exact (rfl : (_ : Nat) = 9) | exact (rfl : (_ : Nat) = 10) | exact (rfl : (_ : Nat) = 11) | exact (rfl : (_ : Nat) = 12) | exact (rfl : (_ : Nat) = 256) | exact rfl) (by first | exact (rfl : (_ : Nat) = 0) | exact (rfl : (_ : Nat) = 1) | exact rfl) (by first | exact (rfl : (_ : List Nat) = []) | exact rfl) (by first | exact (rfl : (_ : Nat) = 0) | exact (rfl : (_ : Nat) = 1) | exact (rfl : (_ : Nat) = 2) | exact (rfl : (_ : Nat) = 3) | exact (rfl : (_ : Nat) = 4) | exact (rfl : (_ : Nat) = 5) | exact (rfl : (_ : Nat) = 6) | exact (rfl : (_ : Nat) = 7) | exact (rfl : (_ : Nat) = 8) | exact (rfl : (_ : Nat) = 9) | exact (rfl : (_ : Nat) = 10) | exact (rfl : (_ : Nat) = 11) | exact (rfl : (_ : Nat) = 12) | exact rfl)); rfl)
      | (apply DrwQ.rOpH (ty := 22); rfl; rfl; rfl; exact (IsV.own _ _ _ _); exact (IsH.mk _ _ _ _ _ _ _ _ (by repeat' first | exact IsBL.nil | apply IsBL.cells | apply IsBL.cons | exact IsLL.nil | apply IsLL.cons | exact IsL.nil | exact IsV.int _ _ | exact IsV.str _ | exact IsV.slV _ _ _ | exact IsV.nils | exact IsV.bool _ | exact IsV.sl _ _ _ | apply IsL.cons | exact IsV.any _ | exact IsL.any _ | exact IsLL.any _ | exact IsBL.any _ | exact (rfl : (_ : Nat) = 1) | exact (rfl : (_ : Nat) = 2) | exact (rfl : (_ : Nat) = 3) | exact (rfl : (_ : Nat) = 4) | exact (rfl : (_ : Nat) = 5) | exact (rfl : (_ : Nat) = 6) | exact (rfl : (_ : Nat) = 7) | exact (rfl : (_ : Nat) = 8) | exact (rfl : (_ : Nat) = 9) | exact (rfl : (_ : Nat) = 10) | exact (rfl : (_ : Nat) = 11) | exact (rfl : (_ : Nat) = 12) | exact (rfl : (_ : Nat) = 256) | exact rfl) (by first | exact (rfl : (_ : Nat) = 0) | exact (rfl : (_ : Nat) = 1) | exact rfl) (by first | exact (rfl : (_ : List Nat) = []) | exact rfl) (by first | exact (rfl : (_ : Nat) = 0) | exact (rfl : (_ : Nat) = 1) | exact (rfl : (_ : Nat) = 2) | exact (rfl : (_ : Nat) = 3) | exact (rfl : (_ : Nat) = 4) | exact (rfl : (_ : Nat) = 5) | exact (rfl : (_ : Nat) = 6) | exact (rfl : (_ : Nat) = 7) | exact (rfl : (_ : Nat) = 8) | exact (rfl : (_ : Nat) = 9) | exact (rfl : (_ : Nat) = 10) | exact (rfl : (_ : Nat) = 11) | exact (rfl : (_ : Nat) = 12) | exact rfl)); rfl)
      | (apply DrwQ.rOp (ty := 22); rfl; rfl; rfl; exact (IsV.any _); rfl)
      | intro hb
      | refine Wp.seq ?_
      | refine SeqQ.go ?_
      | refine Wp.region ?_
      | refine Wp.draw tOk follows (by kernel_rfl) ?_
      | refine Wp.condT rfl ?_
      | refine Wp.condF rfl ?_
      | refine Wp.skip ?_
      | refine Wp.ret ?_
      | refine Wp.exit ?_
      | refine Wp.block ?_
      | refine SeqQ.ret ?_
      | refine SeqQ.exit ?_
      | refine BlockQ.go ?_
      | refine BlockQ.ret ?_
      | refine BlockQ.hit rfl ?_
      | refine BlockQ.miss rfl ?_
      | refine LoopI.ret ?_
      | refine LoopI.exit ?_
      | refine RetQ.end rfl rfl (IsV.int _ _) ?_
      | refine RetQ.end rfl rfl (IsV.bool _) ?_
      | refine RetQ.fin rfl (by repeat' first | exact IsL.nil | exact IsV.int _ _ | exact IsV.str _ | exact IsV.slV _ _ _ | exact IsV.nils | exact IsV.bool _ | exact IsV.sl _ _ _ | apply IsL.cons | apply IsV.agg | exact IsV.any _ | exact IsL.any _) ?_
      | refine RetM.fin rfl (by repeat' first | exact IsL.nil | exact IsV.int _ _ | exact IsV.str _ | exact IsV.slV _ _ _ | exact IsV.nils | exact IsV.bool _ | exact IsV.sl _ _ _ | apply IsL.cons | apply IsV.agg | exact IsV.any _ | exact IsL.any _) ?_
    · exfalso; simp at hb
    · rw [hfe, hb]
    · rw [hfe, hb]

set_option maxHeartbeats 8000000 in
theorem c6 {P X : List Bs} {s t : Bs} (hl : P.length + X.length ≤ 3000000) (b b' : Bool) :
    ∀ H, CallOk E0 Tryz.prog 6 [conV b b' P X, .str s, .str t] H (.bool true) H := by
  have h27 := c27 hl b b'
  have few : fewB (P ++ X) = true → (∀ x, x ∈ P → x.length ≤ 1000) ∧ (∀ x, x ∈ X → x.length ≤ 1000) := fun h => by
    simp only [fewB, Bool.and_eq_true, List.all_eq_true, decide_eq_true_eq, List.mem_append] at h
    exact ⟨fun x hx => by have := h.1 x (.inl hx); omega, fun x hx => by have := h.1 x (.inr hx); omega⟩
  have haw : ∀ H, CallOk E0 Tryz.prog 26 [] H (.bool true) H := awakeOk5
  refine callOk_wp (own := fun _ => false) tOk fe6.ok (by simp only [frzGL, frzG, frzL, frz1_slV]; rfl) rfl ?_
  obtain ⟨F, hF⟩ : ∃ F, F = fewB (P ++ X) := ⟨_, rfl⟩
  rw [← hF] at h27 few
  by_cases hs : s.length ≤ 200
  · by_cases ht : t.length ≤ 200
    · cases F with
      | true =>
        have h28 := c28 (few rfl).1 (by unfold maxLen; omega) (few rfl).2 (by unfold maxLen; omega) (s := s) (by omega) b b'
        have h29 := c29 (few rfl).1 (by unfold maxLen; omega) (few rfl).2 (by unfold maxLen; omega) (s := s) (by omega) b b'
        have h30 := c30 (s := s) (t := t) (by omega) (by omega)
        have h31 := c31 (s := s) (t := t) (by omega) (by omega)
        refine Wp.seq ?_
        repeat' first
          | refine RegQ.nil ?_
          | (apply RegQ.rSkip; rfl; rfl)
          | (apply RegQ.rCall; rfl; rfl; rfl; rfl; exact (haw _); exact (IsV.int _ _))
          | (apply RegQ.rCall; rfl; rfl; rfl; rfl; exact (haw _); exact (IsV.str _))
          | (apply RegQ.rCall; rfl; rfl; rfl; rfl; exact (haw _); exact (IsV.agg _ _ (by repeat' first | exact IsL.nil | exact IsV.int _ _ | exact IsV.str _ | exact IsV.slV _ _ _ | exact IsV.nils | exact IsV.bool _ | exact IsV.sl _ _ _ | apply IsL.cons | apply IsV.agg | exact IsV.any _ | exact IsL.any _)))
          | (apply RegQ.rCall; rfl; rfl; rfl; rfl; exact (haw _); exact (IsV.tup _ _ (by repeat' first | exact IsL.nil | exact IsV.int _ _ | exact IsV.str _ | exact IsV.slV _ _ _ | exact IsV.nils | exact IsV.bool _ | exact IsV.sl _ _ _ | apply IsL.cons | apply IsV.agg | exact IsV.any _ | exact IsL.any _)))
          | (apply RegQ.rCall; rfl; rfl; rfl; rfl; exact (haw _); exact (IsV.any _))
          | (apply RegQ.rCall; rfl; rfl; rfl; rfl; exact (h27 _); exact (IsV.int _ _))
          | (apply RegQ.rCall; rfl; rfl; rfl; rfl; exact (h27 _); exact (IsV.str _))
          | (apply RegQ.rCall; rfl; rfl; rfl; rfl; exact (h27 _); exact (IsV.agg _ _ (by repeat' first | exact IsL.nil | exact IsV.int _ _ | exact IsV.str _ | exact IsV.slV _ _ _ | exact IsV.nils | exact IsV.bool _ | exact IsV.sl _ _ _ | apply IsL.cons | apply IsV.agg | exact IsV.any _ | exact IsL.any _)))
          | (apply RegQ.rCall; rfl; rfl; rfl; rfl; exact (h27 _); exact (IsV.tup _ _ (by repeat' first | exact IsL.nil | exact IsV.int _ _ | exact IsV.str _ | exact IsV.slV _ _ _ | exact IsV.nils | exact IsV.bool _ | exact IsV.sl _ _ _ | apply IsL.cons | apply IsV.agg | exact IsV.any _ | exact IsL.any _)))
          | (apply RegQ.rCall; rfl; rfl; rfl; rfl; exact (h27 _); exact (IsV.any _))
          | (apply RegQ.rCall; rfl; rfl; rfl; rfl; exact (h28 _); exact (IsV.int _ _))
          | (apply RegQ.rCall; rfl; rfl; rfl; rfl; exact (h28 _); exact (IsV.str _))
          | (apply RegQ.rCall; rfl; rfl; rfl; rfl; exact (h28 _); exact (IsV.agg _ _ (by repeat' first | exact IsL.nil | exact IsV.int _ _ | exact IsV.str _ | exact IsV.slV _ _ _ | exact IsV.nils | exact IsV.bool _ | exact IsV.sl _ _ _ | apply IsL.cons | apply IsV.agg | exact IsV.any _ | exact IsL.any _)))
          | (apply RegQ.rCall; rfl; rfl; rfl; rfl; exact (h28 _); exact (IsV.tup _ _ (by repeat' first | exact IsL.nil | exact IsV.int _ _ | exact IsV.str _ | exact IsV.slV _ _ _ | exact IsV.nils | exact IsV.bool _ | exact IsV.sl _ _ _ | apply IsL.cons | apply IsV.agg | exact IsV.any _ | exact IsL.any _)))
          | (apply RegQ.rCall; rfl; rfl; rfl; rfl; exact (h28 _); exact (IsV.any _))
          | (apply RegQ.rCall; rfl; rfl; rfl; rfl; exact (h29 _); exact (IsV.int _ _))
          | (apply RegQ.rCall; rfl; rfl; rfl; rfl; exact (h29 _); exact (IsV.str _))
          | (apply RegQ.rCall; rfl; rfl; rfl; rfl; exact (h29 _); exact (IsV.agg _ _ (by repeat' first | exact IsL.nil | exact IsV.int _ _ | exact IsV.str _ | exact IsV.slV _ _ _ | exact IsV.nils | exact IsV.bool _ | exact IsV.sl _ _ _ | apply IsL.cons | apply IsV.agg | exact IsV.any _ | exact IsL.any _)))
          | (apply RegQ.rCall; rfl; rfl; rfl; rfl; exact (h29 _); exact (IsV.tup _ _ (by repeat' first | exact IsL.nil | exact IsV.int _ _ | exact IsV.str _ | exact IsV.slV _ _ _ | exact IsV.nils | exact IsV.bool _ | exact IsV.sl _ _ _ | apply IsL.cons | apply IsV.agg | exact IsV.any _ | exact IsL.any _)))
          | (apply RegQ.rCall; rfl; rfl; rfl; rfl; exact (h29 _); exact (IsV.any _))
          | (apply RegQ.rCall; rfl; rfl; rfl; rfl; exact (h30 _); exact (IsV.int _ _))
          | (apply RegQ.rCall; rfl; rfl; rfl; rfl; exact (h30 _); exact (IsV.str _))
          | (apply RegQ.rCall; rfl; rfl; rfl; rfl; exact (h30 _); exact (IsV.agg _ _ (by repeat' first | exact IsL.nil | exact IsV.int _ _ | exact IsV.str _ | exact IsV.slV _ _ _ | exact IsV.nils | exact IsV.bool _ | exact IsV.sl _ _ _ | apply IsL.cons | apply IsV.agg | exact IsV.any _ | exact IsL.any _)))
          | (apply RegQ.rCall; rfl; rfl; rfl; rfl; exact (h30 _); exact (IsV.tup _ _ (by repeat' first | exact IsL.nil | exact IsV.int _ _ | exact IsV.str _ | exact IsV.slV _ _ _ | exact IsV.nils | exact IsV.bool _ | exact IsV.sl _ _ _ | apply IsL.cons | apply IsV.agg | exact IsV.any _ | exact IsL.any _)))
          | (apply RegQ.rCall; rfl; rfl; rfl; rfl; exact (h30 _); exact (IsV.any _))
          | (apply RegQ.rCall; rfl; rfl; rfl; rfl; exact (h31 _); exact (IsV.int _ _))
          | (apply RegQ.rCall; rfl; rfl; rfl; rfl; exact (h31 _); exact (IsV.str _))
          | (apply RegQ.rCall; rfl; rfl; rfl; rfl; exact (h31 _); exact (IsV.agg _ _ (by repeat' first | exact IsL.nil | exact IsV.int _ _ | exact IsV.str _ | exact IsV.slV _ _ _ | exact IsV.nils | exact IsV.bool _ | exact IsV.sl _ _ _ | apply IsL.cons | apply IsV.agg | exact IsV.any _ | exact IsL.any _)))
          | (apply RegQ.rCall; rfl; rfl; rfl; rfl; exact (h31 _); exact (IsV.tup _ _ (by repeat' first | exact IsL.nil | exact IsV.int _ _ | exact IsV.str _ | exact IsV.slV _ _ _ | exact IsV.nils | exact IsV.bool _ | exact IsV.sl _ _ _ | apply IsL.cons | apply IsV.agg | exact IsV.any _ | exact IsL.any _)))
          | (apply RegQ.rCall; rfl; rfl; rfl; rfl; exact (h31 _); exact (IsV.any _))
          | (apply RegQ.rLd; rfl; rfl; rfl; assumption; exact (IsV.any _))
          | (apply RegQ.rOp (ty := 0); rfl; rfl; rfl; exact (IsV.fptr _ _))
          | (apply RegQ.rOpH (ty := 0); rfl; rfl; rfl; exact (IsV.ptr4 (by first | exact (rfl : (_ : Nat) = 0) | exact (rfl : (_ : Nat) = 1) | exact (rfl : (_ : Nat) = 2) | exact (rfl : (_ : Nat) = 3) | exact (rfl : (_ : Nat) = 4) | exact (rfl : (_ : Nat) = 5) | exact (rfl : (_ : Nat) = 6) | exact (rfl : (_ : Nat) = 7) | exact (rfl : (_ : Nat) = 8) | exact (rfl : (_ : Nat) = 9) | exact (rfl : (_ : Nat) = 10) | exact (rfl : (_ : Nat) = 11) | exact (rfl : (_ : Nat) = 12) | exact rfl) (by first | exact (rfl : (_ : Nat) = 0) | exact (rfl : (_ : Nat) = 1) | exact (rfl : (_ : Nat) = 2) | exact (rfl : (_ : Nat) = 3) | exact (rfl : (_ : Nat) = 4) | exact (rfl : (_ : Nat) = 5) | exact (rfl : (_ : Nat) = 6) | exact (rfl : (_ : Nat) = 7) | exact (rfl : (_ : Nat) = 8) | exact (rfl : (_ : Nat) = 9) | exact (rfl : (_ : Nat) = 10) | exact (rfl : (_ : Nat) = 11) | exact (rfl : (_ : Nat) = 12) | exact rfl) (by first | exact (rfl : (_ : Nat) = 0) | exact (rfl : (_ : Nat) = 1) | exact (rfl : (_ : Nat) = 2) | exact (rfl : (_ : Nat) = 3) | exact (rfl : (_ : Nat) = 4) | exact (rfl : (_ : Nat) = 5) | exact (rfl : (_ : Nat) = 6) | exact (rfl : (_ : Nat) = 7) | exact (rfl : (_ : Nat) = 8) | exact (rfl : (_ : Nat) = 9) | exact (rfl : (_ : Nat) = 10) | exact (rfl : (_ : Nat) = 11) | exact (rfl : (_ : Nat) = 12) | exact rfl) (by first | exact (rfl : (_ : Nat) = 0) | exact (rfl : (_ : Nat) = 1) | exact (rfl : (_ : Nat) = 2) | exact (rfl : (_ : Nat) = 3) | exact (rfl : (_ : Nat) = 4) | exact (rfl : (_ : Nat) = 5) | exact (rfl : (_ : Nat) = 6) | exact (rfl : (_ : Nat) = 7) | exact (rfl : (_ : Nat) = 8) | exact (rfl : (_ : Nat) = 9) | exact (rfl : (_ : Nat) = 10) | exact (rfl : (_ : Nat) = 11) | exact (rfl : (_ : Nat) = 12) | exact rfl)); exact (IsH.mk _ _ _ _ _ _ _ _ (by repeat' first | exact IsBL.nil | apply IsBL.cells | apply IsBL.cons | exact IsLL.nil | apply IsLL.cons | exact IsL.nil | exact IsV.int _ _ | exact IsV.str _ | exact IsV.slV _ _ _ | exact IsV.nils | exact IsV.bool _ | exact IsV.sl _ _ _ | apply IsL.cons | exact IsV.any _ | exact IsL.any _ | exact IsLL.any _ | exact IsBL.any _ | exact (rfl : (_ : Nat) = 1) | exact (rfl : (_ : Nat) = 2) | exact (rfl : (_ : Nat) = 3) | exact (rfl : (_ : Nat) = 4) | exact (rfl : (_ : Nat) = 5) | exact (rfl : (_ : Nat) = 6) | exact (rfl : (_ : Nat) = 7) | exact (rfl : (_ : Nat) = 8) | exact (rfl : (_ : Nat) = 9) | exact (rfl : (_ : Nat) = 10) | exact (rfl : (_ : Nat) = 11) | exact (rfl : (_ : Nat) = 12) | exact (rfl : (_ : Nat) = 256) | exact rfl) (by first | exact (rfl : (_ : Nat) = 0) | exact (rfl : (_ : Nat) = 1) | exact rfl) (by first | exact (rfl : (_ : List Nat) = []) | exact rfl) (by first | exact (rfl : (_ : Nat) = 0) | exact (rfl : (_ : Nat) = 1) | exact (rfl : (_ : Nat) = 2) | exact (rfl : (_ : Nat) = 3) | exact (rfl : (_ : Nat) = 4) | exact (rfl : (_ : Nat) = 5) | exact (rfl : (_ : Nat) = 6) | exact (rfl : (_ : Nat) = 7) | exact (rfl : (_ : Nat) = 8) | exact (rfl : (_ : Nat) = 9) | exact (rfl : (_ : Nat) = 10) | exact (rfl : (_ : Nat) = 11) | exact (rfl : (_ : Nat) = 12) | exact rfl)))
          | (apply RegQ.rOp (ty := 3); rfl; rfl; rfl; exact (IsV.int _ _))
          | (apply RegQ.rLen (ty := 3); rfl; rfl; rfl; rfl; rfl)
          | (apply RegQ.rOp (ty := 4); rfl; rfl; rfl; exact (IsV.bool true))
          | (apply RegQ.rOp (ty := 4); rfl; rfl; rfl; exact (IsV.bool false))
          | (apply RegQ.rB (ty := 4); rfl; rfl; rfl)
          | (apply RegQ.rOp (ty := 9); rfl; rfl; rfl; exact (IsV.str _))
          | (apply RegQ.rOp (ty := 52); rfl; rfl; rfl; exact (IsV.agg _ _ (by repeat' first | exact IsL.nil | exact IsV.int _ _ | exact IsV.str _ | exact IsV.slV _ _ _ | exact IsV.nils | exact IsV.bool _ | exact IsV.sl _ _ _ | apply IsL.cons | apply IsV.agg | exact IsV.any _ | exact IsL.any _)))
          | refine DrwQ.nil ?_
          | (apply DrwQ.rSkip; rfl; rfl)
          | (apply DrwQ.rCall; rfl; rfl; rfl; rfl; rfl; exact (haw _); exact (IsV.int _ _))
          | (apply DrwQ.rCall; rfl; rfl; rfl; rfl; rfl; exact (haw _); exact (IsV.str _))
          | (apply DrwQ.rCall; rfl; rfl; rfl; rfl; rfl; exact (haw _); exact (IsV.agg _ _ (by repeat' first | exact IsL.nil | exact IsV.int _ _ | exact IsV.str _ | exact IsV.slV _ _ _ | exact IsV.nils | exact IsV.bool _ | exact IsV.sl _ _ _ | apply IsL.cons | apply IsV.agg | exact IsV.any _ | exact IsL.any _)))
          | (apply DrwQ.rCall; rfl; rfl; rfl; rfl; rfl; exact (haw _); exact (IsV.tup _ _ (by repeat' first | exact IsL.nil | exact IsV.int _ _ | exact IsV.str _ | exact IsV.slV _ _ _ | exact IsV.nils | exact IsV.bool _ | exact IsV.sl _ _ _ | apply IsL.cons | apply IsV.agg | exact IsV.any _ | exact IsL.any _)))
          | (apply DrwQ.rCall; rfl; rfl; rfl; rfl; rfl; exact (haw _); exact (IsV.any _))
          | (apply DrwQ.rCall; rfl; rfl; rfl; rfl; rfl; exact (h27 _); exact (IsV.int _ _))
          | (apply DrwQ.rCall; rfl; rfl; rfl; rfl; rfl; exact (h27 _); exact (IsV.str _))
          | (apply DrwQ.rCall; rfl; rfl; rfl; rfl; rfl; exact (h27 _); exact (IsV.agg _ _ (by repeat' first | exact IsL.nil | exact IsV.int _ _ | exact IsV.str _ | exact IsV.slV _ _ _ | exact IsV.nils | exact IsV.bool _ | exact IsV.sl _ _ _ | apply IsL.cons | apply IsV.agg | exact IsV.any _ | exact IsL.any _)))
          | (apply DrwQ.rCall; rfl; rfl; rfl; rfl; rfl; exact (h27 _); exact (IsV.tup _ _ (by repeat' first | exact IsL.nil | exact IsV.int _ _ | exact IsV.str _ | exact IsV.slV _ _ _ | exact IsV.nils | exact IsV.bool _ | exact IsV.sl _ _ _ | apply IsL.cons | apply IsV.agg | exact IsV.any _ | exact IsL.any _)))
          | (apply DrwQ.rCall; rfl; rfl; rfl; rfl; rfl; exact (h27 _); exact (IsV.any _))
          | (apply DrwQ.rCall; rfl; rfl; rfl; rfl; rfl; exact (h28 _); exact (IsV.int _ _))
          | (apply DrwQ.rCall; rfl; rfl; rfl; rfl; rfl; exact (h28 _); exact (IsV.str _))
          | (apply DrwQ.rCall; rfl; rfl; rfl; rfl; rfl; exact (h28 _); exact (IsV.agg _ _ (by repeat' first | exact IsL.nil | exact IsV.int _ _ | exact IsV.str _ | exact IsV.slV _ _ _ | exact IsV.nils | exact IsV.bool _ | exact IsV.sl _ _ _ | apply IsL.cons | apply IsV.agg | exact IsV.any _ | exact IsL.any _)))
          | (apply DrwQ.rCall; rfl; rfl; rfl; rfl; rfl; exact (h28 _); exact (IsV.tup _ _ (by repeat' first | exact IsL.nil | exact IsV.int _ _ | exact IsV.str _ | exact IsV.slV _ _ _ | exact IsV.nils | exact IsV.bool _ | exact IsV.sl _ _ _ | apply IsL.cons | apply IsV.agg | exact IsV.any _ | exact IsL.any _)))
          | (apply DrwQ.rCall; rfl; rfl; rfl; rfl; rfl; exact (h28 _); exact (IsV.any _))
          | (apply DrwQ.rCall; rfl; rfl; rfl; rfl; rfl; exact (h29 _); exact (IsV.int _ _))
          | (apply DrwQ.rCall; rfl; rfl; rfl; rfl; rfl; exact (h29 _); exact (IsV.str _))
          | (apply DrwQ.rCall; rfl; rfl; rfl; rfl; rfl; exact (h29 _); exact (IsV.agg _ _ (by repeat' first | exact IsL.nil | exact IsV.int _ _ | exact IsV.str _ | exact IsV.slV _ _ _ | exact IsV.nils | exact IsV.bool _ | exact IsV.sl _ _ _ | apply IsL.cons | apply IsV.agg | exact IsV.any _ | exact IsL.any _)))
          | (apply DrwQ.rCall; rfl; rfl; rfl; rfl; rfl; exact (h29 _); exact (IsV.tup _ _ (by repeat' first | exact IsL.nil | exact IsV.int _ _ | exact IsV.str _ | exact IsV.slV _ _ _ | exact IsV.nils | exact IsV.bool _ | exact IsV.sl _ _ _ | apply IsL.cons | apply IsV.agg | exact IsV.any _ | exact IsL.any _)))
          | (apply DrwQ.rCall; rfl; rfl; rfl; rfl; rfl; exact (h29 _); exact (IsV.any _))
          | (apply DrwQ.rCall; rfl; rfl; rfl; rfl; rfl; exact (h30 _); exact (IsV.int _ _))
          | (apply DrwQ.rCall; rfl; rfl; rfl; rfl; rfl; exact (h30 _); exact (IsV.str _))
          | (apply DrwQ.rCall; rfl; rfl; rfl; rfl; rfl; exact (h30 _); exact (IsV.agg _ _ (by repeat' first | exact IsL.nil | exact IsV.int _ _ | exact IsV.str _ | exact IsV.slV _ _ _ | exact IsV.nils | exact IsV.bool _ | exact IsV.sl _ _ _ | apply IsL.cons | apply IsV.agg | exact IsV.any _ | exact IsL.any _)))
          | (apply DrwQ.rCall; rfl; rfl; rfl; rfl; rfl; exact (h30 _); exact (IsV.tup _ _ (by repeat' first | exact IsL.nil | exact IsV.int _ _ | exact IsV.str _ | exact IsV.slV _ _ _ | exact IsV.nils | exact IsV.bool _ | exact IsV.sl _ _ _ | apply IsL.cons | apply IsV.agg | exact IsV.any _ | exact IsL.any _)))
          | (apply DrwQ.rCall; rfl; rfl; rfl; rfl; rfl; exact (h30 _); exact (IsV.any _))
          | (apply DrwQ.rCall; rfl; rfl; rfl; rfl; rfl; exact (h31 _); exact (IsV.int _ _))
          | (apply DrwQ.rCall; rfl; rfl; rfl; rfl; rfl; exact (h31 _); exact (IsV.str _))
          | (apply DrwQ.rCall; rfl; rfl; rfl; rfl; rfl; exact (h31 _); exact (IsV.agg _ _ (by repeat' first | exact IsL.nil | exact IsV.int _ _ | exact IsV.str _ | exact IsV.slV _ _ _ | exact IsV.nils | exact IsV.bool _ | exact IsV.sl _ _ _ | apply IsL.cons | apply IsV.agg | exact IsV.any _ | exact IsL.any _)))
          | (apply DrwQ.rCall; rfl; rfl; rfl; rfl; rfl; exact (h31 _); exact (IsV.tup _ _ (by repeat' first | exact IsL.nil | exact IsV.int _ _ | exact IsV.str _ | exact IsV.slV _ _ _ | exact IsV.nils | exact IsV.bool _ | exact IsV.sl _ _ _ | apply IsL.cons | apply IsV.agg | exact IsV.any _ | exact IsL.any _)))
          | (apply DrwQ.rCall; rfl; rfl; rfl; rfl; rfl; exact (h31 _); exact (IsV.any _))
          | (apply DrwQ.rOp (ty := 0); rfl; rfl; rfl; exact (IsV.fptr _ _); rfl)
          | (apply DrwQ.rOpH (ty := 0); rfl; rfl; rfl; exact (IsV.ptr4 (by first | exact (rfl : (_ : Nat) = 0) | exact (rfl : (_ : Nat) = 1) | exact (rfl : (_ : Nat) = 2) | exact (rfl : (_ : Nat) = 3) | exact (rfl : (_ : Nat) = 4) | exact (rfl : (_ : Nat) = 5) | exact (rfl : (_ : Nat) = 6) | exact (rfl : (_ : Nat) = 7) | exact (rfl : (_ : Nat) = 8) | exact (rfl : (_ : Nat) = 9) | exact (rfl : (_ : Nat) = 10) | exact (rfl : (_ : Nat) = 11) | exact (rfl : (_ : Nat) = 12) | exact rfl) (by first | exact (rfl : (_ : Nat) = 0) | exact (rfl : (_ : Nat) = 1) | exact (rfl : (_ : Nat) = 2) | exact (rfl : (_ : Nat) = 3) | exact (rfl : (_ : Nat) = 4) | exact (rfl : (_ : Nat) = 5) | exact (rfl : (_ : Nat) = 6) | exact (rfl : (_ : Nat) = 7) | exact (rfl : (_ : Nat) = 8) | exact (rfl : (_ : Nat) = 9) | exact (rfl : (_ : Nat) = 10) | exact (rfl : (_ : Nat) = 11) | exact (rfl : (_ : Nat) = 12) | exact rfl) (by first | exact (rfl : (_ : Nat) = 0) | exact (rfl : (_ : Nat) = 1) | exact (rfl : (_ : Nat) = 2) | exact (rfl : (_ : Nat) = 3) | exact (rfl : (_ : Nat) = 4) | exact (rfl : (_ : Nat) = 5) | exact (rfl : (_ : Nat) = 6) | exact (rfl : (_ : Nat) = 7) | exact (rfl : (_ : Nat) = 8) | exact (rfl : (_ : Nat) = 9) | exact (rfl : (_ : Nat) = 10) | exact (rfl : (_ : Nat) = 11) | exact (rfl : (_ : Nat) = 12) | exact rfl) (by first | exact (rfl : (_ : Nat) = 0) | exact (rfl : (_ : Nat) = 1) | exact (rfl : (_ : Nat) = 2) | exact (rfl : (_ : Nat) = 3) | exact (rfl : (_ : Nat) = 4) | exact (rfl : (_ : Nat) = 5) | exact (rfl : (_ : Nat) = 6) | exact (rfl : (_ : Nat) = 7) | exact (rfl : (_ : Nat) = 8) | exact (rfl : (_ : Nat) = 9) | exact (rfl : (_ : Nat) = 10) | exact (rfl : (_ : Nat) = 11) | exact (rfl : (_ : Nat) = 12) | exact rfl)); exact (IsH.mk _ _ _ _ _ _ _ _ (by repeat' first | exact IsBL.nil | apply IsBL.cells | apply IsBL.cons | exact IsLL.nil | apply IsLL.cons | exact IsL.nil | exact IsV.int _ _ | exact IsV.str _ | exact IsV.slV _ _ _ | exact IsV.nils | exact IsV.bool _ | exact IsV.sl _ _ _ | apply IsL.cons | exact IsV.any _ | exact IsL.any _ | exact IsLL.any _ | exact IsBL.any _ | exact (rfl : (_ : Nat) = 1) | exact (rfl : (_ : Nat) = 2) | exact (rfl : (_ : Nat) = 3) | exact (rfl : (_ : Nat) = 4) | exact (rfl : (_ : Nat) = 5) | exact (rfl : (_ : Nat) = 6) | exact (rfl : (_ : Nat) = 7) | exact (rfl : (_ : Nat) = 8) | exact (rfl : (_ : Nat) = 9) | exact (rfl : (_ : Nat) = 10) | exact (rfl : (_ : Nat) = 11) | exact (rfl : (_ : Nat) = 12) | exact (rfl : (_ : Nat) = 256) | exact rfl) (by first | exact (rfl : (_ : Nat) = 0) | exact (rfl : (_ : Nat) = 1) | exact rfl) (by first | exact (rfl : (_ : List Nat) = []) | exact rfl) (by first | exact (rfl : (_ : Nat) = 0) | exact (rfl : (_ : Nat) = 1) | exact (rfl : (_ : Nat) = 2) | exact (rfl : (_ : Nat) = 3) | exact (rfl : (_ : Nat) = 4) | exact (rfl : (_ : Nat) = 5) | exact (rfl : (_ : Nat) = 6) | exact (rfl : (_ : Nat) = 7) | exact (rfl : (_ : Nat) = 8) | exact (rfl : (_ : Nat) = 9) | exact (rfl : (_ : Nat) = 10) | exact (rfl : (_ : Nat) = 11) | exact (rfl : (_ : Nat) = 12) | exact rfl)); rfl)
          | (apply DrwQ.rOp (ty := 3); rfl; rfl; rfl; exact (IsV.int _ _); rfl)
          | (apply DrwQ.rLen (ty := 3); rfl; rfl; rfl; rfl; rfl)
          | (apply DrwQ.rOp (ty := 4); rfl; rfl; rfl; exact (IsV.bool true); rfl)
          | (apply DrwQ.rOp (ty := 4); rfl; rfl; rfl; exact (IsV.bool false); rfl)
          | (apply DrwQ.rB (ty := 4); rfl; rfl; rfl; rfl)
          | (apply DrwQ.rOp (ty := 9); rfl; rfl; rfl; exact (IsV.str _); rfl)
          | (apply DrwQ.rOp (ty := 52); rfl; rfl; rfl; exact (IsV.agg _ _ (by repeat' first | exact IsL.nil | exact IsV.int _ _ | exact IsV.str _ | exact IsV.slV _ _ _ | exact IsV.nils | exact IsV.bool _ | exact IsV.sl _ _ _ | apply IsL.cons | apply IsV.agg | exact IsV.any _ | exact IsL.any _)); rfl)
          | intro hb
          | refine Wp.seq ?_
          | refine SeqQ.go ?_
          | refine Wp.region ?_
          | refine Wp.draw tOk follows (by kernel_rfl) ?_
          | refine Wp.condT rfl ?_
          | refine Wp.condF rfl ?_
          | refine Wp.skip ?_
          | refine Wp.ret ?_
          | refine Wp.exit ?_
          | refine Wp.block ?_
          | refine SeqQ.ret ?_
          | refine SeqQ.exit ?_
          | refine BlockQ.go ?_
          | refine BlockQ.ret ?_
          | refine BlockQ.hit rfl ?_
          | refine BlockQ.miss rfl ?_
          | refine LoopI.ret ?_
          | refine LoopI.exit ?_
          | refine RetQ.end rfl rfl (IsV.int _ _) ?_
          | refine RetQ.end rfl rfl (IsV.bool _) ?_
          | refine RetQ.fin rfl (by repeat' first | exact IsL.nil | exact IsV.int _ _ | exact IsV.str _ | exact IsV.slV _ _ _ | exact IsV.nils | exact IsV.bool _ | exact IsV.sl _ _ _ | apply IsL.cons | apply IsV.agg | exact IsV.any _ | exact IsL.any _) ?_
          | refine RetM.fin rfl (by repeat' first | exact IsL.nil | exact IsV.int _ _ | exact IsV.str _ | exact IsV.slV _ _ _ | exact IsV.nils | exact IsV.bool _ | exact IsV.sl _ _ _ | apply IsL.cons | apply IsV.agg | exact IsV.any _ | exact IsL.any _) ?_
        all_goals first
          | rfl
          | (exfalso; simp at hb; done)
      | false =>
        refine Wp.seq ?_
        repeat' first
          | refine RegQ.nil ?_
          | (apply RegQ.rSkip; rfl; rfl)
          | (apply RegQ.rCall; rfl; rfl; rfl; rfl; exact (haw _); exact (IsV.int _ _))
          | (apply RegQ.rCall; rfl; rfl; rfl; rfl; exact (haw _); exact (IsV.str _))
          | (apply RegQ.rCall; rfl; rfl; rfl; rfl; exact (haw _); exact (IsV.agg _ _ (by repeat' first | exact IsL.nil | exact IsV.int _ _ | exact IsV.str _ | exact IsV.slV _ _ _ | exact IsV.nils | exact IsV.bool _ | exact IsV.sl _ _ _ | apply IsL.cons | apply IsV.agg | exact IsV.any _ | exact IsL.any _)))
          | (apply RegQ.rCall; rfl; rfl; rfl; rfl; exact (haw _); exact (IsV.tup _ _ (by repeat' first | exact IsL.nil | exact IsV.int _ _ | exact IsV.str _ | exact IsV.slV _ _ _ | exact IsV.nils | exact IsV.bool _ | exact IsV.sl _ _ _ | apply IsL.cons | apply IsV.agg | exact IsV.any _ | exact IsL.any _)))
          | (apply RegQ.rCall; rfl; rfl; rfl; rfl; exact (haw _); exact (IsV.any _))
          | (apply RegQ.rCall; rfl; rfl; rfl; rfl; exact (h27 _); exact (IsV.int _ _))
          | (apply RegQ.rCall; rfl; rfl; rfl; rfl; exact (h27 _); exact (IsV.str _))
          | (apply RegQ.rCall; rfl; rfl; rfl; rfl; exact (h27 _); exact (IsV.agg _ _ (by repeat' first | exact IsL.nil | exact IsV.int _ _ | exact IsV.str _ | exact IsV.slV _ _ _ | exact IsV.nils | exact IsV.bool _ | exact IsV.sl _ _ _ | apply IsL.cons | apply IsV.agg | exact IsV.any _ | exact IsL.any _)))
          | (apply RegQ.rCall; rfl; rfl; rfl; rfl; exact (h27 _); exact (IsV.tup _ _ (by repeat' first | exact IsL.nil | exact IsV.int _ _ | exact IsV.str _ | exact IsV.slV _ _ _ | exact IsV.nils | exact IsV.bool _ | exact IsV.sl _ _ _ | apply IsL.cons | apply IsV.agg | exact IsV.any _ | exact IsL.any _)))
          | (apply RegQ.rCall; rfl; rfl; rfl; rfl; exact (h27 _); exact (IsV.any _))
          | (apply RegQ.rLd; rfl; rfl; rfl; assumption; exact (IsV.any _))
          | (apply RegQ.rOp (ty := 0); rfl; rfl; rfl; exact (IsV.fptr _ _))
          | (apply RegQ.rOpH (ty := 0); rfl; rfl; rfl; exact (IsV.ptr4 (by first | exact (rfl : (_ : Nat) = 0) | exact (rfl : (_ : Nat) = 1) | exact (rfl : (_ : Nat) = 2) | exact (rfl : (_ : Nat) = 3) | exact (rfl : (_ : Nat) = 4) | exact (rfl : (_ : Nat) = 5) | exact (rfl : (_ : Nat) = 6) | exact (rfl : (_ : Nat) = 7) | exact (rfl : (_ : Nat) = 8) | exact (rfl : (_ : Nat) = 9) | exact (rfl : (_ : Nat) = 10) | exact (rfl : (_ : Nat) = 11) | exact (rfl : (_ : Nat) = 12) | exact rfl) (by first | exact (rfl : (_ : Nat) = 0) | exact (rfl : (_ : Nat) = 1) | exact (rfl : (_ : Nat) = 2) | exact (rfl : (_ : Nat) = 3) | exact (rfl : (_ : Nat) = 4) | exact (rfl : (_ : Nat) = 5) | exact (rfl : (_ : Nat) = 6) | exact (rfl : (_ : Nat) = 7) | exact (rfl : (_ : Nat) = 8) | exact (rfl : (_ : Nat) = 9) | exact (rfl : (_ : Nat) = 10) | exact (rfl : (_ : Nat) = 11) | exact (rfl : (_ : Nat) = 12) | exact rfl) (by first | exact (rfl : (_ : Nat) = 0) | exact (rfl : (_ : Nat) = 1) | exact (rfl : (_ : Nat) = 2) | exact (rfl : (_ : Nat) = 3) | exact (rfl : (_ : Nat) = 4) | exact (rfl : (_ : Nat) = 5) | exact (rfl : (_ : Nat) = 6) | exact (rfl : (_ : Nat) = 7) | exact (rfl : (_ : Nat) = 8) | exact (rfl : (_ : Nat) = 9) | exact (rfl : (_ : Nat) = 10) | exact (rfl : (_ : Nat) = 11) | exact (rfl : (_ : Nat) = 12) | exact rfl) (by first | exact (rfl : (_ : Nat) = 0) | exact (rfl : (_ : Nat) = 1) | exact (rfl : (_ : Nat) = 2) | exact (rfl : (_ : Nat) = 3) | exact (rfl : (_ : Nat) = 4) | exact (rfl : (_ : Nat) = 5) | exact (rfl : (_ : Nat) = 6) | exact (rfl : (_ : Nat) = 7) | exact (rfl : (_ : Nat) = 8) | exact (rfl : (_ : Nat) = 9) | exact (rfl : (_ : Nat) = 10) | exact (rfl : (_ : Nat) = 11) | exact (rfl : (_ : Nat) = 12) | exact rfl)); exact (IsH.mk _ _ _ _ _ _ _ _ (by repeat' first | exact IsBL.nil | apply IsBL.cells | apply IsBL.cons | exact IsLL.nil | apply IsLL.cons | exact IsL.nil | exact IsV.int _ _ | exact IsV.str _ | exact IsV.slV _ _ _ | exact IsV.nils | exact IsV.bool _ | exact IsV.sl _ _ _ | apply IsL.cons | exact IsV.any _ | exact IsL.any _ | exact IsLL.any _ | exact IsBL.any _ | exact (rfl : (_ : Nat) = 1) | exact (rfl : (_ : Nat) = 2) | exact (rfl : (_ : Nat) = 3) | exact (rfl : (_ : Nat) = 4) | exact (rfl : (_ : Nat) = 5) | exact (rfl : (_ : Nat) = 6) | exact (rfl : (_ : Nat) = 7) | exact (rfl : (_ : Nat) = 8) | exact (rfl : (_ : Nat) = 9) | exact (rfl : (_ : Nat) = 10) | exact (rfl : (_ : Nat) = 11) | exact (rfl : (_ : Nat) = 12) | exact (rfl : (_ : Nat) = 256) | exact rfl) (by first | exact (rfl : (_ : Nat) = 0) | exact (rfl : (_ : Nat) = 1) | exact rfl) (by first | exact (rfl : (_ : List Nat) = []) | exact rfl) (by first | exact (rfl : (_ : Nat) = 0) | exact (rfl : (_ : Nat) = 1) | exact (rfl : (_ : Nat) = 2) | exact (rfl : (_ : Nat) = 3) | exact (rfl : (_ : Nat) = 4) | exact (rfl : (_ : Nat) = 5) | exact (rfl : (_ : Nat) = 6) | exact (rfl : (_ : Nat) = 7) | exact (rfl : (_ : Nat) = 8) | exact (rfl : (_ : Nat) = 9) | exact (rfl : (_ : Nat) = 10) | exact (rfl : (_ : Nat) = 11) | exact (rfl : (_ : Nat) = 12) | exact rfl)))
          | (apply RegQ.rOp (ty := 3); rfl; rfl; rfl; exact (IsV.int _ _))
          | (apply RegQ.rLen (ty := 3); rfl; rfl; rfl; rfl; rfl)
          | (apply RegQ.rOp (ty := 4); rfl; rfl; rfl; exact (IsV.bool true))
          | (apply RegQ.rOp (ty := 4); rfl; rfl; rfl; exact (IsV.bool false))
          | (apply RegQ.rB (ty := 4); rfl; rfl; rfl)
          | (apply RegQ.rOp (ty := 9); rfl; rfl; rfl; exact (IsV.str _))
          | (apply RegQ.rOp (ty := 52); rfl; rfl; rfl; exact (IsV.agg _ _ (by repeat' first | exact IsL.nil | exact IsV.int _ _ | exact IsV.str _ | exact IsV.slV _ _ _ | exact IsV.nils | exact IsV.bool _ | exact IsV.sl _ _ _ | apply IsL.cons | apply IsV.agg | exact IsV.any _ | exact IsL.any _)))
          | refine DrwQ.nil ?_
          | (apply DrwQ.rSkip; rfl; rfl)
          | (apply DrwQ.rCall; rfl; rfl; rfl; rfl; rfl; exact (haw _); exact (IsV.int _ _))
          | (apply DrwQ.rCall; rfl; rfl; rfl; rfl; rfl; exact (haw _); exact (IsV.str _))
          | (apply DrwQ.rCall; rfl; rfl; rfl; rfl; rfl; exact (haw _); exact (IsV.agg _ _ (by repeat' first | exact IsL.nil | exact IsV.int _ _ | exact IsV.str _ | exact IsV.slV _ _ _ | exact IsV.nils | exact IsV.bool _ | exact IsV.sl _ _ _ | apply IsL.cons | apply IsV.agg | exact IsV.any _ | exact IsL.any _)))
          | (apply DrwQ.rCall; rfl; rfl; rfl; rfl; rfl; exact (haw _); exact (IsV.tup _ _ (by repeat' first | exact IsL.nil | exact IsV.int _ _ | exact IsV.str _ | exact IsV.slV _ _ _ | exact IsV.nils | exact IsV.bool _ | exact IsV.sl _ _ _ | apply IsL.cons | apply IsV.agg | exact IsV.any _ | exact IsL.any _)))
          | (apply DrwQ.rCall; rfl; rfl; rfl; rfl; rfl; exact (haw _); exact (IsV.any _))
          | (apply DrwQ.rCall; rfl; rfl; rfl; rfl; rfl; exact (h27 _); exact (IsV.int _ _))
          | (apply DrwQ.rCall; rfl; rfl; rfl; rfl; rfl; exact (h27 _); exact (IsV.str _))
          | (apply DrwQ.rCall; rfl; rfl; rfl; rfl; rfl; exact (h27 _); exact (IsV.agg _ _ (by repeat' first | exact IsL.nil | exact IsV.int _ _ | exact IsV.str _ | exact IsV.slV _ _ _ | exact IsV.nils | exact IsV.bool _ | exact IsV.sl _ _ _ | apply IsL.cons | apply IsV.agg | exact IsV.any _ | exact IsL.any _)))
          | (apply DrwQ.rCall; rfl; rfl; rfl; rfl; rfl; exact (h27 _); exact (IsV.tup _ _ (by repeat' first | exact IsL.nil | exact IsV.int _ _ | exact IsV.str _ | exact IsV.slV _ _ _ | exact IsV.nils | exact IsV.bool _ | exact IsV.sl _ _ _ | apply IsL.cons | apply IsV.agg | exact IsV.any _ | exact IsL.any _)))
          | (apply DrwQ.rCall; rfl; rfl; rfl; rfl; rfl; exact (h27 _); exact (IsV.any _))
          | (apply DrwQ.rOp (ty := 0); rfl; rfl; rfl; exact (IsV.fptr _ _); rfl)
          | (apply DrwQ.rOpH (ty := 0); rfl; rfl; rfl; exact (IsV.ptr4 (by first | exact (rfl : (_ : Nat) = 0) | exact (rfl : (_ : Nat) = 1) | exact (rfl : (_ : Nat) = 2) | exact (rfl : (_ : Nat) = 3) | exact (rfl : (_ : Nat) = 4) | exact (rfl : (_ : Nat) = 5) | exact (rfl : (_ : Nat) = 6) | exact (rfl : (_ : Nat) = 7) | exact (rfl : (_ : Nat) = 8) | exact (rfl : (_ : Nat) = 9) | exact (rfl : (_ : Nat) = 10) | exact (rfl : (_ : Nat) = 11) | exact (rfl : (_ : Nat) = 12) | exact rfl) (by first | exact (rfl : (_ : Nat) = 0) | exact (rfl : (_ : Nat) = 1) | exact (rfl : (_ : Nat) = 2) | exact (rfl : (_ : Nat) = 3) | exact (rfl : (_ : Nat) = 4) | exact (rfl : (_ : Nat) = 5) | exact (rfl : (_ : Nat) = 6) | exact (rfl : (_ : Nat) = 7) | exact (rfl : (_ : Nat) = 8) | exact (rfl : (_ : Nat) = 9) | exact (rfl : (_ : Nat) = 10) | exact (rfl : (_ : Nat) = 11) | exact (rfl : (_ : Nat) = 12) | exact rfl) (by first | exact (rfl : (_ : Nat) = 0) | exact (rfl : (_ : Nat) = 1) | exact (rfl : (_ : Nat) = 2) | exact (rfl : (_ : Nat) = 3) | exact (rfl : (_ : Nat) = 4) | exact (rfl : (_ : Nat) = 5) | exact (rfl : (_ : Nat) = 6) | exact (rfl : (_ : Nat) = 7) | exact (rfl : (_ : Nat) = 8) | exact (rfl : (_ : Nat) = 9) | exact (rfl : (_ : Nat) = 10) | exact (rfl : (_ : Nat) = 11) | exact (rfl : (_ : Nat) = 12) | exact rfl) (by first | exact (rfl : (_ : Nat) = 0) | exact (rfl : (_ : Nat) = 1) | exact (rfl : (_ : Nat) = 2) | exact (rfl : (_ : Nat) = 3) | exact (rfl : (_ : Nat) = 4) | exact (rfl : (_ : Nat) = 5) | exact (rfl : (_ : Nat) = 6) | exact (rfl : (_ : Nat) = 7) | exact (rfl : (_ : Nat) = 8) | exact (rfl : (_ : Nat) = 9) | exact (rfl : (_ : Nat) = 10) | exact (rfl : (_ : Nat) = 11) | exact (rfl : (_ : Nat) = 12) | exact rfl)); exact (IsH.mk _ _ _ _ _ _ _ _ (by repeat' first | exact IsBL.nil | apply IsBL.cells | apply IsBL.cons | exact IsLL.nil | apply IsLL.cons | exact IsL.nil | exact IsV.int _ _ | exact IsV.str _ | exact IsV.slV _ _ _ | exact IsV.nils | exact IsV.bool _ | exact IsV.sl _ _ _ | apply IsL.cons | exact IsV.any _ | exact IsL.any _ | exact IsLL.any _ | exact IsBL.any _ | exact (rfl : (_ : Nat) = 1) | exact (rfl : (_ : Nat) = 2) | exact (rfl : (_ : Nat) = 3) | exact (rfl : (_ : Nat) = 4) | exact (rfl : (_ : Nat) = 5) | exact (rfl : (_ : Nat) = 6) | exact (rfl : (_ : Nat) = 7) | exact (rfl : (_ : Nat) = 8) | exact (rfl : (_ : Nat) = 9) | exact (rfl : (_ : Nat) = 10) | exact (rfl : (_ : Nat) = 11) | exact (rfl : (_ : Nat) = 12) | exact (rfl : (_ : Nat) = 256) | exact rfl) (by first | exact (rfl : (_ : Nat) = 0) | exact (rfl : (_ : Nat) = 1) | exact rfl) (by first | exact (rfl : (_ : List Nat) = []) | exact rfl) (by first | exact (rfl : (_ : Nat) = 0) | exact (rfl : (_ : Nat) = 1) | exact (rfl : (_ : Nat) = 2) | exact (rfl : (_ : Nat) = 3) | exact (rfl : (_ : Nat) = 4) | exact (rfl : (_ : Nat) = 5) | exact (rfl : (_ : Nat) = 6) | exact (rfl : (_ : Nat) = 7) | exact (rfl : (_ : Nat) = 8) | exact (rfl : (_ : Nat) = 9) | exact (rfl : (_ : Nat) = 10) | exact (rfl : (_ : Nat) = 11) | exact (rfl : (_ : Nat) = 12) | exact rfl)); rfl)
          | (apply DrwQ.rOp (ty := 3); rfl; rfl; rfl; exact (IsV.int _ _); rfl)
          | (apply DrwQ.rLen (ty := 3); rfl; rfl; rfl; rfl; rfl)
          | (apply DrwQ.rOp (ty := 4); rfl; rfl; rfl; exact (IsV.bool true); rfl)
          | (apply DrwQ.rOp (ty := 4); rfl; rfl; rfl; exact (IsV.bool false); rfl)
          | (apply DrwQ.rB (ty := 4); rfl; rfl; rfl; rfl)
          | (apply DrwQ.rOp (ty := 9); rfl; rfl; rfl; exact (IsV.str _); rfl)
          | (apply DrwQ.rOp (ty := 52); rfl; rfl; rfl; exact (IsV.agg _ _ (by repeat' first | exact IsL.nil | exact IsV.int _ _ | exact IsV.str _ | exact IsV.slV _ _ _ | exact IsV.nils | exact IsV.bool _ | exact IsV.sl _ _ _ | apply IsL.cons | apply IsV.agg | exact IsV.any _ | exact IsL.any _)); rfl)
          | intro hb
          | refine Wp.seq ?_
          | refine SeqQ.go ?_
          | refine Wp.region ?_
          | refine Wp.draw tOk follows (by kernel_rfl) ?_
          | refine Wp.condT rfl ?_
          | refine Wp.condF rfl ?_
          | refine Wp.skip ?_
          | refine Wp.ret ?_
          | refine Wp.exit ?_
          | refine Wp.block ?_
          | refine SeqQ.ret ?_
          | refine SeqQ.exit ?_
          | refine BlockQ.go ?_
          | refine BlockQ.ret ?_
          | refine BlockQ.hit rfl ?_
          | refine BlockQ.miss rfl ?_
          | refine LoopI.ret ?_
          | refine LoopI.exit ?_
          | refine RetQ.end rfl rfl (IsV.int _ _) ?_
          | refine RetQ.end rfl rfl (IsV.bool _) ?_
          | refine RetQ.fin rfl (by repeat' first | exact IsL.nil | exact IsV.int _ _ | exact IsV.str _ | exact IsV.slV _ _ _ | exact IsV.nils | exact IsV.bool _ | exact IsV.sl _ _ _ | apply IsL.cons | apply IsV.agg | exact IsV.any _ | exact IsL.any _) ?_
          | refine RetM.fin rfl (by repeat' first | exact IsL.nil | exact IsV.int _ _ | exact IsV.str _ | exact IsV.slV _ _ _ | exact IsV.nils | exact IsV.bool _ | exact IsV.sl _ _ _ | apply IsL.cons | apply IsV.agg | exact IsV.any _ | exact IsL.any _) ?_
        all_goals rfl
    · cases F with
      | true =>
        refine Wp.seq ?_
        repeat' first
          | refine RegQ.nil ?_
          | (apply RegQ.rSkip; rfl; rfl)
          | (apply RegQ.rCall; rfl; rfl; rfl; rfl; exact (haw _); exact (IsV.int _ _))
          | (apply RegQ.rCall; rfl; rfl; rfl; rfl; exact (haw _); exact (IsV.str _))
          | (apply RegQ.rCall; rfl; rfl; rfl; rfl; exact (haw _); exact (IsV.agg _ _ (by repeat' first | exact IsL.nil | exact IsV.int _ _ | exact IsV.str _ | exact IsV.slV _ _ _ | exact IsV.nils | exact IsV.bool _ | exact IsV.sl _ _ _ | apply IsL.cons | apply IsV.agg | exact IsV.any _ | exact IsL.any _)))
          | (apply RegQ.rCall; rfl; rfl; rfl; rfl; exact (haw _); exact (IsV.tup _ _ (by repeat' first | exact IsL.nil | exact IsV.int _ _ | exact IsV.str _ | exact IsV.slV _ _ _ | exact IsV.nils | exact IsV.bool _ | exact IsV.sl _ _ _ | apply IsL.cons | apply IsV.agg | exact IsV.any _ | exact IsL.any _)))
          | (apply RegQ.rCall; rfl; rfl; rfl; rfl; exact (haw _); exact (IsV.any _))
          | (apply RegQ.rCall; rfl; rfl; rfl; rfl; exact (h27 _); exact (IsV.int _ _))
          | (apply RegQ.rCall; rfl; rfl; rfl; rfl; exact (h27 _); exact (IsV.str _))
          | (apply RegQ.rCall; rfl; rfl; rfl; rfl; exact (h27 _); exact (IsV.agg _ _ (by repeat' first | exact IsL.nil | exact IsV.int _ _ | exact IsV.str _ | exact IsV.slV _ _ _ | exact IsV.nils | exact IsV.bool _ | exact IsV.sl _ _ _ | apply IsL.cons | apply IsV.agg | exact IsV.any _ | exact IsL.any _)))
          | (apply RegQ.rCall; rfl; rfl; rfl; rfl; exact (h27 _); exact (IsV.tup _ _ (by repeat' first | exact IsL.nil | exact IsV.int _ _ | exact IsV.str _ | exact IsV.slV _ _ _ | exact IsV.nils | exact IsV.bool _ | exact IsV.sl _ _ _ | apply IsL.cons | apply IsV.agg | exact IsV.any _ | exact IsL.any _)))
          | (apply RegQ.rCall; rfl; rfl; rfl; rfl; exact (h27 _); exact (IsV.any _))
          | (apply RegQ.rLd; rfl; rfl; rfl; assumption; exact (IsV.any _))
          | (apply RegQ.rOp (ty := 0); rfl; rfl; rfl; exact (IsV.fptr _ _))
          | (apply RegQ.rOpH (ty := 0); rfl; rfl; rfl; exact (IsV.ptr4 (by first | exact (rfl : (_ : Nat) = 0) | exact (rfl : (_ : Nat) = 1) | exact (rfl : (_ : Nat) = 2) | exact (rfl : (_ : Nat) = 3) | exact (rfl : (_ : Nat) = 4) | exact (rfl : (_ : Nat) = 5) | exact (rfl : (_ : Nat) = 6) | exact (rfl : (_ : Nat) = 7) | exact (rfl : (_ : Nat) = 8) | exact (rfl : (_ : Nat) = 9) | exact (rfl : (_ : Nat) = 10) | exact (rfl : (_ : Nat) = 11) | exact (rfl : (_ : Nat) = 12) | exact rfl) (by first | exact (rfl : (_ : Nat) = 0) | exact (rfl : (_ : Nat) = 1) | exact (rfl : (_ : Nat) = 2) | exact (rfl : (_ : Nat) = 3) | exact (rfl : (_ : Nat) = 4) | exact (rfl : (_ : Nat) = 5) | exact (rfl : (_ : Nat) = 6) | exact (rfl : (_ : Nat) = 7) | exact (rfl : (_ : Nat) = 8) | exact (rfl : (_ : Nat) = 9) | exact (rfl : (_ : Nat) = 10) | exact (rfl : (_ : Nat) = 11) | exact (rfl : (_ : Nat) = 12) | exact rfl) (by first | exact (rfl : (_ : Nat) = 0) | exact (rfl : (_ : Nat) = 1) | exact (rfl : (_ : Nat) = 2) | exact (rfl : (_ : Nat) = 3) | exact (rfl : (_ : Nat) = 4) | exact (rfl : (_ : Nat) = 5) | exact (rfl : (_ : Nat) = 6) | exact (rfl : (_ : Nat) = 7) | exact (rfl : (_ : Nat) = 8) | exact (rfl : (_ : Nat) = 9) | exact (rfl : (_ : Nat) = 10) | exact (rfl : (_ : Nat) = 11) | exact (rfl : (_ : Nat) = 12) | exact rfl) (by first | exact (rfl : (_ : Nat) = 0) | exact (rfl : (_ : Nat) = 1) | exact (rfl : (_ : Nat) = 2) | exact (rfl : (_ : Nat) = 3) | exact (rfl : (_ : Nat) = 4) | exact (rfl : (_ : Nat) = 5) | exact (rfl : (_ : Nat) = 6) | exact (rfl : (_ : Nat) = 7) | exact (rfl : (_ : Nat) = 8) | exact (rfl : (_ : Nat) = 9) | exact (rfl : (_ : Nat) = 10) | exact (rfl : (_ : Nat) = 11) | exact (rfl : (_ : Nat) = 12) | exact rfl)); exact (IsH.mk _ _ _ _ _ _ _ _ (by repeat' first | exact IsBL.nil | apply IsBL.cells | apply IsBL.cons | exact IsLL.nil | apply IsLL.cons | exact IsL.nil | exact IsV.int _ _ | exact IsV.str _ | exact IsV.slV _ _ _ | exact IsV.nils | exact IsV.bool _ | exact IsV.sl _ _ _ | apply IsL.cons | exact IsV.any _ | exact IsL.any _ | exact IsLL.any _ | exact IsBL.any _ | exact (rfl : (_ : Nat) = 1) | exact (rfl : (_ : Nat) = 2) | exact (rfl : (_ : Nat) = 3) | exact (rfl : (_ : Nat) = 4) | exact (rfl : (_ : Nat) = 5) | exact (rfl : (_ : Nat) = 6) | exact (rfl : (_ : Nat) = 7) | exact (rfl : (_ : Nat) = 8) | exact (rfl : (_ : Nat) = 9) | exact (rfl : (_ : Nat) = 10) | exact (rfl : (_ : Nat) = 11) | exact (rfl : (_ : Nat) = 12) | exact (rfl : (_ : Nat) = 256) | exact rfl) (by first | exact (rfl : (_ : Nat) = 0) | exact (rfl : (_ : Nat) = 1) | exact rfl) (by first | exact (rfl : (_ : List Nat) = []) | exact rfl) (by first | exact (rfl : (_ : Nat) = 0) | exact (rfl : (_ : Nat) = 1) | exact (rfl : (_ : Nat) = 2) | exact (rfl : (_ : Nat) = 3) | exact (rfl : (_ : Nat) = 4) | exact (rfl : (_ : Nat) = 5) | exact (rfl : (_ : Nat) = 6) | exact (rfl : (_ : Nat) = 7) | exact (rfl : (_ : Nat) = 8) | exact (rfl : (_ : Nat) = 9) | exact (rfl : (_ : Nat) = 10) | exact (rfl : (_ : Nat) = 11) | exact (rfl : (_ : Nat) = 12) | exact rfl)))
          | (apply RegQ.rOp (ty := 3); rfl; rfl; rfl; exact (IsV.int _ _))
          | (apply RegQ.rLen (ty := 3); rfl; rfl; rfl; rfl; rfl)
          | (apply RegQ.rOp (ty := 4); rfl; rfl; rfl; exact (IsV.bool true))
          | (apply RegQ.rOp (ty := 4); rfl; rfl; rfl; exact (IsV.bool false))
          | (apply RegQ.rB (ty := 4); rfl; rfl; rfl)
          | (apply RegQ.rOp (ty := 9); rfl; rfl; rfl; exact (IsV.str _))
          | (apply RegQ.rOp (ty := 52); rfl; rfl; rfl; exact (IsV.agg _ _ (by repeat' first | exact IsL.nil | exact IsV.int _ _ | exact IsV.str _ | exact IsV.slV _ _ _ | exact IsV.nils | exact IsV.bool _ | exact IsV.sl _ _ _ | apply IsL.cons | apply IsV.agg | exact IsV.any _ | exact IsL.any _)))
          | refine DrwQ.nil ?_
          | (apply DrwQ.rSkip; rfl; rfl)
          | (apply DrwQ.rCall; rfl; rfl; rfl; rfl; rfl; exact (haw _); exact (IsV.int _ _))
          | (apply DrwQ.rCall; rfl; rfl; rfl; rfl; rfl; exact (haw _); exact (IsV.str _))
          | (apply DrwQ.rCall; rfl; rfl; rfl; rfl; rfl; exact (haw _); exact (IsV.agg _ _ (by repeat' first | exact IsL.nil | exact IsV.int _ _ | exact IsV.str _ | exact IsV.slV _ _ _ | exact IsV.nils | exact IsV.bool _ | exact IsV.sl _ _ _ | apply IsL.cons | apply IsV.agg | exact IsV.any _ | exact IsL.any _)))
          | (apply DrwQ.rCall; rfl; rfl; rfl; rfl; rfl; exact (haw _); exact (IsV.tup _ _ (by repeat' first | exact IsL.nil | exact IsV.int _ _ | exact IsV.str _ | exact IsV.slV _ _ _ | exact IsV.nils | exact IsV.bool _ | exact IsV.sl _ _ _ | apply IsL.cons | apply IsV.agg | exact IsV.any _ | exact IsL.any _)))
          | (apply DrwQ.rCall; rfl; rfl; rfl; rfl; rfl; exact (haw _); exact (IsV.any _))
          | (apply DrwQ.rCall; rfl; rfl; rfl; rfl; rfl; exact (h27 _); exact (IsV.int _ _))
          | (apply DrwQ.rCall; rfl; rfl; rfl; rfl; rfl; exact (h27 _); exact (IsV.str _))
          | (apply DrwQ.rCall; rfl; rfl; rfl; rfl; rfl; exact (h27 _); exact (IsV.agg _ _ (by repeat' first | exact IsL.nil | exact IsV.int _ _ | exact IsV.str _ | exact IsV.slV _ _ _ | exact IsV.nils | exact IsV.bool _ | exact IsV.sl _ _ _ | apply IsL.cons | apply IsV.agg | exact IsV.any _ | exact IsL.any _)))
          | (apply DrwQ.rCall; rfl; rfl; rfl; rfl; rfl; exact (h27 _); exact (IsV.tup _ _ (by repeat' first | exact IsL.nil | exact IsV.int _ _ | exact IsV.str _ | exact IsV.slV _ _ _ | exact IsV.nils | exact IsV.bool _ | exact IsV.sl _ _ _ | apply IsL.cons | apply IsV.agg | exact IsV.any _ | exact IsL.any _)))
          | (apply DrwQ.rCall; rfl; rfl; rfl; rfl; rfl; exact (h27 _); exact (IsV.any _))
          | (apply DrwQ.rOp (ty := 0); rfl; rfl; rfl; exact (IsV.fptr _ _); rfl)
          | (apply DrwQ.rOpH (ty := 0); rfl; rfl; rfl; exact (IsV.ptr4 (by first | exact (rfl : (_ : Nat) = 0) | exact (rfl : (_ : Nat) = 1) | exact (rfl : (_ : Nat) = 2) | exact (rfl : (_ : Nat) = 3) | exact (rfl : (_ : Nat) = 4) | exact (rfl : (_ : Nat) = 5) | exact (rfl : (_ : Nat) = 6) | exact (rfl : (_ : Nat) = 7) | exact (rfl : (_ : Nat) = 8) | exact (rfl : (_ : Nat) = 9) | exact (rfl : (_ : Nat) = 10) | exact (rfl : (_ : Nat) = 11) | exact (rfl : (_ : Nat) = 12) | exact rfl) (by first | exact (rfl : (_ : Nat) = 0) | exact (rfl : (_ : Nat) = 1) | exact (rfl : (_ : Nat) = 2) | exact (rfl : (_ : Nat) = 3) | exact (rfl : (_ : Nat) = 4) | exact (rfl : (_ : Nat) = 5) | exact (rfl : (_ : Nat) = 6) | exact (rfl : (_ : Nat) = 7) | exact (rfl : (_ : Nat) = 8) | exact (rfl : (_ : Nat) = 9) | exact (rfl : (_ : Nat) = 10) | exact (rfl : (_ : Nat) = 11) | exact (rfl : (_ : Nat) = 12) | exact rfl) (by first | exact (rfl : (_ : Nat) = 0) | exact (rfl : (_ : Nat) = 1) | exact (rfl : (_ : Nat) = 2) | exact (rfl : (_ : Nat) = 3) | exact (rfl : (_ : Nat) = 4) | exact (rfl : (_ : Nat) = 5) | exact (rfl : (_ : Nat) = 6) | exact (rfl : (_ : Nat) = 7) | exact (rfl : (_ : Nat) = 8) | exact (rfl : (_ : Nat) = 9) | exact (rfl : (_ : Nat) = 10) | exact (rfl : (_ : Nat) = 11) | exact (rfl : (_ : Nat) = 12) | exact rfl) (by first | exact (rfl : (_ : Nat) = 0) | exact (rfl : (_ : Nat) = 1) | exact (rfl : (_ : Nat) = 2) | exact (rfl : (_ : Nat) = 3) | exact (rfl : (_ : Nat) = 4) | exact (rfl : (_ : Nat) = 5) | exact (rfl : (_ : Nat) = 6) | exact (rfl : (_ : Nat) = 7) | exact (rfl : (_ : Nat) = 8) | exact (rfl : (_ : Nat) = 9) | exact (rfl : (_ : Nat) = 10) | exact (rfl : (_ : Nat) = 11) | exact (rfl : (_ : Nat) = 12) | exact rfl)); exact (IsH.mk _ _ _ _ _ _ _ _ (by repeat' first | exact IsBL.nil | apply IsBL.cells | apply IsBL.cons | exact IsLL.nil | apply IsLL.cons | exact IsL.nil | exact IsV.int _ _ | exact IsV.str _ | exact IsV.slV _ _ _ | exact IsV.nils | exact IsV.bool _ | exact IsV.sl _ _ _ | apply IsL.cons | exact IsV.any _ | exact IsL.any _ | exact IsLL.any _ | exact IsBL.any _ | exact (rfl : (_ : Nat) = 1) | exact (rfl : (_ : Nat) = 2) | exact (rfl : (_ : Nat) = 3) | exact (rfl : (_ : Nat) = 4) | exact (rfl : (_ : Nat) = 5) | exact (rfl : (_ : Nat) = 6) | exact (rfl : (_ : Nat) = 7) | exact (rfl : (_ : Nat) = 8) | exact (rfl : (_ : Nat) = 9) | exact (rfl : (_ : Nat) = 10) | exact (rfl : (_ : Nat) = 11) | exact (rfl : (_ : Nat) = 12) | exact (rfl : (_ : Nat) = 256) | exact rfl) (by first | exact (rfl : (_ : Nat) = 0) | exact (rfl : (_ : Nat) = 1) | exact rfl) (by first | exact (rfl : (_ : List Nat) = []) | exact rfl) (by first | exact (rfl : (_ : Nat) = 0) | exact (rfl : (_ : Nat) = 1) | exact (rfl : (_ : Nat) = 2) | exact (rfl : (_ : Nat) = 3) | exact (rfl : (_ : Nat) = 4) | exact (rfl : (_ : Nat) = 5) | exact (rfl : (_ : Nat) = 6) | exact (rfl : (_ : Nat) = 7) | exact (rfl : (_ : Nat) = 8) | exact (rfl : (_ : Nat) = 9) | exact (rfl : (_ : Nat) = 10) | exact (rfl : (_ : Nat) = 11) | exact (rfl : (_ : Nat) = 12) | exact rfl)); rfl)
          | (apply DrwQ.rOp (ty := 3); rfl; rfl; rfl; exact (IsV.int _ _); rfl)
          | (apply DrwQ.rLen (ty := 3); rfl; rfl; rfl; rfl; rfl)
          | (apply DrwQ.rOp (ty := 4); rfl; rfl; rfl; exact (IsV.bool true); rfl)
          | (apply DrwQ.rOp (ty := 4); rfl; rfl; rfl; exact (IsV.bool false); rfl)
          | (apply DrwQ.rB (ty := 4); rfl; rfl; rfl; rfl)
          | (apply DrwQ.rOp (ty := 9); rfl; rfl; rfl; exact (IsV.str _); rfl)
          | (apply DrwQ.rOp (ty := 52); rfl; rfl; rfl; exact (IsV.agg _ _ (by repeat' first | exact IsL.nil | exact IsV.int _ _ | exact IsV.str _ | exact IsV.slV _ _ _ | exact IsV.nils | exact IsV.bool _ | exact IsV.sl _ _ _ | apply IsL.cons | apply IsV.agg | exact IsV.any _ | exact IsL.any _)); rfl)
          | intro hb
          | refine Wp.seq ?_
          | refine SeqQ.go ?_
          | refine Wp.region ?_
          | refine Wp.draw tOk follows (by kernel_rfl) ?_
          | refine Wp.condT rfl ?_
          | refine Wp.condF rfl ?_
          | refine Wp.skip ?_
          | refine Wp.ret ?_
          | refine Wp.exit ?_
          | refine Wp.block ?_
          | refine SeqQ.ret ?_
          | refine SeqQ.exit ?_
          | refine BlockQ.go ?_
          | refine BlockQ.ret ?_
          | refine BlockQ.hit rfl ?_
          | refine BlockQ.miss rfl ?_
          | refine LoopI.ret ?_
          | refine LoopI.exit ?_
          | refine RetQ.end rfl rfl (IsV.int _ _) ?_
          | refine RetQ.end rfl rfl (IsV.bool _) ?_
          | refine RetQ.fin rfl (by repeat' first | exact IsL.nil | exact IsV.int _ _ | exact IsV.str _ | exact IsV.slV _ _ _ | exact IsV.nils | exact IsV.bool _ | exact IsV.sl _ _ _ | apply IsL.cons | apply IsV.agg | exact IsV.any _ | exact IsL.any _) ?_
          | refine RetM.fin rfl (by repeat' first | exact IsL.nil | exact IsV.int _ _ | exact IsV.str _ | exact IsV.slV _ _ _ | exact IsV.nils | exact IsV.bool _ | exact IsV.sl _ _ _ | apply IsL.cons | apply IsV.agg | exact IsV.any _ | exact IsL.any _) ?_
        all_goals first
          | rfl
          | (exfalso; simp at hb; omega)
      | false =>
        refine Wp.seq ?_
        repeat' first
          | refine RegQ.nil ?_
          | (apply RegQ.rSkip; rfl; rfl)
          | (apply RegQ.rCall; rfl; rfl; rfl; rfl; exact (haw _); exact (IsV.int _ _))
          | (apply RegQ.rCall; rfl; rfl; rfl; rfl; exact (haw _); exact (IsV.str _))
          | (apply RegQ.rCall; rfl; rfl; rfl; rfl; exact (haw _); exact (IsV.agg _ _ (by repeat' first | exact IsL.nil | exact IsV.int _ _ | exact IsV.str _ | exact IsV.slV _ _ _ | exact IsV.nils | exact IsV.bool _ | exact IsV.sl _ _ _ | apply IsL.cons | apply IsV.agg | exact IsV.any _ | exact IsL.any _)))
          | (apply RegQ.rCall; rfl; rfl; rfl; rfl; exact (haw _); exact (IsV.tup _ _ (by repeat' first | exact IsL.nil | exact IsV.int _ _ | exact IsV.str _ | exact IsV.slV _ _ _ | exact IsV.nils | exact IsV.bool _ | exact IsV.sl _ _ _ | apply IsL.cons | apply IsV.agg | exact IsV.any _ | exact IsL.any _)))
          | (apply RegQ.rCall; rfl; rfl; rfl; rfl; exact (haw _); exact (IsV.any _))
          | (apply RegQ.rCall; rfl; rfl; rfl; rfl; exact (h27 _); exact (IsV.int _ _))
          | (apply RegQ.rCall; rfl; rfl; rfl; rfl; exact (h27 _); exact (IsV.str _))
          | (apply RegQ.rCall; rfl; rfl; rfl; rfl; exact (h27 _); exact (IsV.agg _ _ (by repeat' first | exact IsL.nil | exact IsV.int _ _ | exact IsV.str _ | exact IsV.slV _ _ _ | exact IsV.nils | exact IsV.bool _ | exact IsV.sl _ _ _ | apply IsL.cons | apply IsV.agg | exact IsV.any _ | exact IsL.any _)))
          | (apply RegQ.rCall; rfl; rfl; rfl; rfl; exact (h27 _); exact (IsV.tup _ _ (by repeat' first | exact IsL.nil | exact IsV.int _ _ | exact IsV.str _ | exact IsV.slV _ _ _ | exact IsV.nils | exact IsV.bool _ | exact IsV.sl _ _ _ | apply IsL.cons | apply IsV.agg | exact IsV.any _ | exact IsL.any _)))
          | (apply RegQ.rCall; rfl; rfl; rfl; rfl; exact (h27 _); exact (IsV.any _))
          | (apply RegQ.rLd; rfl; rfl; rfl; assumption; exact (IsV.any _))
          | (apply RegQ.rOp (ty := 0); rfl; rfl; rfl; exact (IsV.fptr _ _))
          | (apply RegQ.rOpH (ty := 0); rfl; rfl; rfl; exact (IsV.ptr4 (by first | exact (rfl : (_ : Nat) = 0) | exact (rfl : (_ : Nat) = 1) | exact (rfl : (_ : Nat) = 2) | exact (rfl : (_ : Nat) = 3) | exact (rfl : (_ : Nat) = 4) | exact (rfl : (_ : Nat) = 5) | exact (rfl : (_ : Nat) = 6) | exact (rfl : (_ : Nat) = 7) | exact (rfl : (_ : Nat) = 8) | exact (rfl : (_ : Nat) = 9) | exact (rfl : (_ : Nat) = 10) | exact (rfl : (_ : Nat) = 11) | exact (rfl : (_ : Nat) = 12) | exact rfl) (by first | exact (rfl : (_ : Nat) = 0) | exact (rfl : (_ : Nat) = 1) | exact (rfl : (_ : Nat) = 2) | exact (rfl : (_ : Nat) = 3) | exact (rfl : (_ : Nat) = 4) | exact (rfl : (_ : Nat) = 5) | exact (rfl : (_ : Nat) = 6) | exact (rfl : (_ : Nat) = 7) | exact (rfl : (_ : Nat) = 8) | exact (rfl : (_ : Nat) = 9) | exact (rfl : (_ : Nat) = 10) | exact (rfl : (_ : Nat) = 11) | exact (rfl : (_ : Nat) = 12) | exact rfl) (by first | exact (rfl : (_ : Nat) = 0) | exact (rfl : (_ : Nat) = 1) | exact (rfl : (_ : Nat) = 2) | exact (rfl : (_ : Nat) = 3) | exact (rfl : (_ : Nat) = 4) | exact (rfl : (_ : Nat) = 5) | exact (rfl : (_ : Nat) = 6) | exact (rfl : (_ : Nat) = 7) | exact (rfl : (_ : Nat) = 8) | exact (rfl : (_ : Nat) = 9) | exact (rfl : (_ : Nat) = 10) | exact (rfl : (_ : Nat) = 11) | exact (rfl : (_ : Nat) = 12) | exact rfl) (by first | exact (rfl : (_ : Nat) = 0) | exact (rfl : (_ : Nat) = 1) | exact (rfl : (_ : Nat) = 2) | exact (rfl : (_ : Nat) = 3) | exact (rfl : (_ : Nat) = 4) | exact (rfl : (_ : Nat) = 5) | exact (rfl : (_ : Nat) = 6) | exact (rfl : (_ : Nat) = 7) | exact (rfl : (_ : Nat) = 8) | exact (rfl : (_ : Nat) = 9) | exact (rfl : (_ : Nat) = 10) | exact (rfl : (_ : Nat) = 11) | exact (rfl : (_ : Nat) = 12) | exact rfl)); exact (IsH.mk _ _ _ _ _ _ _ _ (by repeat' first | exact IsBL.nil | apply IsBL.cells | apply IsBL.cons | exact IsLL.nil | apply IsLL.cons | exact IsL.nil | exact IsV.int _ _ | exact IsV.str _ | exact IsV.slV _ _ _ | exact IsV.nils | exact IsV.bool _ | exact IsV.sl _ _ _ | apply IsL.cons | exact IsV.any _ | exact IsL.any _ | exact IsLL.any _ | exact IsBL.any _ | exact (rfl : (_ : Nat) = 1) | exact (rfl : (_ : Nat) = 2) | exact (rfl : (_ : Nat) = 3) | exact (rfl : (_ : Nat) = 4) | exact (rfl : (_ : Nat) = 5) | exact (rfl : (_ : Nat) = 6) | exact (rfl : (_ : Nat) = 7) | exact (rfl : (_ : Nat) = 8) | exact (rfl : (_ : Nat) = 9) | exact (rfl : (_ : Nat) = 10) | exact (rfl : (_ : Nat) = 11) | exact (rfl : (_ : Nat) = 12) | exact (rfl : (_ : Nat) = 256) | exact rfl) (by first | exact (rfl : (_ : Nat) = 0) | exact (rfl : (_ : Nat) = 1) | exact rfl) (by first | exact (rfl : (_ : List Nat) = []) | exact rfl) (by first | exact (rfl : (_ : Nat) = 0) | exact (rfl : (_ : Nat) = 1) | exact (rfl : (_ : Nat) = 2) | exact (rfl : (_ : Nat) = 3) | exact (rfl : (_ : Nat) = 4) | exact (rfl : (_ : Nat) = 5) | exact (rfl : (_ : Nat) = 6) | exact (rfl : (_ : Nat) = 7) | exact (rfl : (_ : Nat) = 8) | exact (rfl : (_ : Nat) = 9) | exact (rfl : (_ : Nat) = 10) | exact (rfl : (_ : Nat) = 11) | exact (rfl : (_ : Nat) = 12) | exact rfl)))
          | (apply RegQ.rOp (ty := 3); rfl; rfl; rfl; exact (IsV.int _ _))
          | (apply RegQ.rLen (ty := 3); rfl; rfl; rfl; rfl; rfl)
          | (apply RegQ.rOp (ty := 4); rfl; rfl; rfl; exact (IsV.bool true))
          | (apply RegQ.rOp (ty := 4); rfl; rfl; rfl; exact (IsV.bool false))
          | (apply RegQ.rB (ty := 4); rfl; rfl; rfl)
          | (apply RegQ.rOp (ty := 9); rfl; rfl; rfl; exact (IsV.str _))
          | (apply RegQ.rOp (ty := 52); rfl; rfl; rfl; exact (IsV.agg _ _ (by repeat' first | exact IsL.nil | exact IsV.int _ _ | exact IsV.str _ | exact IsV.slV _ _ _ | exact IsV.nils | exact IsV.bool _ | exact IsV.sl _ _ _ | apply IsL.cons | apply IsV.agg | exact IsV.any _ | exact IsL.any _)))
          | refine DrwQ.nil ?_
          | (apply DrwQ.rSkip; rfl; rfl)
          | (apply DrwQ.rCall; rfl; rfl; rfl; rfl; rfl; exact (haw _); exact (IsV.int _ _))
          | (apply DrwQ.rCall; rfl; rfl; rfl; rfl; rfl; exact (haw _); exact (IsV.str _))
          | (apply DrwQ.rCall; rfl; rfl; rfl; rfl; rfl; exact (haw _); exact (IsV.agg _ _ (by repeat' first | exact IsL.nil | exact IsV.int _ _ | exact IsV.str _ | exact IsV.slV _ _ _ | exact IsV.nils | exact IsV.bool _ | exact IsV.sl _ _ _ | apply IsL.cons | apply IsV.agg | exact IsV.any _ | exact IsL.any _)))
          | (apply DrwQ.rCall; rfl; rfl; rfl; rfl; rfl; exact (haw _); exact (IsV.tup _ _ (by repeat' first | exact IsL.nil | exact IsV.int _ _ | exact IsV.str _ | exact IsV.slV _ _ _ | exact IsV.nils | exact IsV.bool _ | exact IsV.sl _ _ _ | apply IsL.cons | apply IsV.agg | exact IsV.any _ | exact IsL.any _)))
          | (apply DrwQ.rCall; rfl; rfl; rfl; rfl; rfl; exact (haw _); exact (IsV.any _))
          | (apply DrwQ.rCall; rfl; rfl; rfl; rfl; rfl; exact (h27 _); exact (IsV.int _ _))
          | (apply DrwQ.rCall; rfl; rfl; rfl; rfl; rfl; exact (h27 _); exact (IsV.str _))
          | (apply DrwQ.rCall; rfl; rfl; rfl; rfl; rfl; exact (h27 _); exact (IsV.agg _ _ (by repeat' first | exact IsL.nil | exact IsV.int _ _ | exact IsV.str _ | exact IsV.slV _ _ _ | exact IsV.nils | exact IsV.bool _ | exact IsV.sl _ _ _ | apply IsL.cons | apply IsV.agg | exact IsV.any _ | exact IsL.any _)))
          | (apply DrwQ.rCall; rfl; rfl; rfl; rfl; rfl; exact (h27 _); exact (IsV.tup _ _ (by repeat' first | exact IsL.nil | exact IsV.int _ _ | exact IsV.str _ | exact IsV.slV _ _ _ | exact IsV.nils | exact IsV.bool _ | exact IsV.sl _ _ _ | apply IsL.cons | apply IsV.agg | exact IsV.any _ | exact IsL.any _)))
          | (apply DrwQ.rCall; rfl; rfl; rfl; rfl; rfl; exact (h27 _); exact (IsV.any _))
          | (apply DrwQ.rOp (ty := 0); rfl; rfl; rfl; exact (IsV.fptr _ _); rfl)
          | (apply DrwQ.rOpH (ty := 0); rfl; rfl; rfl; exact (IsV.ptr4 (by first | exact (rfl : (_ : Nat) = 0) | exact (rfl : (_ : Nat) = 1) | exact (rfl : (_ : Nat) = 2) | exact (rfl : (_ : Nat) = 3) | exact (rfl : (_ : Nat) = 4) | exact (rfl : (_ : Nat) = 5) | exact (rfl : (_ : Nat) = 6) | exact (rfl : (_ : Nat) = 7) | exact (rfl : (_ : Nat) = 8) | exact (rfl : (_ : Nat) = 9) | exact (rfl : (_ : Nat) = 10) | exact (rfl : (_ : Nat) = 11) | exact (rfl : (_ : Nat) = 12) | exact rfl) (by first | exact (rfl : (_ : Nat) = 0) | exact (rfl : (_ : Nat) = 1) | exact (rfl : (_ : Nat) = 2) | exact (rfl : (_ : Nat) = 3) | exact (rfl : (_ : Nat) = 4) | exact (rfl : (_ : Nat) = 5) | exact (rfl : (_ : Nat) = 6) | exact (rfl : (_ : Nat) = 7) | exact (rfl : (_ : Nat) = 8) | exact (rfl : (_ : Nat) = 9) | exact (rfl : (_ : Nat) = 10) | exact (rfl : (_ : Nat) = 11) | exact (rfl : (_ : Nat) = 12) | exact rfl) (by first | exact (rfl : (_ : Nat) = 0) | exact (rfl : (_ : Nat) = 1) | exact (rfl : (_ : Nat) = 2) | exact (rfl : (_ : Nat) = 3) | exact (rfl : (_ : Nat) = 4) | exact (rfl : (_ : Nat) = 5) | exact (rfl : (_ : Nat) = 6) | exact (rfl : (_ : Nat) = 7) | exact (rfl : (_ : Nat) = 8) | exact (rfl : (_ : Nat) = 9) | exact (rfl : (_ : Nat) = 10) | exact (rfl : (_ : Nat) = 11) | exact (rfl : (_ : Nat) = 12) | exact rfl) (by first | exact (rfl : (_ : Nat) = 0) | exact (rfl : (_ : Nat) = 1) | exact (rfl : (_ : Nat) = 2) | exact (rfl : (_ : Nat) = 3) | exact (rfl : (_ : Nat) = 4) | exact (rfl : (_ : Nat) = 5) | exact (rfl : (_ : Nat) = 6) | exact (rfl : (_ : Nat) = 7) | exact (rfl : (_ : Nat) = 8) | exact (rfl : (_ : Nat) = 9) | exact (rfl : (_ : Nat) = 10) | exact (rfl : (_ : Nat) = 11) | exact (rfl : (_ : Nat) = 12) | exact rfl)); exact (IsH.mk _ _ _ _ _ _ _ _ (by repeat' first | exact IsBL.nil | apply IsBL.cells | apply IsBL.cons | exact IsLL.nil | apply IsLL.cons | exact IsL.nil | exact IsV.int _ _ | exact IsV.str _ | exact IsV.slV _ _ _ | exact IsV.nils | exact IsV.bool _ | exact IsV.sl _ _ _ | apply IsL.cons | exact IsV.any _ | exact IsL.any _ | exact IsLL.any _ | exact IsBL.any _ | exact (rfl : (_ : Nat) = 1) | exact (rfl : (_ : Nat) = 2) | exact (rfl : (_ : Nat) = 3) | exact (rfl : (_ : Nat) = 4) | exact (rfl : (_ : Nat) = 5) | exact (rfl : (_ : Nat) = 6) | exact (rfl : (_ : Nat) = 7) | exact (rfl : (_ : Nat) = 8) | exact (rfl : (_ : Nat) = 9) | exact (rfl : (_ : Nat) = 10) | exact (rfl : (_ : Nat) = 11) | exact (rfl : (_ : Nat) = 12) | exact (rfl : (_ : Nat) = 256) | exact rfl) (by first | exact (rfl : (_ : Nat) = 0) | exact (rfl : (_ : Nat) = 1) | exact rfl) (by first | exact (rfl : (_ : List Nat) = []) | exact rfl) (by first | exact (rfl : (_ : Nat) = 0) | exact (rfl : (_ : Nat) = 1) | exact (rfl : (_ : Nat) = 2) | exact (rfl : (_ : Nat) = 3) | exact (rfl : (_ : Nat) = 4) | exact (rfl : (_ : Nat) = 5) | exact (rfl : (_ : Nat) = 6) | exact (rfl : (_ : Nat) = 7) | exact (rfl : (_ : Nat) = 8) | exact (rfl : (_ : Nat) = 9) | exact (rfl : (_ : Nat) = 10) | exact (rfl : (_ : Nat) = 11) | exact (rfl : (_ : Nat) = 12) | exact rfl)); rfl)
          | (apply DrwQ.rOp (ty := 3); rfl; rfl; rfl; exact (IsV.int _ _); rfl)
          | (apply DrwQ.rLen (ty := 3); rfl; rfl; rfl; rfl; rfl)
          | (apply DrwQ.rOp (ty := 4); rfl; rfl; rfl; exact (IsV.bool true); rfl)
          | (apply DrwQ.rOp (ty := 4); rfl; rfl; rfl; exact (IsV.bool false); rfl)
          | (apply DrwQ.rB (ty := 4); rfl; rfl; rfl; rfl)
          | (apply DrwQ.rOp (ty := 9); rfl; rfl; rfl; exact (IsV.str _); rfl)
          | (apply DrwQ.rOp (ty := 52); rfl; rfl; rfl; exact (IsV.agg _ _ (by repeat' first | exact IsL.nil | exact IsV.int _ _ | exact IsV.str _ | exact IsV.slV _ _ _ | exact IsV.nils | exact IsV.bool _ | exact IsV.sl _ _ _ | apply IsL.cons | apply IsV.agg | exact IsV.any _ | exact IsL.any _)); rfl)
          | intro hb
          | refine Wp.seq ?_
          | refine SeqQ.go ?_
          | refine Wp.region ?_
          | refine Wp.draw tOk follows (by kernel_rfl) ?_
          | refine Wp.condT rfl ?_
          | refine Wp.condF rfl ?_
          | refine Wp.skip ?_
          | refine Wp.ret ?_
          | refine Wp.exit ?_
          | refine Wp.block ?_
          | refine SeqQ.ret ?_
          | refine SeqQ.exit ?_
          | refine BlockQ.go ?_
          | refine BlockQ.ret ?_
          | refine BlockQ.hit rfl ?_
          | refine BlockQ.miss rfl ?_
          | refine LoopI.ret ?_
          | refine LoopI.exit ?_
          | refine RetQ.end rfl rfl (IsV.int _ _) ?_
          | refine RetQ.end rfl rfl (IsV.bool _) ?_
          | refine RetQ.fin rfl (by repeat' first | exact IsL.nil | exact IsV.int _ _ | exact IsV.str _ | exact IsV.slV _ _ _ | exact IsV.nils | exact IsV.bool _ | exact IsV.sl _ _ _ | apply IsL.cons | apply IsV.agg | exact IsV.any _ | exact IsL.any _) ?_
          | refine RetM.fin rfl (by repeat' first | exact IsL.nil | exact IsV.int _ _ | exact IsV.str _ | exact IsV.slV _ _ _ | exact IsV.nils | exact IsV.bool _ | exact IsV.sl _ _ _ | apply IsL.cons | apply IsV.agg | exact IsV.any _ | exact IsL.any _) ?_
        all_goals rfl
  · cases F with
    | true =>
      refine Wp.seq ?_
      repeat' first
        | refine RegQ.nil ?_
        | (apply RegQ.rSkip; rfl; rfl)
        | (apply RegQ.rCall; rfl; rfl; rfl; rfl; exact (haw _); exact (IsV.int _ _))
        | (apply RegQ.rCall; rfl; rfl; rfl; rfl; exact (haw _); exact (IsV.str _))
        | (apply RegQ.rCall; rfl; rfl; rfl; rfl; exact (haw _); exact (IsV.agg _ _ (by repeat' first | exact IsL.nil | exact IsV.int _ _ | exact IsV.str _ | exact IsV.slV _ _ _ | exact IsV.nils | exact IsV.bool _ | exact IsV.sl _ _ _ | apply IsL.cons | apply IsV.agg | exact IsV.any _ | exact IsL.any _)))
        | (apply RegQ.rCall; rfl; rfl; rfl; rfl; exact (haw _); exact (IsV.tup _ _ (by repeat' first | exact IsL.nil | exact IsV.int _ _ | exact IsV.str _ | exact IsV.slV _ _ _ | exact IsV.nils | exact IsV.bool _ | exact IsV.sl _ _ _ | apply IsL.cons | apply IsV.agg | exact IsV.any _ | exact IsL.any _)))
        | (apply RegQ.rCall; rfl; rfl; rfl; rfl; exact (haw _); exact (IsV.any _))
        | (apply RegQ.rCall; rfl; rfl; rfl; rfl; exact (h27 _); exact (IsV.int _ _))
        | (apply RegQ.rCall; rfl; rfl; rfl; rfl; exact (h27 _); exact (IsV.str _))
        | (apply RegQ.rCall; rfl; rfl; rfl; rfl; exact (h27 _); exact (IsV.agg _ _ (by repeat' first | exact IsL.nil | exact IsV.int _ _ | exact IsV.str _ | exact IsV.slV _ _ _ | exact IsV.nils | exact IsV.bool _ | exact IsV.sl _ _ _ | apply IsL.cons | apply IsV.agg | exact IsV.any _ | exact IsL.any _)))
        | (apply RegQ.rCall; rfl; rfl; rfl; rfl; exact (h27 _); exact (IsV.tup _ _ (by repeat' first | exact IsL.nil | exact IsV.int _ _ | exact IsV.str _ | exact IsV.slV _ _ _ | exact IsV.nils | exact IsV.bool _ | exact IsV.sl _ _ _ | apply IsL.cons | apply IsV.agg | exact IsV.any _ | exact IsL.any _)))
        | (apply RegQ.rCall; rfl; rfl; rfl; rfl; exact (h27 _); exact (IsV.any _))
        | (apply RegQ.rLd; rfl; rfl; rfl; assumption; exact (IsV.any _))
        | (apply RegQ.rOp (ty := 0); rfl; rfl; rfl; exact (IsV.fptr _ _))
        | (apply RegQ.rOpH (ty := 0); rfl; rfl; rfl; exact (IsV.ptr4 (by first | exact (rfl : (_ : Nat) = 0) | exact (rfl : (_ : Nat) = 1) | exact (rfl : (_ : Nat) = 2) | exact (rfl : (_ : Nat) = 3) | exact (rfl : (_ : Nat) = 4) | exact (rfl : (_ : Nat) = 5) | exact (rfl : (_ : Nat) = 6) | exact (rfl : (_ : Nat) = 7) | exact (rfl : (_ : Nat) = 8) | exact (rfl : (_ : Nat) = 9) | exact (rfl : (_ : Nat) = 10) | exact (rfl : (_ : Nat) = 11) | exact (rfl : (_ : Nat) = 12) | exact rfl) (by first | exact (rfl : (_ : Nat) = 0) | exact (rfl : (_ : Nat) = 1) | exact (rfl : (_ : Nat) = 2) | exact (rfl : (_ : Nat) = 3) | exact (rfl : (_ : Nat) = 4) | exact (rfl : (_ : Nat) = 5) | exact (rfl : (_ : Nat) = 6) | exact (rfl : (_ : Nat) = 7) | exact (rfl : (_ : Nat) = 8) | exact (rfl : (_ : Nat) = 9) | exact (rfl : (_ : Nat) = 10) | exact (rfl : (_ : Nat) = 11) | exact (rfl : (_ : Nat) = 12) | exact rfl) (by first | exact (rfl : (_ : Nat) = 0) | exact (rfl : (_ : Nat) = 1) | exact (rfl : (_ : Nat) = 2) | exact (rfl : (_ : Nat) = 3) | exact (rfl : (_ : Nat) = 4) | exact (rfl : (_ : Nat) = 5) | exact (rfl : (_ : Nat) = 6) | exact (rfl : (_ : Nat) = 7) | exact (rfl : (_ : Nat) = 8) | exact (rfl : (_ : Nat) = 9) | exact (rfl : (_ : Nat) = 10) | exact (rfl : (_ : Nat) = 11) | exact (rfl : (_ : Nat) = 12) | exact rfl) (by first | exact (rfl : (_ : Nat) = 0) | exact (rfl : (_ : Nat) = 1) | exact (rfl : (_ : Nat) = 2) | exact (rfl : (_ : Nat) = 3) | exact (rfl : (_ : Nat) = 4) | exact (rfl : (_ : Nat) = 5) | exact (rfl : (_ : Nat) = 6) | exact (rfl : (_ : Nat) = 7) | exact (rfl : (_ : Nat) = 8) | exact (rfl : (_ : Nat) = 9) | exact (rfl : (_ : Nat) = 10) | exact (rfl : (_ : Nat) = 11) | exact (rfl : (_ : Nat) = 12) | exact rfl)); exact (IsH.mk _ _ _ _ _ _ _ _ (by repeat' first | exact IsBL.nil | apply IsBL.cells | apply IsBL.cons | exact IsLL.nil | apply IsLL.cons | exact IsL.nil | exact IsV.int _ _ | exact IsV.str _ | exact IsV.slV _ _ _ | exact IsV.nils | exact IsV.bool _ | exact IsV.sl _ _ _ | apply IsL.cons | exact IsV.any _ | exact IsL.any _ | exact IsLL.any _ | exact IsBL.any _ | exact (rfl : (_ : Nat) = 1) | exact (rfl : (_ : Nat) = 2) | exact (rfl : (_ : Nat) = 3) | exact (rfl : (_ : Nat) = 4) | exact (rfl : (_ : Nat) = 5) | exact (rfl : (_ : Nat) = 6) | exact (rfl : (_ : Nat) = 7) | exact (rfl : (_ : Nat) = 8) | exact (rfl : (_ : Nat) = 9) | exact (rfl : (_ : Nat) = 10) | exact (rfl : (_ : Nat) = 11) | exact (rfl : (_ : Nat) = 12) | exact (rfl : (_ : Nat) = 256) | exact rfl) (by first | exact (rfl : (_ : Nat) = 0) | exact (rfl : (_ : Nat) = 1) | exact rfl) (by first | exact (rfl : (_ : List Nat) = []) | exact rfl) (by first | exact (rfl : (_ : Nat) = 0) | exact (rfl : (_ : Nat) = 1) | exact (rfl : (_ : Nat) = 2) | exact (rfl : (_ : Nat) = 3) | exact (rfl : (_ : Nat) = 4) | exact (rfl : (_ : Nat) = 5) | exact (rfl : (_ : Nat) = 6) | exact (rfl : (_ : Nat) = 7) | exact (rfl : (_ : Nat) = 8) | exact (rfl : (_ : Nat) = 9) | exact (rfl : (_ : Nat) = 10) | exact (rfl : (_ : Nat) = 11) | exact (rfl : (_ : Nat) = 12) | exact rfl)))
        | (apply RegQ.rOp (ty := 3); rfl; rfl; rfl; exact (IsV.int _ _))
        | (apply RegQ.rLen (ty := 3); rfl; rfl; rfl; rfl; rfl)
        | (apply RegQ.rOp (ty := 4); rfl; rfl; rfl; exact (IsV.bool true))
        | (apply RegQ.rOp (ty := 4); rfl; rfl; rfl; exact (IsV.bool false))
        | (apply RegQ.rB (ty := 4); rfl; rfl; rfl)
        | (apply RegQ.rOp (ty := 9); rfl; rfl; rfl; exact (IsV.str _))
        | (apply RegQ.rOp (ty := 52); rfl; rfl; rfl; exact (IsV.agg _ _ (by repeat' first | exact IsL.nil | exact IsV.int _ _ | exact IsV.str _ | exact IsV.slV _ _ _ | exact IsV.nils | exact IsV.bool _ | exact IsV.sl _ _ _ | apply IsL.cons | apply IsV.agg | exact IsV.any _ | exact IsL.any _)))
        | refine DrwQ.nil ?_
        | (apply DrwQ.rSkip; rfl; rfl)
        | (apply DrwQ.rCall; rfl; rfl; rfl; rfl; rfl; exact (haw _); exact (IsV.int _ _))
        | (apply DrwQ.rCall; rfl; rfl; rfl; rfl; rfl; exact (haw _); exact (IsV.str _))
        | (apply DrwQ.rCall; rfl; rfl; rfl; rfl; rfl; exact (haw _); exact (IsV.agg _ _ (by repeat' first | exact IsL.nil | exact IsV.int _ _ | exact IsV.str _ | exact IsV.slV _ _ _ | exact IsV.nils | exact IsV.bool _ | exact IsV.sl _ _ _ | apply IsL.cons | apply IsV.agg | exact IsV.any _ | exact IsL.any _)))
        | (apply DrwQ.rCall; rfl; rfl; rfl; rfl; rfl; exact (haw _); exact (IsV.tup _ _ (by repeat' first | exact IsL.nil | exact IsV.int _ _ | exact IsV.str _ | exact IsV.slV _ _ _ | exact IsV.nils | exact IsV.bool _ | exact IsV.sl _ _ _ | apply IsL.cons | apply IsV.agg | exact IsV.any _ | exact IsL.any _)))
        | (apply DrwQ.rCall; rfl; rfl; rfl; rfl; rfl; exact (haw _); exact (IsV.any _))
        | (apply DrwQ.rCall; rfl; rfl; rfl; rfl; rfl; exact (h27 _); exact (IsV.int _ _))
        | (apply DrwQ.rCall; rfl; rfl; rfl; rfl; rfl; exact (h27 _); exact (IsV.str _))
        | (apply DrwQ.rCall; rfl; rfl; rfl; rfl; rfl; exact (h27 _); exact (IsV.agg _ _ (by repeat' first | exact IsL.nil | exact IsV.int _ _ | exact IsV.str _ | exact IsV.slV _ _ _ | exact IsV.nils | exact IsV.bool _ | exact IsV.sl _ _ _ | apply IsL.cons | apply IsV.agg | exact IsV.any _ | exact IsL.any _)))
        | (apply DrwQ.rCall; rfl; rfl; rfl; rfl; rfl; exact (h27 _); exact (IsV.tup _ _ (by repeat' first | exact IsL.nil | exact IsV.int _ _ | exact IsV.str _ | exact IsV.slV _ _ _ | exact IsV.nils | exact IsV.bool _ | exact IsV.sl _ _ _ | apply IsL.cons | apply IsV.agg | exact IsV.any _ | exact IsL.any _)))
        | (apply DrwQ.rCall; rfl; rfl; rfl; rfl; rfl; exact (h27 _); exact (IsV.any _))
        | (apply DrwQ.rOp (ty := 0); rfl; rfl; rfl; exact (IsV.fptr _ _); rfl)
        | (apply DrwQ.rOpH (ty := 0); rfl; rfl; rfl; exact (IsV.ptr4 (by first | exact (rfl : (_ : Nat) = 0) | exact (rfl : (_ : Nat) = 1) | exact (rfl : (_ : Nat) = 2) | exact (rfl : (_ : Nat) = 3) | exact (rfl : (_ : Nat) = 4) | exact (rfl : (_ : Nat) = 5) | exact (rfl : (_ : Nat) = 6) | exact (rfl : (_ : Nat) = 7) | exact (rfl : (_ : Nat) = 8) | exact (rfl : (_ : Nat) = 9) | exact (rfl : (_ : Nat) = 10) | exact (rfl : (_ : Nat) = 11) | exact (rfl : (_ : Nat) = 12) | exact rfl) (by first | exact (rfl : (_ : Nat) = 0) | exact (rfl : (_ : Nat) = 1) | exact (rfl : (_ : Nat) = 2) | exact (rfl : (_ : Nat) = 3) | exact (rfl : (_ : Nat) = 4) | exact (rfl : (_ : Nat) = 5) | exact (rfl : (_ : Nat) = 6) | exact (rfl : (_ : Nat) = 7) | exact (rfl : (_ : Nat) = 8) | exact (rfl : (_ : Nat) = 9) | exact (rfl : (_ : Nat) = 10) | exact (rfl : (_ : Nat) = 11) | exact (rfl : (_ : Nat) = 12) | exact rfl) (by first | exact (rfl : (_ : Nat) = 0) | exact (rfl : (_ : Nat) = 1) | exact (rfl : (_ : Nat) = 2) | exact (rfl : (_ : Nat) = 3) | exact (rfl : (_ : Nat) = 4) | exact (rfl : (_ : Nat) = 5) | exact (rfl : (_ : Nat) = 6) | exact (rfl : (_ : Nat) = 7) | exact (rfl : (_ : Nat) = 8) | exact (rfl : (_ : Nat) = 9) | exact (rfl : (_ : Nat) = 10) | exact (rfl : (_ : Nat) = 11) | exact (rfl : (_ : Nat) = 12) | exact rfl) (by first | exact (rfl : (_ : Nat) = 0) | exact (rfl : (_ : Nat) = 1) | exact (rfl : (_ : Nat) = 2) | exact (rfl : (_ : Nat) = 3) | exact (rfl : (_ : Nat) = 4) | exact (rfl : (_ : Nat) = 5) | exact (rfl : (_ : Nat) = 6) | exact (rfl : (_ : Nat) = 7) | exact (rfl : (_ : Nat) = 8) | exact (rfl : (_ : Nat) = 9) | exact (rfl : (_ : Nat) = 10) | exact (rfl : (_ : Nat) = 11) | exact (rfl : (_ : Nat) = 12) | exact rfl)); exact (IsH.mk _ _ _ _ _ _ _ _ (by repeat' first | exact IsBL.nil | apply IsBL.cells | apply IsBL.cons | exact IsLL.nil | apply IsLL.cons | exact IsL.nil | exact IsV.int _ _ | exact IsV.str _ | exact IsV.slV _ _ _ | exact IsV.nils | exact IsV.bool _ | exact IsV.sl _ _ _ | apply IsL.cons | exact IsV.any _ | exact IsL.any _ | exact IsLL.any _ | exact IsBL.any _ | exact (rfl : (_ : Nat) = 1) | exact (rfl : (_ : Nat) = 2) | exact (rfl : (_ : Nat) = 3) | exact (rfl : (_ : Nat) = 4) | exact (rfl : (_ : Nat) = 5) | exact (rfl : (_ : Nat) = 6) | exact (rfl : (_ : Nat) = 7) | exact (rfl : (_ : Nat) = 8) | exact (rfl : (_ : Nat) = 9) | exact (rfl : (_ : Nat) = 10) | exact (rfl : (_ : Nat) = 11) | exact (rfl : (_ : Nat) = 12) | exact (rfl : (_ : Nat) = 256) | exact rfl) (by first | exact (rfl : (_ : Nat) = 0) | exact (rfl : (_ : Nat) = 1) | exact rfl) (by first | exact (rfl : (_ : List Nat) = []) | exact rfl) (by first | exact (rfl : (_ : Nat) = 0) | exact (rfl : (_ : Nat) = 1) | exact (rfl : (_ : Nat) = 2) | exact (rfl : (_ : Nat) = 3) | exact (rfl : (_ : Nat) = 4) | exact (rfl : (_ : Nat) = 5) | exact (rfl : (_ : Nat) = 6) | exact (rfl : (_ : Nat) = 7) | exact (rfl : (_ : Nat) = 8) | exact (rfl : (_ : Nat) = 9) | exact (rfl : (_ : Nat) = 10) | exact (rfl : (_ : Nat) = 11) | exact (rfl : (_ : Nat) = 12) | exact rfl)); rfl)
        | (apply DrwQ.rOp (ty := 3); rfl; rfl; rfl; exact (IsV.int _ _); rfl)
        | (apply DrwQ.rLen (ty := 3); rfl; rfl; rfl; rfl; rfl)
        | (apply DrwQ.rOp (ty := 4); rfl; rfl; rfl; exact (IsV.bool true); rfl)
        | (apply DrwQ.rOp (ty := 4); rfl; rfl; rfl; exact (IsV.bool false); rfl)
        | (apply DrwQ.rB (ty := 4); rfl; rfl; rfl; rfl)
        | (apply DrwQ.rOp (ty := 9); rfl; rfl; rfl; exact (IsV.str _); rfl)
        | (apply DrwQ.rOp (ty := 52); rfl; rfl; rfl; exact (IsV.agg _ _ (by repeat' first | exact IsL.nil | exact IsV.int _ _ | exact IsV.str _ | exact IsV.slV _ _ _ | exact IsV.nils | exact IsV.bool _ | exact IsV.sl _ _ _ | apply IsL.cons | apply IsV.agg | exact IsV.any _ | exact IsL.any _)); rfl)
        | intro hb
        | refine Wp.seq ?_
        | refine SeqQ.go ?_
        | refine Wp.region ?_
        | refine Wp.draw tOk follows (by kernel_rfl) ?_
        | refine Wp.condT rfl ?_
        | refine Wp.condF rfl ?_
        | refine Wp.skip ?_
        | refine Wp.ret ?_
        | refine Wp.exit ?_
        | refine Wp.block ?_
        | refine SeqQ.ret ?_
        | refine SeqQ.exit ?_
        | refine BlockQ.go ?_
        | refine BlockQ.ret ?_
        | refine BlockQ.hit rfl ?_
        | refine BlockQ.miss rfl ?_
        | refine LoopI.ret ?_
        | refine LoopI.exit ?_
        | refine RetQ.end rfl rfl (IsV.int _ _) ?_
        | refine RetQ.end rfl rfl (IsV.bool _) ?_
        | refine RetQ.fin rfl (by repeat' first | exact IsL.nil | exact IsV.int _ _ | exact IsV.str _ | exact IsV.slV _ _ _ | exact IsV.nils | exact IsV.bool _ | exact IsV.sl _ _ _ | apply IsL.cons | apply IsV.agg | exact IsV.any _ | exact IsL.any _) ?_
        | refine RetM.fin rfl (by repeat' first | exact IsL.nil | exact IsV.int _ _ | exact IsV.str _ | exact IsV.slV _ _ _ | exact IsV.nils | exact IsV.bool _ | exact IsV.sl _ _ _ | apply IsL.cons | apply IsV.agg | exact IsV.any _ | exact IsL.any _) ?_
      all_goals first
        | rfl
        | (exfalso; simp at hb; omega)
        | (exfalso; rename_i hq; simp at hq; omega)
    | false =>
      refine Wp.seq ?_
      repeat' first
        | refine RegQ.nil ?_
        | (apply RegQ.rSkip; rfl; rfl)
        | (apply RegQ.rCall; rfl; rfl; rfl; rfl; exact (haw _); exact (IsV.int _ _))
        | (apply RegQ.rCall; rfl; rfl; rfl; rfl; exact (haw _); exact (IsV.str _))
        | (apply RegQ.rCall; rfl; rfl; rfl; rfl; exact (haw _); exact (IsV.agg _ _ (by repeat' first | exact IsL.nil | exact IsV.int _ _ | exact IsV.str _ | exact IsV.slV _ _ _ | exact IsV.nils | exact IsV.bool _ | exact IsV.sl _ _ _ | apply IsL.cons | apply IsV.agg | exact IsV.any _ | exact IsL.any _)))
        | (apply RegQ.rCall; rfl; rfl; rfl; rfl; exact (haw _); exact (IsV.tup _ _ (by repeat' first | exact IsL.nil | exact IsV.int _ _ | exact IsV.str _ | exact IsV.slV _ _ _ | exact IsV.nils | exact IsV.bool _ | exact IsV.sl _ _ _ | apply IsL.cons | apply IsV.agg | exact IsV.any _ | exact IsL.any _)))
        | (apply RegQ.rCall; rfl; rfl; rfl; rfl; exact (haw _); exact (IsV.any _))
        | (apply RegQ.rCall; rfl; rfl; rfl; rfl; exact (h27 _); exact (IsV.int _ _))
        | (apply RegQ.rCall; rfl; rfl; rfl; rfl; exact (h27 _); exact (IsV.str _))
        | (apply RegQ.rCall; rfl; rfl; rfl; rfl; exact (h27 _); exact (IsV.agg _ _ (by repeat' first | exact IsL.nil | exact IsV.int _ _ | exact IsV.str _ | exact IsV.slV _ _ _ | exact IsV.nils | exact IsV.bool _ | exact IsV.sl _ _ _ | apply IsL.cons | apply IsV.agg | exact IsV.any _ | exact IsL.any _)))
        | (apply RegQ.rCall; rfl; rfl; rfl; rfl; exact (h27 _); exact (IsV.tup _ _ (by repeat' first | exact IsL.nil | exact IsV.int _ _ | exact IsV.str _ | exact IsV.slV _ _ _ | exact IsV.nils | exact IsV.bool _ | exact IsV.sl _ _ _ | apply IsL.cons | apply IsV.agg | exact IsV.any _ | exact IsL.any _)))
        | (apply RegQ.rCall; rfl; rfl; rfl; rfl; exact (h27 _); exact (IsV.any _))
        | (apply RegQ.rLd; rfl; rfl; rfl; assumption; exact (IsV.any _))
        | (apply RegQ.rOp (ty := 0); rfl; rfl; rfl; exact (IsV.fptr _ _))
        | (apply RegQ.rOpH (ty := 0); rfl; rfl; rfl; exact (IsV.ptr4 (by first | exact (rfl : (_ : Nat) = 0) | exact (rfl : (_ : Nat) = 1) | exact (rfl : (_ : Nat) = 2) | exact (rfl : (_ : Nat) = 3) | exact (rfl : (_ : Nat) = 4) | exact (rfl : (_ : Nat) = 5) | exact (rfl : (_ : Nat) = 6) | exact (rfl : (_ : Nat) = 7) | exact (rfl : (_ : Nat) = 8) | exact (rfl : (_ : Nat) = 9) | exact (rfl : (_ : Nat) = 10) | exact (rfl : (_ : Nat) = 11) | exact (rfl : (_ : Nat) = 12) | exact rfl) (by first | exact (rfl : (_ : Nat) = 0) | exact (rfl : (_ : Nat) = 1) | exact (rfl : (_ : Nat) = 2) | exact (rfl : (_ : Nat) = 3) | exact (rfl : (_ : Nat) = 4) | exact (rfl : (_ : Nat) = 5) | exact (rfl : (_ : Nat) = 6) | exact (rfl : (_ : Nat) = 7) | exact (rfl : (_ : Nat) = 8) | exact (rfl : (_ : Nat) = 9) | exact (rfl : (_ : Nat) = 10) | exact (rfl : (_ : Nat) = 11) | exact (rfl : (_ : Nat) = 12) | exact rfl) (by first | exact (rfl : (_ : Nat) = 0) | exact (rfl : (_ : Nat) = 1) | exact (rfl : (_ : Nat) = 2) | exact (rfl : (_ : Nat) = 3) | exact (rfl : (_ : Nat) = 4) | exact (rfl : (_ : Nat) = 5) | exact (rfl : (_ : Nat) = 6) | exact (rfl : (_ : Nat) = 7) | exact (rfl : (_ : Nat) = 8) | exact (rfl : (_ : Nat) = 9) | exact (rfl : (_ : Nat) = 10) | exact (rfl : (_ : Nat) = 11) | exact (rfl : (_ : Nat) = 12) | exact rfl) (by first | exact (rfl : (_ : Nat) = 0) | exact (rfl : (_ : Nat) = 1) | exact (rfl : (_ : Nat) = 2) | exact (rfl : (_ : Nat) = 3) | exact (rfl : (_ : Nat) = 4) | exact (rfl : (_ : Nat) = 5) | exact (rfl : (_ : Nat) = 6) | exact (rfl : (_ : Nat) = 7) | exact (rfl : (_ : Nat) = 8) | exact (rfl : (_ : Nat) = 9) | exact (rfl : (_ : Nat) = 10) | exact (rfl : (_ : Nat) = 11) | exact (rfl : (_ : Nat) = 12) | exact rfl)); exact (IsH.mk _ _ _ _ _ _ _ _ (by repeat' first | exact IsBL.nil | apply IsBL.cells | apply IsBL.cons | exact IsLL.nil | apply IsLL.cons | exact IsL.nil | exact IsV.int _ _ | exact IsV.str _ | exact IsV.slV _ _ _ | exact IsV.nils | exact IsV.bool _ | exact IsV.sl _ _ _ | apply IsL.cons | exact IsV.any _ | exact IsL.any _ | exact IsLL.any _ | exact IsBL.any _ | exact (rfl : (_ : Nat) = 1) | exact (rfl : (_ : Nat) = 2) | exact (rfl : (_ : Nat) = 3) | exact (rfl : (_ : Nat) = 4) | exact (rfl : (_ : Nat) = 5) | exact (rfl : (_ : Nat) = 6) | exact (rfl : (_ : Nat) = 7) | exact (rfl : (_ : Nat) = 8) | exact (rfl : (_ : Nat) = 9) | exact (rfl : (_ : Nat) = 10) | exact (rfl : (_ : Nat) = 11) | exact (rfl : (_ : Nat) = 12) | exact (rfl : (_ : Nat) = 256) | exact rfl) (by first | exact (rfl : (_ : Nat) = 0) | exact (rfl : (_ : Nat) = 1) | exact rfl) (by first | exact (rfl : (_ : List Nat) = []) | exact rfl) (by first | exact (rfl : (_ : Nat) = 0) | exact (rfl : (_ : Nat) = 1) | exact (rfl : (_ : Nat) = 2) | exact (rfl : (_ : Nat) = 3) | exact (rfl : (_ : Nat) = 4) | exact (rfl : (_ : Nat) = 5) | exact (rfl : (_ : Nat) = 6) | exact (rfl : (_ : Nat) = 7) | exact (rfl : (_ : Nat) = 8) | exact (rfl : (_ : Nat) = 9) | exact (rfl : (_ : Nat) = 10) | exact (rfl : (_ : Nat) = 11) | exact (rfl : (_ : Nat) = 12) | exact rfl)))
        | (apply RegQ.rOp (ty := 3); rfl; rfl; rfl; exact (IsV.int _ _))
        | (apply RegQ.rLen (ty := 3); rfl; rfl; rfl; rfl; rfl)
        | (apply RegQ.rOp (ty := 4); rfl; rfl; rfl; exact (IsV.bool true))
        | (apply RegQ.rOp (ty := 4); rfl; rfl; rfl; exact (IsV.bool false))
        | (apply RegQ.rB (ty := 4); rfl; rfl; rfl)
        | (apply RegQ.rOp (ty := 9); rfl; rfl; rfl; exact (IsV.str _))
        | (apply RegQ.rOp (ty := 52); rfl; rfl; rfl; exact (IsV.agg _ _ (by repeat' first | exact IsL.nil | exact IsV.int _ _ | exact IsV.str _ | exact IsV.slV _ _ _ | exact IsV.nils | exact IsV.bool _ | exact IsV.sl _ _ _ | apply IsL.cons | apply IsV.agg | exact IsV.any _ | exact IsL.any _)))
        | refine DrwQ.nil ?_
        | (apply DrwQ.rSkip; rfl; rfl)
        | (apply DrwQ.rCall; rfl; rfl; rfl; rfl; rfl; exact (haw _); exact (IsV.int _ _))
        | (apply DrwQ.rCall; rfl; rfl; rfl; rfl; rfl; exact (haw _); exact (IsV.str _))
        | (apply DrwQ.rCall; rfl; rfl; rfl; rfl; rfl; exact (haw _); exact (IsV.agg _ _ (by repeat' first | exact IsL.nil | exact IsV.int _ _ | exact IsV.str _ | exact IsV.slV _ _ _ | exact IsV.nils | exact IsV.bool _ | exact IsV.sl _ _ _ | apply IsL.cons | apply IsV.agg | exact IsV.any _ | exact IsL.any _)))
        | (apply DrwQ.rCall; rfl; rfl; rfl; rfl; rfl; exact (haw _); exact (IsV.tup _ _ (by repeat' first | exact IsL.nil | exact IsV.int _ _ | exact IsV.str _ | exact IsV.slV _ _ _ | exact IsV.nils | exact IsV.bool _ | exact IsV.sl _ _ _ | apply IsL.cons | apply IsV.agg | exact IsV.any _ | exact IsL.any _)))
        | (apply DrwQ.rCall; rfl; rfl; rfl; rfl; rfl; exact (haw _); exact (IsV.any _))
        | (apply DrwQ.rCall; rfl; rfl; rfl; rfl; rfl; exact (h27 _); exact (IsV.int _ _))
        | (apply DrwQ.rCall; rfl; rfl; rfl; rfl; rfl; exact (h27 _); exact (IsV.str _))
        | (apply DrwQ.rCall; rfl; rfl; rfl; rfl; rfl; exact (h27 _); exact (IsV.agg _ _ (by repeat' first | exact IsL.nil | exact IsV.int _ _ | exact IsV.str _ | exact IsV.slV _ _ _ | exact IsV.nils | exact IsV.bool _ | exact IsV.sl _ _ _ | apply IsL.cons | apply IsV.agg | exact IsV.any _ | exact IsL.any _)))
        | (apply DrwQ.rCall; rfl; rfl; rfl; rfl; rfl; exact (h27 _); exact (IsV.tup _ _ (by repeat' first | exact IsL.nil | exact IsV.int _ _ | exact IsV.str _ | exact IsV.slV _ _ _ | exact IsV.nils | exact IsV.bool _ | exact IsV.sl _ _ _ | apply IsL.cons | apply IsV.agg | exact IsV.any _ | exact IsL.any _)))
        | (apply DrwQ.rCall; rfl; rfl; rfl; rfl; rfl; exact (h27 _); exact (IsV.any _))
        | (apply DrwQ.rOp (ty := 0); rfl; rfl; rfl; exact (IsV.fptr _ _); rfl)
        | (apply DrwQ.rOpH (ty := 0); rfl; rfl; rfl; exact (IsV.ptr4 (by first | exact (rfl : (_ : Nat) = 0) | exact (rfl : (_ : Nat) = 1) | exact (rfl : (_ : Nat) = 2) | exact (rfl : (_ : Nat) = 3) | exact (rfl : (_ : Nat) = 4) | exact (rfl : (_ : Nat) = 5) | exact (rfl : (_ : Nat) = 6) | exact (rfl : (_ : Nat) = 7) | exact (rfl : (_ : Nat) = 8) | exact (rfl : (_ : Nat) = 9) | exact (rfl : (_ : Nat) = 10) | exact (rfl : (_ : Nat) = 11) | exact (rfl : (_ : Nat) = 12) | exact rfl) (by first | exact (rfl : (_ : Nat) = 0) | exact (rfl : (_ : Nat) = 1) | exact (rfl : (_ : Nat) = 2) | exact (rfl : (_ : Nat) = 3) | exact (rfl : (_ : Nat) = 4) | exact (rfl : (_ : Nat) = 5) | exact (rfl : (_ : Nat) = 6) | exact (rfl : (_ : Nat) = 7) | exact (rfl : (_ : Nat) = 8) | exact (rfl : (_ : Nat) = 9) | exact (rfl : (_ : Nat) = 10) | exact (rfl : (_ : Nat) = 11) | exact (rfl : (_ : Nat) = 12) | exact rfl) (by first | exact (rfl : (_ : Nat) = 0) | exact (rfl : (_ : Nat) = 1) | exact (rfl : (_ : Nat) = 2) | exact (rfl : (_ : Nat) = 3) | exact (rfl : (_ : Nat) = 4) | exact (rfl : (_ : Nat) = 5) | exact (rfl : (_ : Nat) = 6) | exact (rfl : (_ : Nat) = 7) | exact (rfl : (_ : Nat) = 8) | exact (rfl : (_ : Nat) = 9) | exact (rfl : (_ : Nat) = 10) | exact (rfl : (_ : Nat) = 11) | exact (rfl : (_ : Nat) = 12) | exact rfl) (by first | exact (rfl : (_ : Nat) = 0) | exact (rfl : (_ : Nat) = 1) | exact (rfl : (_ : Nat) = 2) | exact (rfl : (_ : Nat) = 3) | exact (rfl : (_ : Nat) = 4) | exact (rfl : (_ : Nat) = 5) | exact (rfl : (_ : Nat) = 6) | exact (rfl : (_ : Nat) = 7) | exact (rfl : (_ : Nat) = 8) | exact (rfl : (_ : Nat) = 9) | exact (rfl : (_ : Nat) = 10) | exact (rfl : (_ : Nat) = 11) | exact (rfl : (_ : Nat) = 12) | exact rfl)); exact (IsH.mk _ _ _ _ _ _ _ _ (by repeat' first | exact IsBL.nil | apply IsBL.cells | apply IsBL.cons | exact IsLL.nil | apply IsLL.cons | exact IsL.nil | exact IsV.int _ _ | exact IsV.str _ | exact IsV.slV _ _ _ | exact IsV.nils | exact IsV.bool _ | exact IsV.sl _ _ _ | apply IsL.cons | exact IsV.any _ | exact IsL.any _ | exact IsLL.any _ | exact IsBL.any _ | exact (rfl : (_ : Nat) = 1) | exact (rfl : (_ : Nat) = 2) | exact (rfl : (_ : Nat) = 3) | exact (rfl : (_ : Nat) = 4) | exact (rfl : (_ : Nat) = 5) | exact (rfl : (_ : Nat) = 6) | exact (rfl : (_ : Nat) = 7) | exact (rfl : (_ : Nat) = 8) | exact (rfl : (_ : Nat) = 9) | exact (rfl : (_ : Nat) = 10) | exact (rfl : (_ : Nat) = 11) | exact (rfl : (_ : Nat) = 12) | exact (rfl : (_ : Nat) = 256) | exact rfl) (by first | exact (rfl : (_ : Nat) = 0) | exact (rfl : (_ : Nat) = 1) | exact rfl) (by first | exact (rfl : (_ : List Nat) = []) | exact rfl) (by first | exact (rfl : (_ : Nat) = 0) | exact (rfl : (_ : Nat) = 1) | exact (rfl : (_ : Nat) = 2) | exact (rfl : (_ : Nat) = 3) | exact (rfl : (_ : Nat) = 4) | exact (rfl : (_ : Nat) = 5) | exact (rfl : (_ : Nat) = 6) | exact (rfl : (_ : Nat) = 7) | exact (rfl : (_ : Nat) = 8) | exact (rfl : (_ : Nat) = 9) | exact (rfl : (_ : Nat) = 10) | exact (rfl : (_ : Nat) = 11) | exact (rfl : (_ : Nat) = 12) | exact rfl)); rfl)
        | (apply DrwQ.rOp (ty := 3); rfl; rfl; rfl; exact (IsV.int _ _); rfl)
        | (apply DrwQ.rLen (ty := 3); rfl; rfl; rfl; rfl; rfl)
        | (apply DrwQ.rOp (ty := 4); rfl; rfl; rfl; exact (IsV.bool true); rfl)
        | (apply DrwQ.rOp (ty := 4); rfl; rfl; rfl; exact (IsV.bool false); rfl)
        | (apply DrwQ.rB (ty := 4); rfl; rfl; rfl; rfl)
        | (apply DrwQ.rOp (ty := 9); rfl; rfl; rfl; exact (IsV.str _); rfl)
        | (apply DrwQ.rOp (ty := 52); rfl; rfl; rfl; exact (IsV.agg _ _ (by repeat' first | exact IsL.nil | exact IsV.int _ _ | exact IsV.str _ | exact IsV.slV _ _ _ | exact IsV.nils | exact IsV.bool _ | exact IsV.sl _ _ _ | apply IsL.cons | apply IsV.agg | exact IsV.any _ | exact IsL.any _)); rfl)
        | intro hb
        | refine Wp.seq ?_
        | refine SeqQ.go ?_
        | refine Wp.region ?_
        | refine Wp.draw tOk follows (by kernel_rfl) ?_
        | refine Wp.condT rfl ?_
        | refine Wp.condF rfl ?_
        | refine Wp.skip ?_
        | refine Wp.ret ?_
        | refine Wp.exit ?_
        | refine Wp.block ?_
        | refine SeqQ.ret ?_
        | refine SeqQ.exit ?_
        | refine BlockQ.go ?_
        | refine BlockQ.ret ?_
        | refine BlockQ.hit rfl ?_
        | refine BlockQ.miss rfl ?_
        | refine LoopI.ret ?_
        | refine LoopI.exit ?_
        | refine RetQ.end rfl rfl (IsV.int _ _) ?_
        | refine RetQ.end rfl rfl (IsV.bool _) ?_
        | refine RetQ.fin rfl (by repeat' first | exact IsL.nil | exact IsV.int _ _ | exact IsV.str _ | exact IsV.slV _ _ _ | exact IsV.nils | exact IsV.bool _ | exact IsV.sl _ _ _ | apply IsL.cons | apply IsV.agg | exact IsV.any _ | exact IsL.any _) ?_
        | refine RetM.fin rfl (by repeat' first | exact IsL.nil | exact IsV.int _ _ | exact IsV.str _ | exact IsV.slV _ _ _ | exact IsV.nils | exact IsV.bool _ | exact IsV.sl _ _ _ | apply IsL.cons | apply IsV.agg | exact IsV.any _ | exact IsL.any _) ?_
      all_goals rfl
end Go.Vm.Seat
