/-
  Within and Permits, as the program computes them.
-/
import Derived.Test.YtjokjgoppbmaiaaGreatDoorCrRef
import Derived.Test.YtjokjgoppbmaiaaGreatDoorFg
set_option maxHeartbeats 64000000
set_option maxRecDepth 100000
namespace Go.Vm.Seat
open Go.Proofs
def sufB (s t : Bs) : Bool := decide (t.length ≤ s.length) && (s.drop (s.length - t.length) == t)
theorem sufB_iff {s t : Bs} : sufB s (46 :: t) = true ↔ ∃ x, s = x ++ 46 :: t := by
 simp only [sufB, Bool.and_eq_true, decide_eq_true_eq, beq_iff_eq]
 constructor
 · rintro ⟨h1, h2⟩
   exact ⟨s.take (s.length - (46 :: t).length), by
    conv => lhs; rw [← List.take_append_drop (s.length - (46 :: t).length) s]
    rw [h2]⟩
 · rintro ⟨x, rfl⟩
   exact ⟨by simp, by simp⟩
theorem within_eq (s t : Bs) : withinB s t = (dottedB s && (dottedB t && (s == t || sufB s (46 :: t)))) := by
 have : endsL (splitD s) (splitD t) = (s == t || sufB s (46 :: t)) := by
  rw [Bool.eq_iff_iff, ends_iff, Bool.or_eq_true, sufB_iff]
  simp
 simp only [withinB, this]
theorem c114 {s t : Bs} (hs : s.length ≤ 2000) (ht : t.length ≤ 2000) : ∀ H, CallOk E0 Tryz.prog 114 [.str s, .str t] H (.bool (sufB s t)) H := by
 refine κw tOk fe114.ok rfl ?_
 by_cases hle : t.length ≤ s.length
 · have hsl : aSlice E0 9 (.str s) (some (.int .i64 (IntKind.i64.wrap (Int.ofNat s.length - Int.ofNat t.length)))) none none = some (.str (s.drop (s.length - t.length))) := by
     have ew : IntKind.i64.wrap (Int.ofNat s.length - Int.ofNat t.length) = ((s.length - t.length : Nat) : Int) := by
      have e : Int.ofNat s.length - Int.ofNat t.length = ((s.length - t.length : Nat) : Int) := by
       simp only [Int.ofNat_eq_natCast]; omega
      rw [e]; exact wrap_nat (by omega)
     have en : nat? (.int .i64 ((s.length - t.length : Nat) : Int)) = some (s.length - t.length) := rfl
     rw [ew]
     simp only [aSlice, e9s, bound, en]
     rw [if_pos (by omega), List.take_length]
   repeat' first | refine κn ?_ | refine κk ?_ | refine κS ?_ | refine κt ?_ | refine κb ?_ ?_ | refine κg ?_ | refine κa ?_ | refine κf ?_ | intro hb
   all_goals first
    | (exfalso; simp at hb; omega)
    | (simp [sufB, hle, hb]; done)
    | (simp at hb; simp [sufB, hle, hb]; done)
 · skip
   repeat' first | refine κn ?_ | refine κk ?_ | refine κt ?_ | refine κb ?_ ?_ | refine κg ?_ | refine κa ?_ | refine κf ?_ | intro hb
   all_goals first
    | (exfalso; simp at hb; omega)
    | (simp [sufB, hle]; done)
theorem c52 {s t : Bs} (hs : s.length ≤ 2000) (ht : t.length ≤ 2000) : ∀ H, CallOk E0 Tryz.prog 52 [.str s, .str t] H (.bool (sufB s t)) H := by
 have hc := c114 hs ht
 refine κw tOk fe52.ok rfl ?_
 repeat' first | refine κn ?_ | refine κc (hc _) ?_ | refine κt ?_ | refine κb ?_ ?_ | refine κg ?_ | refine κa ?_ | refine κf ?_ | intro hb
 all_goals first
  | rfl
  | (rw [hb]; done)
  | (simp [hb]; done)
theorem c22 {s t : Bs} (hs : s.length ≤ 1000) (ht : t.length ≤ 1000) : ∀ H, CallOk E0 Tryz.prog 22 [.str s, .str t] H (.bool (withinB s t)) H := by
 have h1 := c51 (s := s) (by omega)
 have h2 := c51 (s := t) (by omega)
 have h3 := c52 (s := s) (t := 46 :: t) (by omega) (by simp; omega)
 have hcat : aBin E0 .add 9 (.str [46]) (.str t) = some (.str (46 :: t)) := by
  simp only [aBin, aStr]
  rw [if_pos (by simp; omega)]
  rfl
 refine κw tOk fe22.ok rfl ?_
 repeat' first | refine κn ?_ | refine κk ?_ | (apply qCl; rfl; rfl; rfl; rfl; first | exact h1 _ | exact h2 _ | exact h3 _) | refine κi ?_ | refine κt ?_ | refine κb ?_ ?_ | refine κg ?_ | refine κa ?_ | refine κf ?_ | intro hb
 all_goals (rw [within_eq]; simp_all)
abbrev nmH (nm : Bs) (ro : Nat) (lv : List Nat) (nt : Nat) : Heap := ⟨[.cells 1 [[.str nm]]], ro, lv, nt⟩
theorem c116 {x nm : Bs} (hx : x.length ≤ 1000) (hn : nm.length ≤ 1000) (ro : Nat) (lv : List Nat) (nt : Nat) : CallOk E0 Tryz.prog 116 [.str x, .ptr 0 1 0 0] (nmH nm ro lv nt) (.bool (withinB nm x)) (nmH nm ro lv nt) := by
 have hc := c22 hn hx
 refine callOk_wpH (own := fun _ => false) tOk fe116.ok ?_
 refine Wp.seq ?_
 repeat' first | refine κn ?_ | refine κc (hc _) ?_ | refine κt ?_ | refine κb ?_ ?_ | refine κg ?_ | refine κa ?_ | refine κf ?_ | intro hb
 all_goals first
  | rfl
  | (simp only [one, hb]; rfl)
def firstI (p : Bs → Bool) : List Bs → Nat → Int
 | [], _ => -1
 | x :: r, i => if p x = true then (i : Int) else firstI p r (i + 1)
theorem firstI_any (p : Bs → Bool) : ∀ (l : List Bs) (i : Nat), decide (0 ≤ firstI p l i) = l.any p
 | [], i => by simp [firstI]
 | x :: r, i => by
   simp only [firstI, List.any_cons]
   by_cases h : p x = true
   · simp [h]
   · simp [h, firstI_any p r (i + 1)]
theorem partsC_getW {l : List Bs} {i : Nat} {x : Bs} (h : l[i]? = some x) : (partsC l)[i]? = some [.str x] := by simp [partsC, h]
theorem partsC_lenW (l : List Bs) : (partsC l).length = l.length := by simp [partsC]
theorem c193w {l : List Bs} {nm : Bs} (hl : ∀ x, x ∈ l → x.length ≤ 1000) (hll : l.length ≤ maxLen) (hn : nm.length ≤ 1000) (b : Bool) (ro : Nat) (lv : List Nat) (nt : Nat) :
  CallOk E0 Tryz.prog 193 [slV b 1 (partsC l), .fn 116 [.ptr 0 1 0 0]] (nmH nm ro lv nt) (.int .i64 (firstI (withinB nm) l 0)) (nmH nm ro lv nt) := by
 refine callOk_wpH (own := fun _ => false) tOk fe193.ok ?_
 have ea : [slV b 1 (partsC l), .fn 116 [.ptr 0 1 0 0]].map argV = [slV b 1 (partsC l), .fn 116 [.ptr 0 1 0 0]] := by
  simp only [List.map_cons, List.map_nil, argV_slV]; rfl
 rw [ea]
 refine Wp.seq ?_
 repeat' first | refine κn ?_ | refine κl ?_ | refine κg ?_ | refine κa ?_ | fail
 refine Wp.while (fun m tm H => ∃ (i : Nat) (base : TM), i + m = l.length ∧ firstI (withinB nm) l 0 = firstI (withinB nm) (l.drop i) i ∧
   tm = ovr base [(0, slV b 1 (partsC l)), (1, .fn 116 [.ptr 0 1 0 0]), (7, .int .i64 (l.length : Int)), (8, .int .i64 (i : Int))] ∧ H = nmH nm 1 [] nt)
  (fun m tm H hI => ?_) l.length _ _ ⟨0, _, by omega, by simp, ovr_mk ⟨rfl, rfl, int_eq (by rw [partsC_lenW]), rfl, trivial⟩, rfl⟩
 obtain ⟨i, base, hi, hf, rfl, rfl⟩ := hI
 unfold maxLen at hll
 by_cases hlt : i < l.length
 · obtain ⟨x, hx⟩ : ∃ x, l[i]? = some x := ⟨l[i], by simp⟩
   have hxm : x ∈ l := List.mem_of_getElem? hx
   have hj := partsC_getW hx
   have hc := c116 (hl x hxm) hn 1 [] nt
   rw [drop_cons hx] at hf
   simp only [firstI] at hf
   cases hw : withinB nm x with
   | true =>
     rw [hw] at hc hf
     repeat' first | refine κn ?_ | refine κc hc ?_ | refine κx ?_ | refine κz ?_ ?_ | refine κg ?_ | refine κa ?_ | refine κf ?_ | intro hb
     · rw [hf]; rfl
     · exfalso; simp at hb; omega
   | false =>
     rw [hw] at hc hf
     repeat' first | refine κn ?_ | refine κc hc ?_ | refine κx ?_ | refine κz ?_ ?_ | refine κg ?_ | refine κa ?_ | refine κf ?_ | intro hb
     · refine LoopI.go (m - 1) (by omega) ⟨i + 1, _, by omega, by rw [hf]; rfl, ovr_mk ⟨rfl, rfl, rfl, int_eq (wrap_nat (n := i + 1) (by omega)), trivial⟩, rfl⟩
     · exfalso; simp at hb; omega
 · have e : i = l.length := by omega
   subst e
   rw [List.drop_length] at hf
   repeat' first | refine κn ?_ | refine κz ?_ ?_ | refine κg ?_ | refine κa ?_ | refine κf ?_ | intro hb
   · exfalso; simp at hb
   · rw [hf]; rfl
theorem c115w {l : List Bs} {nm : Bs} (hl : ∀ x, x ∈ l → x.length ≤ 1000) (hll : l.length ≤ maxLen) (hn : nm.length ≤ 1000) (b : Bool) (ro : Nat) (lv : List Nat) (nt : Nat) :
  CallOk E0 Tryz.prog 115 [slV b 1 (partsC l), .fn 116 [.ptr 0 1 0 0]] (nmH nm ro lv nt) (.bool (l.any (withinB nm))) (nmH nm ro lv nt) := by
 refine callOk_wpH (own := fun _ => false) tOk fe115.ok ?_
 have ea : [slV b 1 (partsC l), .fn 116 [.ptr 0 1 0 0]].map argV = [slV b 1 (partsC l), .fn 116 [.ptr 0 1 0 0]] := by
  simp only [List.map_cons, List.map_nil, argV_slV]; rfl
 rw [ea]
 have hc := c193w hl hll hn b 1 [] nt
 have hany := firstI_any (withinB nm) l 0
 refine Wp.seq ?_
 repeat' first | refine κn ?_ | refine κc hc ?_ | refine κt ?_ | refine κb ?_ ?_ | refine κg ?_ | refine κa ?_ | refine κf ?_ | intro hb
 all_goals (rw [← hany, hb]; rfl)
theorem frzGL_slS (b : Bool) (es : Nat) (el : List (List PV)) (s : Bs) : frzGL [slV b es el, .str s] = some [slV b es el, .str s] := by
 simp only [frzGL, frzG_slV]; rfl
theorem c53 {l : List Bs} {nm : Bs} (hl : ∀ x, x ∈ l → x.length ≤ 1000) (hll : l.length ≤ maxLen) (hn : nm.length ≤ 1000) (b : Bool) :
  ∀ H, CallOk E0 Tryz.prog 53 [slV b 1 (partsC l), .str nm] H (.bool (l.any (withinB nm))) H := by
 have hc := fun ro lv nt => c115w hl hll hn b ro lv nt
 refine κw tOk fe53.ok rfl ?_ (frzGL_slS _ _ _ _)
 repeat' first | refine κn ?_ | refine κc (hc _ _ _) ?_ | refine κt ?_ | refine κb ?_ ?_ | refine κg ?_ | refine κa ?_ | refine κf ?_ | intro hb
 all_goals (rw [hb]; done)
abbrev conV (b b' : Bool) (P X : List Bs) : PV := .agg [slV b 1 (partsC P), slV b' 1 (partsC X)]
theorem frzGL_con (b b' : Bool) (P X : List Bs) (s : Bs) : frzGL [conV b b' P X, .str s] = some [conV b b' P X, .str s] := by
 simp only [frzGL, frzG, frzL, frz1_slV]
 rfl
theorem c23 {P X : List Bs} {s : Bs} (hp : ∀ x, x ∈ P → x.length ≤ 1000) (hpl : P.length ≤ maxLen) (hx : ∀ x, x ∈ X → x.length ≤ 1000) (hxl : X.length ≤ maxLen) (hs : s.length ≤ 1000) (b b' : Bool) :
  ∀ H, CallOk E0 Tryz.prog 23 [conV b b' P X, .str s] H (.bool (permitsB P X s)) H := by
 have h66 := c51 (s := s) (by omega)
 have hP := c53 hp hpl hs b
 have hX := c53 hx hxl hs b'
 have hz : (((partsC P).length : Int) == 0) = P.isEmpty := by
  rw [partsC_lenW]
  cases P with
  | nil => rfl
  | cons x r => simp only [List.length_cons, List.isEmpty_cons, beq_eq_false_iff_ne]; omega
 refine callOk_wp (own := fun _ => false) tOk fe23.ok (frzGL_con _ _ _ _ _) rfl ?_
 unfold permitsB
 refine Wp.seq ?_
 repeat' first | refine κn ?_ | refine κk ?_ | (apply qCl; rfl; rfl; rfl; rfl; first | exact h66 _ | exact hP _ | exact hX _) | refine κl ?_ | refine κt ?_ | refine κb ?_ ?_ | refine κg ?_ | refine κa ?_ | refine κf ?_ | intro hb
 all_goals (clear hp hpl hx hxl h66 hP hX; simp_all)
end Go.Vm.Seat
