/-
  The oracle for the index of a byte.
-/
import Derived.Test.YthkpihmifojnoaaGreatDoorAwEnv
import Derived.Lib.Bytealg
import Derived.Laws.Externs
namespace Go.Vm.Seat
open Go.Proofs

theorem idxB_eq (c : UInt8) : ∀ (l : List UInt8) (k : Nat), idxB l (c.toNat : Int) (k : Nat) = if Lib.indexByte l c = -1 then -1 else Lib.indexByte l c + k
  | [], k => by simp [idxB, Lib.indexByte]
  | b :: l, k => by
    have ih := idxB_eq c l (k + 1)
    have hge := Lib.indexByte_ge l c
    unfold idxB Lib.indexByte
    by_cases h : b = c
    · subst h
      simp
    · have h1 : ¬ (b.toNat : Int) = (c.toNat : Int) := fun e => h (UInt8.toNat_inj.1 (by exact_mod_cast e))
      have h2 : (b == c) = false := by simpa using h
      rw [if_neg h1, h2]
      simp only [Bool.false_eq_true, if_false]
      rw [ih]
      by_cases e : Lib.indexByte l c = -1
      · simp [e]
      · have e' : (Lib.indexByte l c == -1) = false := by simpa using e
        rw [if_neg e, e']
        simp only [Bool.false_eq_true, if_false]
        rw [if_neg (by omega)]
        omega

theorem find258 : Extern.find Tryz.f258 = some Extern.BytealgIndexByte.indexByte := by kernel_rfl
theorem next258 : Extern.findNext Tryz.f258 = none := by kernel_rfl
theorem body258 : Tryz.f258.body.isNone = true := by kernel_rfl
theorem name258 : (Tryz.f258.name == "runtime.NumGoroutine") = false := by kernel_rfl

set_option maxRecDepth 100000 in
theorem or258 {s : List UInt8} {c : Int} (h0 : 0 ≤ c) (h1 : c ≤ 255) (H : Heap) : CallOk E0 Tryz.prog 258 [.str s, .int .u8 c] H (.int .i64 (idxB s c 0)) H := by
  intro g w vals hi hg hv
  obtain ⟨l, hv⟩ := hv
  have hl : vals.toList.length = 2 := by simpa using l
  obtain ⟨v0, v1, hvals⟩ : ∃ v0 v1, vals.toList = [v0, v1] := by
    match h : vals.toList, hl with
    | [a, b], _ => exact ⟨a, b, rfl⟩
  rw [hvals] at hv
  obtain ⟨b, rfl, hb⟩ := (hv 0 (by simp) (by simp)).str_inv
  have e1 := (hv 1 (by simp) (by simp)).int_inv
  simp only [List.getElem_cons_succ, List.getElem_cons_zero] at e1
  obtain rfl : vals = #[.string b, v1] := Array.toList_inj.1 (by simpa using hvals)
  subst e1
  rw [run_callFunc_extern (e := Extern.BytealgIndexByte.indexByte) Tryz.func258 name258 body258 next258 find258, Lib.run_indexByteString]
  have hc : ((c.toNat.toUInt8).toNat : Int) = c := by
    have : c.toNat < 256 := by omega
    simp [Nat.mod_eq_of_lt this]
    omega
  have e := idxB_eq c.toNat.toUInt8 s 0
  rw [hc] at e
  have e2 : idxB s c 0 = Lib.indexByte s c.toNat.toUInt8 := by
    rw [e]
    split
    · rename_i h; exact h.symm
    · simp
  simp only [Result.andThen, UponCall]
  rw [e2, hb]
  exact ⟨g, .pure _ _ (.int _ _), hi, KeepN.refl _ _ _ _⟩

theorem cntB_eq (c : UInt8) : ∀ l : List UInt8, cntB l (c.toNat : Int) = (Lib.countByte l c : Int)
  | [] => by simp [cntB, Lib.countByte]
  | b :: l => by
    have ih := cntB_eq c l
    unfold cntB
    unfold Lib.countByte at ih ⊢
    rw [List.count_cons]
    by_cases h : b = c
    · subst h
      rw [if_pos rfl, ih]
      simp
    · have h1 : ¬ (b.toNat : Int) = (c.toNat : Int) := fun e => h (UInt8.toNat_inj.1 (by exact_mod_cast e))
      have h2 : (b == c) = false := by simpa using h
      rw [if_neg h1, ih, h2]
      simp

theorem find253 : Extern.find Tryz.f253 = some Extern.BytealgCount.count := by kernel_rfl
theorem next253 : Extern.findNext Tryz.f253 = none := by kernel_rfl
theorem body253 : Tryz.f253.body.isNone = true := by kernel_rfl
theorem name253 : (Tryz.f253.name == "runtime.NumGoroutine") = false := by kernel_rfl

set_option maxRecDepth 100000 in
theorem or253 {s : List UInt8} {c : Int} (h0 : 0 ≤ c) (h1 : c ≤ 255) (H : Heap) : CallOk E0 Tryz.prog 253 [.str s, .int .u8 c] H (.int .i64 (cntB s c)) H := by
  intro g w vals hi hg hv
  obtain ⟨l, hv⟩ := hv
  have hl : vals.toList.length = 2 := by simpa using l
  obtain ⟨v0, v1, hvals⟩ : ∃ v0 v1, vals.toList = [v0, v1] := by
    match h : vals.toList, hl with
    | [a, b], _ => exact ⟨a, b, rfl⟩
  rw [hvals] at hv
  obtain ⟨b, rfl, hb⟩ := (hv 0 (by simp) (by simp)).str_inv
  have e1 := (hv 1 (by simp) (by simp)).int_inv
  simp only [List.getElem_cons_succ, List.getElem_cons_zero] at e1
  obtain rfl : vals = #[.string b, v1] := Array.toList_inj.1 (by simpa using hvals)
  subst e1
  rw [run_callFunc_extern (e := Extern.BytealgCount.count) Tryz.func253 name253 body253 next253 find253, Lib.run_countString]
  have hc : ((c.toNat.toUInt8).toNat : Int) = c := by
    have : c.toNat < 256 := by omega
    simp [Nat.mod_eq_of_lt this]
    omega
  have e := cntB_eq c.toNat.toUInt8 s
  rw [hc] at e
  simp only [Result.andThen, UponCall]
  rw [e, hb]
  exact ⟨g, .pure _ _ (.int _ _), hi, KeepN.refl _ _ _ _⟩

end Go.Vm.Seat
