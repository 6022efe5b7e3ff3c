/-
  The oracle for the index of a byte.
-/
import Derived.Test.YthkpihmifojnoaaGreatDoorAwEnv
import Derived.Lib.Bytealg
import Derived.Laws.Externs
namespace Go.Vm.Seat
open Go.Proofs

theorem idxB_eq (c : UInt8) : ∀ (l : List UInt8) (k : Nat), idxB l (c.toNat : Int) (k : Nat) = if Lib.indexByte l c = -1 then -1 else Lib.indexByte l c + k
  | [], k => by simp [idxB, Lib.indexByte]
  | b :: l, k => by
    have ih := idxB_eq c l (k + 1)
    have hge := Lib.indexByte_ge l c
    unfold idxB Lib.indexByte
    by_cases h : b = c
    · subst h
      simp
    · have h1 : ¬ (b.toNat : Int) = (c.toNat : Int) := fun e => h (UInt8.toNat_inj.1 (by exact_mod_cast e))
      have h2 : (b == c) = false := by simpa using h
      rw [if_neg h1, h2]
      simp only [Bool.false_eq_true, if_false]
      rw [ih]
      by_cases e : Lib.indexByte l c = -1
      · simp [e]
      · have e' : (Lib.indexByte l c == -1) = false := by simpa using e
        rw [if_neg e, e']
        simp only [Bool.false_eq_true, if_false]
        rw [if_neg (by omega)]
        omega

theorem find258 : Extern.find Tryz.f258 = some Extern.BytealgIndexByte.indexByte := by kernel_rfl
theorem next258 : Extern.findNext Tryz.f258 = none := by kernel_rfl
theorem body258 : Tryz.f258.body.isNone = true := by kernel_rfl
theorem name258 : (Tryz.f258.name == "runtime.NumGoroutine") = false := by kernel_rfl

set_option maxRecDepth 100000 in
theorem or258 {s : List UInt8} {c : Int} (h0 : 0 ≤ c) (h1 : c ≤ 255) (H : Heap) : CallOk E0 Tryz.prog 258 [.str s, .int .u8 c] H (.int .i64 (idxB s c 0)) H := by
  intro g w vals hi hg hv
  obtain ⟨l, hv⟩ := hv
  have hl : vals.toList.length = 2 := by simpa using l
  obtain ⟨v0, v1, hvals⟩ : ∃ v0 v1, vals.toList = [v0, v1] := by
    match h : vals.toList, hl with
    | [a, b], _ => exact ⟨a, b, rfl⟩
  rw [hvals] at hv
  obtain ⟨b, rfl, hb⟩ := (hv 0 (by simp) (by simp)).str_inv
  have e1 := (hv 1 (by simp) (by simp)).int_inv
  simp only [List.getElem_cons_succ, List.getElem_cons_zero] at e1
  obtain rfl : vals = #[.string b, v1] := Array.toList_inj.1 (by simpa using hvals)
  subst e1
  rw [run_callFunc_extern (e := Extern.BytealgIndexByte.indexByte) Tryz.func258 name258 body258 next258 find258, Lib.run_indexByteString]
  have hc : ((c.toNat.toUInt8).toNat : Int) = c := by
    have : c.toNat < 256 := by omega
    simp [Nat.mod_eq_of_lt this]
    omega
  have e := idxB_eq c.toNat.toUInt8 s 0
  rw [hc] at e
  have e2 : idxB s c 0 = Lib.indexByte s c.toNat.toUInt8 := by
    rw [e]
    split
    · rename_i h; exact h.symm
    · simp
  simp only [Result.andThen, UponCall]
  rw [e2, hb]
  exact ⟨g, .pure _ _ (.int _ _), hi, KeepN.refl _ _ _ _⟩

end Go.Vm.Seat
