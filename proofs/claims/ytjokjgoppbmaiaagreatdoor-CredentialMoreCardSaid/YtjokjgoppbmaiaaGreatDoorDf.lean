/-
  The examples of the credentials hold in every world. CredentialReads: the law's function returns true at any term.
-/
import Derived.Test.YtjokjgoppbmaiaaGreatDoorAw55a
import Derived.Test.YtjokjgoppbmaiaaGreatDoorTv
import Derived.Test.YtjokjgoppbmaiaaGreatDoorFi
namespace Go.Vm.Seat
open Go.Proofs
set_option maxRecDepth 100000
mutual
def okTm : Tm → Bool
 | .mk k nm s _ kids => (Lit.int .i64 k).wf && ((Lit.int .i64 s).wf && (Nat.ble nm.length 1000 && (Nat.ble kids.length 1000 && okTmL kids)))
def okTmL : List Tm → Bool
 | [] => true
 | t :: r => okTm t && okTmL r
end
mutual
theorem okTm_ok : ∀ t : Tm, okTm t = true → t.Ok
 | .mk k nm s b kids, h => by
   simp only [okTm, Bool.and_eq_true, Nat.ble_eq] at h
   obtain ⟨h1, h2, h3, h4, h5⟩ := h
   exact .mk h1 h2 (by unfold maxLen; omega) (by unfold maxLen; omega) (okTmL_ok kids h5)
theorem okTmL_ok : ∀ l : List Tm, okTmL l = true → ∀ t, t ∈ l → t.Ok
 | [], _, t, h => absurd h (by simp)
 | a :: r, h, t, ht => by
   simp only [okTmL, Bool.and_eq_true] at h
   rcases List.mem_cons.1 ht with e | ht
   · rw [e]; exact okTm_ok a h.1
   · exact okTmL_ok r h.2 t ht
end
def exT : Tm := (.mk 3 [115, 105, 103, 110] 0 false [(.mk 3 [112, 97, 105, 114] 0 false [(.mk 2 [99, 101, 114, 116] 5 true []), (.mk 3 [112, 97, 105, 114] 0 false [(.mk 3 [112, 97, 105, 114] 0 false [(.mk 2 [97] 4 true []), (.mk 2 [101, 110, 100] 5 true [])]), (.mk 3 [112, 97, 105, 114] 0 false [(.mk 3 [112, 107] 0 false [(.mk 3 [115, 107] 0 false [(.mk 2 [97] 1 true [])])]), (.mk 3 [112, 97, 105, 114] 0 false [(.mk 2 [110, 111] 4 true []), (.mk 3 [112, 97, 105, 114] 0 false [(.mk 2 [101, 110, 100] 5 true []), (.mk 3 [112, 97, 105, 114] 0 false [(.mk 2 [101, 110, 100] 5 true []), (.mk 3 [112, 97, 105, 114] 0 false [(.mk 2 [110, 49] 4 true []), (.mk 3 [112, 97, 105, 114] 0 false [(.mk 2 [110, 48] 4 true []), (.mk 2 [110, 57] 4 true [])])])])])])])])]), (.mk 3 [115, 107] 0 false [(.mk 2 [114] 1 true [])])])
theorem exOk : exT.Ok := okTm_ok exT (by kernel_rfl)
theorem exSize : Nat.ble exT.size 1000 = true := by kernel_rfl
theorem exArgs : cfact4.args = [.agg exT.cells, .agg exT.cells] := by kernel_rfl
theorem cgood4 : FactOk E0 Tryz.prog cfact4 := fun H => by
 have h := c15s exOk (by have := Nat.le_of_ble_eq_true exSize; omega) H
 rw [← exArgs] at h
 exact h
theorem cgood {x : Fact} (h : okFact E0 100 60 x = true) : FactOk E0 Tryz.prog x := okFact_ok tOk follows fOk zOk h
theorem call_nil {p : Fact → Prop} : ∀ x ∈ ([] : List Fact), p x := fun _ h => absurd h (by simp)
theorem call_cons {p : Fact → Prop} {a : Fact} {l : List Fact} (h : p a) (hl : ∀ x ∈ l, p x) : ∀ x ∈ a :: l, p x := fun x hx => by
 rcases List.mem_cons.1 hx with rfl | hx
 · exact h
 · exact hl x hx
theorem cfact_all : ∀ x ∈ cfacts, FactOk E0 Tryz.prog x :=
 call_cons (cgood cok0) (call_cons (cgood cok1) (call_cons (cgood cok2) (call_cons (cgood cok3) (call_cons cgood4 call_nil))))
theorem awakeFact5 : okFact (E0.knows cfacts) 100 60 ⟨5, [], .bool true⟩ = true := by kernel_rfl
theorem awakeOk5 : FactOk E0 Tryz.prog ⟨5, [], .bool true⟩ := by
 have h : FactOk (E0.knows cfacts) Tryz.prog ⟨5, [], .bool true⟩ := okFact_ok (E := E0.knows cfacts) ⟨tOk.1⟩ follows (knows_F fOk) (knows_calls cfact_all zOk) awakeFact5
 exact h.env rfl
end Go.Vm.Seat
namespace Go.Vm.Seat
open Go.Proofs
set_option maxRecDepth 100000
theorem c66 {t : Tm} (ht : t.Ok) (hsz : t.size ≤ 40000) : ∀ H, CallOk E0 Tryz.prog 66 [.agg t.cells] H (.tup [.agg (readP t).1.cells, .int .i64 (readP t).2]) H := by
 by_cases h : t.valid ≠ 0 ∨ t.isB [115, 105, 103, 110] 2 = false
 · exact read_bad ht hsz h
 · have h1 : t.valid = 0 := by
     by_cases e : t.valid = 0
     · exact e
     · exact absurd (.inl e) h
   have h2 : t.isB [115, 105, 103, 110] 2 = true := by
    cases e : t.isB [115, 105, 103, 110] 2 with
    | true => rfl
    | false => exact absurd (.inr e) h
   obtain ⟨s, b, u, key, rfl⟩ := sign_isB h2
   exact read_good ht h1
end Go.Vm.Seat
