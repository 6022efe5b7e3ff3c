/-
  The operations that read and compute: each abstract operation is met by the model's.
-/
import Derived.Test.YthkpihmifojnoaaGreatDoorVmC
import Derived.ChangeKeysEq
import Derived.Laws.Entries
import Derived.Laws.Cells
import Derived.Laws.Strings
namespace Go.Vm

theorem tiOf_spec {P : Program} {t : TypeId} {ti : TI} (h : tiOf P t = some ti) :
    ∃ i d z, P.info? t = some i ∧ P.underlying t = some d ∧ i.zero = some z ∧ ti = ⟨tkOf d, i.size, i.bytes, ofConst z⟩ := by
  unfold tiOf at h
  cases h1 : P.info? t with
  | none => simp [h1] at h
  | some i =>
    cases h2 : P.underlying t with
    | none => simp [h1, h2] at h
    | some d =>
      cases h3 : i.zero with
      | none => simp [h1, h2, h3] at h
      | some z => simp [h1, h2, h3] at h; exact ⟨i, d, z, rfl, rfl, h3, h.symm⟩

theorem V0.ofScalar (S : Store) (v : Value) : V0 S (ofScalar v) v := by
  unfold Vm.ofScalar
  split
  · exact .bool _
  · exact .int _ _
  · exact .str _ _ rfl
  · exact .nilp
  · exact .nils
  · exact .nilm
  · exact .nilf
  · exact .undef _

theorem V0.ofConst (S : Store) (v : Value) : V0 S (ofConst v) v := by
  unfold Vm.ofConst
  split
  · rename_i cs
    exact .agg _ _ (by simp) fun i hi => by simpa using V0.ofScalar S _
  · exact V0.ofScalar S _

structure TOk (E : Env) (P : Program) : Prop where
  T : ∀ t ti, E.T t = some ti → tiOf P t = some ti

def GOk (E : Env) (S : Store) : Prop := ∀ k cs, E.G k = some cs → V0 S (.fptr cs 0) (.pointer (some ⟨k, 0, none⟩))

theorem TOk.spec {E : Env} {P : Program} (hE : TOk E P) {t : TypeId} {ti : TI} (h : E.T t = some ti) :
    ∃ i d z, P.info? t = some i ∧ P.underlying t = some d ∧ i.zero = some z ∧ ti = ⟨tkOf d, i.size, i.bytes, Vm.ofConst z⟩ := tiOf_spec (hE.T _ _ h)

theorem tk_int {d : TypeDesc} {k : IntKind} (h : tkOf d = .int k) : d = .int k := by cases d <;> simp [tkOf] at h; subst h; rfl
theorem tk_bool {d : TypeDesc} (h : tkOf d = .bool) : d = .bool := by cases d <;> simp [tkOf] at h; rfl
theorem tk_string {d : TypeDesc} (h : tkOf d = .string) : d = .string := by cases d <;> simp [tkOf] at h; rfl
theorem tk_slice {d : TypeDesc} {e : TypeId} (h : tkOf d = .slice e) : d = .slice e := by cases d <;> simp [tkOf] at h; subst h; rfl
theorem tk_pointer {d : TypeDesc} {e : TypeId} (h : tkOf d = .pointer e) : d = .pointer e := by cases d <;> simp [tkOf] at h; subst h; rfl
theorem tk_array {d : TypeDesc} {n : Nat} {e : TypeId} (h : tkOf d = .array n e) : d = .array n e := by cases d <;> simp [tkOf] at h; obtain ⟨rfl, rfl⟩ := h; rfl
theorem tk_map {d : TypeDesc} {k e : TypeId} (h : tkOf d = .map k e) : d = .map k e := by cases d <;> simp [tkOf] at h; obtain ⟨rfl, rfl⟩ := h; rfl
theorem tk_func {d : TypeDesc} (h : tkOf d = .func) : ∃ a b c, d = .func a b c := by cases d <;> simp [tkOf] at h; exact ⟨_, _, _, rfl⟩
theorem tk_struct {d : TypeDesc} {fs : List (Nat × TypeId)} (h : tkOf d = .struct fs) : ∃ a : Array Field, d = .struct a ∧ fs = a.toList.map fun f => (f.offset, f.type) := by
  cases d <;> simp [tkOf] at h; exact ⟨_, rfl, h.symm⟩

theorem run_sizeOf' {P : Program} {t : TypeId} {i : TypeInfo} (h : P.info? t = some i) (w : World) : (sizeOf t).run P w = .ok i.size w := by
  simp [sizeOf, typeInfo, h]
theorem run_zero' {P : Program} {t : TypeId} {i : TypeInfo} {z : Value} (h : P.info? t = some i) (hz : i.zero = some z) (w : World) : (zeroValue t).run P w = .ok z w := by
  simp [zeroValue, typeInfo, h, hz]
theorem run_isAgg' {P : Program} {t : TypeId} {d : TypeDesc} (h : P.underlying t = some d) (w : World) : (isAgg t).run P w = .ok (isAggK (tkOf d)) w := by
  simp only [isAgg, Sem.run_bind, run_underlying h, Result.andThen_ok]
  cases d <;> rfl

/-- What an operation that is no call comes to. -/
def OpOk (g : Gh) (H : Heap) (w : World) (r : Result Next) (p : PV) (H' : Heap) : Prop :=
  ∃ n v w' g', r = .ok n w' ∧ (n = .value v ∨ (n = .skip ∧ v = undef)) ∧ V g' p v ∧ Inv g' H' w' ∧ Keep g H w g' H' w'

theorem OpOk.val {g : Gh} {H : Heap} {w : World} {r : Result Next} {p : PV} (v : Value) (hr : r = .ok (.value v) w) (hv : V g p v) (hi : Inv g H w) : OpOk g H w r p H :=
  ⟨_, v, w, g, hr, .inl rfl, hv, hi, .refl _ _ _⟩

/-- A value computed by 's': the operation is 'v s'. -/
theorem run_v {P : Program} {w w' : World} {s : Sem Value} {v : Value} (h : s.run P w = .ok v w') : (do pure (Next.value (← s)) : Sem Next).run P w = .ok (.value v) w' := by
  simp [h]

section
variable {E : Env} {P : Program} {g : Gh} {H : Heap} {w : World}

/-! ### reading -/
theorem rd_ok (hi : Inv g H w) {p : PV} {a : Value} (hp : V g p a) {n : Nat} {cs : List PV} (h : H.rd p n = some cs) :
    ∃ b o, ∃ vs : List Value, a = .pointer (some ⟨b, o, none⟩) ∧ cs.length = n ∧ VL g cs vs ∧ ∀ j (hj : j < vs.length), w.cell? ⟨b, o + j, none⟩ = some vs[j] := by
  unfold Heap.rd at h
  split at h
  · rename_i id es ix off
    rw [nth_eq] at h
    split at h
    · rename_i es' el hb
      split at h
      · rename_i he; subst he
        rw [nth_eq] at h
        split at h
        · rename_i cs0 hcs
          split at h
          · rename_i hle
            cases h
            obtain ⟨b, hσ, rfl⟩ := hp.ptr_inv
            obtain ⟨b', c, T, h1, h2, h3, h4, h5, h6⟩ := hi.bx _ _ _ hb
            rw [hσ] at h1; cases h1
            have hix : ix < el.length := by
              rcases Nat.lt_or_ge ix el.length with h' | h'
              · exact h'
              · simp [List.getElem?_eq_none h'] at hcs
            have hel : el[ix] = cs0 := by simpa [List.getElem?_eq_getElem hix] using hcs
            have hlen : cs0.length = es := hel ▸ h3 ix hix
            have hf : ∀ j, ∃ v, j < cs0.length → c[ix * es + j]? = some v ∧ ∀ (hj : j < cs0.length), V g cs0[j] v := fun j => by
              by_cases hj : j < cs0.length
              · obtain ⟨v, e1, e2⟩ := h5 ix hix j (by rw [hel]; exact hj)
                exact ⟨v, fun _ => ⟨e1, fun hj => by simpa [hel] using e2⟩⟩
              · exact ⟨undef, fun h => absurd h hj⟩
            obtain ⟨f, hf⟩ := Classical.axiomOfChoice hf
            refine ⟨b, ix * es + off, (List.range n).map fun j => f (off + j), rfl, by simp; omega, ⟨by simp; omega, fun i hi1 hi2 => ?_⟩, fun j hj => ?_⟩
            · have : i < n := by simpa using hi2
              have := (hf (off + i) (by omega)).2 (by omega)
              simpa using this
            · have hj' : j < n := by simpa using hj
              have := (hf (off + j) (by omega)).1
              simp only [World.cell?, h2]
              simp [Nat.add_assoc, this]
          · cases h
        · cases h
      · cases h
    · cases h
  · rename_i cs0 off
    split at h
    · rename_i hle
      cases h
      obtain ⟨b, o, vals, h2, h3, rfl⟩ := hp.fptr_inv
      refine ⟨b, o + off, (List.range n).map fun j => vals (off + j), rfl, by simp; omega, ⟨by simp; omega, fun i hi1 hi2 => ?_⟩, fun j hj => ?_⟩
      · have : i < n := by simpa using hi2
        simpa using V.pure _ _ (h3 (off + i) (by omega))
      · have hj' : j < n := by simpa using hj
        have := hi.st _ _ _ (h2 (off + j) (by omega))
        simpa [Nat.add_assoc] using this
    · cases h
  · cases h

theorem add_plain' (b o n : Nat) : (⟨b, o, none⟩ : Addr).add n = ⟨b, o + n, none⟩ := by
  unfold Addr.add; split <;> simp_all

theorem load_ok (hE : TOk E P) (hi : Inv g H w) {t : TypeId} {p : PV} {a : Value} (hp : V g p a) {q : PV} (h : aLoad E t p H = some q) :
    ∃ v, (Instr.loadAt t a).run P w = .ok v w ∧ V g q v := by
  unfold aLoad at h
  split at h
  · rename_i ti ht
    split at h
    · rename_i cs hr
      obtain ⟨i, d, z, h1, h2, h3, rfl⟩ := hE.spec ht
      obtain ⟨b, o, vs, rfl, hlen, hvl, hc⟩ := rd_ok hi hp hr
      simp only [toVal] at h
      by_cases hA : isAggK (tkOf d) = true
      · simp only [hA, if_true] at h hlen
        cases h
        have hl := run_loadCells_list (P := P) w ⟨b, o, none⟩ vs (fun j v hj => by
          rw [add_plain']
          have hj' : j < vs.length := by
            rcases Nat.lt_or_ge j vs.length with h | h
            · exact h
            · simp [List.getElem?_eq_none h] at hj
          rw [hc j hj']
          simpa [List.getElem?_eq_getElem hj'] using hj)
        have hsz : vs.length = i.size := by rw [hvl.1]; exact hlen
        rw [hsz] at hl
        refine ⟨.agg vs.toArray, ?_, .agg _ _ (by simp [hvl.1]) fun k hk => by simpa using hvl.2 k hk (by have := hvl.1; omega)⟩
        simp [Instr.loadAt, Instr.sureAddr, loadVar, run_isAgg' h2, hA, run_sizeOf' h1, hl]
      · simp only [hA, Bool.false_eq_true, if_false] at h hlen
        match cs, h, hvl, hlen with
        | [x], h, hvl, _ =>
          cases h
          have hv1 : vs.length = 1 := hvl.1
          have hc0 := hc 0 (by omega)
          refine ⟨vs[0], ?_, by simpa using hvl.2 0 (by simp) (by omega)⟩
          simp only [Nat.add_zero] at hc0
          simp [Instr.loadAt, Instr.sureAddr, loadVar, run_isAgg' h2, hA, hc0]
    · cases h
  · cases h

end
end Go.Vm
