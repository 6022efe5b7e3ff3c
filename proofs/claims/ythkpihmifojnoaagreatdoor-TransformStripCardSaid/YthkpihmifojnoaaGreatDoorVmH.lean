/-
  Literals of structs and slices, new slices, lengths.
-/
import Derived.Test.YthkpihmifojnoaaGreatDoorVmG
namespace Go.Vm

theorem fold_put (l : List Value) : ∀ (k off : Nat) (cs : Array Value), off + k + l.length ≤ cs.size →
    ((l.zipIdx k).foldl (fun cs x => cs.setIfInBounds (off + x.2) x.1) cs).toList = cs.toList.take (off + k) ++ (l ++ cs.toList.drop (off + k + l.length)) := by
  induction l with
  | nil => intro k off cs h; simp
  | cons v l ih =>
    intro k off cs h
    simp only [List.length_cons] at h
    simp only [List.zipIdx_cons, List.foldl_cons]
    rw [ih (k + 1) off _ (by simp; omega)]
    simp only [Array.toList_setIfInBounds, List.length_cons]
    apply List.ext_getElem?
    intro x
    have hk : off + k < cs.toList.length := by simp; omega
    have e1 : (List.take (off + (k + 1)) (cs.toList.set (off + k) v)) = cs.toList.take (off + k) ++ [v] := by
      rw [show off + (k + 1) = off + k + 1 from rfl, List.take_succ_eq_append_getElem (by simpa using hk)]
      simp [List.take_set_of_le]
    have e2 : List.drop (off + (k + 1) + l.length) (cs.toList.set (off + k) v) = cs.toList.drop (off + k + (l.length + 1)) := by
      rw [List.drop_set_of_lt (by omega)]
      congr 1; omega
    rw [e1, e2]
    simp

section
variable {E : Env} {P : Program} {g : Gh} {H : Heap} {w : World}

theorem fill_put (v : Value) (off : Nat) (cells : Array Value) (h : off + v.cells.size ≤ cells.size) :
    (v.cells.zipIdx.foldl (fun cs (x : Value × Nat) => cs.setIfInBounds (off + x.2) x.1) cells).toList = cells.toList.take off ++ (v.cells.toList ++ cells.toList.drop (off + v.cells.size)) := by
  rw [← Array.foldl_toList, Array.toList_zipIdx]
  have := fold_put v.cells.toList 0 off cells (by simpa using h)
  simpa using this

theorem list_mapM_run {α β : Type} (f : α → Sem β) (k : α → β) (l : List α) (h : ∀ x ∈ l, (f x).run P w = .ok (k x) w) : (l.mapM f).run P w = .ok (l.map k) w := by
  induction l with
  | nil => simp
  | cons a l ih =>
    simp [List.mapM_cons, h a (by simp), ih (fun x hx => h x (by simp [hx]))]

theorem array_mapM_run {α β : Type} (f : α → Sem β) (k : α → β) (l : Array α) (h : ∀ x ∈ l.toList, (f x).run P w = .ok (k x) w) : (l.mapM f).run P w = .ok (l.map k) w := by
  rw [Array.mapM_eq_mapM_toList, Sem.run_map, list_mapM_run f k _ h]
  simp only [Result.andThen_ok]
  congr 1
  apply Array.ext'
  simp

/-- A list of parts, abstract and real. -/
def PL (g : Gh) (a : List (Nat × PV)) (b : List (Nat × Value)) : Prop := a.length = b.length ∧ ∀ i (hi : i < a.length) (hj : i < b.length), a[i].1 = b[i].1 ∧ V g a[i].2 b[i].2

theorem PL.cons_inv {i : Nat} {p : PV} {a : List (Nat × PV)} {b : List (Nat × Value)} (h : PL g ((i, p) :: a) b) : ∃ v b', b = (i, v) :: b' ∧ V g p v ∧ PL g a b' := by
  cases b with
  | nil => exact absurd h.1 (by simp)
  | cons x b' =>
    have h0 := h.2 0 (by simp) (by simp)
    simp only [List.getElem_cons_zero] at h0
    obtain ⟨j, v⟩ := x
    obtain ⟨rfl, hv⟩ := h0
    refine ⟨v, b', rfl, hv, by simpa using h.1, fun k hk hj => ?_⟩
    exact h.2 (k + 1) (by simpa using hk) (by simpa using hj)

theorem fill_ok (hE : TOk E P) {fa : Array Field} {parts : List (Nat × PV)} : ∀ {vals : List (Nat × Value)} {cells : List PV} {arr : Array Value} {cs : List PV},
    PL g parts vals → VL g cells arr.toList → (∀ f ∈ fa.toList, ∃ ti, E.T f.type = some ti) →
    aFill (fa.toList.map fun f => (f.offset, f.type)) E cells parts = some cs →
    ∃ out, Instr.fill ((fa.map fun f => (f.offset, ((P.info? f.type).map (·.size)).getD 0))[·]?) arr vals = some out ∧ VL g cs out.toList ∧ cs.length = cells.length := by
  induction parts with
  | nil =>
    intro vals cells arr cs hp hv _ h
    have : vals = [] := by have := hp.1; simpa using this.symm
    subst this
    simp only [aFill, Option.some.injEq] at h
    subst h
    exact ⟨arr, rfl, hv, rfl⟩
  | cons x parts ih =>
    obtain ⟨i, p⟩ := x
    intro vals cells arr cs hp hv hT h
    obtain ⟨v, vals', rfl, hpv, hp'⟩ := hp.cons_inv
    simp only [aFill, nth_eq] at h
    split at h
    · rename_i o ft hf
      split at h
      · rename_i fi hfi
        split at h
        · rename_i hcond
          obtain ⟨hlen, hpos, hle⟩ := hcond
          obtain ⟨fld, hfld, e⟩ : ∃ fld, fa[i]? = some fld ∧ (fld.offset, fld.type) = (o, ft) := by simpa using hf
          cases e
          obtain ⟨inf, d, z, h1, h2, h3, rfl⟩ := hE.spec hfi
          simp only at hlen hpos hle h
          have hcl : cells.length = arr.size := by have := hv.1; simp at this; omega
          · have hvl := hpv.cells (by omega)
            have hvs : v.cells.size = inf.size := by have := hvl.1; simp at this; omega
            have hfit : fld.offset + v.cells.size ≤ arr.size := by omega
            have hnew : VL g (cells.take fld.offset ++ (p.cells ++ cells.drop (fld.offset + inf.size))) (v.cells.zipIdx.foldl (fun cs (x : Value × Nat) => cs.setIfInBounds (fld.offset + x.2) x.1) arr).toList := by
              rw [fill_put v _ _ hfit, hvs]
              exact (hv.take _).append (hvl.append (hv.drop _))
            obtain ⟨out, ho, hvo, hlo⟩ := ih hp' hnew hT h
            refine ⟨out, ?_, hvo, by rw [hlo]; simp; omega⟩
            have hpl : (fa.map fun f => (f.offset, ((P.info? f.type).map (·.size)).getD 0))[i]? = some (fld.offset, inf.size) := by simp [hfld, h1]
            simp only [Instr.fill, hpl]
            have : ¬ (v.cells.size ≠ inf.size || decide (fld.offset + v.cells.size > arr.size)) = true := by simp [hvs]; omega
            rw [if_neg (by simpa using this)]
            exact ho
        · cases h
      · cases h
    · cases h

theorem build_ok (hE : TOk E P) {t : TypeId} {parts : List (Nat × PV)} {vals : Array (Nat × Value)} (hp : PL g parts vals.toList) {q : PV} (h : aBuild E t parts = some q) :
    ∃ v, (Instr.build t vals).run P w = .ok v w ∧ V g q v := by
  unfold aBuild at h
  split at h
  · rename_i ti ht
    obtain ⟨i, d, z, h1, h2, h3, rfl⟩ := hE.spec ht
    simp only at h
    split at h
    · rename_i fs hfs
      obtain ⟨fa, rfl, rfl⟩ := tk_struct hfs
      split at h
      · rename_i hall
        obtain ⟨hall, hpos⟩ := hall
        split at h
        · rename_i cs hcs
          cases h
          have hT : ∀ f ∈ fa.toList, ∃ ti, E.T f.type = some ti := fun f hf => by
            have := List.all_eq_true.1 hall (f.offset, f.type) (List.mem_map.2 ⟨f, hf, rfl⟩)
            exact Option.isSome_iff_exists.1 this
          obtain ⟨out, ho, hvo, -⟩ := fill_ok (P := P) hE hp (VL.zero z hpos) hT hcs
          refine ⟨.agg out, ?_, .agg _ _ (by have := hvo.1; simpa using this) fun i hi => by rw [← Array.getElem_toList]; exact hvo.2 i hi (by have := hvo.1; omega)⟩
          have hm : (fa.mapM fun f => do pure (f.offset, ← sizeOf f.type) : Sem (Array (Nat × Nat))).run P w = .ok (fa.map fun f => (f.offset, ((P.info? f.type).map (·.size)).getD 0)) w := by
            refine array_mapM_run _ _ _ fun f hf => ?_
            obtain ⟨ti, hti⟩ := hT f hf
            obtain ⟨i', d', z', h1', h2', h3', rfl⟩ := hE.spec hti
            simp [run_sizeOf' h1', h1']
          simp only [Instr.build, Sem.run_bind, run_zero' h1 h3, Result.andThen_ok, run_underlying h2, hm, ho]
          rfl
        · cases h
      · cases h
    · cases h
  · cases h

end
end Go.Vm
