/-
  Rows of cells: slice literals and new slices.
-/
import Derived.Test.YthkpihmifojnoaaGreatDoorVmH
namespace Go.Vm

/-- A row of elements, in the first cells of an array. -/
def RL (g : Gh) (es : Nat) (el : List (List PV)) (arr : Array Value) : Prop :=
  (∀ i (hi : i < el.length), (el[i]).length = es) ∧ el.length * es ≤ arr.size ∧
    ∀ i (hi : i < el.length) j (hj : j < (el[i]).length), ∃ v, arr[i * es + j]? = some v ∧ V g ((el[i])[j]) v

theorem idx_lt {i j es n : Nat} (hi : i < n) (hj : j < es) : i * es + j < n * es := by
  have := Nat.mul_le_mul_right es (show i + 1 ≤ n from hi)
  rw [Nat.add_mul, Nat.one_mul] at this
  omega

section
variable {E : Env} {P : Program} {g : Gh} {H : Heap} {w : World}

theorem frz1_ok {p p' : PV} {v : Value} (h : V g p v) (hf : frz1 p = some p') : V0 g.S p' v := by
  cases p <;> simp only [frz1, Option.some.injEq] at hf <;> first | cases hf | skip
  case bool => rw [h.bool_inv]; exact .bool _
  case int => rw [h.int_inv]; exact .int _ _
  case str => obtain ⟨b, rfl, e⟩ := h.str_inv; exact .str _ _ e
  case nilp => rw [h.nilp_inv]; exact .nilp
  case nils => rw [h.nils_inv]; exact .nils
  case nilm => rw [h.nilm_inv]; exact .nilm
  case nilf => rw [h.nilf_inv]; exact .nilf
  case sl =>
    cases h with
    | pure _ _ h => exact h.sl_none
    | tok _ _ _ _ _ _ h _ => exact h
  case fptr => cases h with | pure _ _ h => exact h

theorem frzL_ok {cs cs' : List PV} (h : frzL cs = some cs') : cs'.length = cs.length ∧ ∀ i (hi : i < cs.length) (hi' : i < cs'.length), frz1 cs[i] = some cs'[i] := by
  induction cs generalizing cs' with
  | nil => simp only [frzL, Option.some.injEq] at h; subst h; exact ⟨rfl, fun i hi => absurd hi (by simp)⟩
  | cons c cs ih =>
    simp only [frzL] at h
    split at h
    · rename_i c' hc
      split at h
      · rename_i r' hr
        cases h
        obtain ⟨h1, h2⟩ := ih hr
        refine ⟨by simp [h1], fun i hi hi' => ?_⟩
        cases i with
        | zero => simpa using hc
        | succ i => exact h2 i (by simpa using hi) (by simpa using hi')
      · cases h
    · cases h

theorem frzLL_ok {cs cs' : List (List PV)} (h : frzLL cs = some cs') : cs'.length = cs.length ∧ ∀ i (hi : i < cs.length) (hi' : i < cs'.length), frzL cs[i] = some cs'[i] := by
  induction cs generalizing cs' with
  | nil => simp only [frzLL, Option.some.injEq] at h; subst h; exact ⟨rfl, fun i hi => absurd hi (by simp)⟩
  | cons c cs ih =>
    simp only [frzLL] at h
    split at h
    · rename_i c' hc
      split at h
      · rename_i r' hr
        cases h
        obtain ⟨h1, h2⟩ := ih hr
        refine ⟨by simp [h1], fun i hi hi' => ?_⟩
        cases i with
        | zero => simpa using hc
        | succ i => exact h2 i (by simpa using hi) (by simpa using hi')
      · cases h
    · cases h

/-- A frozen row, as it reads. -/
theorem RL.frozen {es : Nat} {el el' : List (List PV)} {arr : Array Value} (h : RL g es el arr) (hf : frzLL el = some el') :
    el'.length = el.length ∧ (∀ i (hi : i < el'.length), (el'[i]).length = es) ∧
    ∀ i (hi : i < el'.length) j (hj : j < (el'[i]).length), ∃ v, arr[i * es + j]? = some v ∧ V0 g.S ((el'[i])[j]) v := by
  obtain ⟨h1, h2⟩ := frzLL_ok hf
  have h3 : ∀ i (hi : i < el'.length), (el'[i]).length = es := fun i hi => by
    rw [(frzL_ok (h2 i (by omega) hi)).1]; exact h.1 i (by omega)
  refine ⟨h1, h3, fun i hi j hj => ?_⟩
  have hi' : i < el.length := by omega
  obtain ⟨f1, f2⟩ := frzL_ok (h2 i hi' hi)
  obtain ⟨v, e, x⟩ := h.2.2 i hi' j (by omega)
  exact ⟨v, e, frz1_ok x (f2 j (by omega) hj)⟩

theorem zrow_ok (z : Value) (n es : Nat) (hes : (ofConst z).cells.length = es) (hpos : 0 < es) :
    RL g es (List.replicate n (ofConst z).cells) ((Array.range (n * es)).map (z.cells[· % z.cells.size]!)) := by
  have hv := VL.zero (g := g) z (by omega)
  have hsz : z.cells.size = es := by have := hv.1; simp at this; omega
  refine ⟨fun i hi => by simpa using hes, by simp, fun i hi j hj => ?_⟩
  have hi' : i < n := by simpa using hi
  have hj' : j < es := by simp at hj; omega
  have hlt := idx_lt hi' hj'
  have hmod : (i * es + j) % es = j := by rw [Nat.add_comm, Nat.add_mul_mod_self_right, Nat.mod_eq_of_lt hj']
  refine ⟨z.cells[j]'(by omega), ?_, ?_⟩
  · simp [hlt, hsz, hmod, hj']
  · have := hv.2 j (by omega) (by simp; omega)
    simpa using this

theorem fillS_ok {es : Nat} {parts : List (Nat × PV)} : ∀ {vals : List (Nat × Value)} {el : List (List PV)} {arr : Array Value} {el' : List (List PV)},
    PL g parts vals → RL g es el arr → arr.size = el.length * es → 0 < es → aFillS es el parts = some el' →
    ∃ out, Instr.fill (fun i => some (i * es, es)) arr vals = some out ∧ RL g es el' out ∧ out.size = arr.size ∧ el'.length = el.length := by
  induction parts with
  | nil =>
    intro vals el arr el' hp hv _ _ h
    have : vals = [] := by have := hp.1; simpa using this.symm
    subst this
    simp only [aFillS, Option.some.injEq] at h
    subst h
    exact ⟨arr, rfl, hv, rfl, rfl⟩
  | cons x parts ih =>
    obtain ⟨i, p⟩ := x
    intro vals el arr el' hp hv hsz hpos h
    obtain ⟨v, vals', rfl, hpv, hp'⟩ := hp.cons_inv
    simp only [aFillS] at h
    split at h
    · rename_i hcond
      obtain ⟨hlen, hi⟩ := hcond
      have hvl := hpv.cells (by omega)
      have hvs : v.cells.size = es := by have := hvl.1; simp at this; omega
      have hup : i * es + es ≤ el.length * es := by
        have := Nat.mul_le_mul_right es (show i + 1 ≤ el.length from hi)
        rwa [Nat.add_mul, Nat.one_mul] at this
      have hfit : i * es + v.cells.size ≤ arr.size := by omega
      have hout := fill_put v (i * es) arr hfit
      have harr : v.cells.zipIdx.foldl (fun cs (x : Value × Nat) => cs.setIfInBounds (i * es + x.2) x.1) arr = (arr.toList.take (i * es) ++ v.cells.toList ++ arr.toList.drop (i * es + v.cells.toList.length)).toArray := by
        apply Array.ext'
        rw [hout]; simp
      have hfit' : i * es + v.cells.toList.length ≤ arr.size := by simpa using hfit
      have hnew : RL g es (el.set i p.cells) (v.cells.zipIdx.foldl (fun cs (x : Value × Nat) => cs.setIfInBounds (i * es + x.2) x.1) arr) := by
        rw [harr]
        refine ⟨fun k hk => ?_, by rw [splice_size _ _ _ hfit']; simpa using hv.2.1, fun k hk j hj => ?_⟩
        · rw [List.getElem_set]
          split
          · exact hlen
          · exact hv.1 k (by simpa using hk)
        · have hk' : k < el.length := by simpa using hk
          rw [splice_get _ _ _ hfit']
          by_cases e : k = i
          · subst e
            have e1 : (el.set k p.cells)[k]'hk = p.cells := by simp
            have hj' : j < p.cells.length := by simpa [e1] using hj
            rw [if_neg (by omega), if_pos (by simp; omega)]
            have ek : k * es + j - k * es = j := by omega
            refine ⟨v.cells.toList[j]'(by rw [hvl.1]; exact hj'), by rw [ek]; exact List.getElem?_eq_getElem _, ?_⟩
            have q := hvl.2 j hj' (by rw [hvl.1]; exact hj')
            simp only [e1]
            exact q
          · have e1 : (el.set i p.cells)[k]'hk = el[k] := by rw [List.getElem_set_ne (Ne.symm e)]
            have hj' : j < (el[k]).length := by rw [← e1]; exact hj
            have hje : j < es := by rw [hv.1 k hk'] at hj'; exact hj'
            have hout2 : k * es + j < i * es ∨ i * es + v.cells.toList.length ≤ k * es + j := by
              simp only [Array.length_toList]
              rcases Nat.lt_or_gt_of_ne e with l | l
              · exact .inl (idx_lt l hje |> fun h => by
                  have := Nat.mul_le_mul_right es (show k + 1 ≤ i from l)
                  rw [Nat.add_mul, Nat.one_mul] at this
                  omega)
              · have := Nat.mul_le_mul_right es (show i + 1 ≤ k from l)
                rw [Nat.add_mul, Nat.one_mul] at this
                exact .inr (by omega)
            obtain ⟨u, q1, q2⟩ := hv.2.2 k hk' j hj'
            refine ⟨u, ?_, by simpa [e1] using q2⟩
            by_cases c1 : k * es + j < i * es
            · rw [if_pos c1]; exact q1
            · rw [if_neg c1, if_neg (by omega)]; exact q1
      obtain ⟨out, ho, hvo, hso, hlo⟩ := ih hp' hnew (by rw [harr, splice_size _ _ _ hfit']; simpa using hsz) hpos h
      refine ⟨out, ?_, hvo, by rw [hso, harr, splice_size _ _ _ hfit'], by rw [hlo]; simp⟩
      simp only [Instr.fill]
      rw [if_neg (by simp [hvs]; omega)]
      exact ho
    · cases h

theorem buildSlice_run (hE : TOk E P) {t : TypeId} {n : Nat} {parts : List (Nat × PV)} {vals : Array (Nat × Value)} (hp : PL g parts vals.toList) {es : Nat} {el : List (List PV)} (h : aBuildSlice E t n parts = some (es, el)) :
    ∃ e out, (Instr.buildSlice t n vals).run P w = .ok (.slice (some ⟨w.heap.size, 0, none⟩) n n) (w.alloc (.cells out e)) ∧ RL g es el out ∧ el.length = n ∧ out.size = n * es ∧ 0 < es ∧ n ≤ 65536 := by
  unfold aBuildSlice at h
  split at h
  · rename_i ti ht
    obtain ⟨i, d, z, h1, h2, h3, rfl⟩ := hE.spec ht
    simp only at h
    split at h
    · rename_i e hd
      have hd := tk_slice hd
      subst hd
      split at h
      · rename_i ei hei
        obtain ⟨i', d', z', h1', h2', h3', rfl⟩ := hE.spec hei
        simp only at h
        split at h
        · rename_i hcond
          obtain ⟨hz, hpos, hsmall⟩ := hcond
          split at h
          · rename_i el0 hfill
            simp only [Option.some.injEq, Prod.mk.injEq] at h
            obtain ⟨rfl, rfl⟩ := h
            have hlim : ¬ n * i'.size > 2 ^ 24 := by omega
            by_cases hn : n * i'.size = 0
            · have hn0 : n = 0 := by
                rcases Nat.mul_eq_zero.1 hn with h | h
                · exact h
                · omega
              subst hn0
              obtain ⟨out, ho, hv, hs, hl⟩ := fillS_ok (g := g) hp (show RL g i'.size (List.replicate 0 (ofConst z').cells) #[] from ⟨fun i hi => absurd hi (by simp), by simp, fun i hi => absurd hi (by simp)⟩) (by simp) hpos hfill
              refine ⟨e, out, ?_, hv, by simpa using hl, by simpa using hs, hpos, Nat.le_trans (Nat.le_mul_of_pos_right _ hpos) hsmall⟩
              have hr : Array.range 0 = (#[] : Array Nat) := rfl
              simp [Instr.buildSlice, run_underlying h2, run_sizeOf' h1', hr, ho, newRow, newObj]
              rfl
            · obtain ⟨out, ho, hv, hs, hl⟩ := fillS_ok (g := g) hp (zrow_ok z' n i'.size hz hpos) (by simp) hpos hfill
              refine ⟨e, out, ?_, hv, by simpa using hl, by simpa using hs, hpos, Nat.le_trans (Nat.le_mul_of_pos_right _ hpos) hsmall⟩
              simp [Instr.buildSlice, run_underlying h2, run_sizeOf' h1', run_zero' h1' h3', hlim, hn, ho, newRow, newObj]
              rfl
          · cases h
        · cases h
      · cases h
    · cases h
  · cases h

theorem RL.mono {g' : Gh} (hle : g.Le g') {es : Nat} {el : List (List PV)} {arr : Array Value} (h : RL g es el arr) : RL g' es el arr :=
  ⟨h.1, h.2.1, fun i hi j hj => let ⟨v, e, x⟩ := h.2.2 i hi j hj; ⟨v, e, x.mono hle⟩⟩

/-- A new row, frozen whole: a slice without room. -/
theorem frozen_row (hi : Inv g H w) {es n : Nat} {el el' : List (List PV)} {arr : Array Value} (e : TypeId) (h : RL g es el arr) (hl : el.length = n) (hf : frzLL el = some el') :
    ∃ g', V g' (.sl .full es el') (.slice (some ⟨w.heap.size, 0, none⟩) n n) ∧ Inv g' H (w.alloc (.cells arr e)) ∧ Keep g H w g' H (w.alloc (.cells arr e)) := by
  obtain ⟨i1, k1⟩ := inv_row hi arr e arr.size
  obtain ⟨f1, f2, f3⟩ := h.frozen hf
  have hS : ∀ o, (g.addS w.heap.size (rowS arr arr.size)).S w.heap.size o = arr[o]? := fun o => by
    simp only [Gh.addS, rowS, if_true]
    split
    · rfl
    · rename_i h; simp [Array.getElem?_eq_none (Nat.le_of_not_lt h)]
  refine ⟨_, ?_, i1, k1⟩
  refine V.sl_mk (fun i j => arr[i * es + j]?.getD undef) (by omega) (by omega) f2 (fun i j hi hj => ?_) (fun i hi j hj => ?_) (by show n = _; omega)
  · rw [hS, Nat.zero_add]
    obtain ⟨v, q, _⟩ := f3 i hi j (by rw [f2 i hi]; exact hj)
    rw [q]; rfl
  · obtain ⟨v, q, x⟩ := f3 i hi j hj
    simp only [q, Option.getD_some]
    exact x.mono k1.le.S

/-- A new row that is a box. -/
theorem own_row (hi : Inv g H w) {es n : Nat} {el : List (List PV)} {arr : Array Value} (e : TypeId) (h : RL g es el arr) (cap : Nat) (hn : n ≤ cap) (hcs : cap * es ≤ arr.size) (hcm : cap ≤ 9223372036854775807) :
    ∃ g', V g' (.own H.bx.length es 0 n) (.slice (some ⟨w.heap.size, 0, none⟩) n cap) ∧ Inv g' (H.push (.cells es el)) (w.alloc (.cells arr e)) ∧ Keep g H w g' (H.push (.cells es el)) (w.alloc (.cells arr e)) := by
  obtain ⟨i1, k1⟩ := inv_push hi (.cells arr e) (.cells es el) rfl
    (fun es0 el0 h0 => by cases h0; exact ⟨arr, e, rfl, h⟩) (fun es h => by cases h) arr.size (fun c T m h => by cases h; exact Nat.le_refl _)
  exact ⟨_, .own _ _ _ _ w.heap.size cap _ (by simp [Gh.link]) hn (fun _ => by simp) rfl ⟨by simpa [Gh.link] using hcs, hcm⟩, i1, k1⟩

theorem buildSlice_ok (hE : TOk E P) (hi : Inv g H w) {t : TypeId} {n : Nat} {parts : List (Nat × PV)} {vals : Array (Nat × Value)} (hp : PL g parts vals.toList) {es : Nat} {el : List (List PV)} (h : aBuildSlice E t n parts = some (es, el)) :
    (∀ el', frzLL el = some el' → ∃ v w' g', (Instr.buildSlice t n vals).run P w = .ok v w' ∧ V g' (.sl .full es el') v ∧ Inv g' H w' ∧ Keep g H w g' H w') ∧
    ∃ v w' g', (Instr.buildSlice t n vals).run P w = .ok v w' ∧ V g' (.own H.bx.length es 0 n) v ∧ Inv g' (H.push (.cells es el)) w' ∧ Keep g H w g' (H.push (.cells es el)) w' := by
  obtain ⟨e, out, hr, hv, hl, hs, hpos, hn6⟩ := buildSlice_run (w := w) hE hp h
  refine ⟨fun el' hf => ?_, ?_⟩
  · obtain ⟨g', a, b, c⟩ := frozen_row hi e hv hl hf
    exact ⟨_, _, g', hr, a, b, c⟩
  · obtain ⟨g', a, b, c⟩ := own_row hi (n := n) e hv n (Nat.le_refl _) (by omega) (by omega)
    exact ⟨_, _, g', hr, a, b, c⟩

theorem makeMap_ok (hi : Inv g H w) (t : TypeId) :
    ∃ v w' g', (Instr.makeMap t none).run P w = .ok v w' ∧ V g' (.map H.bx.length) v ∧ Inv g' (H.push (.map [])) w' ∧ Keep g H w g' (H.push (.map [])) w' := by
  obtain ⟨i1, k1⟩ := inv_push hi (.map #[] 0) (.map []) trivial (fun es el h => by cases h) (fun es h => by cases h; exact ⟨#[], 0, rfl, rfl, fun i hi => absurd hi (by simp)⟩)
  refine ⟨.map (some w.heap.size), _, _, ?_, .map _ w.heap.size (by simp [Gh.link]), i1, k1⟩
  simp [Instr.makeMap, newObj]
  rfl

end
end Go.Vm
