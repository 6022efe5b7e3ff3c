/-
  Slots against worlds: boxes made dead and brought back; a new box in a slot.
-/
import Derived.Test.YthkpihmifojnoaaGreatDoorVmQ
namespace Go.Vm
section
variable {E : Env} {P : Program} {g g' : Gh} {n : Nat} {tm : TM} {H M : Heap} {a : Act} {w w' : World} {l : List Nat}

theorem maskH_get (l : List Nat) (H : Heap) (i : Nat) : (maskH l H).bx[i]? = if i ∈ l ∧ i < H.bx.length then some .dead else H.bx[i]? := deadL_get l H.bx i
theorem mergeH_get (l : List Nat) (H M : Heap) (hl : H.bx.length ≤ M.bx.length) (i : Nat) : (mergeH l H M).bx[i]? = if i ∈ l ∧ i < H.bx.length then H.bx[i]? else M.bx[i]? := backL_get _ _ _ hl i

theorem mask_some {i : Nat} {b : Box} (h : (maskH l H).bx[i]? = some b) (hb : b ≠ .dead) : H.bx[i]? = some b ∧ i ∉ l := by
  rw [maskH_get] at h
  split at h
  · simp only [Option.some.injEq] at h; exact (hb h.symm).elim
  · rename_i hn
    exact ⟨h, fun hi => hn ⟨hi, get_lt h⟩⟩

theorem mask_live {i : Nat} (h : (maskH l H).liveAt i) : H.liveAt i ∧ i ∉ l := by
  obtain ⟨b, hb, ha⟩ := h
  have hd : b ≠ .dead := fun e => by subst e; exact ha
  exact ⟨⟨b, (mask_some hb hd).1, ha⟩, (mask_some hb hd).2⟩

theorem inv_mask (hi : Inv g H w) (l : List Nat) : Inv g (maskH l H) w where
  st := hi.st
  bx id es el h := hi.bx id es el (mask_some h (by simp)).1
  mp id es h := hi.mp id es (mask_some h (by simp)).1
  inj i j b h1 h2 := hi.inj i j b (mask_live h1).1 (mask_live h2).1
  sd id h := hi.sd id (by simpa [maskH, deadL_len] using h)
  td := hi.td
  tk t b lo hi' h1 h2 := let ⟨a, b, c⟩ := hi.tk t b lo hi' h1 h2; ⟨a, b, fun id hl => c id (mask_live hl).1⟩
  tinj := hi.tinj
  nd := hi.nd
  lt := hi.lt
  sz := hi.sz
  ro := by simpa [maskH, deadL_len] using hi.ro
  rm id b c T m h := hi.rm id b c T m (mask_live h).1

theorem rel_mask (h : Rel E g n tm H a w) (l : List Nat) : Rel E g n tm (maskH l H) a w := ⟨h.sz, h.tm, inv_mask h.inv l, h.gl, h.df⟩

theorem merge_mask (l : List Nat) (H : Heap) : mergeH l H (maskH l H) = H := by
  refine Heap.ext' (List.ext_getElem? fun i => ?_) rfl rfl rfl
  rw [mergeH_get _ _ _ (by simp [maskH, deadL_len]), maskH_get]
  split <;> rfl

theorem merge_set {l : List Nat} {H : Heap} {s : Nat} {b : Box} (hs : s ∉ l) : mergeH l H (setB (maskH l H) s b) = setB H s b := by
  refine Heap.ext' (List.ext_getElem? fun i => ?_) rfl rfl rfl
  have hl : H.bx.length ≤ (setB (maskH l H) s b).bx.length := by simp [setB, maskH, deadL_len]
  rw [mergeH_get _ _ _ hl]
  by_cases e : i = s
  · subst e
    rw [if_neg (fun h => hs h.1)]
    simp only [setB, maskH]
    by_cases h2 : i < H.bx.length
    · rw [List.getElem?_set_self (by rw [deadL_len]; exact h2), List.getElem?_set_self h2]
    · rw [List.getElem?_eq_none (by simp [deadL_len]; omega), List.getElem?_eq_none (by simp; omega)]
  · have e1 : (setB H s b).bx[i]? = H.bx[i]? := by simp [setB, List.getElem?_set_ne (Ne.symm e)]
    have e2 : (setB (maskH l H) s b).bx[i]? = (maskH l H).bx[i]? := by simp [setB, List.getElem?_set_ne (Ne.symm e)]
    rw [e1, e2, maskH_get]
    split <;> rfl

theorem Shut.mask {b : Nat} (h : Shut g H b) (l : List Nat) : Shut g (maskH l H) b := ⟨fun id hro hl => h.1 id hro (mask_live hl).1, h.2⟩

theorem inv_merge (hi : Inv g H w) (hsl : ∀ k, k ∈ l → H.ro ≤ k) (k : Keep g (maskH l H) w g' M w') (hm : Inv g' M w') (hl : H.bx.length ≤ M.bx.length) :
    Inv g' (mergeH l H M) w' ∧ Keep g H w g' (mergeH l H M) w' := by
  -- a slot that is brought back lies in a block that nobody has touched
  have hin : ∀ id, id ∈ l → H.liveAt id → ∀ b, g.σ id = some b → Shut g (maskH l H) b := fun id hid hl b hσ => by
    refine ⟨fun id' _ hl' hσ' => ?_, fun t lo hi' ht hτ => (hi.tk t b lo hi' ht hτ).2.2 id hl hσ⟩
    obtain ⟨h1, h2⟩ := mask_live hl'
    have := hi.inj id id' b hl h1 hσ hσ'
    subst this
    exact h2 hid
  have hlt : ∀ id, H.liveAt id → id < H.bx.length := fun id ⟨b, hb, _⟩ => get_lt hb
  have hlive : ∀ id, (mergeH l H M).liveAt id → (id ∈ l ∧ H.liveAt id) ∨ (M.liveAt id ∧ ¬ (id ∈ l ∧ id < H.bx.length)) := fun id ⟨b, hb, ha⟩ => by
    rw [mergeH_get _ _ _ hl] at hb
    split at hb
    · rename_i h; exact .inl ⟨h.1, b, hb, ha⟩
    · rename_i h; exact .inr ⟨⟨b, hb, ha⟩, h⟩
  have hold : ∀ id, H.liveAt id → ∃ b, g.σ id = some b := fun id ⟨b, hb, ha⟩ => by
    cases b with
    | cells es el => obtain ⟨b, _, _, h, _⟩ := hi.bx _ _ _ hb; exact ⟨b, h⟩
    | map es => obtain ⟨b, _, _, h, _⟩ := hi.mp _ _ hb; exact ⟨b, h⟩
    | dead => exact ha.elim
  -- another box does not lie in the block of one that is brought back
  have hdiff : ∀ i j b, i ∈ l → H.liveAt i → M.liveAt j → ¬ (j ∈ l ∧ j < H.bx.length) → g'.σ i = some b → g'.σ j = some b → i = j := fun i j b hil hi1 hj hjn h1 h2 => by
    obtain ⟨bi, hbi⟩ := hold i hi1
    have e1 := k.le.σ _ _ hbi
    rw [h1] at e1
    cases e1
    cases e : g.σ j with
    | none =>
      rcases k.new j b e h2 with h | ⟨id', _, h4, h5⟩
      · have := hi.sz _ _ hbi; omega
      · obtain ⟨h6, h7⟩ := mask_live h4
        have := hi.inj i id' b hi1 h6 hbi h5
        subst this
        exact (h7 hil).elim
    | some bj =>
      have e2 := k.le.σ _ _ e
      rw [h2] at e2
      cases e2
      have hml := k.al j b e hj
      obtain ⟨hjl, hjn'⟩ := mask_live hml
      exact hi.inj i j b hi1 hjl hbi e
  refine ⟨⟨hm.st, ?_, ?_, ?_, ?_, hm.td, ?_, hm.tinj, hm.nd, hm.lt, hm.sz, ?_, ?_⟩, ⟨k.le, fun b hb h => k.heap b hb (h.mask l), fun b hb h => k.store b hb (h.mask l), k.size, fun id b h h' => (k.new id b h h').imp (fun h => h) fun ⟨id', a, b, c⟩ => ⟨id', a, (mask_live b).1, c⟩, k.tnew, k.ro, ?_, ?_, k.nt, k.lv, ?_, k.fz, fun id h => k.ns id (by simpa [maskH, deadL_len] using h), k.so⟩⟩
  · intro id es el h
    rw [mergeH_get _ _ _ hl] at h
    split at h
    · rename_i hc
      obtain ⟨b, c, T, h1, h2, h3, h4, h5, h6⟩ := hi.bx id es el h
      have hb := hi.sz _ _ h1
      have hs := hin id hc.1 ⟨_, h, trivial⟩ b h1
      exact ⟨b, c, T, k.le.σ _ _ h1, by rw [k.heap b hb hs]; exact h2, h3, h4, fun i hi' j hj => let ⟨v, e, x⟩ := h5 i hi' j hj; ⟨v, e, x.mono k.le⟩, fun o => by rw [k.store b hb hs]; exact h6 o⟩
    · exact hm.bx id es el h
  · intro id es h
    rw [mergeH_get _ _ _ hl] at h
    split at h
    · rename_i hc
      obtain ⟨b, c, T, h1, h2, h3, h4, h5⟩ := hi.mp id es h
      have hb := hi.sz _ _ h1
      have hs := hin id hc.1 ⟨_, h, trivial⟩ b h1
      exact ⟨b, c, T, k.le.σ _ _ h1, by rw [k.heap b hb hs]; exact h2, h3, fun i hi' => let ⟨e, a, x, y⟩ := h4 i hi'; ⟨e, a, x.mono k.le, y.mono k.le⟩, fun o => by rw [k.store b hb hs]; exact h5 o⟩
    · exact hm.mp id es h
  · intro i j b h1 h2 h3 h4
    rcases hlive i h1 with ⟨i1, i2⟩ | ⟨i1, i2⟩ <;> rcases hlive j h2 with ⟨j1, j2⟩ | ⟨j1, j2⟩
    · obtain ⟨bi, hbi⟩ := hold i i2
      obtain ⟨bj, hbj⟩ := hold j j2
      have e1 := k.le.σ _ _ hbi
      have e2 := k.le.σ _ _ hbj
      rw [h3] at e1; cases e1
      rw [h4] at e2; cases e2
      exact hi.inj i j b i2 j2 hbi hbj
    · exact hdiff i j b i1 i2 j1 j2 h3 h4
    · exact (hdiff j i b j1 j2 i1 i2 h4 h3).symm
    · exact hm.inj i j b i1 j1 h3 h4
  · intro id h
    exact hm.sd id (by simpa [mergeH, backL_len] using h)
  · intro t b lo hi' h1 h2
    obtain ⟨x, y, z⟩ := hm.tk t b lo hi' h1 h2
    refine ⟨x, y, fun id hl' hσ => ?_⟩
    rcases hlive id hl' with ⟨i1, i2⟩ | ⟨i1, _⟩
    · obtain ⟨bi, hbi⟩ := hold id i2
      have e1 := k.le.σ _ _ hbi
      rw [hσ] at e1; cases e1
      have hs := hin id i1 i2 b hbi
      have hbs := hi.sz _ _ hbi
      cases e : g.τ t with
      | none =>
        rcases k.tnew t b lo hi' e h2 with h | ⟨t', lo', hi2, h3, h4⟩
        · omega
        · exact hs.2 t' lo' hi2 h3 h4
      | some x =>
        have e2 := k.le.τ _ _ e
        rw [h2] at e2
        cases e2
        rcases k.lv t h1 with h | h
        · exact hs.2 t lo hi' h e
        · have := hi.td t h; rw [this] at e; cases e
    · exact z id i1 hσ
  · simpa [mergeH, backL_len] using hm.ro
  · intro id b c T m h1 h2 h3
    rcases hlive id h1 with ⟨i1, i2⟩ | ⟨i1, _⟩
    · obtain ⟨bi, hbi⟩ := hold id i2
      have e1 := k.le.σ _ _ hbi
      rw [h2] at e1; cases e1
      rw [k.le.κ _ _ hbi]
      rw [k.heap b (hi.sz _ _ hbi) (hin id i1 i2 b hbi)] at h3
      exact hi.rm id b c T m i2 hbi h3
    · exact hm.rm id b c T m i1 h2 h3
  · simpa [mergeH, backL_len] using hl
  · intro id h
    rw [mergeH_get _ _ _ hl]
    have hnl : id ∉ l := fun hid => by have := hsl id hid; omega
    rw [if_neg (fun hc => hnl hc.1), k.bx id h, maskH_get, if_neg (fun hc => hnl hc.1)]
  · intro id b h h'
    rcases hlive id h' with ⟨_, i2⟩ | ⟨i1, _⟩
    · exact i2
    · exact (mask_live (k.al id b h i1)).1

/-- A new box in a slot that was dead. -/
theorem inv_fill (hi : Inv g H w) {id : Nat} (hid : H.bx[id]? = some .dead) (hσ : g.σ id = none) (hro : H.ro ≤ id) (ob : Obj) (bo : Box) (hz : okObj ob)
    (hc : ∀ es el, bo = .cells es el → ∃ c T, ob = .cells c T (0, 0) ∧ (∀ i (hi : i < el.length), (el[i]).length = es) ∧ el.length * es ≤ c.size ∧
      ∀ i (hi : i < el.length) j (hj : j < (el[i]).length), ∃ v, c[i * es + j]? = some v ∧ V g ((el[i])[j]) v)
    (hm : ∀ es, bo ≠ .map es) (N : Nat) (hN : N ≤ id) :
    Inv (g.link id w.heap.size) (setB H id bo) (w.alloc ob) ∧ KeepN N g H w (g.link id w.heap.size) (setB H id bo) (w.alloc ob) := by
  have hidlt := get_lt hid
  have hle : g.Le (g.link id w.heap.size) := ⟨fun _ _ _ h => h, fun i b h => by
    simp only [Gh.link]
    split
    · rename_i e; subst e; rw [hσ] at h; cases h
    · exact h, fun _ _ h => h, fun i b h => by
    simp only [Gh.link]
    rw [if_neg (fun e => by subst e; rw [hσ] at h; cases h)]⟩
  have hσo : ∀ i, i ≠ id → (g.link id w.heap.size).σ i = g.σ i := fun i h => by simp [Gh.link, h]
  have hσn : (g.link id w.heap.size).σ id = some w.heap.size := by simp [Gh.link]
  have hget : ∀ i, i ≠ id → (setB H id bo).bx[i]? = H.bx[i]? := fun i h => by simp [setB, List.getElem?_set_ne (Ne.symm h)]
  have hgetn : (setB H id bo).bx[id]? = some bo := by simp [setB, hidlt]
  have hlive : ∀ i, (setB H id bo).liveAt i → (i ≠ id ∧ H.liveAt i) ∨ i = id := fun i ⟨x, hx, ha⟩ => by
    by_cases e : i = id
    · exact .inr e
    · rw [hget i e] at hx; exact .inl ⟨e, x, hx, ha⟩
  refine ⟨⟨?_, ?_, ?_, ?_, ?_, hi.td, ?_, hi.tinj, hi.nd, hi.lt, ?_, ?_, ?_⟩, ⟨hle, ?_, fun _ _ _ _ => rfl, ?_, ?_, ?_, rfl, ?_, ?_, Nat.le_refl _, fun _ h => .inl h, ?_, ?_, fun i h h' => (hσo i (by omega)).trans h', ⟨rfl, rfl⟩⟩⟩
  · intro b o v h
    rw [cell_of_heap (heap_alloc_lt w ob (hi.S_lt h))]
    exact hi.st _ _ _ h
  · intro i es el h
    by_cases e : i = id
    · subst e
      rw [hgetn] at h
      obtain ⟨c, T, rfl, h3, h4, h5⟩ := hc es el (by simpa using h)
      exact ⟨_, c, T, hσn, heap_alloc_new w _, h3, h4, fun i hi' j hj => let ⟨v, e, x⟩ := h5 i hi' j hj; ⟨v, e, x.mono hle⟩, fun o => hi.S_new (Nat.le_refl _)⟩
    · rw [hget i e] at h
      obtain ⟨b, c, T, h1, h2, h3, h4, h5, h6⟩ := hi.bx i es el h
      exact ⟨b, c, T, by rw [hσo i e]; exact h1, by rw [heap_alloc_lt w ob (hi.sz _ _ h1)]; exact h2, h3, h4, fun i hi' j hj => let ⟨v, e, x⟩ := h5 i hi' j hj; ⟨v, e, x.mono hle⟩, h6⟩
  · intro i es h
    by_cases e : i = id
    · subst e
      rw [hgetn] at h
      exact (hm es (by simpa using h)).elim
    · rw [hget i e] at h
      obtain ⟨b, c, T, h1, h2, h3, h4, h5⟩ := hi.mp i es h
      exact ⟨b, c, T, by rw [hσo i e]; exact h1, by rw [heap_alloc_lt w ob (hi.sz _ _ h1)]; exact h2, h3, fun i hi' => let ⟨e, a, x, y⟩ := h4 i hi'; ⟨e, a, x.mono hle, y.mono hle⟩, h5⟩
  · intro i j b h1 h2 h3 h4
    rcases hlive i h1 with ⟨l1, h1⟩ | rfl <;> rcases hlive j h2 with ⟨l2, h2⟩ | rfl
    · rw [hσo _ l1] at h3; rw [hσo _ l2] at h4; exact hi.inj i j b h1 h2 h3 h4
    · rw [hσo _ l1] at h3; rw [hσn] at h4; cases h4; have := hi.sz _ _ h3; omega
    · rw [hσo _ l2] at h4; rw [hσn] at h3; cases h3; have := hi.sz _ _ h4; omega
    · rfl
  · intro i h
    have h : H.bx.length ≤ i := by simpa [setB] using h
    rw [hσo i (by omega)]
    exact hi.sd i h
  · intro t b lo hi' h1 h2
    obtain ⟨⟨c, T, h3, h4⟩, h5, h6⟩ := hi.tk t b lo hi' h1 h2
    have hb : b < w.heap.size := by
      rcases Nat.lt_or_ge b w.heap.size with h | h
      · exact h
      · simp [Array.getElem?_eq_none h] at h3
    refine ⟨⟨c, T, by rw [heap_alloc_lt w ob hb]; exact h3, h4⟩, h5, fun i hl => ?_⟩
    rcases hlive i hl with ⟨l, hl⟩ | rfl
    · rw [hσo _ l]; exact h6 i hl
    · rw [hσn]; intro e; cases e; omega
  · intro i b h
    rw [World.size_alloc]
    by_cases e : i = id
    · subst e; rw [hσn] at h; cases h; omega
    · rw [hσo i e] at h; have := hi.sz _ _ h; omega
  · simpa [setB] using hi.ro
  · intro i b c T m h1 h2 h3
    rcases hlive i h1 with ⟨l, h1⟩ | rfl
    · rw [hσo i l] at h2
      rw [heap_alloc_lt w ob (hi.sz _ _ h2)] at h3
      simp only [Gh.link]
      rw [if_neg l]
      exact hi.rm i b c T m h1 h2 h3
    · simp [Gh.link]
  · intro b hb _
    exact heap_alloc_lt w ob hb
  · rw [World.size_alloc]; omega
  · intro i b h h'
    by_cases e : i = id
    · subst e; rw [hσn] at h'; cases h'; exact .inl (Nat.le_refl _)
    · rw [hσo i e, h] at h'; cases h'
  · intro t b lo hi' h h'
    rw [show (g.link id w.heap.size).τ t = g.τ t from rfl, h] at h'; cases h'
  · simp [setB]
  · intro i h
    exact hget i (by omega)
  · intro i b h h'
    rcases hlive i h' with ⟨_, h'⟩ | rfl
    · exact h'
    · rw [hσ] at h; cases h
  · exact fun a => frozen_alloc w ob hz a

end
end Go.Vm
