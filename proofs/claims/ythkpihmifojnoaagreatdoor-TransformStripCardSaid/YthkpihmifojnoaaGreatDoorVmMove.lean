/-
  A box gives way to a new one, over its own block or over a new block.
-/
import Derived.Test.YthkpihmifojnoaaGreatDoorVmW
import Derived.Laws.IdiomCopy
namespace Go.Vm
section
variable {g : Gh} {H : Heap} {w : World}

theorem size_setCells' (b : Nat) : ∀ (vs : List Value) (o : Nat) (w : World), (w.setCells b o vs).heap.size = w.heap.size
  | [], _, _ => rfl
  | v :: r, o, w => by rw [World.setCells, size_setCells' b r]; simp [World.setCell]

/-- A row into which some cells are written. -/
theorem setCells_row {b : Nat} {c : Array Value} {T : TypeId} {fr : Nat × Nat} (h : w.heap[b]? = some (.cells c T fr)) (vs : List Value) (o : Nat) (hsz : o + vs.length ≤ c.size) :
    ∃ c', (w.setCells b o vs).heap[b]? = some (.cells c' T fr) ∧ c'.size = c.size ∧ (∀ j (hj : j < vs.length), c'[o + j]? = some vs[j]) ∧ (∀ j, j < o ∨ o + vs.length ≤ j → c'[j]? = c[j]?) ∧
      (∀ k, k ≠ b → (w.setCells b o vs).heap[k]? = w.heap[k]?) ∧ (w.setCells b o vs).heap.size = w.heap.size ∧ ((w.setCells b o vs).os = w.os ∧ (w.setCells b o vs).output = w.output) ∧ ∀ a, (w.setCells b o vs).frozen? a = w.frozen? a := by
  have hk := World.keptBut_setCells b (may := fun p => ∃ j, j < vs.length ∧ p = .cell b (o + j)) vs o w (fun j hj => ⟨j, hj, rfl⟩)
  have hb : b < w.heap.size := by
    rcases Nat.lt_or_ge b w.heap.size with h' | h'
    · exact h'
    · simp [Array.getElem?_eq_none h'] at h
  have hs := size_setCells' b vs o w
  have hcell : ∀ j, w.cell? ⟨b, j, none⟩ = c[j]? := fun j => by simp [World.cell?, h]
  have hin := World.cell?_setCells_in b vs o w (fun j hj => by rw [hcell, Array.getElem?_eq_getElem (by omega)]; rfl)
  have h1 := hk.2.2 b hb
  rw [h] at h1
  cases h2 : (w.setCells b o vs).heap[b]? with
  | none => rw [h2] at h1; exact absurd h1 (by simp)
  | some ob =>
    rw [h2] at h1
    cases ob with
    | cells c' T' fr' =>
      obtain ⟨rfl, rfl, h3, h4⟩ := h1
      refine ⟨c', rfl, h3, fun j hj => ?_, fun j hj => h4 j ?_, fun k hne => ?_, hs, ⟨hk.1, hk.2.1⟩, World.frozen?_setCells b vs o w⟩
      · have := hin j hj
        simpa [World.cell?, h2] using this
      · rintro ⟨i, hi, e⟩
        simp only [MemPlace.cell.injEq, true_and] at e
        omega
      · rcases Nat.lt_or_ge k w.heap.size with hlt | hge
        · have h5 := hk.2.2 k hlt
          rw [Array.getElem?_eq_getElem hlt] at h5 ⊢
          rw [Array.getElem?_eq_getElem (by omega)] at h5 ⊢
          generalize w.heap[k] = x at h5
          generalize (w.setCells b o vs).heap[k]'(by omega) = y at h5
          cases x with
          | cells cx tx fx =>
            cases y with
            | cells cy ty fy =>
              obtain ⟨rfl, rfl, h6, h7⟩ := h5
              have : cy = cx := Array.ext_getElem? fun j => h7 j (by rintro ⟨i, _, e⟩; simp only [MemPlace.cell.injEq] at e; exact hne e.1)
              rw [this]
            | _ => simp at h5
          | map es cl =>
            cases y with
            | map es' cl' =>
              simp only at h5
              rcases h5 with ⟨i, _, e⟩ | ⟨rfl, rfl⟩
              · cases e
              · rfl
            | _ => simp at h5
          | _ => cases y <;> simp_all
        · rw [Array.getElem?_eq_none hge, Array.getElem?_eq_none (by omega)]
    | _ => simp at h1

theorem keep_kill {id : Nat} (hro : H.ro ≤ id) (w : World) : Keep g H w g (maskH [id] H) w where
  le := .refl g
  heap _ _ _ := rfl
  store _ _ _ _ := rfl
  size := Nat.le_refl _
  new id b h h' := by rw [h] at h'; cases h'
  tnew t b lo hi h h' := by rw [h] at h'; cases h'
  ro := rfl
  bxl := by simp [maskH, deadL_len]
  bx i h := by
    rw [maskH_get, if_neg]
    rintro ⟨h1, _⟩
    simp only [List.mem_singleton] at h1
    omega
  nt := Nat.le_refl _
  lv t h := .inl h
  al _ _ _ h := (mask_live h).1
  fz _ := rfl
  ns _ _ h := h
  so := ⟨rfl, rfl⟩

/-- A box gives way to one over the same block. -/
theorem inv_move (hi : Inv g H w) {w' : World} {id b : Nat} {old : Box} (hro : H.ro ≤ id) (hid : H.bx[id]? = some old) (hold : old.alive) (hσ : g.σ id = some b)
    (hS : ∀ o, g.S b o = none) (ho : ∀ k, k ≠ b → w'.heap[k]? = w.heap[k]?) (hsz : w'.heap.size = w.heap.size) {c : Array Value} {T : TypeId} (hn : w'.heap[b]? = some (.cells c T (0, 0))) (hfz : ∀ a, w'.frozen? a = w.frozen? a)
    (hso : w'.os = w.os ∧ w'.output = w.output) {es : Nat} {el : List (List PV)} (hw : ∀ i (hi : i < el.length), (el[i]).length = es) (hle : el.length * es ≤ c.size)
    (hv : ∀ i (hi : i < el.length) j (hj : j < (el[i]).length), ∃ v, c[i * es + j]? = some v ∧ V g ((el[i])[j]) v) (K : Nat) (hK : K ≤ c.size) :
    Inv (g.link H.bx.length b K) { H with bx := H.bx.set id .dead ++ [.cells es el] } w' ∧ Keep g H w (g.link H.bx.length b K) { H with bx := H.bx.set id .dead ++ [.cells es el] } w' := by
  have hidl := get_lt hid
  have hb : b < w.heap.size := hi.sz _ _ hσ
  have hlive : H.liveAt id := ⟨old, hid, hold⟩
  have hsn : g.σ H.bx.length = none := hi.sd _ (Nat.le_refl _)
  have hleg : g.Le (g.link H.bx.length b K) := ⟨fun _ _ _ h => h, fun i b h => by
    simp only [Gh.link]
    split
    · rename_i e; subst e; rw [hsn] at h; cases h
    · exact h, fun _ _ h => h, fun i b h => by
    simp only [Gh.link]
    rw [if_neg (fun e => by subst e; rw [hsn] at h; cases h)]⟩
  have hσo : ∀ i, i ≠ H.bx.length → (g.link H.bx.length b K).σ i = g.σ i := fun i h => by simp [Gh.link, h]
  have hσn : (g.link H.bx.length b K).σ H.bx.length = some b := by simp [Gh.link]
  obtain ⟨H', hH'⟩ : ∃ H' : Heap, H' = { H with bx := H.bx.set id .dead ++ [.cells es el] } := ⟨_, rfl⟩
  have hbx : H'.bx = H.bx.set id .dead ++ [.cells es el] := by rw [hH']
  have hget : ∀ i, i < H.bx.length → H'.bx[i]? = if i = id then some .dead else H.bx[i]? := fun i h => by
    rw [hbx, List.getElem?_append_left (by simpa using h), List.getElem?_set]
    by_cases e : i = id
    · subst e; simp [h]
    · simp [e, Ne.symm e]
  have hnew : H'.bx[H.bx.length]? = some (.cells es el) := by
    rw [hbx, List.getElem?_append_right (by simp)]; simp
  have hlen : H'.bx.length = H.bx.length + 1 := by rw [hbx]; simp
  have hcase : ∀ i x, H'.bx[i]? = some x → x ≠ .dead → (i ≠ id ∧ i < H.bx.length ∧ H.bx[i]? = some x) ∨ (i = H.bx.length ∧ x = .cells es el) := fun i x hx hd => by
    have hlt := get_lt hx
    rcases Nat.lt_or_ge i H.bx.length with h | h
    · rw [hget i h] at hx
      split at hx
      · exact (hd (by simpa using hx.symm)).elim
      · rename_i e; exact .inl ⟨e, h, hx⟩
    · have e : i = H.bx.length := by omega
      subst e
      rw [hnew] at hx
      exact .inr ⟨rfl, by simpa using hx.symm⟩
  have hl' : ∀ i, H'.liveAt i → (i ≠ id ∧ i < H.bx.length ∧ H.liveAt i) ∨ i = H.bx.length := fun i ⟨x, hx, ha⟩ => by
    rcases hcase i x hx (fun e => by subst e; exact ha) with ⟨a, b, c⟩ | ⟨a, _⟩
    · exact .inl ⟨a, b, x, c, ha⟩
    · exact .inr a
  have hne : ∀ i k, i ≠ id → H.liveAt i → g.σ i = some k → k ≠ b := fun i k h1 h2 h3 e => h1 (hi.inj i id b h2 hlive (e ▸ h3) hσ)
  rw [← hH']
  have hro' : H'.ro = H.ro := by rw [hH']
  have hnt' : H'.nt = H.nt := by rw [hH']
  have hlv' : H'.live = H.live := by rw [hH']
  refine ⟨⟨?_, ?_, ?_, ?_, ?_, ?_, ?_, ?_, ?_, ?_, ?_, ?_, ?_⟩, ⟨hleg, ?_, fun _ _ _ _ => rfl, ?_, ?_, ?_, hro', ?_, ?_, ?_, ?_, ?_, hfz, ?_, hso⟩⟩
  · intro k o v h
    have : k ≠ b := fun e => by subst e; rw [show (g.link H.bx.length k K).S k o = g.S k o from rfl, hS] at h; cases h
    rw [cell_of_heap (ho k this)]
    exact hi.st _ _ _ h
  · intro i es' el' h
    rcases hcase i _ h (by simp) with ⟨h1, h2, h3⟩ | ⟨h1, h2⟩
    · obtain ⟨k, c', T', a1, a2, a3, a4, a5, a6⟩ := hi.bx i es' el' h3
      exact ⟨k, c', T', by rw [hσo i (by omega)]; exact a1, by rw [ho k (hne i k h1 ⟨_, h3, trivial⟩ a1)]; exact a2, a3, a4, fun i hi' j hj => let ⟨v, e, x⟩ := a5 i hi' j hj; ⟨v, e, x.mono hleg⟩, a6⟩
    · subst h1
      cases h2
      exact ⟨b, c, T, hσn, hn, hw, hle, fun i hi' j hj => let ⟨v, e, x⟩ := hv i hi' j hj; ⟨v, e, x.mono hleg⟩, hS⟩
  · intro i es' h
    rcases hcase i _ h (by simp) with ⟨h1, h2, h3⟩ | ⟨h1, h2⟩
    · obtain ⟨k, c', T', a1, a2, a3, a4, a5⟩ := hi.mp i es' h3
      exact ⟨k, c', T', by rw [hσo i (by omega)]; exact a1, by rw [ho k (hne i k h1 ⟨_, h3, trivial⟩ a1)]; exact a2, a3, fun i hi' => let ⟨e, a, x, y⟩ := a4 i hi'; ⟨e, a, x.mono hleg, y.mono hleg⟩, a5⟩
    · cases h2
  · intro i j k h1 h2 h3 h4
    rcases hl' i h1 with ⟨i1, i2, i3⟩ | rfl <;> rcases hl' j h2 with ⟨j1, j2, j3⟩ | rfl
    · rw [hσo i (by omega)] at h3; rw [hσo j (by omega)] at h4; exact hi.inj i j k i3 j3 h3 h4
    · rw [hσo i (by omega)] at h3; rw [hσn] at h4; cases h4; exact (hne i _ i1 i3 h3 rfl).elim
    · rw [hσo j (by omega)] at h4; rw [hσn] at h3; cases h3; exact (hne j _ j1 j3 h4 rfl).elim
    · rfl
  · intro i h
    rw [hlen] at h
    rw [hσo i (by omega)]
    exact hi.sd i (by omega)
  · intro t h
    exact hi.td t (by rw [← hnt']; exact h)
  · intro t k lo hi' h1 h2
    rw [hlv'] at h1
    obtain ⟨⟨c', T', h3, h4⟩, h5, h6⟩ := hi.tk t k lo hi' h1 h2
    have hkb : k ≠ b := fun e => h6 id hlive (e ▸ hσ)
    refine ⟨⟨c', T', by rw [ho k hkb]; exact h3, h4⟩, h5, fun i hl => ?_⟩
    rcases hl' i hl with ⟨i1, i2, i3⟩ | rfl
    · rw [hσo i (by omega)]; exact h6 i i3
    · rw [hσn]; intro e; cases e; exact hkb rfl
  · intro t t' k lo hi' lo' hi2 h1 h2
    rw [hlv'] at h1 h2
    exact hi.tinj t t' k lo hi' lo' hi2 h1 h2
  · rw [hlv']; exact hi.nd
  · intro t h
    rw [hlv'] at h
    rw [hnt']
    exact hi.lt t h
  · intro i k h
    rw [hsz]
    by_cases e : i = H.bx.length
    · subst e; rw [hσn] at h; cases h; exact hb
    · rw [hσo i e] at h; exact hi.sz _ _ h
  · rw [hro', hlen]; have := hi.ro; omega
  · intro i k c' T' m h1 h2 h3
    rcases hl' i h1 with ⟨i1, i2, i3⟩ | rfl
    · rw [hσo i (by omega)] at h2
      rw [ho k (hne i k i1 i3 h2)] at h3
      simp only [Gh.link]
      rw [if_neg (by omega)]
      exact hi.rm i k c' T' m i3 h2 h3
    · rw [hσn] at h2
      cases h2
      rw [hn] at h3
      cases h3
      simpa [Gh.link] using hK
  · intro k hk hsh
    exact ho k fun e => hsh.1 id hro hlive (e ▸ hσ)
  · rw [hsz]; exact Nat.le_refl _
  · intro i k h h'
    by_cases e : i = H.bx.length
    · subst e; rw [hσn] at h'; cases h'; exact .inr ⟨id, hro, hlive, hσ⟩
    · rw [hσo i e, h] at h'; cases h'
  · intro t k lo hi' h h'
    rw [show (g.link H.bx.length b K).τ t = g.τ t from rfl, h] at h'; cases h'
  · rw [hlen]; omega
  · intro i h
    rw [hget i (by have := hi.ro; omega), if_neg (by omega)]
  · rw [hnt']; exact Nat.le_refl _
  · intro t h
    rw [hlv'] at h; exact .inl h
  · intro i k h h'
    rcases hl' i h' with ⟨_, _, h⟩ | rfl
    · exact h
    · rw [hsn] at h; cases h
  · intro i h h'
    rw [hσo i (by omega)]; exact h'

/-- A box gives way to one over a new block. -/
theorem inv_regrow (hi : Inv g H w) {w' : World} {id : Nat} (hro : H.ro ≤ id) {F : Array Value} {T : TypeId} (hh : w'.heap = (w.alloc (.cells F T)).heap) (hso : w'.os = w.os ∧ w'.output = w.output)
    {es : Nat} {el : List (List PV)} (hw : ∀ i (hi : i < el.length), (el[i]).length = es) (hle : el.length * es ≤ F.size)
    (hv : ∀ i (hi : i < el.length) j (hj : j < (el[i]).length), ∃ v, F[i * es + j]? = some v ∧ V g ((el[i])[j]) v) (K : Nat) (hK : K ≤ F.size) :
    Inv (g.link H.bx.length w.heap.size K) { H with bx := H.bx.set id .dead ++ [.cells es el] } w' ∧ Keep g H w (g.link H.bx.length w.heap.size K) { H with bx := H.bx.set id .dead ++ [.cells es el] } w' := by
  have hl : (maskH [id] H).bx.length = H.bx.length := by simp [maskH, deadL_len]
  obtain ⟨i1, k1⟩ := inv_push (inv_mask hi [id]) (.cells F T) (.cells es el) rfl (fun es0 el0 h0 => by cases h0; exact ⟨F, T, rfl, hw, hle, hv⟩) (fun es h => by cases h) K (fun c T m h => by cases h; exact hK)
  rw [hl] at i1 k1
  have k2 : Keep (g.link H.bx.length w.heap.size K) ((maskH [id] H).push (.cells es el)) (w.alloc (.cells F T)) (g.link H.bx.length w.heap.size K) ((maskH [id] H).push (.cells es el)) w' := .same hh hso
  have k3 := (keep_kill hro w).then hi k1
  exact ⟨i1.same hh, KeepN.then k3 hi k2⟩
end
end Go.Vm
