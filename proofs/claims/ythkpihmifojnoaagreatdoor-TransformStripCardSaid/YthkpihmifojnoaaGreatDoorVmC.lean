/-
  Steps of the relation between abstract heaps and worlds: new blocks, writes, draws.
-/
import Derived.Test.YthkpihmifojnoaaGreatDoorVmB
import Derived.Laws.CopyRow
import Derived.Laws.Tables
namespace Go.Vm

theorem Inv.S_lt {g : Gh} {H : Heap} {w : World} (hi : Inv g H w) {b o : Nat} {v : Value} (h : g.S b o = some v) : b < w.heap.size := by
  have := hi.st _ _ _ h
  rcases Nat.lt_or_ge b w.heap.size with h' | h'
  · exact h'
  · simp [World.cell?, Array.getElem?_eq_none h'] at this

theorem Inv.S_new {g : Gh} {H : Heap} {w : World} (hi : Inv g H w) {b o : Nat} (h : w.heap.size ≤ b) : g.S b o = none := by
  cases e : g.S b o with
  | none => rfl
  | some v => have := hi.S_lt e; omega

theorem cell_of_heap {w w' : World} {b : Nat} (h : w'.heap[b]? = w.heap[b]?) (o : Nat) : w'.cell? ⟨b, o, none⟩ = w.cell? ⟨b, o, none⟩ := by
  simp [World.cell?, h]

/-- A world that differs in the tape's place alone. -/
theorem Inv.same {g : Gh} {H : Heap} {w w' : World} (hi : Inv g H w) (h : w'.heap = w.heap) : Inv g H w' where
  st b o v hs := by rw [cell_of_heap (w := w) (by rw [h])]; exact hi.st b o v hs
  bx id es el hb := by rw [h]; exact hi.bx id es el hb
  mp id es hb := by rw [h]; exact hi.mp id es hb
  inj := hi.inj
  sd := hi.sd
  td := hi.td
  tk t b lo hi' h1 h2 := by rw [h]; exact hi.tk t b lo hi' h1 h2
  tinj := hi.tinj
  nd := hi.nd
  lt := hi.lt
  sz id b h1 := by rw [h]; exact hi.sz id b h1
  ro := hi.ro
  rm id b c T m h1 h2 h3 := hi.rm id b c T m h1 h2 (by rw [← h]; exact h3)

theorem KeepN.same {N : Nat} {g : Gh} {H : Heap} {w w' : World} (h : w'.heap = w.heap) (hso : w'.os = w.os ∧ w'.output = w.output := by exact ⟨rfl, rfl⟩) : KeepN N g H w g H w' where
  le := .refl g
  heap b _ _ := by rw [h]
  store _ _ _ _ := rfl
  size := by rw [h]; exact Nat.le_refl _
  new id b h h' := by rw [h] at h'; cases h'
  tnew t b lo hi h h' := by rw [h] at h'; cases h'
  ro := rfl
  bxl := Nat.le_refl _
  bx _ _ := rfl
  nt := Nat.le_refl _
  lv t h := .inl h
  al _ _ _ h := h
  fz a := by simp [World.frozen?, h]
  ns _ _ h := h
  so := hso

/-- What is frozen of a new block. -/
def Gh.addS (g : Gh) (n : Nat) (s : Nat → Option Value) : Gh := { g with S := fun b o => if b = n then s o else g.S b o }

theorem Gh.addS_le {g : Gh} {n : Nat} {s : Nat → Option Value} (h : ∀ o, g.S n o = none) : g.Le (g.addS n s) where
  S b o v hs := by
    simp only [Gh.addS]
    split
    · rename_i e; subst e; rw [h] at hs; cases hs
    · exact hs
  σ _ _ h := h
  τ _ _ h := h
  κ _ _ _ := rfl

theorem heap_alloc_lt (w : World) (o : Obj) {b : Nat} (h : b < w.heap.size) : (w.alloc o).heap[b]? = w.heap[b]? := by
  show (w.heap.push o)[b]? = _
  simp [Array.getElem?_push, Nat.ne_of_lt h]
theorem heap_alloc_new (w : World) (o : Obj) : (w.alloc o).heap[w.heap.size]? = some o := by
  show (w.heap.push o)[w.heap.size]? = _
  simp
theorem heap_alloc_ge (w : World) (o : Obj) {b : Nat} (h : w.heap.size < b) : (w.alloc o).heap[b]? = none := by
  show (w.heap.push o)[b]? = _
  simp; omega

def okObj : Obj → Prop
  | .cells _ _ fz => fz = (0, 0)
  | _ => True

theorem frozen_alloc (w : World) (o : Obj) (h : okObj o) (a : Addr) : (w.alloc o).frozen? a = w.frozen? a := by
  by_cases e : a.block = w.heap.size
  · have e1 : (w.alloc o).heap[a.block]? = some o := by rw [e]; exact heap_alloc_new w o
    have e2 : w.heap[a.block]? = none := by rw [e]; simp
    simp only [World.frozen?, e1, e2]
    cases o <;> simp_all [okObj]
  · by_cases h' : a.block < w.heap.size
    · simp only [World.frozen?, heap_alloc_lt w o h']
    · have e1 : (w.alloc o).heap[a.block]? = none := heap_alloc_ge w o (by omega)
      have e2 : w.heap[a.block]? = none := by simp; omega
      simp [World.frozen?, e1, e2]

/-- A new block, of which a part is frozen at once; no box. -/
theorem inv_alloc {g : Gh} {H : Heap} {w : World} (hi : Inv g H w) (ob : Obj) (s : Nat → Option Value)
    (hs : ∀ o v, s o = some v → (w.alloc ob).cell? ⟨w.heap.size, o, none⟩ = some v)
    (hz : okObj ob) :
    Inv (g.addS w.heap.size s) H (w.alloc ob) ∧ Keep g H w (g.addS w.heap.size s) H (w.alloc ob) := by
  have hn : ∀ o, g.S w.heap.size o = none := fun o => hi.S_new (Nat.le_refl _)
  have hle := Gh.addS_le (s := s) hn
  have hne : ∀ b o, b ≠ w.heap.size → (g.addS w.heap.size s).S b o = g.S b o := fun b o h => by simp [Gh.addS, h]
  refine ⟨⟨?_, ?_, ?_, hi.inj, hi.sd, hi.td, ?_, hi.tinj, hi.nd, hi.lt, ?_, ?_, fun id b c T m h1 h2 h3 => hi.rm id b c T m h1 h2 (by rw [← heap_alloc_lt w ob (hi.sz _ _ h2)]; exact h3)⟩, ⟨hle, ?_, ?_, ?_, ?_, ?_, rfl, Nat.le_refl _, fun _ _ => rfl, Nat.le_refl _, fun _ h => .inl h, fun _ _ _ h => h, ?_, fun _ _ h => h, ⟨rfl, rfl⟩⟩⟩
  · intro b o v h
    by_cases e : b = w.heap.size
    · subst e
      exact hs o v (by simpa [Gh.addS] using h)
    · rw [hne b o e] at h
      rw [cell_of_heap (heap_alloc_lt w ob (hi.S_lt h))]
      exact hi.st _ _ _ h
  · intro id es el h
    obtain ⟨b, c, T, h1, h2, h3, h4, h5, h6⟩ := hi.bx id es el h
    have hb := hi.sz _ _ h1
    exact ⟨b, c, T, h1, by rw [heap_alloc_lt w ob hb]; exact h2, h3, h4, fun i hi' j hj => let ⟨v, e, x⟩ := h5 i hi' j hj; ⟨v, e, x.mono hle⟩, fun o => by rw [hne b o (by omega)]; exact h6 o⟩
  · intro id es h
    obtain ⟨b, c, T, h1, h2, h3, h4, h5⟩ := hi.mp id es h
    have hb := hi.sz _ _ h1
    exact ⟨b, c, T, h1, by rw [heap_alloc_lt w ob hb]; exact h2, h3, fun i hi' => let ⟨e, a, x, y⟩ := h4 i hi'; ⟨e, a, x.mono hle, y.mono hle⟩, fun o => by rw [hne b o (by omega)]; exact h5 o⟩
  · intro t b lo hi' h1 h2
    obtain ⟨⟨c, T, h3, h4⟩, h5, h6⟩ := hi.tk t b lo hi' h1 h2
    have hb : b < w.heap.size := by
      rcases Nat.lt_or_ge b w.heap.size with h | h
      · exact h
      · simp [Array.getElem?_eq_none h] at h3
    exact ⟨⟨c, T, by rw [heap_alloc_lt w ob hb]; exact h3, h4⟩, fun o ho => by rw [hne b o (by omega)]; exact h5 o ho, h6⟩
  · intro id b h
    have := hi.sz _ _ h
    rw [World.size_alloc]; omega
  · exact hi.ro
  · intro b hb _
    exact heap_alloc_lt w ob hb
  · intro b hb _ o
    exact hne b o (by omega)
  · rw [World.size_alloc]; omega
  · intro id b h h'
    rw [show (g.addS w.heap.size s).σ id = g.σ id from rfl, h] at h'; cases h'
  · intro t b lo hi' h h'
    rw [show (g.addS w.heap.size s).τ t = g.τ t from rfl, h] at h'; cases h'
  · exact fun a => frozen_alloc w ob hz a

/-- The cells of a row, all of them frozen. -/
def rowS (c : Array Value) (k : Nat) : Nat → Option Value := fun o => if o < k then c[o]? else none

theorem inv_row {g : Gh} {H : Heap} {w : World} (hi : Inv g H w) (c : Array Value) (T : TypeId) (k : Nat) :
    Inv (g.addS w.heap.size (rowS c k)) H (w.alloc (.cells c T)) ∧ Keep g H w (g.addS w.heap.size (rowS c k)) H (w.alloc (.cells c T)) :=
  inv_alloc hi _ _ (fun o v h => by
    simp only [rowS] at h
    split at h
    · rw [World.cell?_alloc_new]; exact h
    · cases h) rfl

def Gh.link (g : Gh) (id b : Nat) (K : Nat := 0) : Gh := { g with σ := fun i => if i = id then some b else g.σ i, κ := fun i => if i = id then K else g.κ i }

theorem liveAt_push {H : Heap} {b : Box} {i : Nat} (h : (H.push b).liveAt i) : (i < H.bx.length ∧ H.liveAt i) ∨ i = H.bx.length := by
  obtain ⟨x, hx, ha⟩ := h
  simp only [Heap.push] at hx
  rcases Nat.lt_trichotomy i H.bx.length with h | h | h
  · exact .inl ⟨h, x, by rwa [List.getElem?_append_left h] at hx, ha⟩
  · exact .inr h
  · simp [List.getElem?_append_right (Nat.le_of_lt h)] at hx
    have : i - H.bx.length ≠ 0 := by omega
    simp [this] at hx

theorem push_get {H : Heap} {b : Box} {i : Nat} (h : i < H.bx.length) : (H.push b).bx[i]? = H.bx[i]? := by simp [Heap.push, List.getElem?_append_left h]
theorem push_new {H : Heap} {b : Box} : (H.push b).bx[H.bx.length]? = some b := by simp [Heap.push]

/-- A new box over a new block. -/
theorem inv_push {g : Gh} {H : Heap} {w : World} (hi : Inv g H w) (ob : Obj) (bo : Box)
    (hz : okObj ob)
    (hc : ∀ es el, bo = .cells es el → ∃ c T, ob = .cells c T (0, 0) ∧ (∀ i (hi : i < el.length), (el[i]).length = es) ∧ el.length * es ≤ c.size ∧
      ∀ i (hi : i < el.length) j (hj : j < (el[i]).length), ∃ v, c[i * es + j]? = some v ∧ V g ((el[i])[j]) v)
    (hm : ∀ es, bo = .map es → ∃ ents clk, ob = .map ents clk ∧ ents.size = es.length ∧ ∀ i (hi : i < es.length), ∃ e, ents[i]? = some e ∧ V g (es[i]).1 e.key ∧ V g (es[i]).2 e.val) (K : Nat := 0) (hK : ∀ c T m, ob = .cells c T m → K ≤ c.size := by intros; exact Nat.zero_le _) :
    Inv (g.link H.bx.length w.heap.size K) (H.push bo) (w.alloc ob) ∧ Keep g H w (g.link H.bx.length w.heap.size K) (H.push bo) (w.alloc ob) := by
  have hsn : g.σ H.bx.length = none := hi.sd _ (Nat.le_refl _)
  have hle : g.Le (g.link H.bx.length w.heap.size K) := ⟨fun _ _ _ h => h, fun i b h => by
    simp only [Gh.link]
    split
    · rename_i e; subst e; rw [hsn] at h; cases h
    · exact h, fun _ _ h => h, fun i b h => by
    simp only [Gh.link]
    rw [if_neg (fun e => by subst e; rw [hsn] at h; cases h)]⟩
  have hσ : ∀ i, i < H.bx.length → (g.link H.bx.length w.heap.size K).σ i = g.σ i := fun i h => by simp [Gh.link, Nat.ne_of_lt h]
  have hσn : (g.link H.bx.length w.heap.size K).σ H.bx.length = some w.heap.size := by simp [Gh.link]
  have hlt : ∀ i b, H.bx[i]? = some b → i < H.bx.length := fun i b h => by
    rcases Nat.lt_or_ge i H.bx.length with h' | h'
    · exact h'
    · simp [List.getElem?_eq_none h'] at h
  refine ⟨⟨?_, ?_, ?_, ?_, ?_, hi.td, ?_, hi.tinj, hi.nd, hi.lt, ?_, ?_, ?_⟩, ⟨hle, ?_, fun _ _ _ _ => rfl, ?_, ?_, ?_, rfl, ?_, ?_, Nat.le_refl _, fun _ h => .inl h, ?_, ?_, fun i h h' => (hσ i h).trans h', ⟨rfl, rfl⟩⟩⟩
  · intro b o v h
    rw [cell_of_heap (heap_alloc_lt w ob (hi.S_lt h))]
    exact hi.st _ _ _ h
  · intro id es el h
    by_cases e : id < H.bx.length
    · rw [push_get e] at h
      obtain ⟨b, c, T, h1, h2, h3, h4, h5, h6⟩ := hi.bx id es el h
      exact ⟨b, c, T, by rw [hσ id e]; exact h1, by rw [heap_alloc_lt w ob (hi.sz _ _ h1)]; exact h2, h3, h4, fun i hi' j hj => let ⟨v, e, x⟩ := h5 i hi' j hj; ⟨v, e, x.mono hle⟩, h6⟩
    · have : id = H.bx.length := by
        rcases liveAt_push ⟨_, h, trivial⟩ with h' | h'
        · exact absurd h'.1 e
        · exact h'
      subst this
      rw [push_new] at h
      obtain ⟨c, T, rfl, h3, h4, h5⟩ := hc es el (by simpa using h)
      exact ⟨_, c, T, hσn, heap_alloc_new w _, h3, h4, fun i hi' j hj => let ⟨v, e, x⟩ := h5 i hi' j hj; ⟨v, e, x.mono hle⟩, fun o => hi.S_new (Nat.le_refl _)⟩
  · intro id es h
    by_cases e : id < H.bx.length
    · rw [push_get e] at h
      obtain ⟨b, c, T, h1, h2, h3, h4, h5⟩ := hi.mp id es h
      exact ⟨b, c, T, by rw [hσ id e]; exact h1, by rw [heap_alloc_lt w ob (hi.sz _ _ h1)]; exact h2, h3, fun i hi' => let ⟨e, a, x, y⟩ := h4 i hi'; ⟨e, a, x.mono hle, y.mono hle⟩, h5⟩
    · have : id = H.bx.length := by
        rcases liveAt_push ⟨_, h, trivial⟩ with h' | h'
        · exact absurd h'.1 e
        · exact h'
      subst this
      rw [push_new] at h
      obtain ⟨ents, clk, rfl, h3, h4⟩ := hm es (by simpa using h)
      exact ⟨_, ents, clk, hσn, heap_alloc_new w _, h3, fun i hi' => let ⟨e, a, x, y⟩ := h4 i hi'; ⟨e, a, x.mono hle, y.mono hle⟩, fun o => hi.S_new (Nat.le_refl _)⟩
  · intro i j b h1 h2 h3 h4
    rcases liveAt_push h1 with ⟨l1, h1⟩ | rfl <;> rcases liveAt_push h2 with ⟨l2, h2⟩ | rfl
    · rw [hσ _ l1] at h3; rw [hσ _ l2] at h4; exact hi.inj i j b h1 h2 h3 h4
    · rw [hσ _ l1] at h3; rw [hσn] at h4; cases h4; have := hi.sz _ _ h3; omega
    · rw [hσ _ l2] at h4; rw [hσn] at h3; cases h3; have := hi.sz _ _ h4; omega
    · rfl
  · intro id h
    simp only [Heap.push, List.length_append, List.length_singleton] at h
    simp only [Gh.link]
    rw [if_neg (by omega)]
    exact hi.sd id (by omega)
  · intro t b lo hi' h1 h2
    obtain ⟨⟨c, T, h3, h4⟩, h5, h6⟩ := hi.tk t b lo hi' h1 h2
    have hb : b < w.heap.size := by
      rcases Nat.lt_or_ge b w.heap.size with h | h
      · exact h
      · simp [Array.getElem?_eq_none h] at h3
    refine ⟨⟨c, T, by rw [heap_alloc_lt w ob hb]; exact h3, h4⟩, h5, fun id hl => ?_⟩
    rcases liveAt_push hl with ⟨l, hl⟩ | rfl
    · rw [hσ _ l]; exact h6 id hl
    · rw [hσn]; intro e; cases e; omega
  · intro id b h
    by_cases e : id = H.bx.length
    · subst e; rw [hσn] at h; cases h; rw [World.size_alloc]; omega
    · have : g.σ id = some b := by simpa [Gh.link, e] using h
      have := hi.sz _ _ this
      rw [World.size_alloc]; omega
  · simp only [Heap.push, List.length_append]; have := hi.ro; omega
  · intro id b c T m h1 h2 h3
    rcases liveAt_push h1 with ⟨l, h1⟩ | rfl
    · rw [hσ _ l] at h2
      rw [heap_alloc_lt w ob (hi.sz _ _ h2)] at h3
      simp only [Gh.link]
      rw [if_neg (by omega)]
      exact hi.rm id b c T m h1 h2 h3
    · rw [hσn] at h2
      cases h2
      rw [heap_alloc_new] at h3
      simp only [Gh.link, if_true]
      exact hK c T m (by simpa using h3)
  · intro b hb _
    exact heap_alloc_lt w ob hb
  · rw [World.size_alloc]; omega
  · intro id b h h'
    by_cases e : id = H.bx.length
    · subst e; rw [hσn] at h'; cases h'; exact .inl (Nat.le_refl _)
    · have : g.σ id = some b := by simpa [Gh.link, e] using h'
      rw [h] at this; cases this
  · intro t b lo hi' h h'
    rw [show (g.link H.bx.length w.heap.size K).τ t = g.τ t from rfl, h] at h'; cases h'
  · simp [Heap.push]
  · intro id h
    exact push_get (Nat.lt_of_lt_of_le h hi.ro)
  · intro id b h h'
    rcases liveAt_push h' with ⟨_, h'⟩ | rfl
    · exact h'
    · rw [hsn] at h; cases h
  · exact fun a => frozen_alloc w ob hz a

theorem liveAt_set {H : Heap} {b : Box} {id i : Nat} (h : ({ H with bx := H.bx.set id b } : Heap).liveAt i) : (i ≠ id ∧ H.liveAt i) ∨ (i = id ∧ b.alive ∧ id < H.bx.length) := by
  obtain ⟨x, hx, ha⟩ := h
  by_cases e : i = id
  · subst e
    by_cases hl : i < H.bx.length
    · simp [hl] at hx
      subst hx
      exact .inr ⟨rfl, ha, hl⟩
    · simp [hl] at hx
  · exact .inl ⟨e, x, by simpa [List.getElem?_set, Ne.symm e] using hx, ha⟩

/-- A box is written. -/
theorem inv_put {g : Gh} {H : Heap} {w w' : World} (hi : Inv g H w) {id b : Nat} {bo old : Box} {ob : Obj} (hro : H.ro ≤ id) (hid : H.bx[id]? = some old) (hold : old.alive) (hσ : g.σ id = some b)
    (hS : ∀ o, g.S b o = none) (ho : ∀ k, k ≠ b → w'.heap[k]? = w.heap[k]?) (hsz : w'.heap.size = w.heap.size) (hn : w'.heap[b]? = some ob) (hfz : ∀ a, w'.frozen? a = w.frozen? a)
    (hc : ∀ es el, bo = .cells es el → ∃ c T, ob = .cells c T (0, 0) ∧ (∀ i (hi : i < el.length), (el[i]).length = es) ∧ el.length * es ≤ c.size ∧
      ∀ i (hi : i < el.length) j (hj : j < (el[i]).length), ∃ v, c[i * es + j]? = some v ∧ V g ((el[i])[j]) v)
    (hm : ∀ es, bo = .map es → ∃ ents clk, ob = .map ents clk ∧ ents.size = es.length ∧ ∀ i (hi : i < es.length), ∃ e, ents[i]? = some e ∧ V g (es[i]).1 e.key ∧ V g (es[i]).2 e.val)
    (hrm : ∀ c T m, ob = .cells c T m → g.κ id ≤ c.size) (hso : w'.os = w.os ∧ w'.output = w.output) :
    Inv g { H with bx := H.bx.set id bo } w' ∧ Keep g H w g { H with bx := H.bx.set id bo } w' := by
  have hlen : id < H.bx.length := by
    rcases Nat.lt_or_ge id H.bx.length with h' | h'
    · exact h'
    · simp [List.getElem?_eq_none h'] at hid
  have hlive : H.liveAt id := ⟨old, hid, hold⟩
  have hne : ∀ i k, i ≠ id → H.liveAt i → g.σ i = some k → k ≠ b := fun i k h1 h2 h3 e => h1 (hi.inj i id b h2 hlive (e ▸ h3) hσ)
  have hget : ∀ i, i ≠ id → ({ H with bx := H.bx.set id bo } : Heap).bx[i]? = H.bx[i]? := fun i h => by simp [Ne.symm h]
  have hgetn : ({ H with bx := H.bx.set id bo } : Heap).bx[id]? = some bo := by simp [hlen]
  refine ⟨⟨?_, ?_, ?_, ?_, ?_, hi.td, ?_, hi.tinj, hi.nd, hi.lt, ?_, ?_, ?_⟩, ⟨.refl g, ?_, fun _ _ _ _ => rfl, ?_, ?_, ?_, rfl, ?_, ?_, Nat.le_refl _, fun _ h => .inl h, ?_, hfz, fun _ _ h => h, hso⟩⟩
  · intro k o v h
    have : k ≠ b := fun e => by subst e; rw [hS] at h; cases h
    rw [cell_of_heap (ho k this)]
    exact hi.st _ _ _ h
  · intro i es el h
    by_cases e : i = id
    · subst e
      rw [hgetn] at h
      obtain ⟨c, T, rfl, h3, h4, h5⟩ := hc es el (by simpa using h)
      exact ⟨b, c, T, hσ, hn, h3, h4, h5, hS⟩
    · rw [hget i e] at h
      obtain ⟨k, c, T, h1, h2, h3, h4, h5, h6⟩ := hi.bx i es el h
      exact ⟨k, c, T, h1, by rw [ho k (hne i k e ⟨_, h, trivial⟩ h1)]; exact h2, h3, h4, h5, h6⟩
  · intro i es h
    by_cases e : i = id
    · subst e
      rw [hgetn] at h
      obtain ⟨c, T, rfl, h3, h4⟩ := hm es (by simpa using h)
      exact ⟨b, c, T, hσ, hn, h3, h4, hS⟩
    · rw [hget i e] at h
      obtain ⟨k, c, T, h1, h2, h3, h4, h5⟩ := hi.mp i es h
      exact ⟨k, c, T, h1, by rw [ho k (hne i k e ⟨_, h, trivial⟩ h1)]; exact h2, h3, h4, h5⟩
  · intro i j k h1 h2 h3 h4
    have a1 : H.liveAt i := by
      rcases liveAt_set h1 with ⟨_, h⟩ | ⟨rfl, _⟩
      · exact h
      · exact hlive
    have a2 : H.liveAt j := by
      rcases liveAt_set h2 with ⟨_, h⟩ | ⟨rfl, _⟩
      · exact h
      · exact hlive
    exact hi.inj i j k a1 a2 h3 h4
  · intro i h
    exact hi.sd i (by simpa using h)
  · intro t k lo hi' h1 h2
    obtain ⟨⟨c, T, h3, h4⟩, h5, h6⟩ := hi.tk t k lo hi' h1 h2
    have hkb : k ≠ b := fun e => h6 id hlive (e ▸ hσ)
    refine ⟨⟨c, T, by rw [ho k hkb]; exact h3, h4⟩, h5, fun i hl => ?_⟩
    rcases liveAt_set hl with ⟨_, hl⟩ | ⟨rfl, _⟩
    · exact h6 i hl
    · exact h6 i hlive
  · intro i k h
    rw [hsz]; exact hi.sz _ _ h
  · simpa using hi.ro
  · intro i k c T m h1 h2 h3
    rcases liveAt_set h1 with ⟨e, h1⟩ | ⟨rfl, _⟩
    · rw [ho k (hne i k e h1 h2)] at h3
      exact hi.rm i k c T m h1 h2 h3
    · rw [hσ] at h2
      cases h2
      rw [hn] at h3
      exact hrm c T m (by simpa using h3)
  · intro k hk hsh
    exact ho k fun e => hsh.1 id hro hlive (e ▸ hσ)
  · rw [hsz]; exact Nat.le_refl _
  · intro i k h h'; rw [h] at h'; cases h'
  · intro t k lo hi' h h'; rw [h] at h'; cases h'
  · simp
  · intro i h
    exact hget i (by omega)
  · intro i k h h'
    rcases liveAt_set h' with ⟨_, h'⟩ | ⟨rfl, _⟩
    · exact h'
    · exact hlive

def Gh.tok (g : Gh) (t : Nat) (x : Nat × Nat × Nat) : Gh := { g with τ := fun i => if i = t then some x else g.τ i }

/-- An append into a new block: its used cells are frozen, the rest belongs to a new token; an elder token may be given up. -/
theorem inv_append_new {g : Gh} {H : Heap} {w : World} (hi : Inv g H w) (c : Array Value) (T : TypeId) (k m : Nat) (hm : m ≤ c.size) (l : List Nat) (hl : l.Sublist H.live) :
    Inv ((g.addS w.heap.size (rowS c k)).tok H.nt (w.heap.size, k, m)) { H with nt := H.nt + 1, live := H.nt :: l } (w.alloc (.cells c T)) ∧
    Keep g H w ((g.addS w.heap.size (rowS c k)).tok H.nt (w.heap.size, k, m)) { H with nt := H.nt + 1, live := H.nt :: l } (w.alloc (.cells c T)) := by
  obtain ⟨i1, k1⟩ := inv_row hi c T k
  have htn : g.τ H.nt = none := hi.td _ (Nat.le_refl _)
  have hle : (g.addS w.heap.size (rowS c k)).Le ((g.addS w.heap.size (rowS c k)).tok H.nt (w.heap.size, k, m)) := ⟨fun _ _ _ h => h, fun _ _ h => h, fun t x h => by
    simp only [Gh.tok]
    split
    · rename_i e; subst e; rw [show (g.addS w.heap.size (rowS c k)).τ H.nt = g.τ H.nt from rfl, htn] at h; cases h
    · exact h, fun _ _ _ => rfl⟩
  have hτ : ∀ t, t ≠ H.nt → ((g.addS w.heap.size (rowS c k)).tok H.nt (w.heap.size, k, m)).τ t = g.τ t := fun t h => by simp [Gh.tok, h, Gh.addS]
  have hτn : ((g.addS w.heap.size (rowS c k)).tok H.nt (w.heap.size, k, m)).τ H.nt = some (w.heap.size, k, m) := by simp [Gh.tok]
  have hold : ∀ t, t ∈ l → t ≠ H.nt := fun t h e => by have := hi.lt t (hl.subset h); omega
  have hblk : ∀ t b lo hi', t ∈ l → g.τ t = some (b, lo, hi') → b < w.heap.size := fun t b lo hi' h1 h2 => by
    obtain ⟨⟨c, T, h3, _⟩, _⟩ := hi.tk t b lo hi' (hl.subset h1) h2
    rcases Nat.lt_or_ge b w.heap.size with h | h
    · exact h
    · simp [Array.getElem?_eq_none h] at h3
  refine ⟨⟨i1.st, ?_, ?_, i1.inj, i1.sd, ?_, ?_, ?_, ?_, ?_, i1.sz, i1.ro, i1.rm⟩, ⟨k1.le.trans hle, fun b hb h => k1.heap b hb h, fun b hb h => k1.store b hb h, k1.size, k1.new, ?_, rfl, Nat.le_refl _, fun _ _ => rfl, Nat.le_succ _, ?_, fun _ _ _ h => h, k1.fz, fun _ _ h => h, k1.so⟩⟩
  · intro id es el h
    obtain ⟨b, c, T, h1, h2, h3, h4, h5, h6⟩ := i1.bx id es el h
    exact ⟨b, c, T, h1, h2, h3, h4, fun i hi' j hj => let ⟨v, e, x⟩ := h5 i hi' j hj; ⟨v, e, x.mono hle⟩, h6⟩
  · intro id es h
    obtain ⟨b, c, T, h1, h2, h3, h4, h5⟩ := i1.mp id es h
    exact ⟨b, c, T, h1, h2, h3, fun i hi' => let ⟨e, a, x, y⟩ := h4 i hi'; ⟨e, a, x.mono hle, y.mono hle⟩, h5⟩
  · intro t h
    have h : H.nt + 1 ≤ t := h
    rw [hτ t (by omega)]
    exact hi.td t (by omega)
  · intro t b lo hi' h1 h2
    rcases List.mem_cons.1 h1 with rfl | h1
    · rw [hτn] at h2
      cases h2
      refine ⟨⟨c, T, heap_alloc_new w _, hm⟩, fun o ho => ?_, fun id hl' e => ?_⟩
      · simp [Gh.tok, Gh.addS, rowS, Nat.not_lt.2 ho]
      · have := hi.sz id _ e; omega
    · rw [hτ t (hold t h1)] at h2
      exact i1.tk t b lo hi' (hl.subset h1) h2
  · intro t t' b lo hi' lo' hi2 h1 h2 h3 h4
    rcases List.mem_cons.1 h1 with rfl | h1 <;> rcases List.mem_cons.1 h2 with rfl | h2
    · rfl
    · rw [hτn] at h3; cases h3
      rw [hτ t' (hold t' h2)] at h4
      have := hblk t' _ _ _ h2 h4; omega
    · rw [hτn] at h4; cases h4
      rw [hτ t (hold t h1)] at h3
      have := hblk t _ _ _ h1 h3; omega
    · rw [hτ t (hold t h1)] at h3
      rw [hτ t' (hold t' h2)] at h4
      exact hi.tinj t t' b _ _ _ _ (hl.subset h1) (hl.subset h2) h3 h4
  · exact List.nodup_cons.2 ⟨fun h => hold _ h rfl, hi.nd.sublist hl⟩
  · intro t h
    show t < H.nt + 1
    rcases List.mem_cons.1 h with rfl | h
    · omega
    · have := hi.lt t (hl.subset h); omega
  · intro t b lo hi' h h'
    by_cases e : t = H.nt
    · subst e; rw [hτn] at h'; cases h'; exact .inl (Nat.le_refl _)
    · rw [hτ t e, h] at h'; cases h'
  · intro t h
    rcases List.mem_cons.1 h with rfl | h
    · exact .inr (Nat.le_refl _)
    · exact .inl (hl.subset h)

/-- An append into the room of a token: the written cells are frozen, the rest belongs to a new token. -/
theorem inv_append_in {g : Gh} {H : Heap} {w w' : World} (hi : Inv g H w) {t b lo hi' : Nat} (ht : t ∈ H.live) (hτ0 : g.τ t = some (b, lo, hi')) (c : Array Value) (c' : Array Value) (T : TypeId) (k : Nat)
    (hb : w.heap[b]? = some (.cells c T (0, 0))) (hw : w'.heap[b]? = some (.cells c' T (0, 0))) (hcs : c'.size = c.size) (hpre : ∀ o, o < lo → c'[o]? = c[o]?)
    (ho : ∀ x, x ≠ b → w'.heap[x]? = w.heap[x]?) (hsz : w'.heap.size = w.heap.size) (hfz : ∀ a, w'.frozen? a = w.frozen? a) (l : List Nat) (hl : ∀ x, x ∈ l → x ∈ H.live ∧ x ≠ t) (hln : l.Nodup) (s : Nat → Option Value)
    (hs : ∀ o v, s o = some v → (o < lo ∧ g.S b o = some v) ∨ (lo ≤ o ∧ o < lo + k ∧ c'[o]? = some v)) (hs' : ∀ o v, g.S b o = some v → s o = some v) (hso : w'.os = w.os ∧ w'.output = w.output) :
    Inv ((g.addS b s).tok H.nt (b, lo + k, hi')) { H with nt := H.nt + 1, live := H.nt :: l } w' ∧
    Keep g H w ((g.addS b s).tok H.nt (b, lo + k, hi')) { H with nt := H.nt + 1, live := H.nt :: l } w' := by
  obtain ⟨⟨c0, T0, e0, hsize⟩, hfree, hnob⟩ := hi.tk t b lo hi' ht hτ0
  rw [hb] at e0
  cases e0
  have htn : g.τ H.nt = none := hi.td _ (Nat.le_refl _)
  have hle : g.Le ((g.addS b s).tok H.nt (b, lo + k, hi')) := ⟨fun x o v h => by
    simp only [Gh.tok, Gh.addS]
    split
    · rename_i e; subst e; exact hs' o v h
    · exact h, fun _ _ h => h, fun t x h => by
    simp only [Gh.tok]
    split
    · rename_i e; subst e; rw [htn] at h; cases h
    · exact h, fun _ _ _ => rfl⟩
  have hτ : ∀ t, t ≠ H.nt → ((g.addS b s).tok H.nt (b, lo + k, hi')).τ t = g.τ t := fun t h => by simp [Gh.tok, h, Gh.addS]
  have hτn : ((g.addS b s).tok H.nt (b, lo + k, hi')).τ H.nt = some (b, lo + k, hi') := by simp [Gh.tok]
  have hS : ∀ x o, x ≠ b → ((g.addS b s).tok H.nt (b, lo + k, hi')).S x o = g.S x o := fun x o h => by simp [Gh.tok, Gh.addS, h]
  have hSb : ∀ o, ((g.addS b s).tok H.nt (b, lo + k, hi')).S b o = s o := fun o => by simp [Gh.tok, Gh.addS]
  have hold : ∀ t, t ∈ l → t ≠ H.nt := fun t h e => by have := hi.lt t (hl t h).1; omega
  refine ⟨⟨?_, ?_, ?_, hi.inj, hi.sd, ?_, ?_, ?_, ?_, ?_, ?_, hi.ro, fun id x c2 T2 m2 h1 h2 h3 => hi.rm id x c2 T2 m2 h1 h2 (by rw [← ho x (fun e => hnob id h1 (e ▸ h2))]; exact h3)⟩, ⟨hle, ?_, ?_, ?_, ?_, ?_, rfl, Nat.le_refl _, fun _ _ => rfl, Nat.le_succ _, ?_, fun _ _ _ h => h, hfz, fun _ _ h => h, hso⟩⟩
  · intro x o v h
    by_cases e : x = b
    · subst e
      rw [hSb] at h
      rcases hs o v h with ⟨h1, h2⟩ | ⟨h1, h2, h3⟩
      · have := hi.st _ _ _ h2
        simp only [World.cell?, hb] at this
        simp only [World.cell?, hw]
        simpa [hpre o h1] using this
      · simp [World.cell?, hw, h3]
    · rw [hS x o e] at h
      rw [cell_of_heap (ho x e)]
      exact hi.st _ _ _ h
  · intro id es el h
    obtain ⟨x, c, T, h1, h2, h3, h4, h5, h6⟩ := hi.bx id es el h
    have hne : x ≠ b := fun e => hnob id ⟨_, h, trivial⟩ (e ▸ h1)
    exact ⟨x, c, T, h1, by rw [ho x hne]; exact h2, h3, h4, fun i hi' j hj => let ⟨v, e, y⟩ := h5 i hi' j hj; ⟨v, e, y.mono hle⟩, fun o => by rw [hS x o hne]; exact h6 o⟩
  · intro id es h
    obtain ⟨x, c, T, h1, h2, h3, h4, h5⟩ := hi.mp id es h
    have hne : x ≠ b := fun e => hnob id ⟨_, h, trivial⟩ (e ▸ h1)
    exact ⟨x, c, T, h1, by rw [ho x hne]; exact h2, h3, fun i hi' => let ⟨e, a, y, z⟩ := h4 i hi'; ⟨e, a, y.mono hle, z.mono hle⟩, fun o => by rw [hS x o hne]; exact h5 o⟩
  · intro u h
    have h : H.nt + 1 ≤ u := h
    rw [hτ u (by omega)]
    exact hi.td u (by omega)
  · intro u x lo2 hi2 h1 h2
    rcases List.mem_cons.1 h1 with rfl | h1
    · rw [hτn] at h2
      cases h2
      refine ⟨⟨c', T, hw, by omega⟩, fun o ho => ?_, hnob⟩
      rw [hSb]
      cases e : s o with
      | none => rfl
      | some v => rcases hs o v e with ⟨h1, _⟩ | ⟨_, h2, _⟩ <;> omega
    · rw [hτ u (hold u h1)] at h2
      obtain ⟨⟨c2, T2, h3, h4⟩, h5, h6⟩ := hi.tk u x lo2 hi2 (hl u h1).1 h2
      have hne : x ≠ b := fun e => (hl u h1).2 (hi.tinj u t b lo2 hi2 lo hi' (hl u h1).1 ht (e ▸ h2) hτ0)
      exact ⟨⟨c2, T2, by rw [ho x hne]; exact h3, h4⟩, fun o h => by rw [hS x o hne]; exact h5 o h, h6⟩
  · intro u u' x lo1 hi1 lo2 hi2 h1 h2 h3 h4
    rcases List.mem_cons.1 h1 with rfl | h1 <;> rcases List.mem_cons.1 h2 with rfl | h2
    · rfl
    · rw [hτn] at h3; cases h3
      rw [hτ u' (hold u' h2)] at h4
      exact absurd (hi.tinj u' t _ _ _ _ _ (hl u' h2).1 ht h4 hτ0) (hl u' h2).2
    · rw [hτn] at h4; cases h4
      rw [hτ u (hold u h1)] at h3
      exact absurd (hi.tinj u t _ _ _ _ _ (hl u h1).1 ht h3 hτ0) (hl u h1).2
    · rw [hτ u (hold u h1)] at h3
      rw [hτ u' (hold u' h2)] at h4
      exact hi.tinj u u' x _ _ _ _ (hl u h1).1 (hl u' h2).1 h3 h4
  · exact List.nodup_cons.2 ⟨fun h => hold _ h rfl, hln⟩
  · intro u h
    show u < H.nt + 1
    rcases List.mem_cons.1 h with rfl | h
    · omega
    · have := hi.lt u (hl u h).1; omega
  · intro id x h
    rw [hsz]; exact hi.sz _ _ h
  · intro x _ hsh
    exact ho x fun e => hsh.2 t lo hi' ht (e ▸ hτ0)
  · intro x _ hsh o
    exact hS x o fun e => hsh.2 t lo hi' ht (e ▸ hτ0)
  · rw [hsz]; exact Nat.le_refl _
  · intro id x h h'
    rw [show ((g.addS b s).tok H.nt (b, lo + k, hi')).σ id = g.σ id from rfl, h] at h'; cases h'
  · intro u x lo2 hi2 h h'
    by_cases e : u = H.nt
    · subst e; rw [hτn] at h'; cases h'; exact .inr ⟨t, lo, hi', ht, hτ0⟩
    · rw [hτ u e, h] at h'; cases h'
  · intro u h
    rcases List.mem_cons.1 h with rfl | h
    · exact .inr (Nat.le_refl _)
    · exact .inl (hl u h).1

end Go.Vm
