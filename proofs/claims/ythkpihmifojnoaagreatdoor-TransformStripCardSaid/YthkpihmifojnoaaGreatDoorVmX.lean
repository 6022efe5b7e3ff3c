/-
  Facts: a call that is known at the empty heap is known at every heap.
-/
import Derived.Test.YthkpihmifojnoaaGreatDoorVmV
namespace Go.Vm

def hNil : Heap := { bx := [], ro := 0, live := [], nt := 0 }
def bare (g : Gh) : Gh := { S := g.S, σ := fun _ => none, τ := fun _ => none, κ := fun _ => 0 }

section
variable {E : Env} {P : Program} {g : Gh} {H : Heap} {w : World}

theorem nil_live {id : Nat} (h : hNil.liveAt id) : False := by
  obtain ⟨b, hb, _⟩ := h
  simp [hNil] at hb

theorem nil_shut (g : Gh) (b : Nat) : Shut g hNil b := ⟨fun _ _ h => (nil_live h).elim, fun t lo hi h => by simp [hNil] at h⟩

theorem bare_inv (hi : Inv g H w) : Inv (bare g) hNil w where
  st := hi.st
  bx id es el h := by simp [hNil] at h
  mp id es h := by simp [hNil] at h
  inj i j b h := (nil_live h).elim
  sd _ _ := rfl
  td _ _ := rfl
  tk t b lo hi' h := by simp [hNil] at h
  tinj t t' b lo hi' lo' hi2 h := by simp [hNil] at h
  nd := List.nodup_nil
  lt t h := by simp [hNil] at h
  sz id b h := by simp [bare] at h
  ro := Nat.le_refl _
  rm id b c T m h := (nil_live h).elim

theorem return_bare (hi : Inv g H w) {g' : Gh} {H' : Heap} {w' : World} (k : Keep (bare g) hNil w g' H' w') :
    Inv (retG g w w') H w' ∧ Keep g H w (retG g w w') H w' ∧ ∀ b o v, g'.S b o = some v → w'.cell? ⟨b, o, none⟩ = some v → (retG g w w').S b o = some v := by
  have hh : ∀ b, b < w.heap.size → w'.heap[b]? = w.heap[b]? := fun b hb => k.heap b hb (nil_shut _ b)
  have hS : ∀ b o, b < w.heap.size → (retG g w w').S b o = g.S b o := fun b o hb => by simp [retG, hb]
  have hle : g.Le (retG g w w') := ⟨fun b o v h => by rw [hS b o (hi.S_lt h)]; exact h, fun _ _ h => h, fun _ _ h => h, fun _ _ _ => rfl⟩
  refine ⟨⟨?_, ?_, ?_, hi.inj, hi.sd, hi.td, ?_, hi.tinj, hi.nd, hi.lt, ?_, hi.ro, fun id b c T m h1 h2 h3 => hi.rm id b c T m h1 h2 (by rw [← hh b (hi.sz _ _ h2)]; exact h3)⟩, ⟨hle, fun b hb _ => hh b hb, fun b hb _ o => hS b o hb, k.size, ?_, ?_, rfl, Nat.le_refl _, fun _ _ => rfl, Nat.le_refl _, fun _ h => .inl h, fun _ _ _ h => h, k.fz, fun _ _ h => h, k.so⟩, ?_⟩
  · intro b o v h
    by_cases hb : b < w.heap.size
    · rw [hS b o hb] at h
      rw [cell_of_heap (hh b hb)]
      exact hi.st _ _ _ h
    · simpa [retG, hb] using h
  · intro id es el h
    obtain ⟨b, c, T, h1, h2, h3, h4, h5, h6⟩ := hi.bx id es el h
    have hb := hi.sz _ _ h1
    exact ⟨b, c, T, h1, by rw [hh b hb]; exact h2, h3, h4, fun i hi' j hj => let ⟨v, e, x⟩ := h5 i hi' j hj; ⟨v, e, x.mono hle⟩, fun o => by rw [hS b o hb]; exact h6 o⟩
  · intro id es h
    obtain ⟨b, c, T, h1, h2, h3, h4, h5⟩ := hi.mp id es h
    have hb := hi.sz _ _ h1
    exact ⟨b, c, T, h1, by rw [hh b hb]; exact h2, h3, fun i hi' => let ⟨e, a, x, y⟩ := h4 i hi'; ⟨e, a, x.mono hle, y.mono hle⟩, fun o => by rw [hS b o hb]; exact h5 o⟩
  · intro t b lo hi' h1 h2
    obtain ⟨⟨c, T, h3, h4⟩, h5, h6⟩ := hi.tk t b lo hi' h1 h2
    have hb : b < w.heap.size := by
      rcases Nat.lt_or_ge b w.heap.size with h | h
      · exact h
      · simp [Array.getElem?_eq_none h] at h3
    exact ⟨⟨c, T, by rw [hh b hb]; exact h3, h4⟩, fun o ho => by rw [hS b o hb]; exact h5 o ho, h6⟩
  · intro id b h
    exact Nat.lt_of_lt_of_le (hi.sz _ _ h) k.size
  · intro id b h h'
    rw [show (retG g w w').σ id = g.σ id from rfl, h] at h'; cases h'
  · intro t b lo hi' h h'
    rw [show (retG g w w').τ t = g.τ t from rfl, h] at h'; cases h'
  · intro b o v h h'
    by_cases hb : b < w.heap.size
    · have := k.store b hb (nil_shut _ b) o
      rw [hS b o hb, show g.S b o = (bare g).S b o from rfl, ← this]; exact h
    · simpa [retG, hb] using h'

/-- A value that is all frozen, as it enters. -/
noncomputable def frzG : PV → Option PV
  | .agg cs => match frzL cs with | some cs' => some (.agg cs') | none => none
  | v => frz1 v
noncomputable def frzGL : List PV → Option (List PV)
  | [] => some []
  | v :: r => match frzG v with
    | some v' => match frzGL r with
      | some r' => some (v' :: r')
      | none => none
    | none => none

theorem frzG_ok {p p' : PV} {v : Value} (h : V g p v) (hf : frzG p = some p') : V0 g.S p' v := by
  unfold frzG at hf
  split at hf
  · rename_i cs
    split at hf
    · rename_i cs' hc
      cases hf
      obtain ⟨vs, hl, rfl, hv⟩ := h.agg_inv
      obtain ⟨h1, h2⟩ := frzL_ok hc
      exact .agg _ _ (by omega) fun i hi => frz1_ok (hv i (by omega)) (h2 i (by omega) hi)
    · cases hf
  · exact frz1_ok h hf

theorem frzGL_ok : ∀ {ps ps' : List PV}, frzGL ps = some ps' → ps'.length = ps.length ∧ ∀ i (hi : i < ps.length) (hi' : i < ps'.length), frzG ps[i] = some ps'[i]
  | [], ps', h => by simp only [frzGL, Option.some.injEq] at h; subst h; exact ⟨rfl, fun i hi => absurd hi (by simp)⟩
  | p :: ps, ps', h => by
    simp only [frzGL] at h
    split at h
    · rename_i p' hp
      split at h
      · rename_i r hr
        cases h
        obtain ⟨h1, h2⟩ := frzGL_ok hr
        refine ⟨by simp [h1], fun i hi hi' => ?_⟩
        cases i with
        | zero => exact hp
        | succ i => exact h2 i (by simpa using hi) (by simpa using hi')
      · cases h
    · cases h

/-- A call at the empty heap says what the call gives at every heap. -/
theorem callOk_lift {f : FuncId} {args args' : List PV} {r r' : PV} {H' : Heap} (h : CallOk E P f args' hNil r H') (ha : frzGL args = some args') (hf : frz3 0 H' r = some r') (H : Heap) : CallOk E P f args H r' H := by
  intro g w vals hi hg hv
  obtain ⟨l1, l2⟩ := frzGL_ok ha
  have hv' : VL (bare g) args' vals.toList := ⟨by rw [l1]; exact hv.1, fun i h1 h2 => V.pure (g := bare g) _ _ (show V0 g.S _ _ from frzG_ok (hv.2 i (by omega) h2) (l2 i (by omega) h1))⟩
  refine UponCall.mono (fun v w' ⟨g', hp, hi', k⟩ => ?_) (h (bare g) w vals (bare_inv hi) hg hv')
  obtain ⟨i1, k1, hS⟩ := return_bare hi k
  have hq : V0 (retG g w w').S r' v := frz3_ok hi' (fun b o v h => hS b o v h (hi'.st _ _ _ h)) (fun id b o v _ hσ hcell => by
    have hb : w.heap.size ≤ b := (k.new id b rfl hσ).elim (fun h => h) fun ⟨_, _, a, _⟩ => (nil_live a).elim
    simp [retG, Nat.not_lt.2 hb, hcell]) hp hf
  exact ⟨retG g w w', .pure _ _ hq, i1, k1⟩

theorem CallOk.env {E' : Env} (hG : E'.G = E.G) {f : FuncId} {args : List PV} {H H' : Heap} {r : PV} (h : CallOk E P f args H r H') : CallOk E' P f args H r H' :=
  fun g w vals hi hg hv => h g w vals hi (fun k cs e => hg k cs (by rw [hG]; exact e)) hv

end
end Go.Vm
