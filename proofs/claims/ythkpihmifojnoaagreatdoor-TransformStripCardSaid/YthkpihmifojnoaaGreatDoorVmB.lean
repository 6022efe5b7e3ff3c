/-
  What an abstract value stands for in a world of the model, and what an abstract heap stands for.
-/
import Derived.Test.YthkpihmifojnoaaGreatDoorVmA
namespace Go.Vm

abbrev Store := Nat → Nat → Option Value

/-- What is known beside the abstract state: the cells that nobody writes any more, where the boxes lie, where the tokens' rooms lie, how many cells a box has at least. -/
structure Gh where
  S : Store
  σ : Nat → Option Nat
  τ : Nat → Option (Nat × Nat × Nat)
  κ : Nat → Nat

inductive V0 (S : Store) : PV → Value → Prop
  | bool (b : Bool) : V0 S (.bool b) (.bool b)
  | int (k : IntKind) (n : Int) : V0 S (.int k n) (.int k n)
  | str (s : List UInt8) (b : ByteArray) (h : b.data.toList = s) : V0 S (.str s) (.string b)
  | nilp : V0 S .nilp (.pointer none)
  | nils : V0 S .nils (.slice none 0 0)
  | nilm : V0 S .nilm (.map none)
  | nilf : V0 S .nilf .nilFunc
  | undef (v : Value) : V0 S .undef v
  | sl (tl : Tail) (es : Nat) (el : List (List PV)) (a : Addr) (b o cap : Nat) (vals : Nat → Nat → Value) (ha : 0 < el.length → a = ⟨b, o, none⟩)
      (ht : tl = .none ∨ (tl = .full ∧ cap = el.length)) (hc : el.length ≤ cap) (hw : ∀ i (hi : i < el.length), (el[i]).length = es)
      (hs : ∀ i j, i < el.length → j < es → S b (o + i * es + j) = some (vals i j))
      (hv : ∀ i (hi : i < el.length) j (hj : j < (el[i]).length), V0 S ((el[i])[j]) (vals i j)) :
      V0 S (.sl tl es el) (.slice (some a) el.length cap)
  | fptr (cs : List PV) (off b o : Nat) (vals : Nat → Value)
      (hs : ∀ j, j < cs.length → S b (o + j) = some (vals j))
      (hv : ∀ j (hj : j < cs.length), V0 S (cs[j]) (vals j)) :
      V0 S (.fptr cs off) (.pointer (some ⟨b, o + off, none⟩))
  | agg (cs : List PV) (vs : Array Value) (hl : vs.size = cs.length) (hv : ∀ i (hi : i < cs.length), V0 S (cs[i]) (vs[i]'(by omega))) :
      V0 S (.agg cs) (.agg vs)
  | tup (cs : List PV) (vs : Array Value) (hl : vs.size = cs.length) (hv : ∀ i (hi : i < cs.length), V0 S (cs[i]) (vs[i]'(by omega))) :
      V0 S (.tup cs) (.tuple vs)
  | fn (f : FuncId) (cs : List PV) (vs : Array Value) (hl : vs.size = cs.length) (hv : ∀ i (hi : i < cs.length), V0 S (cs[i]) (vs[i]'(by omega))) :
      V0 S (.fn f cs) (.func (.func f) #[] vs)

inductive V (g : Gh) : PV → Value → Prop
  | pure (p : PV) (v : Value) (h : V0 g.S p v) : V g p v
  | ptr (id es ix off b : Nat) (h : g.σ id = some b) : V g (.ptr id es ix off) (.pointer (some ⟨b, ix * es + off, none⟩))
  | own (id es ix len b cap : Nat) (a : Addr) (h : g.σ id = some b) (hc : len ≤ cap) (ha : 0 < len → a = ⟨b, ix * es, none⟩) (hsp : a.spot = none) (hk : (ix + cap) * es ≤ g.κ id ∧ cap ≤ 9223372036854775807) :
      V g (.own id es ix len) (.slice (some a) len cap)
  | map (id b : Nat) (h : g.σ id = some b) : V g (.map id) (.map (some b))
  | tok (t : Nat) (es : Nat) (el : List (List PV)) (b o cap : Nat) (h : V0 g.S (.sl .none es el) (.slice (some ⟨b, o, none⟩) el.length cap))
      (ht : cap = el.length ∨ g.τ t = some (b, o + el.length * es, o + cap * es)) :
      V g (.sl (.tok t) es el) (.slice (some ⟨b, o, none⟩) el.length cap)
  | agg (cs : List PV) (vs : Array Value) (hl : vs.size = cs.length) (hv : ∀ i (hi : i < cs.length), V g (cs[i]) (vs[i]'(by omega))) :
      V g (.agg cs) (.agg vs)
  | tup (cs : List PV) (vs : Array Value) (hl : vs.size = cs.length) (hv : ∀ i (hi : i < cs.length), V g (cs[i]) (vs[i]'(by omega))) :
      V g (.tup cs) (.tuple vs)
  | fn (f : FuncId) (cs : List PV) (vs : Array Value) (hl : vs.size = cs.length) (hv : ∀ i (hi : i < cs.length), V g (cs[i]) (vs[i]'(by omega))) :
      V g (.fn f cs) (.func (.func f) #[] vs)

structure Gh.Le (g g' : Gh) : Prop where
  S : ∀ b o v, g.S b o = some v → g'.S b o = some v
  σ : ∀ i b, g.σ i = some b → g'.σ i = some b
  τ : ∀ t x, g.τ t = some x → g'.τ t = some x
  κ : ∀ i b, g.σ i = some b → g'.κ i = g.κ i

theorem Gh.Le.refl (g : Gh) : g.Le g := ⟨fun _ _ _ h => h, fun _ _ h => h, fun _ _ h => h, fun _ _ _ => rfl⟩
theorem Gh.Le.trans {a b c : Gh} (h : a.Le b) (h' : b.Le c) : a.Le c :=
  ⟨fun _ _ _ x => h'.S _ _ _ (h.S _ _ _ x), fun _ _ x => h'.σ _ _ (h.σ _ _ x), fun _ _ x => h'.τ _ _ (h.τ _ _ x), fun _ _ x => (h'.κ _ _ (h.σ _ _ x)).trans (h.κ _ _ x)⟩

theorem V0.mono {S S' : Store} (h : ∀ b o v, S b o = some v → S' b o = some v) {p : PV} {v : Value} (x : V0 S p v) : V0 S' p v := by
  induction x with
  | bool b => exact .bool b
  | int k n => exact .int k n
  | str s b e => exact .str s b e
  | nilp => exact .nilp
  | nils => exact .nils
  | nilm => exact .nilm
  | nilf => exact .nilf
  | undef v => exact .undef v
  | sl tl es el a b o cap vals ha ht hc hw hs hv ih => exact .sl tl es el a b o cap vals ha ht hc hw (fun i j hi hj => h _ _ _ (hs i j hi hj)) ih
  | fptr cs off b o vals hs hv ih => exact .fptr cs off b o vals (fun j hj => h _ _ _ (hs j hj)) ih
  | agg cs vs hl hv ih => exact .agg cs vs hl ih
  | tup cs vs hl hv ih => exact .tup cs vs hl ih
  | fn f cs vs hl hv ih => exact .fn f cs vs hl ih

theorem V.mono {g g' : Gh} (h : g.Le g') {p : PV} {v : Value} (x : V g p v) : V g' p v := by
  induction x with
  | pure p v x => exact .pure p v (x.mono h.S)
  | ptr id es ix off b e => exact .ptr id es ix off b (h.σ _ _ e)
  | own id es ix len b cap a e hc ha hsp hk => exact .own id es ix len b cap a (h.σ _ _ e) hc ha hsp ⟨by rw [h.κ _ _ e]; exact hk.1, hk.2⟩
  | map id b e => exact .map id b (h.σ _ _ e)
  | tok t es el b o cap e ht => exact .tok t es el b o cap (e.mono h.S) (ht.imp id (h.τ _ _))
  | agg cs vs hl hv ih => exact .agg cs vs hl ih
  | tup cs vs hl hv ih => exact .tup cs vs hl ih
  | fn f cs vs hl hv ih => exact .fn f cs vs hl ih

/-! ### opening a value by its abstract head -/
section inv
variable {g : Gh} {S : Store} {v : Value}
theorem V.bool_inv {b : Bool} (h : V g (.bool b) v) : v = .bool b := by cases h with | pure _ _ h => cases h; rfl
theorem V.int_inv {k : IntKind} {n : Int} (h : V g (.int k n) v) : v = .int k n := by cases h with | pure _ _ h => cases h; rfl
theorem V.str_inv {s : List UInt8} (h : V g (.str s) v) : ∃ b : ByteArray, v = .string b ∧ b.data.toList = s := by
  cases h with | pure _ _ h => cases h with | str _ b e => exact ⟨b, rfl, e⟩
theorem V.nilp_inv (h : V g .nilp v) : v = .pointer none := by cases h with | pure _ _ h => cases h; rfl
theorem V.nils_inv (h : V g .nils v) : v = .slice none 0 0 := by cases h with | pure _ _ h => cases h; rfl
theorem V.nilm_inv (h : V g .nilm v) : v = .map none := by cases h with | pure _ _ h => cases h; rfl
theorem V.nilf_inv (h : V g .nilf v) : v = .nilFunc := by cases h with | pure _ _ h => cases h; rfl
theorem V.ptr_inv {id es ix off : Nat} (h : V g (.ptr id es ix off) v) : ∃ b, g.σ id = some b ∧ v = .pointer (some ⟨b, ix * es + off, none⟩) := by
  cases h with
  | pure _ _ h => cases h
  | ptr _ _ _ _ b e => exact ⟨b, e, rfl⟩
theorem V.map_inv {id : Nat} (h : V g (.map id) v) : ∃ b, g.σ id = some b ∧ v = .map (some b) := by
  cases h with
  | pure _ _ h => cases h
  | map _ b e => exact ⟨b, e, rfl⟩
theorem V.own_inv {id es ix len : Nat} (h : V g (.own id es ix len) v) :
    ∃ b cap a, g.σ id = some b ∧ len ≤ cap ∧ (0 < len → a = ⟨b, ix * es, none⟩) ∧ a.spot = none ∧ v = .slice (some a) len cap := by
  cases h with
  | pure _ _ h => cases h
  | own _ _ _ _ b cap a e hc ha hsp _ => exact ⟨b, cap, a, e, hc, ha, hsp, rfl⟩
theorem V.own_inv2 {id es ix len : Nat} (h : V g (.own id es ix len) v) :
    ∃ b cap a, g.σ id = some b ∧ len ≤ cap ∧ (0 < len → a = ⟨b, ix * es, none⟩) ∧ a.spot = none ∧ ((ix + cap) * es ≤ g.κ id ∧ cap ≤ 9223372036854775807) ∧ v = .slice (some a) len cap := by
  cases h with
  | pure _ _ h => cases h
  | own _ _ _ _ b cap a e hc ha hsp hk => exact ⟨b, cap, a, e, hc, ha, hsp, hk, rfl⟩
theorem V.fptr_inv {cs : List PV} {off : Nat} (h : V g (.fptr cs off) v) :
    ∃ b o, ∃ vals : Nat → Value, (∀ j, j < cs.length → g.S b (o + j) = some (vals j)) ∧ (∀ j (hj : j < cs.length), V0 g.S (cs[j]) (vals j)) ∧
      v = .pointer (some ⟨b, o + off, none⟩) := by
  cases h with | pure _ _ h => cases h with | fptr _ _ b o vals hs hv => exact ⟨b, o, vals, hs, hv, rfl⟩
theorem V0.sl_none {tl : Tail} {es : Nat} {el : List (List PV)} (h : V0 S (.sl tl es el) v) : V0 S (.sl .none es el) v := by
  cases h with | sl _ _ _ a b o cap vals ha ht hc hw hs hv => exact .sl .none es el a b o cap vals ha (.inl rfl) hc hw hs hv
/-- What is known of the room. -/
def TailOk (g : Gh) (tl : Tail) (es n b o cap : Nat) : Prop := match tl with
  | .none => True
  | .full => cap = n
  | .tok t => cap = n ∨ g.τ t = some (b, o + n * es, o + cap * es)
/-- A slice of frozen cells, whatever is known of its room. -/
theorem V.sl_inv {tl : Tail} {es : Nat} {el : List (List PV)} (h : V g (.sl tl es el) v) :
    ∃ b o cap, ∃ vals : Nat → Nat → Value, ∃ a : Addr, v = .slice (some a) el.length cap ∧ el.length ≤ cap ∧ (∀ i (hi : i < el.length), (el[i]).length = es) ∧
      (∀ i j, i < el.length → j < es → g.S b (o + i * es + j) = some (vals i j)) ∧
      (∀ i (hi : i < el.length) j (hj : j < (el[i]).length), V0 g.S ((el[i])[j]) (vals i j)) ∧
      TailOk g tl es el.length b o cap ∧ ((0 < el.length ∨ ∃ t, tl = .tok t) → a = ⟨b, o, none⟩) := by
  cases h with
  | pure _ _ h => cases h with
    | sl _ _ _ a b o cap vals ha ht hc hw hs hv =>
      refine ⟨b, o, cap, vals, a, rfl, hc, hw, hs, hv, ?_, fun h => ?_⟩
      · rcases ht with rfl | ⟨rfl, e⟩
        · trivial
        · exact e
      · rcases h with h | ⟨t, h⟩
        · exact ha h
        · subst h; rcases ht with h | ⟨h, _⟩ <;> cases h
  | tok t _ _ b o cap h ht => cases h with
    | sl _ _ _ _ b' o' _ vals ha ht' hc hw hs hv =>
      by_cases h0 : 0 < el.length
      · have := ha h0
        cases this
        exact ⟨b, o, cap, vals, _, rfl, hc, hw, hs, hv, ht, fun _ => rfl⟩
      · exact ⟨b, o, cap, vals, _, rfl, hc, fun i hi => absurd hi (by omega), fun i j hi => absurd hi (by omega), fun i hi => absurd hi (by omega), ht, fun _ => rfl⟩
theorem V.sl_mk {tl : Tail} {es : Nat} {el : List (List PV)} {b o cap n : Nat} (vals : Nat → Nat → Value) (hn : n = el.length) (hc : el.length ≤ cap) (hw : ∀ i (hi : i < el.length), (el[i]).length = es)
    (hs : ∀ i j, i < el.length → j < es → g.S b (o + i * es + j) = some (vals i j))
    (hv : ∀ i (hi : i < el.length) j (hj : j < (el[i]).length), V0 g.S ((el[i])[j]) (vals i j))
    (ht : TailOk g tl es el.length b o cap) :
    V g (.sl tl es el) (.slice (some ⟨b, o, none⟩) n cap) := by
  subst hn
  cases tl with
  | none => exact .pure _ _ (.sl .none es el _ b o cap vals (fun _ => rfl) (.inl rfl) hc hw hs hv)
  | full => exact .pure _ _ (.sl .full es el _ b o cap vals (fun _ => rfl) (.inr ⟨rfl, ht⟩) hc hw hs hv)
  | tok t => exact .tok t es el b o cap (.sl .none es el _ b o cap vals (fun _ => rfl) (.inl rfl) hc hw hs hv) ht
theorem V.agg_inv {cs : List PV} (h : V g (.agg cs) v) : ∃ vs : Array Value, ∃ hl : vs.size = cs.length, v = .agg vs ∧ ∀ i (hi : i < cs.length), V g (cs[i]) (vs[i]'(by omega)) := by
  cases h with
  | pure _ _ h => cases h with | agg _ vs hl hv => exact ⟨vs, hl, rfl, fun i hi => .pure _ _ (hv i hi)⟩
  | agg _ vs hl hv => exact ⟨vs, hl, rfl, hv⟩
theorem V.tup_inv {cs : List PV} (h : V g (.tup cs) v) : ∃ vs : Array Value, ∃ hl : vs.size = cs.length, v = .tuple vs ∧ ∀ i (hi : i < cs.length), V g (cs[i]) (vs[i]'(by omega)) := by
  cases h with
  | pure _ _ h => cases h with | tup _ vs hl hv => exact ⟨vs, hl, rfl, fun i hi => .pure _ _ (hv i hi)⟩
  | tup _ vs hl hv => exact ⟨vs, hl, rfl, hv⟩
theorem V.fn_inv {f : FuncId} {cs : List PV} (h : V g (.fn f cs) v) : ∃ vs : Array Value, ∃ hl : vs.size = cs.length, v = .func (.func f) #[] vs ∧ ∀ i (hi : i < cs.length), V g (cs[i]) (vs[i]'(by omega)) := by
  cases h with
  | pure _ _ h => cases h with | fn _ _ vs hl hv => exact ⟨vs, hl, rfl, fun i hi => .pure _ _ (hv i hi)⟩
  | fn _ _ vs hl hv => exact ⟨vs, hl, rfl, hv⟩
end inv

/-- Cell by cell. -/
def VL (g : Gh) (cs : List PV) (vs : List Value) : Prop := vs.length = cs.length ∧ ∀ (i : Nat) (hi : i < cs.length) (hj : i < vs.length), V g (cs[i]) (vs[i])

theorem V.cells {g : Gh} {p : PV} {v : Value} (h : V g p v) (hp : 0 < p.cells.length) : VL g p.cells v.cells.toList := by
  have one : ∀ {p : PV} {v : Value}, V g p v → p.cells = [p] → v.cells = #[v] → VL g p.cells v.cells.toList := by
    intro p v h e1 e2
    rw [e1, e2]
    refine ⟨rfl, fun i hi hj => ?_⟩
    obtain rfl : i = 0 := by simp at hi; omega
    simpa using h
  have agg : ∀ {cs : List PV} {vs : Array Value} (hl : vs.size = cs.length), (∀ i (hi : i < cs.length), V g (cs[i]) (vs[i]'(by omega))) → VL g cs vs.toList :=
    fun hl hv => ⟨by simpa using hl, fun i hi hj => by simpa using hv i hi⟩
  have h' := h
  cases h with
  | pure _ _ h0 =>
    cases h0 with
    | agg cs vs hl hv => exact agg hl fun i hi => .pure _ _ (hv i hi)
    | undef v => simp [PV.cells] at hp
    | _ => exact one h' rfl rfl
  | agg cs vs hl hv => exact agg hl hv
  | _ => exact one h' rfl rfl

/-! ### heaps -/
def Box.alive : Box → Prop
  | .dead => False
  | _ => True

def Heap.liveAt (H : Heap) (id : Nat) : Prop := ∃ b, H.bx[id]? = some b ∧ b.alive

structure Inv (g : Gh) (H : Heap) (w : World) : Prop where
  st : ∀ b o v, g.S b o = some v → w.cell? ⟨b, o, none⟩ = some v
  bx : ∀ id es el, H.bx[id]? = some (.cells es el) → ∃ b c T, g.σ id = some b ∧ w.heap[b]? = some (.cells c T (0, 0)) ∧
    (∀ i (hi : i < el.length), (el[i]).length = es) ∧ el.length * es ≤ c.size ∧
    (∀ i (hi : i < el.length) j (hj : j < (el[i]).length), ∃ v, c[i * es + j]? = some v ∧ V g ((el[i])[j]) v) ∧ ∀ o, g.S b o = none
  mp : ∀ id es, H.bx[id]? = some (.map es) → ∃ b ents clk, g.σ id = some b ∧ w.heap[b]? = some (.map ents clk) ∧ ents.size = es.length ∧
    (∀ i (hi : i < es.length), ∃ e, ents[i]? = some e ∧ V g (es[i]).1 e.key ∧ V g (es[i]).2 e.val) ∧ ∀ o, g.S b o = none
  inj : ∀ i j b, H.liveAt i → H.liveAt j → g.σ i = some b → g.σ j = some b → i = j
  sd : ∀ id, H.bx.length ≤ id → g.σ id = none
  td : ∀ t, H.nt ≤ t → g.τ t = none
  tk : ∀ t b lo hi, t ∈ H.live → g.τ t = some (b, lo, hi) → (∃ c T, w.heap[b]? = some (.cells c T (0, 0)) ∧ hi ≤ c.size) ∧
    (∀ o, lo ≤ o → g.S b o = none) ∧ ∀ id, H.liveAt id → g.σ id ≠ some b
  tinj : ∀ t t' b lo hi lo' hi', t ∈ H.live → t' ∈ H.live → g.τ t = some (b, lo, hi) → g.τ t' = some (b, lo', hi') → t = t'
  nd : H.live.Nodup
  lt : ∀ t, t ∈ H.live → t < H.nt
  sz : ∀ id b, g.σ id = some b → b < w.heap.size
  ro : H.ro ≤ H.bx.length
  rm : ∀ id b c T m, H.liveAt id → g.σ id = some b → w.heap[b]? = some (.cells c T m) → g.κ id ≤ c.size

/-- A block that the code at hand may not write. -/
def Shut (g : Gh) (H : Heap) (b : Nat) : Prop :=
  (∀ id, H.ro ≤ id → H.liveAt id → g.σ id ≠ some b) ∧ ∀ t lo hi, t ∈ H.live → g.τ t ≠ some (b, lo, hi)

/-- What a piece of code leaves as it was. -/
structure KeepN (N : Nat) (g : Gh) (H : Heap) (w : World) (g' : Gh) (H' : Heap) (w' : World) : Prop where
  le : g.Le g'
  heap : ∀ b, b < w.heap.size → Shut g H b → w'.heap[b]? = w.heap[b]?
  store : ∀ b, b < w.heap.size → Shut g H b → ∀ o, g'.S b o = g.S b o
  size : w.heap.size ≤ w'.heap.size
  new : ∀ id b, g.σ id = none → g'.σ id = some b → w.heap.size ≤ b ∨ ∃ id', H.ro ≤ id' ∧ H.liveAt id' ∧ g.σ id' = some b
  tnew : ∀ t b lo hi, g.τ t = none → g'.τ t = some (b, lo, hi) → w.heap.size ≤ b ∨ ∃ t' lo' hi', t' ∈ H.live ∧ g.τ t' = some (b, lo', hi')
  ro : H'.ro = H.ro
  bxl : H.bx.length ≤ H'.bx.length
  bx : ∀ id, id < H.ro → H'.bx[id]? = H.bx[id]?
  nt : H.nt ≤ H'.nt
  lv : ∀ t, t ∈ H'.live → t ∈ H.live ∨ H.nt ≤ t
  al : ∀ id b, g.σ id = some b → H'.liveAt id → H.liveAt id
  fz : ∀ a, w'.frozen? a = w.frozen? a
  ns : ∀ id, id < N → g.σ id = none → g'.σ id = none
  so : w'.os = w.os ∧ w'.output = w.output

abbrev Keep (g : Gh) (H : Heap) (w : World) (g' : Gh) (H' : Heap) (w' : World) : Prop := KeepN H.bx.length g H w g' H' w'

theorem KeepN.refl (N : Nat) (g : Gh) (H : Heap) (w : World) : KeepN N g H w g H w where
  le := .refl g
  heap _ _ _ := rfl
  store _ _ _ _ := rfl
  size := Nat.le_refl _
  new id b h h' := by rw [h] at h'; cases h'
  tnew t b lo hi h h' := by rw [h] at h'; cases h'
  ro := rfl
  bxl := Nat.le_refl _
  bx _ _ := rfl
  nt := Nat.le_refl _
  lv t h := .inl h
  al _ _ _ h := h
  fz _ := rfl
  ns _ _ h := h
  so := ⟨rfl, rfl⟩

theorem Keep.refl (g : Gh) (H : Heap) (w : World) : Keep g H w g H w := KeepN.refl _ g H w

theorem KeepN.shut {N : Nat} {g g' : Gh} {H H' : Heap} {w w' : World} (hi : Inv g H w) (k : KeepN N g H w g' H' w') {b : Nat} (hb : b < w.heap.size) (h : Shut g H b) : Shut g' H' b := by
  refine ⟨fun id hro hl hs => ?_, fun t lo hi' ht hs => ?_⟩
  · cases e : g.σ id with
    | none =>
      rcases k.new id b e hs with h1 | ⟨id', h1, h2, h3⟩
      · omega
      · exact h.1 id' h1 h2 h3
    | some b' =>
      have := k.le.σ _ _ e
      rw [hs] at this
      cases this
      exact h.1 id (k.ro ▸ hro) (k.al _ _ e hl) e
  · cases e : g.τ t with
    | none =>
      rcases k.tnew t b lo hi' e hs with h1 | ⟨t', lo', hi2, h1, h2⟩
      · omega
      · exact h.2 t' lo' hi2 h1 h2
    | some x =>
      have := k.le.τ _ _ e
      rw [hs] at this
      cases this
      rcases k.lv t ht with h1 | h1
      · exact h.2 t lo hi' h1 e
      · rw [hi.td t h1] at e; cases e

theorem KeepN.trans {N N' : Nat} {g₁ g₂ g₃ : Gh} {H₁ H₂ H₃ : Heap} {w₁ w₂ w₃ : World} (hi : Inv g₁ H₁ w₁) (k : KeepN N g₁ H₁ w₁ g₂ H₂ w₂) (k' : KeepN N' g₂ H₂ w₂ g₃ H₃ w₃) (hN : N ≤ N') :
    KeepN N g₁ H₁ w₁ g₃ H₃ w₃ where
  le := k.le.trans k'.le
  heap b hb h := (k'.heap b (Nat.lt_of_lt_of_le hb k.size) (k.shut hi hb h)).trans (k.heap b hb h)
  store b hb h o := (k'.store b (Nat.lt_of_lt_of_le hb k.size) (k.shut hi hb h) o).trans (k.store b hb h o)
  size := Nat.le_trans k.size k'.size
  new id b h h' := by
    cases e : g₂.σ id with
    | none =>
      rcases k'.new id b e h' with h1 | ⟨id', h1, h2, h3⟩
      · exact .inl (Nat.le_trans k.size h1)
      · cases e' : g₁.σ id' with
        | none => exact k.new id' b e' h3
        | some x =>
          have := k.le.σ _ _ e'
          rw [h3] at this
          cases this
          exact .inr ⟨id', k.ro ▸ h1, k.al _ _ e' h2, e'⟩
    | some b' =>
      have := k'.le.σ _ _ e
      rw [h'] at this
      cases this
      exact k.new id b h e
  tnew t b lo hi' h h' := by
    cases e : g₂.τ t with
    | none =>
      rcases k'.tnew t b lo hi' e h' with h1 | ⟨t', lo', hi2, h1, h2⟩
      · exact .inl (Nat.le_trans k.size h1)
      · cases e' : g₁.τ t' with
        | none => exact k.tnew t' b lo' hi2 e' h2
        | some x =>
          have := k.le.τ _ _ e'
          rw [h2] at this
          cases this
          rcases k.lv t' h1 with h3 | h3
          · exact .inr ⟨t', lo', hi2, h3, e'⟩
          · rw [hi.td t' h3] at e'; cases e'
    | some x =>
      have := k'.le.τ _ _ e
      rw [h'] at this
      cases this
      exact k.tnew t b lo hi' h e
  ro := k'.ro.trans k.ro
  bxl := Nat.le_trans k.bxl k'.bxl
  bx id h := (k'.bx id (k.ro ▸ h)).trans (k.bx id h)
  nt := Nat.le_trans k.nt k'.nt
  lv t h := by
    rcases k'.lv t h with h1 | h1
    · exact k.lv t h1
    · exact .inr (Nat.le_trans k.nt h1)
  al id b h h' := k.al id b h (k'.al id b (k.le.σ _ _ h) h')
  fz a := (k'.fz a).trans (k.fz a)
  ns id h h' := k'.ns id (Nat.lt_of_lt_of_le h hN) (k.ns id h h')
  so := ⟨k'.so.1.trans k.so.1, k'.so.2.trans k.so.2⟩

theorem KeepN.then {g₁ g₂ g₃ : Gh} {H₁ H₂ H₃ : Heap} {w₁ w₂ w₃ : World} (k : Keep g₁ H₁ w₁ g₂ H₂ w₂) (hi : Inv g₁ H₁ w₁) (k' : Keep g₂ H₂ w₂ g₃ H₃ w₃) : Keep g₁ H₁ w₁ g₃ H₃ w₃ :=
  KeepN.trans hi k k' k.bxl

end Go.Vm
