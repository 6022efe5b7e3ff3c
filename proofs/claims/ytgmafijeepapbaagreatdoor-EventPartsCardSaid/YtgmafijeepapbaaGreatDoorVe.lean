/-
  Facts: a call that is known at the empty heap is known at every heap.
-/
import Derived.Test.YtgmafijeepapbaaGreatDoorVd
import Derived.Test.YtgmafijeepapbaaGreatDoorVb
import Derived.Lib.UnsafeStr
import Derived.Lib.Join
import Derived.Lib.Bytealg
import Derived.Laws.Externs
import Derived.Below
import Derived.ChangeArms
import Derived.DataReads
import Derived.RowKit3
import Derived.ChangeSame
namespace Go.Vm

def hNil : Heap := { bx := [], ro := 0, live := [], nt := 0 }
def bare (g : Gh) : Gh := { S := g.S, σ := fun _ => none, τ := fun _ => none, κ := fun _ => 0 }

section
variable {E : Env} {P : Program} {g : Gh} {H : Heap} {w : World}

theorem nil_live {id : Nat} (h : hNil.liveAt id) : False := by
  obtain ⟨b, hb, _⟩ := h
  simp [hNil] at hb

theorem nil_shut (g : Gh) (b : Nat) : Shut g hNil b := ⟨fun _ _ h => (nil_live h).elim, fun t lo hi h => by simp [hNil] at h⟩

theorem bare_inv (hi : Inv g H w) : Inv (bare g) hNil w where
  st := hi.st
  bx id es el h := by simp [hNil] at h
  mp id es h := by simp [hNil] at h
  sp id T cs h := by simp [hNil] at h
  inj i j b h := (nil_live h).elim
  sd _ _ := rfl
  td _ _ := rfl
  tk t b lo hi' h := by simp [hNil] at h
  tinj t t' b lo hi' lo' hi2 h := by simp [hNil] at h
  nd := List.nodup_nil
  lt t h := by simp [hNil] at h
  sz id b h := by simp [bare] at h
  ro := Nat.le_refl _
  rm id b c T m h := (nil_live h).elim

theorem return_bare (hi : Inv g H w) {g' : Gh} {H' : Heap} {w' : World} (k : Keep (bare g) hNil w g' H' w') :
    Inv (retG g w w') H w' ∧ Keep g H w (retG g w w') H w' ∧ ∀ b o v, g'.S b o = some v → w'.cell? ⟨b, o, none⟩ = some v → (retG g w w').S b o = some v := by
  have hh : ∀ b, b < w.heap.size → w'.heap[b]? = w.heap[b]? := fun b hb => k.heap b hb (nil_shut _ b)
  have hS : ∀ b o, b < w.heap.size → (retG g w w').S b o = g.S b o := fun b o hb => by simp [retG, hb]
  have hle : g.Le (retG g w w') := ⟨fun b o v h => by rw [hS b o (hi.S_lt h)]; exact h, fun _ _ h => h, fun _ _ h => h, fun _ _ _ => rfl⟩
  refine ⟨⟨?_, ?_, ?_, ?_, hi.inj, hi.sd, hi.td, ?_, hi.tinj, hi.nd, hi.lt, ?_, hi.ro, fun id b c T m h1 h2 h3 => hi.rm id b c T m h1 h2 (by rw [← hh b (hi.sz _ _ h2)]; exact h3)⟩, ⟨hle, fun b hb _ => hh b hb, fun b hb _ o => hS b o hb, k.size, ?_, ?_, rfl, Nat.le_refl _, fun _ _ => rfl, Nat.le_refl _, fun _ h => .inl h, fun _ _ _ h => h, fun _ _ h => h, k.so⟩, ?_⟩
  · intro b o v h
    by_cases hb : b < w.heap.size
    · rw [hS b o hb] at h
      rw [cell_of_heap (hh b hb)]
      exact hi.st _ _ _ h
    · simpa [retG, hb] using h
  · intro id es el h
    obtain ⟨b, c, T, h1, h2, h3, h4, h5, h6⟩ := hi.bx id es el h
    have hb := hi.sz _ _ h1
    exact ⟨b, c, T, h1, by rw [hh b hb]; exact h2, h3, h4, fun i hi' j hj => let ⟨v, e, x⟩ := h5 i hi' j hj; ⟨v, e, x.mono hle⟩, fun o => by rw [hS b o hb]; exact h6 o⟩
  · intro id es h
    obtain ⟨b, c, T, h1, h2, h3, h4, h5⟩ := hi.mp id es h
    have hb := hi.sz _ _ h1
    exact ⟨b, c, T, h1, by rw [hh b hb]; exact h2, h3, fun i hi' => let ⟨e, a, x, y⟩ := h4 i hi'; ⟨e, a, x.mono hle, y.mono hle⟩, fun o => by rw [hS b o hb]; exact h5 o⟩
  · intro id T cs h
    obtain ⟨b, c, h1, h2, h3, h4, h5⟩ := hi.sp id T cs h
    have hb := hi.sz _ _ h1
    exact ⟨b, c, h1, by rw [hh b hb]; exact h2, h3, fun j hj => let ⟨v, e, x⟩ := h4 j hj; ⟨v, e, x.mono hle⟩, fun o => by rw [hS b o hb]; exact h5 o⟩
  · intro t b lo hi' h1 h2
    obtain ⟨⟨c, T, h3, h4⟩, h5, h6⟩ := hi.tk t b lo hi' h1 h2
    have hb : b < w.heap.size := by
      rcases Nat.lt_or_ge b w.heap.size with h | h
      · exact h
      · simp [Array.getElem?_eq_none h] at h3
    exact ⟨⟨c, T, by rw [hh b hb]; exact h3, h4⟩, fun o ho => by rw [hS b o hb]; exact h5 o ho, h6⟩
  · intro id b h
    exact Nat.lt_of_lt_of_le (hi.sz _ _ h) k.size
  · intro id b h h'
    rw [show (retG g w w').σ id = g.σ id from rfl, h] at h'; cases h'
  · intro t b lo hi' h h'
    rw [show (retG g w w').τ t = g.τ t from rfl, h] at h'; cases h'
  · intro b o v h h'
    by_cases hb : b < w.heap.size
    · have := k.store b hb (nil_shut _ b) o
      rw [hS b o hb, show g.S b o = (bare g).S b o from rfl, ← this]; exact h
    · simpa [retG, hb] using h'

/-- A value that is all frozen, as it enters. -/
noncomputable def frzG : PV → Option PV
  | .agg cs => match frzL cs with | some cs' => some (.agg cs') | none => none
  | v => frz1 v
noncomputable def frzGL : List PV → Option (List PV)
  | [] => some []
  | v :: r => match frzG v with
    | some v' => match frzGL r with
      | some r' => some (v' :: r')
      | none => none
    | none => none

theorem frzG_ok {p p' : PV} {v : Value} (h : V g p v) (hf : frzG p = some p') : V0 g.S p' v := by
  unfold frzG at hf
  split at hf
  · rename_i cs
    split at hf
    · rename_i cs' hc
      cases hf
      obtain ⟨vs, hl, rfl, hv⟩ := h.agg_inv
      obtain ⟨h1, h2⟩ := frzL_ok hc
      exact .agg _ _ (by omega) fun i hi => frz1_ok (hv i (by omega)) (h2 i (by omega) hi)
    · cases hf
  · exact frz1_ok h hf

theorem frzGL_ok : ∀ {ps ps' : List PV}, frzGL ps = some ps' → ps'.length = ps.length ∧ ∀ i (hi : i < ps.length) (hi' : i < ps'.length), frzG ps[i] = some ps'[i]
  | [], ps', h => by simp only [frzGL, Option.some.injEq] at h; subst h; exact ⟨rfl, fun i hi => absurd hi (by simp)⟩
  | p :: ps, ps', h => by
    simp only [frzGL] at h
    split at h
    · rename_i p' hp
      split at h
      · rename_i r hr
        cases h
        obtain ⟨h1, h2⟩ := frzGL_ok hr
        refine ⟨by simp [h1], fun i hi hi' => ?_⟩
        cases i with
        | zero => exact hp
        | succ i => exact h2 i (by simpa using hi) (by simpa using hi')
      · cases h
    · cases h

/-- A call at the empty heap says what the call gives at every heap. -/
theorem callOk_lift {f : FuncId} {args args' : List PV} {r r' : PV} {H' : Heap} (h : CallOk E P f args' hNil r H') (ha : frzGL args = some args') (hf : frz3 0 H' r = some r') (H : Heap) : CallOk E P f args H r' H := by
  intro g w vals hi hg hv
  obtain ⟨l1, l2⟩ := frzGL_ok ha
  have hv' : VL (bare g) args' vals.toList := ⟨by rw [l1]; exact hv.1, fun i h1 h2 => V.pure (g := bare g) _ _ (show V0 g.S _ _ from frzG_ok (hv.2 i (by omega) h2) (l2 i (by omega) h1))⟩
  refine UponCall.mono (fun v w' ⟨g', hp, hi', k⟩ => ?_) (h (bare g) w vals (bare_inv hi) hg hv')
  obtain ⟨i1, k1, hS⟩ := return_bare hi k
  have hq : V0 (retG g w w').S r' v := frz3_ok hi' (fun b o v h => hS b o v h (hi'.st _ _ _ h)) (fun id b o v _ hσ hcell => by
    have hb : w.heap.size ≤ b := (k.new id b rfl hσ).elim (fun h => h) fun ⟨_, _, a, _⟩ => (nil_live a).elim
    simp [retG, Nat.not_lt.2 hb, hcell]) hp hf
  exact ⟨retG g w w', .pure _ _ hq, i1, k1⟩

theorem CallOk.env {E' : Env} (hG : E'.G = E.G) {f : FuncId} {args : List PV} {H H' : Heap} {r : PV} (h : CallOk E P f args H r H') : CallOk E' P f args H r H' :=
  fun g w vals hi hg hv => h g w vals hi (fun k cs e => hg k cs (by rw [hG]; exact e)) hv

end
end Go.Vm

/-
  Facts as oracles of the evaluator.
-/
namespace Go.Vm

mutual
def eqP : PV → PV → Bool
  | .bool a, .bool b => match a, b with | true, true => true | false, false => true | _, _ => false
  | .int k n, .int k' m => decide (k = k') && decide (n = m)
  | .str s, .str t => decide (s = t)
  | .nilp, .nilp => true
  | .nils, .nils => true
  | .nilm, .nilm => true
  | .nilf, .nilf => true
  | .sl .none es el, .sl .none es' el' => Nat.beq es es' && eqPLL el el'
  | .agg cs, .agg cs' => eqPL cs cs'
  | .tup cs, .tup cs' => eqPL cs cs'
  | _, _ => false
def eqPL : List PV → List PV → Bool
  | [], [] => true
  | a :: r, b :: s => eqP a b && eqPL r s
  | _, _ => false
def eqPLL : List (List PV) → List (List PV) → Bool
  | [], [] => true
  | a :: r, b :: s => eqPL a b && eqPLL r s
  | _, _ => false
end

theorem eqP_ok (a : PV) : ∀ b, eqP a b = true → a = b := by
  refine @PV.rec (fun a => ∀ b, eqP a b = true → a = b) (fun l => ∀ m, eqPL l m = true → l = m) (fun l => ∀ m, eqPLL l m = true → l = m)
    ?bool ?int ?str ?nilp ?ptr ?fptr ?nils ?sl ?own ?nilm ?map ?nilf ?fn ?agg ?tup ?undef ?n2 ?c2 ?n3 ?c3 a
  case bool => intro x b h; cases b <;> simp [eqP] at h; rename_i y; cases x <;> cases y <;> simp at h ⊢
  case int => intro k n b h; cases b <;> simp [eqP] at h; simp [h]
  case str => intro t b h; cases b <;> simp [eqP] at h; simp [h]
  case nilp => intro b h; cases b <;> first | rfl | simp [eqP] at h
  case nils => intro b h; cases b <;> first | rfl | simp [eqP] at h
  case nilm => intro b h; cases b <;> first | rfl | simp [eqP] at h
  case nilf => intro b h; cases b <;> first | rfl | simp [eqP] at h
  case sl =>
    intro t es el ih b h
    cases b with
    | sl t' es' el' =>
      cases t <;> cases t' <;> simp only [eqP, Bool.false_eq_true] at h
      simp only [Bool.and_eq_true] at h
      rw [Nat.eq_of_beq_eq_true h.1, ih el' h.2]
    | _ => cases t <;> simp [eqP] at h
  case agg =>
    intro cs ih b h
    cases b with
    | agg cs' =>
      simp only [eqP] at h
      rw [ih cs' h]
    | _ => simp [eqP] at h
  case tup =>
    intro cs ih b h
    cases b with
    | tup cs' =>
      simp only [eqP] at h
      rw [ih cs' h]
    | _ => simp [eqP] at h
  case n2 => intro b h; cases b <;> first | rfl | simp [eqPL] at h
  case c2 =>
    intro x r i1 i2 b h
    cases b with
    | nil => simp [eqPL] at h
    | cons y s =>
      simp only [eqPL, Bool.and_eq_true] at h
      rw [i1 y h.1, i2 s h.2]
  case n3 => intro b h; cases b <;> first | rfl | simp [eqPLL] at h
  case c3 =>
    intro x r i1 i2 b h
    cases b with
    | nil => simp [eqPLL] at h
    | cons y s =>
      simp only [eqPLL, Bool.and_eq_true] at h
      rw [i1 y h.1, i2 s h.2]
  all_goals intros; rename_i h; simp [eqP] at h

theorem eqPL_ok : ∀ (a b : List PV), eqPL a b = true → a = b
  | [], [], _ => rfl
  | a :: r, b :: s, h => by
    simp only [eqPL, Bool.and_eq_true] at h
    rw [eqP_ok a b h.1, eqPL_ok r s h.2]
  | [], _ :: _, h => by simp [eqPL] at h
  | _ :: _, [], h => by simp [eqPL] at h

structure Fact where
  f : FuncId
  args : List PV
  r : PV

def findF : List Fact → FuncId → List PV → Option PV
  | [], _, _ => none
  | x :: l, f, args => match Nat.beq x.f f with
    | true => match eqPL x.args args with
      | true => some x.r
      | false => findF l f args
    | false => findF l f args

/-- The environment with facts for oracles. -/
def Env.knows (E : Env) (l : List Fact) : Env :=
  { E with
    F := fun f => match l.any (fun x => Nat.beq x.f f) with | true => none | false => E.F f
    Z := fun f args H => match findF l f args with | some r => some (r, H) | none => E.Z f args H }

/-- A fact, to be computed. -/
noncomputable def evFact (E : Env) (fuel k : Nat) (f : FuncId) (args : List PV) : Option PV :=
  match frzGL args with
  | some args' => match ev E fuel k f args' hNil with
    | some (r, H') => frz3 0 H' r
    | none => none
  | none => none

section
variable {E : Env} {P : Program}

def FactOk (E : Env) (P : Program) (x : Fact) : Prop := ∀ H, CallOk E P x.f x.args H x.r H

theorem findF_ok {f : FuncId} {args : List PV} {r : PV} : ∀ {l : List Fact}, findF l f args = some r → ∃ x ∈ l, x.f = f ∧ x.args = args ∧ x.r = r
  | x :: l, h => by
    simp only [findF] at h
    split at h
    · rename_i h1
      split at h
      · rename_i h2
        cases h
        exact ⟨x, List.mem_cons_self, Nat.eq_of_beq_eq_true h1, eqPL_ok _ _ h2, rfl⟩
      · obtain ⟨y, hy, e⟩ := findF_ok h; exact ⟨y, List.mem_cons_of_mem _ hy, e⟩
    · obtain ⟨y, hy, e⟩ := findF_ok h; exact ⟨y, List.mem_cons_of_mem _ hy, e⟩

theorem knows_calls {l : List Fact} (hl : ∀ x ∈ l, FactOk E P x) (hZ : CallsOk E P E.Z) : CallsOk (E.knows l) P (E.knows l).Z := by
  intro f args H p H' h
  simp only [Env.knows] at h
  split at h
  · rename_i r hr
    cases h
    obtain ⟨x, hx, rfl, rfl, rfl⟩ := findF_ok hr
    exact ⟨(hl x hx H).env rfl, fun _ => rfl⟩
  · obtain ⟨a, b⟩ := hZ _ _ _ _ _ h
    exact ⟨a.env rfl, b⟩

theorem knows_F {l : List Fact} (hF : FOk E P) : FOk (E.knows l) P := fun f fn c h => by
  simp only [Env.knows] at h
  split at h
  · cases h
  · exact hF f fn c h

theorem fact_ok (hE : TOk E P) (hm : P.follows .mixedOrders = true) (hF : FOk E P) (hZ : CallsOk E P E.Z) {fuel k : Nat} {f : FuncId} {args : List PV} {r : PV} (h : evFact E fuel k f args = some r) : FactOk E P ⟨f, args, r⟩ := by
  unfold evFact at h
  split at h
  · rename_i args' ha
    split at h
    · rename_i r0 H' hev
      exact callOk_lift (ev_ok hE hm hF hZ k _ _ _ _ _ hev).1 ha h
    · cases h
  · cases h

theorem FactOk.env {E' : Env} (hG : E'.G = E.G) {x : Fact} (h : FactOk E P x) : FactOk E' P x := fun H => (h H).env hG

end
end Go.Vm

/-
  Tables of types and functions, each entry with its proof; facts that are computed.
-/
namespace Go.Vm

inductive Tri (α : Type) where
  | leaf
  | node (v : Option α) (l r : Tri α)
noncomputable def Tri.get {α : Type} (t : Tri α) : Nat → Option α :=
  Tri.rec (motive := fun _ => Nat → Option α) (fun _ => none)
    (fun v _ _ il ir n => Nat.rec (motive := fun _ => Option α) v (fun m _ => Nat.rec (motive := fun _ => Option α) (il (m / 2)) (fun _ _ => ir (m / 2)) (m % 2)) n) t

structure FnE (P : Program) where
  f : FuncId
  fn : Func
  c : Code
  ok : FnOk P f fn c
  n : Nat.ble fn.ntmps 4000 = true
structure TiE (P : Program) where
  t : TypeId
  ti : TI
  ok : tiOf P t = some ti

section
variable {P : Program}

noncomputable def getF (t : Tri (FnE P)) (f : FuncId) : Option Func := match t.get f with
  | some e => match Nat.beq e.f f with | true => some e.fn | false => none
  | none => none
noncomputable def getT (t : Tri (TiE P)) (f : TypeId) : Option TI := match t.get f with
  | some e => match Nat.beq e.t f with | true => some e.ti | false => none
  | none => none

theorem getF_ok {t : Tri (FnE P)} {f : FuncId} {fn : Func} {c : Code} (h : getF t f = some fn) (hb : fn.body = some c) : FnOk P f fn c ∧ fn.ntmps ≤ 4000 := by
  unfold getF at h
  split at h
  · rename_i e _
    split at h
    · rename_i he
      cases h
      have := Nat.eq_of_beq_eq_true he
      subst this
      have hc := e.ok.body
      rw [hb] at hc
      cases hc
      exact ⟨e.ok, Nat.le_of_ble_eq_true e.n⟩
    · cases h
  · cases h

theorem getT_ok {t : Tri (TiE P)} {f : TypeId} {ti : TI} (h : getT t f = some ti) : tiOf P f = some ti := by
  unfold getT at h
  split at h
  · rename_i e _
    split at h
    · rename_i he
      cases h
      have := Nat.eq_of_beq_eq_true he
      subst this
      exact e.ok
    · cases h
  · cases h

noncomputable def okFact (E : Env) (fuel k : Nat) (x : Fact) : Bool := match evFact E fuel k x.f x.args with
  | some r => eqP r x.r
  | none => false

theorem okFact_ok {E : Env} (hE : TOk E P) (hm : P.follows .mixedOrders = true) (hF : FOk E P) (hZ : CallsOk E P E.Z) {fuel k : Nat} {x : Fact} (h : okFact E fuel k x = true) : FactOk E P x := by
  unfold okFact at h
  split at h
  · rename_i r hr
    have := eqP_ok _ _ h
    subst this
    exact fact_ok hE hm hF hZ hr
  · cases h

end
end Go.Vm

/-
  Oracles of the evaluator: what some functions of Go's library make of the abstract heap. Of no program: what a seat knows of its own functions comes in as hypotheses.
-/
namespace Go.Vm
open Go.RowKit

abbrev ZF := List PV → Heap → Option (PV × Heap)
noncomputable def findZ : List (Nat × ZF) → FuncId → ZF
  | [], _, _, _ => none
  | (k, z) :: r, f, args, H => match Nat.beq f k with
    | true => z args H
    | false => findZ r f args H
noncomputable def hasZ : List (Nat × ZF) → FuncId → Bool
  | [], _ => false
  | (k, _) :: r, f => match Nat.beq f k with
    | true => true
    | false => hasZ r f
def ZOk (E : Env) (P : Program) (x : Nat × ZF) : Prop := ∀ args H p H', x.2 args H = some (p, H') → CallOk E P x.1 args H p H' ∧ (E.eff x.1 = false → H' = H)
theorem findZ_ok {E : Env} {P : Program} : ∀ {l : List (Nat × ZF)}, (∀ x, x ∈ l → ZOk E P x) → CallsOk E P (findZ l)
  | [], _ => fun f args H p H' h => by simp [findZ] at h
  | (k, z) :: r, hl => fun f args H p H' h => by
    simp only [findZ] at h
    split at h
    · rename_i hf
      obtain rfl := Nat.eq_of_beq_eq_true hf
      exact hl (f, z) List.mem_cons_self args H p H' h
    · exact findZ_ok (fun x hx => hl x (List.mem_cons_of_mem _ hx)) f args H p H' h
theorem zok_nil {p : Nat × ZF → Prop} : ∀ x, x ∈ ([] : List (Nat × ZF)) → p x := fun _ h => absurd h (by simp)
theorem zok_cons {p : Nat × ZF → Prop} {a : Nat × ZF} {l : List (Nat × ZF)} (h : p a) (hl : ∀ x, x ∈ l → p x) : ∀ x, x ∈ a :: l → p x := fun x hx => by
  rcases List.mem_cons.1 hx with rfl | hx
  · exact h
  · exact hl x hx

/-! ### the index of a byte, how often it stands, the order of two strings -/
def idxB : List UInt8 → Int → Nat → Int
  | [], _, _ => -1
  | b :: r, c, i => if (b.toNat : Int) = c then i else idxB r c (i + 1)
def cntB : List UInt8 → Int → Int
  | [], _ => 0
  | b :: r, c => if (b.toNat : Int) = c then cntB r c + 1 else cntB r c
noncomputable def cntZ : ZF := fun args H => match args with
  | [.str s, .int k c] => match decide (k = .u8) && (decide (0 ≤ c) && decide (c ≤ 255)) with
    | true => some (.int .i64 (cntB s c), H)
    | false => none
  | _ => none
noncomputable def idxZ : ZF := fun args H => match args with
  | [.str s, .int k c] => match decide (k = .u8) && (decide (0 ≤ c) && decide (c ≤ 255)) with
    | true => some (.int .i64 (idxB s c 0), H)
    | false => none
  | _ => none
noncomputable def cmpZ : ZF := fun args H => match args with
  | [.str a, .str b] => some (.int .i64 (Lib.compareBytes a b), H)
  | _ => none

theorem idxB_eq (c : UInt8) : ∀ (l : List UInt8) (k : Nat), idxB l (c.toNat : Int) (k : Nat) = if Lib.indexByte l c = -1 then -1 else Lib.indexByte l c + k
  | [], k => by simp [idxB, Lib.indexByte]
  | b :: l, k => by
    have ih := idxB_eq c l (k + 1)
    have hge := Lib.indexByte_ge l c
    unfold idxB Lib.indexByte
    by_cases h : b = c
    · subst h
      simp
    · have h1 : ¬ (b.toNat : Int) = (c.toNat : Int) := fun e => h (UInt8.toNat_inj.1 (by exact_mod_cast e))
      have h2 : (b == c) = false := by simpa using h
      rw [if_neg h1, h2]
      simp only [Bool.false_eq_true, if_false]
      rw [ih]
      by_cases e : Lib.indexByte l c = -1
      · simp [e]
      · have e' : (Lib.indexByte l c == -1) = false := by simpa using e
        rw [if_neg e, e']
        simp only [Bool.false_eq_true, if_false]
        rw [if_neg (by omega)]
        omega
theorem cntB_eq (c : UInt8) : ∀ l : List UInt8, cntB l (c.toNat : Int) = (Lib.countByte l c : Int)
  | [] => by simp [cntB, Lib.countByte]
  | b :: l => by
    have ih := cntB_eq c l
    unfold cntB
    unfold Lib.countByte at ih ⊢
    rw [List.count_cons]
    by_cases h : b = c
    · subst h
      rw [if_pos rfl, ih]
      simp
    · have h1 : ¬ (b.toNat : Int) = (c.toNat : Int) := fun e => h (UInt8.toNat_inj.1 (by exact_mod_cast e))
      have h2 : (b == c) = false := by simpa using h
      rw [if_neg h1, ih, h2]
      simp

section
variable {E : Env} {P : Program}

theorem two_vals {g : Gh} {p q : PV} {vals : Array Value} (hv : VL g [p, q] vals.toList) : ∃ v0 v1, vals = #[v0, v1] ∧ V g p v0 ∧ V g q v1 := by
  obtain ⟨l, hv⟩ := hv
  have hl : vals.toList.length = 2 := by simpa using l
  obtain ⟨v0, v1, hvals⟩ : ∃ v0 v1, vals.toList = [v0, v1] := by
    match h : vals.toList, hl with
    | [a, b], _ => exact ⟨a, b, rfl⟩
  rw [hvals] at hv
  exact ⟨v0, v1, Array.toList_inj.1 (by simpa using hvals), by simpa using hv 0 (by simp) (by simp), by simpa using hv 1 (by simp) (by simp)⟩
theorem one_val {g : Gh} {p : PV} {vals : Array Value} (hv : VL g [p] vals.toList) : ∃ v0, vals = #[v0] ∧ V g p v0 := by
  obtain ⟨l, hv⟩ := hv
  have hl : vals.toList.length = 1 := by simpa using l
  obtain ⟨v0, hvals⟩ : ∃ v0, vals.toList = [v0] := by
    match h : vals.toList, hl with
    | [a], _ => exact ⟨a, rfl⟩
  rw [hvals] at hv
  exact ⟨v0, Array.toList_inj.1 (by simpa using hvals), by simpa using hv 0 (by simp) (by simp)⟩

theorem byte_of {c : Int} (h0 : 0 ≤ c) (h1 : c ≤ 255) : ((c.toNat.toUInt8).toNat : Int) = c := by
  have : c.toNat < 256 := by omega
  simp [Nat.mod_eq_of_lt this]
  omega

/-- The entry for the index of a byte. -/
theorem idx_ok {f : FuncId} {fn : Func} (hf : P.funcs[f]? = some fn) (hn : (fn.name == "runtime.NumGoroutine") = false) (hb : fn.body.isNone = true) (hx : Extern.findNext fn = none) (he : Extern.find fn = some Extern.BytealgIndexByte.indexByte) :
    ZOk E P (f, idxZ) := by
  intro args H p H' h
  simp only [idxZ] at h
  split at h
  · rename_i s k c
    split at h
    · rename_i hc
      simp only [Bool.and_eq_true, decide_eq_true_eq] at hc
      obtain ⟨rfl, h0, h1⟩ := hc
      cases h
      refine ⟨fun g w vals hi hg hv => ?_, fun _ => rfl⟩
      obtain ⟨v0, v1, rfl, e0, e1⟩ := two_vals hv
      obtain ⟨b, rfl, hb2⟩ := e0.str_inv
      obtain rfl := e1.int_inv
      rw [run_callFunc_extern (e := Extern.BytealgIndexByte.indexByte) hf hn hb hx he, Lib.run_indexByteString]
      have hc := byte_of h0 h1
      have e := idxB_eq c.toNat.toUInt8 s 0
      rw [hc] at e
      have e2 : idxB s c 0 = Lib.indexByte s c.toNat.toUInt8 := by
        rw [e]
        split
        · rename_i h; exact h.symm
        · simp
      simp only [Result.andThen, UponCall]
      rw [e2, hb2]
      exact ⟨g, .pure _ _ (.int _ _), hi, KeepN.refl _ _ _ _⟩
    · cases h
  · cases h
theorem cnt_ok {f : FuncId} {fn : Func} (hf : P.funcs[f]? = some fn) (hn : (fn.name == "runtime.NumGoroutine") = false) (hb : fn.body.isNone = true) (hx : Extern.findNext fn = none) (he : Extern.find fn = some Extern.BytealgCount.count) :
    ZOk E P (f, cntZ) := by
  intro args H p H' h
  simp only [cntZ] at h
  split at h
  · rename_i s k c
    split at h
    · rename_i hc
      simp only [Bool.and_eq_true, decide_eq_true_eq] at hc
      obtain ⟨rfl, h0, h1⟩ := hc
      cases h
      refine ⟨fun g w vals hi hg hv => ?_, fun _ => rfl⟩
      obtain ⟨v0, v1, rfl, e0, e1⟩ := two_vals hv
      obtain ⟨b, rfl, hb2⟩ := e0.str_inv
      obtain rfl := e1.int_inv
      rw [run_callFunc_extern (e := Extern.BytealgCount.count) hf hn hb hx he, Lib.run_countString]
      have hc := byte_of h0 h1
      have e := cntB_eq c.toNat.toUInt8 s
      rw [hc] at e
      simp only [Result.andThen, UponCall]
      rw [e, hb2]
      exact ⟨g, .pure _ _ (.int _ _), hi, KeepN.refl _ _ _ _⟩
    · cases h
  · cases h
theorem cmp_ok {f : FuncId} {fn : Func} (hf : P.funcs[f]? = some fn) (hn : (fn.name == "runtime.NumGoroutine") = false) (hb : fn.body.isNone = true) (hx : Extern.findNext fn = none) (he : Extern.find fn = some Extern.BytealgCompare.compare) :
    ZOk E P (f, cmpZ) := by
  intro args H p H' h
  simp only [cmpZ] at h
  split at h
  · rename_i s t
    cases h
    refine ⟨fun g w vals hi hg hv => ?_, fun _ => rfl⟩
    obtain ⟨v0, v1, rfl, e0, e1⟩ := two_vals hv
    obtain ⟨a, rfl, ha⟩ := e0.str_inv
    obtain ⟨b, rfl, hb2⟩ := e1.str_inv
    rw [run_callFunc_extern (e := Extern.BytealgCompare.compare) hf hn hb hx he, Lib.run_compareString]
    simp only [Result.andThen, UponCall]
    rw [ha, hb2]
    exact ⟨g, .pure _ _ (.int _ _), hi, KeepN.refl _ _ _ _⟩
  · cases h

/-! ### a world of which the elder blocks are as they were -/
theorem inv_grown {g : Gh} {H : Heap} {w w' : World} (hi : Inv g H w) (hh : ∀ k, k < w.heap.size → w'.heap[k]? = w.heap[k]?) (hs : w.heap.size ≤ w'.heap.size) (hso : w'.os = w.os ∧ w'.output = w.output) : Inv g H w' ∧ Keep g H w g H w' := by
  refine ⟨⟨fun b o v h => ?_, fun id es el h => ?_, fun id es h => ?_, fun id T cs h => ?_, hi.inj, hi.sd, hi.td, fun t b lo hi' h1 h2 => ?_, hi.tinj, hi.nd, hi.lt, fun id b h => Nat.lt_of_lt_of_le (hi.sz id b h) hs, hi.ro, fun id b c T m h1 h2 h3 => ?_⟩,
    ⟨.refl g, fun b hb _ => hh b hb, fun _ _ _ _ => rfl, hs, fun i b h h' => (by rw [h] at h'; cases h'), fun i b _ _ h h' => (by rw [h] at h'; cases h'), rfl, Nat.le_refl _, fun _ _ => rfl, Nat.le_refl _, fun _ h => .inl h, fun _ _ _ h => h, fun _ _ h => h, hso⟩⟩
  · rw [cell_of_heap (hh b (hi.S_lt h))]; exact hi.st _ _ _ h
  · obtain ⟨b, c, T, h1, h2, h3, h4, h5, h6⟩ := hi.bx id es el h
    exact ⟨b, c, T, h1, by rw [hh b (hi.sz _ _ h1)]; exact h2, h3, h4, h5, h6⟩
  · obtain ⟨b, c, T, h1, h2, h3⟩ := hi.mp id es h
    exact ⟨b, c, T, h1, by rw [hh b (hi.sz _ _ h1)]; exact h2, h3⟩
  · obtain ⟨b, c, h1, h2, h3⟩ := hi.sp id T cs h
    exact ⟨b, c, h1, by rw [hh b (hi.sz _ _ h1)]; exact h2, h3⟩
  · obtain ⟨⟨c, T, h3, h4⟩, h5, h6⟩ := hi.tk t b lo hi' h1 h2
    have hb : b < w.heap.size := by
      rcases Nat.lt_or_ge b w.heap.size with h' | h'
      · exact h'
      · simp [Array.getElem?_eq_none h'] at h3
    exact ⟨⟨c, T, by rw [hh b hb]; exact h3, h4⟩, h5, h6⟩
  · rw [hh b (hi.sz _ _ h2)] at h3
    exact hi.rm id b c T m h1 h2 h3

/-! ### strings.Join -/
def strsL : List (List PV) → Option (List (List UInt8))
  | [] => some []
  | c :: r => match c with
    | [.str s] => match strsL r with
      | some l => some (s :: l)
      | none => none
    | _ => none
def joinB (sep : List UInt8) : List (List UInt8) → List UInt8
  | [] => []
  | x :: r => match r with
    | [] => x
    | _ :: _ => x ++ (sep ++ joinB sep r)
noncomputable def joinZ : ZF := fun args H => match args with
  | [l, .str sep] => match (match l with | .nils => some [] | .sl _ es el => (match Nat.beq es 1 with | true => strsL el | false => none) | _ => none) with
    | some xs => match Nat.ble xs.length 1000000 && Nat.ble (joinB sep xs).length 1000000 with
      | true => some (.str (joinB sep xs), H)
      | false => none
    | none => none
  | _ => none
theorem strsL_spec : ∀ {el : List (List PV)} {l : List (List UInt8)}, strsL el = some l → el = l.map fun s => [.str s]
  | [], l, h => by simp [strsL] at h; subst h; rfl
  | c :: r, l, h => by
    simp only [strsL] at h
    split at h
    · split at h
      · rename_i l' hl
        cases h
        rw [strsL_spec hl]; rfl
      · cases h
    · cases h
theorem joinTail_eq (sep : List UInt8) : ∀ (x : List UInt8) (r : List (List UInt8)), joinB sep (x :: r) = x ++ Lib.joinTail sep r
  | x, [] => by simp [joinB, Lib.joinTail]
  | x, y :: r => by
    have := joinTail_eq sep y r
    simp only [joinB, Lib.joinTail, List.map_cons, List.flatten_cons] at this ⊢
    simp only [this, List.append_assoc]
theorem joinB_eq (sep : List UInt8) (xs : List (List UInt8)) : joinB sep xs = Lib.join xs sep := by
  cases xs with
  | nil => rw [Lib.join_nil]; rfl
  | cons x r => rw [joinTail_eq, Lib.join_cons]

theorem join_ok {f : FuncId} {fn : Func} {c : Code} (hf : FnOk P f fn c)
    (h0 : ∀ (a : Option Addr) (c : Nat) (sep : ByteArray) (w : World), Calls P f #[.slice a 0 c, .string sep] w fun e w' => e = .returned (.string ⟨#[]⟩) ∧ w' = w)
    (h1 : ∀ (bk o c : Nat) (xs : List ByteArray) (sep : ByteArray) (w : World), (∀ (j : Nat) x, xs[j]? = some x → w.cell? ⟨bk, o + j, none⟩ = some (.string x)) → bk < w.heap.size → xs.length ≤ 140737488355328 → xs.length ≤ c →
      (Lib.join (xs.map (·.data.toList)) sep.data.toList).length ≤ 140737488355328 → Calls P f #[.slice (some ⟨bk, o, none⟩) xs.length c, .string sep] w fun e w' => e = .returned (.string ⟨(Lib.join (xs.map (·.data.toList)) sep.data.toList).toArray⟩) ∧ Below w.heap.size w w') :
    ZOk E P (f, joinZ) := by
  intro args H p H' h
  simp only [joinZ] at h
  split at h
  · rename_i l sep
    split at h
    · rename_i xs hxs
      split at h
      · rename_i hle
        simp only [Bool.and_eq_true, Nat.ble_eq] at hle
        cases h
        refine ⟨fun g w vals hi hg hv => ?_, fun _ => rfl⟩
        obtain ⟨v0, v1, rfl, e0, e1⟩ := two_vals hv
        obtain ⟨sb, rfl, hsb⟩ := e1.str_inv
        have none_case : ∀ a c, v0 = .slice a 0 c → xs = [] → UponCall P (fun v w' => ∃ g', V g' (.str (joinB sep xs)) v ∧ Inv g' H w' ∧ Keep g H w g' H w') ((callFunc f #[v0, .string sb]).run P w) := fun a c hv hx => by
          subst hv hx
          rw [callFunc_enter hf]
          exact Calls.mono (h0 a c sb w) fun e w' ⟨he, hw⟩ => ⟨_, he, g, .pure _ _ (.str _ _ rfl), by subst hw; exact ⟨hi, KeepN.refl _ _ _ _⟩⟩
        split at hxs
        · cases hxs
          exact none_case none 0 e0.nils_inv rfl
        · rename_i tl es el
          split at hxs
          · rename_i hes
            obtain rfl := Nat.eq_of_beq_eq_true hes
            have hel := strsL_spec hxs
            obtain ⟨b, o, cap, vv, a, rfl, hcap, hw, hS, hV, -, ha⟩ := e0.sl_inv
            by_cases hx : xs = []
            · subst hx
              have : el = [] := by simpa using hel
              subst this
              exact none_case (some a) cap rfl rfl
            · have hlen : el.length = xs.length := by rw [hel]; simp
              have hpos : 0 < xs.length := List.length_pos_iff.2 hx
              have ha := ha (.inl (by omega))
              subst ha
              have hcell : ∀ (j : Nat) (x : ByteArray), (xs.map fun s => (⟨s.toArray⟩ : ByteArray))[j]? = some x → g.S b (o + j) = some (.string x) := fun j x hj => by
                rw [List.getElem?_map] at hj
                obtain ⟨s, hs, rfl⟩ := Option.map_eq_some_iff.1 hj
                have hjl : j < xs.length := get_lt hs
                have hje : j < el.length := by omega
                have h1 := hS j 0 hje (by omega)
                have ej : el[j] = [.str s] := by
                  have : el[j]? = some [.str s] := by rw [hel, List.getElem?_map, hs]; rfl
                  rw [List.getElem?_eq_getElem hje] at this
                  simpa using this
                have h2 := hV j hje 0 (by rw [ej]; simp)
                have h3 : V0 g.S (.str s) (vv j 0) := by
                  have e : (el[j])[0]'(by rw [ej]; simp) = .str s := by simp [ej]
                  rwa [e] at h2
                cases hq : vv j 0 with
                | string bb =>
                  rw [hq] at h3
                  cases h3 with
                  | str _ _ he =>
                    have : bb = ⟨s.toArray⟩ := by
                      apply ByteArray.ext
                      apply Array.toList_inj.1
                      simpa using he
                    rw [hq, this] at h1
                    simpa using h1
                | _ => rw [hq] at h3; cases h3
              have hb : b < w.heap.size := hi.S_lt (hcell 0 _ (by rw [List.getElem?_map, List.getElem?_eq_getElem hpos]; rfl))
              have hmap : (xs.map fun s => (⟨s.toArray⟩ : ByteArray)).map (·.data.toList) = xs := by simp [Function.comp_def]
              have hc := h1 b o cap (xs.map fun s => ⟨s.toArray⟩) sb w (fun j x hj => hi.st _ _ _ (hcell j x hj)) hb (by simp; omega) (by simp; omega) (by rw [hmap, hsb, ← joinB_eq]; omega)
              rw [hmap, hsb, ← joinB_eq] at hc
              rw [callFunc_enter hf]
              have hn : (xs.map fun s => (⟨s.toArray⟩ : ByteArray)).length = el.length := by simp [hlen]
              rw [hn] at hc
              exact Calls.mono hc fun e w' ⟨he, hbl⟩ => by
                obtain ⟨j1, j2⟩ := inv_grown hi (fun k hk => hbl.block k hk) hbl.size ⟨hbl.os, hbl.output⟩
                exact ⟨_, he, g, .pure _ _ (.str _ _ (by simp)), j1, j2⟩
          · cases hxs
        · cases hxs
      · cases h
    · cases h
  · cases h
end
end Go.Vm

/-
  Oracles of the evaluator: what a strings.Builder does before it is written to, and what it gives as a string.
-/
namespace Go.Vm
open Go.RowKit

section
variable {P : Program} (w : World)
theorem liesAt_at {e : TypeId} (hc : P.cellsOf e = 1) (count off n : Nat) (hn : off + n ≤ count) : liesAt P P.depth e count off e n = true := by
  have hd : P.depth = (2 * (P.types.size + Made.depth) + 1) + 1 := rfl
  rw [hd]
  simp only [liesAt, Bool.or_eq_true]
  left
  rw [hd]
  simp [rowAt, hc, hn, sameLayout, Nat.mod_one]
/-- unsafe.String over a part of a row of bytes. -/
theorem run_unsafeString_at (pt it ty e : TypeId) (hp : P.underlying pt = some (.pointer e)) (hc : P.cellsOf e = 1) (g o cells : Nat) (hsh : w.shape? g = some (e, cells)) (l : List UInt8) (h0 : l ≠ []) (hn : o + l.length ≤ cells) (h63 : l.length ≤ 9223372036854775807)
    (hcell : ∀ j x, l[j]? = some x → w.cell? ((⟨g, o, none⟩ : Addr).add j) = some (.int .u8 x.toNat)) :
    (Builtin.unsafeString_ #[pt, it] ty #[.pointer (some ⟨g, o, none⟩), .int .i64 l.length]).run P w = .ok (.string ⟨l.toArray⟩) (w.freeze ⟨g, o, none⟩ l.length) := by
  have hl : l.length ≠ 0 := by simpa using h0
  have hlb := Lib.run_loadBytes (P := P) w l ⟨g, o, none⟩ .empty hcell
  have hlies := liesAt_at (P := P) hc (cells / P.cellsOf e) o l.length (by rw [hc]; simpa using hn)
  have h63' : ¬ (9223372036854775807 : Int) < (l.length : Int) := by omega
  have hneg : ¬ (l.length : Int) < 0 := by omega
  have hmax : IntKind.i64.max = 9223372036854775807 := rfl
  change Sem.run P (asInt (.int .i64 l.length) >>= _) w = _
  simp [asInt, asIntOf, hmax, h63', hneg, hl, variablesAt, hsh, elemOf, run_underlying hp, hlies, hlb]
end

section
variable {g : Gh} {H : Heap} {w w' : World}
/-- The room of a token is given up, and something of its block is marked. -/
theorem inv_mark (hi : Inv g H w) {k bb lo : Nat} {hi' : Nat × TypeId} {l : List Nat} (hk : k ∈ H.live) (hτ : g.τ k = some (bb, lo, hi')) (hl : l.Sublist H.live) (hn : ∀ x, x ∈ l → x ≠ k)
    (hh : ∀ b, b ≠ bb → w'.heap[b]? = w.heap[b]?) (hc : ∀ o, w'.cell? ⟨bb, o, none⟩ = w.cell? ⟨bb, o, none⟩) (hs : w'.heap.size = w.heap.size) (hso : w'.os = w.os ∧ w'.output = w.output) :
    Inv g { H with live := l } w' ∧ Keep g H w g { H with live := l } w' := by
  have hbx : ∀ id b, H.liveAt id → g.σ id = some b → b ≠ bb := fun id b h1 h2 e => (hi.tk k bb lo hi' hk hτ).2.2 id h1 (by rw [h2, e])
  refine ⟨⟨fun b o v h => ?_, fun id es el h => ?_, fun id es h => ?_, fun id T cs h => ?_, hi.inj, hi.sd, hi.td, fun t b lo2 hi2 h1 h2 => ?_, fun t t' b a1 a2 b1 b2 h1 h2 => hi.tinj t t' b a1 a2 b1 b2 (hl.subset h1) (hl.subset h2), hi.nd.sublist hl, fun t h => hi.lt t (hl.subset h), fun id b h => by rw [hs]; exact hi.sz id b h, hi.ro, fun id b c T m h1 h2 h3 => ?_⟩,
    ⟨.refl g, fun b hb hsh => hh b fun e => hsh.2 k lo hi' hk (by rw [e]; exact hτ), fun _ _ _ _ => rfl, by rw [hs]; exact Nat.le_refl _, fun i b h h' => (by rw [h] at h'; cases h'), fun i b _ _ h h' => (by rw [h] at h'; cases h'), rfl, Nat.le_refl _, fun _ _ => rfl, Nat.le_refl _, fun _ h => .inl (hl.subset h), fun _ _ _ h => h, fun _ _ h => h, hso⟩⟩
  · by_cases e : b = bb
    · subst e; rw [hc]; exact hi.st _ _ _ h
    · rw [cell_of_heap (hh b e)]; exact hi.st _ _ _ h
  · obtain ⟨b, c, T, h1, h2, h3⟩ := hi.bx id es el h
    exact ⟨b, c, T, h1, by rw [hh b (hbx id b ⟨_, h, trivial⟩ h1)]; exact h2, h3⟩
  · obtain ⟨b, c, T, h1, h2, h3⟩ := hi.mp id es h
    exact ⟨b, c, T, h1, by rw [hh b (hbx id b ⟨_, h, trivial⟩ h1)]; exact h2, h3⟩
  · obtain ⟨b, c, h1, h2, h3⟩ := hi.sp id T cs h
    exact ⟨b, c, h1, by rw [hh b (hbx id b ⟨_, h, trivial⟩ h1)]; exact h2, h3⟩
  · obtain ⟨⟨c, T, h3, h4⟩, h5, h6⟩ := hi.tk t b lo2 hi2 (hl.subset h1) h2
    have e : b ≠ bb := fun e => hn t h1 (hi.tinj t k bb lo2 hi2 lo hi' (hl.subset h1) hk (e ▸ h2) hτ)
    exact ⟨⟨c, T, by rw [hh b e]; exact h3, h4⟩, h5, h6⟩
  · rw [hh b (hbx id b h1 h2)] at h3
    exact hi.rm id b c T m h1 h2 h3
end

/-! ### copyCheck -/
noncomputable def ccZ (bT : TypeId) : ZF := fun args H => match args with
  | [.ptr id es ix off] => match Nat.beq es 2 && (Nat.beq ix 0 && Nat.beq off 0) with
    | true => match nth H.bx id with
      | some (.sp T cs) => match cs with
        | [p, v] => match Nat.beq T bT with
          | true => match p with
            | .nilp => match Nat.ble H.ro id with
              | true => some (.tup [], { H with bx := H.bx.set id (.sp T [.ptr id 2 0 0, v]) })
              | false => none
            | .ptr i es' ix' off' => match Nat.beq i id && (Nat.beq es' 2 && (Nat.beq ix' 0 && Nat.beq off' 0)) with
              | true => some (.tup [], H)
              | false => none
            | _ => none
          | false => none
        | _ => none
      | _ => none
    | false => none
  | _ => none

theorem setCell_other (w : World) (b k : Nat) (v : Value) (o : Nat) (h : k ≠ b) : (w.setCell ⟨b, o, none⟩ v).heap[k]? = w.heap[k]? := by
  simp only [World.setCell, Array.getElem?_modify]
  rw [if_neg (Ne.symm h)]
theorem setCell_at (w : World) (b : Nat) (v c0 c1 : Value) (T : TypeId) (fr : Nat × Nat) (h : w.heap[b]? = some (.cells #[c0, c1] T fr)) : (w.setCell ⟨b, 0, none⟩ v).heap[b]? = some (.cells #[v, c1] T fr) := by
  simp only [World.setCell, Array.getElem?_modify, h]
  simp
theorem cell_at (w : World) (b o : Nat) (c : Array Value) (T : TypeId) (fr : Nat × Nat) (h : w.heap[b]? = some (.cells c T fr)) : w.cell? ⟨b, o, none⟩ = c[o]? := by
  simp [World.cell?, h]
theorem two_of {c : Array Value} (h : c.size = 2) : ∃ a b, c = #[a, b] := by
  obtain ⟨l⟩ := c
  match l, h with
  | [a, b], _ => exact ⟨a, b, rfl⟩

section
variable {E : Env} {P : Program}
theorem cc_ok {bT : TypeId} {f : FuncId} {fn : Func} {c : Code} (hf : FnOk P f fn c)
    (h0 : ∀ (b : Nat) (w : World), w.cell? ⟨b, 0, none⟩ = some (.pointer none) → w.shape? b = some (bT, 2) → w.frozen? ⟨b, 0, none⟩ = false →
      Calls P f #[.pointer (some ⟨b, 0, none⟩)] w fun e w' => e = .returned (.tuple #[]) ∧ w' = w.setCell ⟨b, 0, none⟩ (.pointer (some ⟨b, 0, none⟩)))
    (h1 : ∀ (b : Nat) (w : World), w.cell? ⟨b, 0, none⟩ = some (.pointer (some ⟨b, 0, none⟩)) → Calls P f #[.pointer (some ⟨b, 0, none⟩)] w fun e w' => e = .returned (.tuple #[]) ∧ w' = w)
    (he : E.eff f = true) : ZOk E P (f, ccZ bT) := by
  intro args H p H' h
  simp only [ccZ] at h
  split at h
  · rename_i id es ix off
    split at h
    · rename_i hq
      simp only [Bool.and_eq_true] at hq
      obtain rfl := Nat.eq_of_beq_eq_true hq.1
      obtain rfl := Nat.eq_of_beq_eq_true hq.2.1
      obtain rfl := Nat.eq_of_beq_eq_true hq.2.2
      split at h
      · rename_i T cs hb
        rw [nth_eq] at hb
        split at h
        · rename_i x v
          split at h
          · rename_i hT
            obtain rfl := Nat.eq_of_beq_eq_true hT
            refine ⟨fun g w vals hi hg hv => ?_, fun hh => by rw [he] at hh; cases hh⟩
            obtain ⟨v0, rfl, e0⟩ := one_val hv
            obtain ⟨b, hσ, rfl⟩ := e0.ptr_inv
            obtain ⟨b', c, z1, z2, z3, z4, z5⟩ := hi.sp _ _ _ hb
            rw [hσ] at z1; cases z1
            obtain ⟨c0, c1, rfl⟩ := two_of z3
            have y0 : V g x c0 := by
              obtain ⟨u, hu, hx⟩ := z4 0 (by simp)
              simp at hu hx; rw [hu]; exact hx
            have y1 : V g v c1 := by
              obtain ⟨u, hu, hx⟩ := z4 1 (by simp)
              simp at hu hx; rw [hu]; exact hx
            have hc0 : w.cell? ⟨b, 0, none⟩ = some c0 := by rw [cell_at w b 0 _ _ _ z2]; rfl
            rw [callFunc_enter hf]
            simp only [Nat.zero_mul, Nat.zero_add]
            cases x with
            | nilp =>
              simp only at h
              split at h
              · rename_i hro
                cases h
                obtain rfl := y0.nilp_inv
                refine Calls.mono (h0 b w hc0 (by simp [World.shape?, z2]) (by simp [World.frozen?, z2])) fun e w' ⟨h1, h2⟩ => ?_
                subst h2
                have hat := setCell_at w b (.pointer (some ⟨b, 0, none⟩)) _ _ _ _ z2
                obtain ⟨j1, j2⟩ := inv_put hi (Nat.le_of_ble_eq_true hro) hb trivial hσ z5 (fun k hk => setCell_other w b k _ 0 hk) (by simp [World.setCell]) hat (fun a => by
                    by_cases ea : a.block = b
                    · simp only [World.frozen?, ea, hat, z2]
                    · simp only [World.frozen?, setCell_other w b a.block _ 0 ea]) (bo := .sp T [.ptr id 2 0 0, v]) (fun es el h => by cases h) (fun es h => by cases h) (fun c2 T2 m2 h => by
                    cases h
                    have h2 := hi.rm id b _ _ _ ⟨_, hb, trivial⟩ hσ z2
                    simpa using h2) ⟨rfl, rfl⟩ (fun T2 cs2 h => by
                    cases h
                    refine ⟨_, rfl, rfl, fun j hj => ?_⟩
                    match j, hj with
                    | 0, _ => exact ⟨_, rfl, by have := V.ptr (g := g) id 2 0 0 b hσ; simpa using this⟩
                    | 1, _ => exact ⟨_, rfl, y1⟩)
                exact ⟨_, h1, g, .tup _ _ rfl (fun i hi => absurd hi (by simp)), j1, j2⟩
              · cases h
            | ptr i es' ix' off' =>
              simp only at h
              split at h
              · rename_i hq
                simp only [Bool.and_eq_true] at hq
                obtain rfl := Nat.eq_of_beq_eq_true hq.1
                obtain rfl := Nat.eq_of_beq_eq_true hq.2.1
                obtain rfl := Nat.eq_of_beq_eq_true hq.2.2.1
                obtain rfl := Nat.eq_of_beq_eq_true hq.2.2.2
                cases h
                obtain ⟨b2, hσ2, rfl⟩ := y0.ptr_inv
                rw [hσ] at hσ2; cases hσ2
                refine Calls.mono (h1 b w (by simpa using hc0)) fun e w' ⟨h1, h2⟩ => ?_
                subst h2
                exact ⟨_, h1, g, .tup _ _ rfl (fun i hi => absurd hi (by simp)), hi, KeepN.refl _ _ _ _⟩
              · cases h
            | _ => simp at h
          · cases h
        · cases h
      · cases h
    · cases h
  · cases h

/-! ### String -/
def bytesL : List (List PV) → Option (List UInt8)
  | [] => some []
  | c :: r => match c with
    | [.int .u8 n] => match decide (0 ≤ n) && decide (n ≤ 255) with
      | true => match bytesL r with
        | some l => some (n.toNat.toUInt8 :: l)
        | none => none
      | false => none
    | _ => none
theorem bytesL_spec : ∀ {el : List (List PV)} {l : List UInt8}, bytesL el = some l → el = strBytes l
  | [], l, h => by simp [bytesL] at h; subst h; rfl
  | c :: r, l, h => by
    simp only [bytesL] at h
    split at h
    · rename_i n
      split at h
      · rename_i hn
        simp only [Bool.and_eq_true, decide_eq_true_eq] at hn
        split at h
        · rename_i l' hl
          cases h
          have := byte_of hn.1 hn.2
          rw [bytesL_spec hl, strBytes, strBytes, List.map_cons]
          congr 2
          rw [show Int.ofNat (n.toNat.toUInt8).toNat = n from this]
        · cases h
      · cases h
    · cases h
noncomputable def bstrZ (bT : TypeId) : ZF := fun args H => match args with
  | [.ptr id es ix off] => match Nat.beq es 2 && (Nat.beq ix 0 && Nat.beq off 0) with
    | true => match nth H.bx id with
      | some (.sp T cs) => match cs with
        | [_, v] => match Nat.beq T bT with
          | true => match v with
            | .nils => some (.str [], H)
            | .sl (.tok k) es' el => match Nat.beq es' 1, eraseTok k H.live, bytesL el with
              | true, some l, some bs => match Nat.blt 0 bs.length && Nat.ble bs.length 1000000 with
                | true => some (.str bs, { H with live := l })
                | false => none
              | _, _, _ => none
            | _ => none
          | false => none
        | _ => none
      | _ => none
    | false => none
  | _ => none

theorem freeze_other (w : World) (b o n k : Nat) (h : k ≠ b) : (w.freeze ⟨b, o, none⟩ n).heap[k]? = w.heap[k]? := by
  unfold World.freeze
  split
  · rfl
  · simp only [Array.getElem?_modify]
    rw [if_neg (Ne.symm h)]
theorem freeze_cell (w : World) (b o n q : Nat) (c : Array Value) (T : TypeId) (fr : Nat × Nat) (h : w.heap[b]? = some (.cells c T fr)) : (w.freeze ⟨b, o, none⟩ n).cell? ⟨b, q, none⟩ = w.cell? ⟨b, q, none⟩ := by
  unfold World.freeze
  split
  · rfl
  · simp [World.cell?, Array.getElem?_modify, h]
theorem freeze_size (w : World) (a : Addr) (n : Nat) : (w.freeze a n).heap.size = w.heap.size := by
  unfold World.freeze
  split
  · rfl
  · simp
theorem freeze_so (w : World) (a : Addr) (n : Nat) : (w.freeze a n).os = w.os ∧ (w.freeze a n).output = w.output := by
  unfold World.freeze
  split <;> exact ⟨rfl, rfl⟩

theorem bstr_ok {bT : TypeId} {f : FuncId} {fn : Func} {c : Code} (hf : FnOk P f fn c)
    (h0 : ∀ (b : Nat) (p : Value) (w : World), w.heap[b]? = some (.cells #[p, .slice none 0 0] bT (0, 0)) → Calls P f #[.pointer (some ⟨b, 0, none⟩)] w fun e w' => e = .returned (.string ⟨#[]⟩) ∧ w' = w.drew)
    (h1 : ∀ (b : Nat) (p : Value) (bb o cap : Nat) (cur : Array Value) (l : List UInt8) (w : World), w.heap[b]? = some (.cells #[p, .slice (some ⟨bb, o, none⟩) l.length cap] bT (0, 0)) → w.heap[bb]? = some (.cells cur 5 (0, 0)) → l ≠ [] → l.length ≤ cap → o + cap ≤ cur.size → l.length ≤ 1000000 →
      (∀ j x, l[j]? = some x → w.cell? ⟨bb, o + j, none⟩ = some (.int .u8 x.toNat)) → Calls P f #[.pointer (some ⟨b, 0, none⟩)] w fun e w' => e = .returned (.string ⟨l.toArray⟩) ∧ w' = w.drew.freeze ⟨bb, o, none⟩ l.length)
    (he : E.eff f = true) : ZOk E P (f, bstrZ bT) := by
  intro args H p H' h
  simp only [bstrZ] at h
  split at h
  · rename_i id es ix off
    split at h
    · rename_i hq
      simp only [Bool.and_eq_true] at hq
      obtain rfl := Nat.eq_of_beq_eq_true hq.1
      obtain rfl := Nat.eq_of_beq_eq_true hq.2.1
      obtain rfl := Nat.eq_of_beq_eq_true hq.2.2
      split at h
      · rename_i T cs hb
        rw [nth_eq] at hb
        split at h
        · rename_i x v
          split at h
          · rename_i hT
            obtain rfl := Nat.eq_of_beq_eq_true hT
            refine ⟨fun g w vals hi hg hv => ?_, fun hh => by rw [he] at hh; cases hh⟩
            obtain ⟨v0, rfl, e0⟩ := one_val hv
            obtain ⟨b, hσ, rfl⟩ := e0.ptr_inv
            obtain ⟨b', c, z1, z2, z3, z4, z5⟩ := hi.sp _ _ _ hb
            rw [hσ] at z1; cases z1
            obtain ⟨c0, c1, rfl⟩ := two_of z3
            have y1 : V g v c1 := by
              obtain ⟨u, hu, hx⟩ := z4 1 (by simp)
              simp at hu hx; rw [hu]; exact hx
            rw [callFunc_enter hf]
            simp only [Nat.zero_mul, Nat.zero_add]
            cases v with
            | nils =>
              simp only at h
              cases h
              obtain rfl := y1.nils_inv
              refine Calls.mono (h0 b _ w z2) fun e w' ⟨h1, h2⟩ => ?_
              subst h2
              exact ⟨_, h1, g, .pure _ _ (.str _ _ rfl), hi.same rfl, KeepN.same rfl⟩
            | sl tl es' el =>
              cases tl with
              | tok k =>
                simp only at h
                split at h
                · rename_i l bs hes hl hbs
                  split at h
                  · rename_i hle
                    simp only [Bool.and_eq_true] at hle
                    cases h
                    obtain rfl := Nat.eq_of_beq_eq_true hes
                    have hel := bytesL_spec hbs
                    have hpos : 0 < bs.length := Nat.le_of_ble_eq_true hle.1
                    have hmax := Nat.le_of_ble_eq_true hle.2
                    have hlen : el.length = bs.length := by rw [hel]; simp [strBytes]
                    obtain ⟨hk, hsub, hne⟩ := eraseTok_spec hl
                    obtain ⟨bb, o, cap, vv, a, rfl, hcap, hw, hS, hV, ⟨T2, hT2, hroom⟩, ha⟩ := y1.sl_inv
                    have ha := ha (.inl (by omega))
                    subst ha
                    have hτ : g.τ k = some (bb, o + el.length * 1, (o + cap * 1, T2)) := by
                      rcases hroom with ⟨h, _⟩ | h
                      · omega
                      · exact h
                    obtain ⟨⟨cur, T3, q1, q2⟩, q3, q4⟩ := hi.tk k _ _ _ hk hτ
                    have h5 : T2 = 5 := by
                      rw [hel] at hT2
                      obtain ⟨y, r, rfl⟩ : ∃ y r, bs = y :: r := by
                        cases bs with
                        | nil => simp at hpos
                        | cons y r => exact ⟨y, r, rfl⟩
                      simp only [strBytes, List.map_cons, tokB, List.all_cons, Bool.and_eq_true, byteC] at hT2
                      exact Nat.eq_of_beq_eq_true hT2.1
                    have q2b : T3 = 5 := q2.2.trans h5
                    subst q2b
                    have hcell : ∀ j x, bs[j]? = some x → w.cell? ⟨bb, o + j, none⟩ = some (.int .u8 x.toNat) := fun j x hj => by
                      have hjl : j < bs.length := get_lt hj
                      have hje : j < el.length := by omega
                      have s1 := hS j 0 hje (by omega)
                      have ej : el[j] = [.int .u8 (Int.ofNat x.toNat)] := by
                        have : el[j]? = some [.int .u8 (Int.ofNat x.toNat)] := by rw [hel, strBytes, List.getElem?_map, hj]; rfl
                        rw [List.getElem?_eq_getElem hje] at this
                        simpa using this
                      have s2 := hV j hje 0 (by rw [ej]; simp)
                      have e : (el[j])[0]'(by rw [ej]; simp) = .int .u8 (Int.ofNat x.toNat) := by simp [ej]
                      rw [e] at s2
                      have s3 : vv j 0 = .int .u8 (Int.ofNat x.toNat) := by
                        revert s2
                        generalize vv j 0 = u
                        intro s2
                        cases s2
                        rfl
                      rw [s3] at s1
                      have := hi.st _ _ _ s1
                      simpa using this
                    have q2a := q2.1
                    simp only [Nat.mul_one] at q2a
                    rw [hlen] at z2
                    have hne0 : bs ≠ [] := List.length_pos_iff.1 hpos
                    refine Calls.mono (h1 b _ bb o cap cur bs w z2 q1 hne0 (by omega) q2a hmax hcell) fun e w' ⟨h1, h2⟩ => ?_
                    subst h2
                    have qd : w.drew.heap[bb]? = some (.cells cur 5 (0, 0)) := q1
                    obtain ⟨j1, j2⟩ := inv_mark (w' := w.drew.freeze ⟨bb, o, none⟩ bs.length) hi hk hτ hsub (hne hi.nd) (fun b2 hb2 => freeze_other w.drew bb o _ b2 hb2) (fun q => freeze_cell w.drew bb o _ q _ _ _ qd) (freeze_size _ _ _) (freeze_so _ _ _)
                    exact ⟨_, h1, g, .pure _ _ (.str _ _ rfl), j1, j2⟩
                  · cases h
                · cases h
              | _ => simp at h
            | _ => simp at h
          · cases h
        · cases h
      · cases h
    · cases h
  · cases h
end
end Go.Vm

/-
  Code walked by rules: slots and values may be symbolic.
-/
namespace Go.Vm

/-- The code comes to an end as Q says. -/
structure Wp (E : Env) (P : Program) (own : Tmp → Bool) (n : Nat) (c : Code) (Q : Ex → TM → Heap → Prop) (tm : TM) (H : Heap) : Prop where
  out : ∃ ex tm' H', CodeTo E P own n c tm H ex tm' H' ∧ Q ex tm' H'

def seqR (E : Env) (P : Program) (own : Tmp → Bool) (n : Nat) (d : Code) (Q : Ex → TM → Heap → Prop) : Ex → TM → Heap → Prop
  | .normal => Wp E P own n d Q
  | .exit i => Q (.exit i)
  | .ret => Q .ret
def blockR (i : Nat) (Q : Ex → TM → Heap → Prop) : Ex → TM → Heap → Prop
  | .normal => Q .normal
  | .exit j => match Nat.beq j i with | true => Q .normal | false => Q (.exit j)
  | .ret => Q .ret
structure SeqQ (E : Env) (P : Program) (own : Tmp → Bool) (n : Nat) (d : Code) (Q : Ex → TM → Heap → Prop) (ex : Ex) (tm : TM) (H : Heap) : Prop where
  out : seqR E P own n d Q ex tm H
structure BlockQ (i : Nat) (Q : Ex → TM → Heap → Prop) (ex : Ex) (tm : TM) (H : Heap) : Prop where
  out : blockR i Q ex tm H
structure LoopQ (E : Env) (P : Program) (own : Tmp → Bool) (n : Nat) (c : Code) (Q : Ex → TM → Heap → Prop) (ex : Ex) (tm : TM) (H : Heap) : Prop where
  out : seqR E P own n (.loop c) Q ex tm H

/-- The operations of a region in the text's order, and what follows. -/
structure RegQ (E : Env) (P : Program) (own : Tmp → Bool) (n : Nat) (all l : List Oper) (K : TM → Heap → Prop) (tm : TM) (H : Heap) : Prop where
  out : ∃ tm' H', RegTo E P own n all l tm H tm' H' ∧ K tm' H'
/-- The same of a region that draws its order. -/
structure DrwQ (E : Env) (P : Program) (own : Tmp → Bool) (n : Nat) (ops : Array Oper) (n0 i : Nat) (r : List Oper) (K : TM → Heap → Prop) (tm : TM) (H : Heap) : Prop where
  out : r = ops.toList.drop i → ∃ tm' H', Run E P own n ops n0 (clsI E own ops) (fun _ => n0) (fun _ => []) ((List.range ops.size).drop i) tm H tm' H' ∧ K tm' H'

section
variable {E : Env} {P : Program} {own : Tmp → Bool} {n : Nat} {Q : Ex → TM → Heap → Prop} {K : TM → Heap → Prop} {tm : TM} {H : Heap}

theorem Wp.mono {Q' : Ex → TM → Heap → Prop} {c : Code} (h : Wp E P own n c Q tm H) (hq : ∀ ex tm H, Q ex tm H → Q' ex tm H) : Wp E P own n c Q' tm H :=
  let ⟨ex, tm', H', h1, h2⟩ := h.out; ⟨ex, tm', H', h1, hq _ _ _ h2⟩
theorem Wp.skip (h : Q .normal tm H) : Wp E P own n .skip Q tm H := ⟨_, _, _, .skip _ _, h⟩
theorem Wp.label {l : Nat} (h : Q .normal tm H) : Wp E P own n (.label l) Q tm H := ⟨_, _, _, .label _ _ _, h⟩
theorem Wp.ret (h : Q .ret tm H) : Wp E P own n .ret Q tm H := ⟨_, _, _, .ret _ _, h⟩
theorem Wp.exit {i : Nat} (h : Q (.exit i) tm H) : Wp E P own n (.exit i) Q tm H := ⟨_, _, _, .exit _ _ _, h⟩

theorem Wp.seq {c d : Code} (h : Wp E P own n c (SeqQ E P own n d Q) tm H) : Wp E P own n (.seq c d) Q tm H := by
  obtain ⟨ex, tm', H', h1, h2⟩ := h.out
  cases ex with
  | normal =>
    obtain ⟨ex2, tm2, H2, h3, h4⟩ := (show Wp E P own n d Q tm' H' from h2.out).out
    exact ⟨ex2, tm2, H2, .seq _ _ _ _ _ _ _ _ _ h1 h3, h4⟩
  | exit i => exact ⟨.exit i, tm', H', .seqOut _ _ _ _ _ _ _ h1 (by simp), h2.out⟩
  | ret => exact ⟨.ret, tm', H', .seqOut _ _ _ _ _ _ _ h1 (by simp), h2.out⟩
theorem SeqQ.go {d : Code} (h : Wp E P own n d Q tm H) : SeqQ E P own n d Q .normal tm H := ⟨h⟩
theorem SeqQ.ret {d : Code} (h : Q .ret tm H) : SeqQ E P own n d Q .ret tm H := ⟨h⟩
theorem SeqQ.exit {d : Code} {i : Nat} (h : Q (.exit i) tm H) : SeqQ E P own n d Q (.exit i) tm H := ⟨h⟩

theorem Wp.block {i : Nat} {c : Code} (h : Wp E P own n c (BlockQ i Q) tm H) : Wp E P own n (.block i c) Q tm H := by
  obtain ⟨ex, tm', H', h1, ⟨h2⟩⟩ := h.out
  cases ex with
  | normal => exact ⟨.normal, tm', H', .block _ _ _ _ _ _ _ h1 (by simp), h2⟩
  | ret => exact ⟨.ret, tm', H', .block _ _ _ _ _ _ _ h1 (by simp), h2⟩
  | exit j =>
    cases e : Nat.beq j i with
    | true =>
      simp only [blockR, e] at h2
      have := Nat.eq_of_beq_eq_true e
      subst this
      exact ⟨.normal, tm', H', .blockOut _ _ _ _ _ _ h1, h2⟩
    | false =>
      simp only [blockR, e] at h2
      exact ⟨.exit j, tm', H', .block _ _ _ _ _ _ _ h1 (by intro h; cases h; rw [Nat.beq_refl] at e; cases e), h2⟩
theorem BlockQ.go {i : Nat} (h : Q .normal tm H) : BlockQ i Q .normal tm H := ⟨h⟩
theorem BlockQ.ret {i : Nat} (h : Q .ret tm H) : BlockQ i Q .ret tm H := ⟨h⟩
theorem BlockQ.hit {i j : Nat} (e : Nat.beq j i = true) (h : Q .normal tm H) : BlockQ i Q (.exit j) tm H := ⟨by simp only [blockR, e]; exact h⟩
theorem BlockQ.miss {i j : Nat} (e : Nat.beq j i = false) (h : Q (.exit j) tm H) : BlockQ i Q (.exit j) tm H := ⟨by simp only [blockR, e]; exact h⟩

theorem Wp.loop {c : Code} (h : Wp E P own n c (LoopQ E P own n c Q) tm H) : Wp E P own n (.loop c) Q tm H := by
  obtain ⟨ex, tm', H', h1, h2⟩ := h.out
  cases ex with
  | normal =>
    obtain ⟨ex2, tm2, H2, h3, h4⟩ := (show Wp E P own n (.loop c) Q tm' H' from h2.out).out
    exact ⟨ex2, tm2, H2, .loop _ _ _ _ _ _ _ _ h1 h3, h4⟩
  | exit i => exact ⟨.exit i, tm', H', .loopOut _ _ _ _ _ _ h1 (by simp), h2.out⟩
  | ret => exact ⟨.ret, tm', H', .loopOut _ _ _ _ _ _ h1 (by simp), h2.out⟩
theorem LoopQ.go {c : Code} (h : Wp E P own n (.loop c) Q tm H) : LoopQ E P own n c Q .normal tm H := ⟨h⟩
theorem LoopQ.ret {c : Code} (h : Q .ret tm H) : LoopQ E P own n c Q .ret tm H := ⟨h⟩
theorem LoopQ.exit {c : Code} {i : Nat} (h : Q (.exit i) tm H) : LoopQ E P own n c Q (.exit i) tm H := ⟨h⟩

theorem Wp.cond {x : Operand} {c d : Code} {b : Bool} (hx : evalO E tm x = .bool b) (h1 : b = true → Wp E P own n c Q tm H) (h2 : b = false → Wp E P own n d Q tm H) : Wp E P own n (.cond x c d) Q tm H := by
  cases b with
  | true =>
    obtain ⟨ex, tm', H', h3, h4⟩ := (h1 rfl).out
    exact ⟨ex, tm', H', .cond x c d true _ _ _ _ _ hx h3, h4⟩
  | false =>
    obtain ⟨ex, tm', H', h3, h4⟩ := (h2 rfl).out
    exact ⟨ex, tm', H', .cond x c d false _ _ _ _ _ hx h3, h4⟩
theorem Wp.condT {x : Operand} {c d : Code} (hx : evalO E tm x = .bool true) (h1 : Wp E P own n c Q tm H) : Wp E P own n (.cond x c d) Q tm H :=
  .cond hx (fun _ => h1) (fun e => by cases e)
theorem Wp.condF {x : Operand} {c d : Code} (hx : evalO E tm x = .bool false) (h1 : Wp E P own n d Q tm H) : Wp E P own n (.cond x c d) Q tm H :=
  .cond hx (fun e => by cases e) (fun _ => h1)

theorem Wp.region {id : Nat} {ops : Array Oper} (h : RegQ E P own n ops.toList ops.toList (Q .normal) tm H) : Wp E P own n (.region id ops false) Q tm H := by
  obtain ⟨tm', H', h1, h2⟩ := h.out
  exact ⟨.normal, tm', H', .region _ _ _ _ _ _ h1, h2⟩

theorem RegQ.nil {all : List Oper} (h : K tm H) : RegQ E P own n all [] K tm H := ⟨_, _, .nil _ _, h⟩
theorem RegQ.op {all r : List Oper} {o : Oper} {p : PV} {H1 : Heap} (hw : wantedA all tm o = some true) (hd : dstOk n o = true) (h : aOp E (own (o.dst.getD 0)) (evalO E tm) o.op H = some (p, H1))
    (hr : RegQ E P own n all r K (setD tm o.dst p) H1) : RegQ E P own n all (o :: r) K tm H := by
  obtain ⟨tm', H', h1, h2⟩ := hr.out
  exact ⟨tm', H', .op o r tm H p H1 tm' H' hw (.op _ _ h) (dstOk_spec hd) h1, h2⟩
theorem RegQ.call {all r : List Oper} {o : Oper} {p : PV} {H1 : Heap} (hw : wantedA all tm o = some true) (hd : dstOk n o = true) {f : Operand} {args : Array Operand} {ats : Array TypeId} {k : FuncId} {caps al : List PV}
    (ho : o.op = .call { callee := .value f, args := args, argTypes := ats }) (hf : evalO E tm f = .fn k caps) (ha : args.toList.map (evalO E tm) ++ caps = al) (h : CallOk E P k al H p H1)
    (hr : RegQ E P own n all r K (setD tm o.dst p) H1) : RegQ E P own n all (o :: r) K tm H := by
  obtain ⟨tm', H', h1, h2⟩ := hr.out
  exact ⟨tm', H', .op o r tm H p H1 tm' H' hw (.call f args ats k caps _ _ ho hf (by rw [ha]; exact h)) (dstOk_spec hd) h1, h2⟩
theorem RegQ.pass {all r : List Oper} {o : Oper} (hw : wantedA all tm o = some false) (hd : dstOk n o = true) (hr : RegQ E P own n all r K (setD tm o.dst unset) H) : RegQ E P own n all (o :: r) K tm H := by
  obtain ⟨tm', H', h1, h2⟩ := hr.out
  exact ⟨tm', H', .pass o r tm H tm' H' hw (dstOk_spec hd) h1, h2⟩
/-- A guard that is not decided yet. -/
theorem RegQ.ask {all r : List Oper} {o : Oper} (b : Bool) (hw : wantedA all tm o = some b) (h : ∀ b', b = b' → wantedA all tm o = some b' → RegQ E P own n all (o :: r) K tm H) : RegQ E P own n all (o :: r) K tm H := h b rfl hw

/-! ### regions that draw their order -/
noncomputable def statD (E : Env) (own : Tmp → Bool) (ops : Array Oper) : Bool :=
  backA ops.toList 0 && freeA E own ops (masks ops.toList []) ops.toList 0 && (alL E own ops.toList 0).isEmpty && (stL E own ops.toList 0).isEmpty

theorem Wp.draw (hE : TOk E P) (hm : P.follows .mixedOrders = true) {id : Nat} {ops : Array Oper} (hs : statD E own ops = true) (h : DrwQ E P own n ops H.bx.length 0 ops.toList (Q .normal) tm H) : Wp E P own n (.region id ops true) Q tm H := by
  obtain ⟨tm', H', h1, h2⟩ := h.out (by simp)
  simp only [statD, Bool.and_eq_true] at hs
  obtain ⟨⟨⟨b1, b2⟩, b3⟩, b4⟩ := hs
  have ea : alL E own ops.toList 0 = [] := by simpa using b3
  have es : stL E own ops.toList 0 = [] := by simpa using b4
  have er : roomL E own ops = 0 := by simp [roomL, ea]
  refine ⟨.normal, tm', H', .draw _ _ _ _ _ _ fun id g a w Q hr hq => ?_, h2⟩
  have hS := sched_ok (tg := fun _ => H.bx.length) hr.inv.ro b1 b2 (by rw [es]; simp) (fun k _ => Nat.le_add_right _ _)
  rw [er] at hS
  have hmk : mskS H.bx.length (masks ops.toList []) (alL E own ops.toList 0) (stL E own ops.toList 0) (fun _ => H.bx.length) = fun _ => [] := by
    rw [ea, es]; rfl
  rw [hmk] at hS
  have hx : extH H 0 = H := by simp [extH]
  exact drawOk hE hm hS (by rw [hx]; exact h1) id g a w Q hr hq

theorem DrwQ.nil {ops : Array Oper} {n0 i : Nat} (h : K tm H) : DrwQ E P own n ops n0 i [] K tm H := ⟨fun hr => by
  have h1 : ops.size ≤ i := by
    rcases Nat.lt_or_ge i ops.size with h | h
    · have := congrArg List.length hr; simp at this; omega
    · exact h
  rw [List.drop_eq_nil_of_le (by simpa using h1)]
  exact ⟨tm, H, .nil _ _, h⟩⟩

theorem DrwQ.step {ops : Array Oper} {n0 i : Nat} {o : Oper} {r : List Oper} {p : PV} {H1 : Heap} (hd : dstOk n o = true)
    (h : ops[i]? = some o → Hp E P own ops n0 (clsI E own ops) (fun _ => n0) (fun _ => []) i o tm H p H1) (hr : DrwQ E P own n ops n0 (i + 1) r K (setD tm o.dst p) H1) : DrwQ E P own n ops n0 i (o :: r) K tm H := ⟨fun hl => by
  have ho : ops[i]? = some o := by
    have := congrArg List.head? hl
    simp [List.head?_drop] at this
    exact this.symm
  have hi : i < ops.size := by
    rcases Nat.lt_or_ge i ops.size with h | h
    · exact h
    · rw [Array.getElem?_eq_none h] at ho; cases ho
  have hr' : r = ops.toList.drop (i + 1) := by
    have := congrArg List.tail hl
    simpa using this
  have hdr : (List.range ops.size).drop i = i :: (List.range ops.size).drop (i + 1) := by
    rw [List.drop_eq_getElem_cons (by simpa using hi)]
    simp
  obtain ⟨tm', H', h1, h2⟩ := hr.out hr'
  rw [hdr]
  exact ⟨tm', H', .cons i _ o _ _ p H1 _ _ ho (dstOk_spec hd) (h ho) h1, h2⟩⟩

/-- What a drawn operation that is no call must be like. -/
noncomputable def okD (E : Env) (own : Tmp → Bool) (n0 : Nat) (tm : TM) (o : Oper) (H H1 : Heap) : Bool :=
  match clsO E own o with
  | .sc => true
  | .qu => true
  | .ld => seenO E tm o n0
  | .ef => Nat.ble H.bx.length H1.bx.length
  | _ => false

theorem mask_nil (H : Heap) : maskH [] H = H := rfl
theorem merge_nil (H M : Heap) : mergeH [] H M = M := rfl

theorem DrwQ.op {ops : Array Oper} {n0 i : Nat} {o : Oper} {r : List Oper} {p : PV} {H1 : Heap} (hw : wantedA ops.toList tm o = some true) (hd : dstOk n o = true) (h : aOp E (own (o.dst.getD 0)) (evalO E tm) o.op H = some (p, H1))
    (hk : okD E own n0 tm o H H1 = true) (hr : DrwQ E P own n ops n0 (i + 1) r K (setD tm o.dst p) H1) : DrwQ E P own n ops n0 i (o :: r) K tm H := by
  refine .step hd (fun ho => ?_) hr
  have hci := clsI_eq (E := E) (own := own) ho
  unfold okD at hk
  cases hcl : clsO E own o with
  | sc =>
    have h1 := aOp_sc hcl h H
    rw [h] at h1
    have e : H1 = H := by simpa using h1
    subst e
    exact .sc _ _ hw fun M => .op _ _ (aOp_sc hcl h M)
  | qu =>
    rw [hcl] at hci
    have e := aOp_qu hcl h
    subst e
    exact .qu _ _ hw hci (.op _ _ h)
  | ld =>
    rw [hcl] at hci hk
    have h1 := aOp_ld hcl h hk (K := H) rfl
    rw [h] at h1
    have e : H1 = H := by simpa using h1
    subst e
    exact .ld _ _ hw hci fun K hK => .op _ _ (aOp_ld hcl h hk hK)
  | ef =>
    rw [hcl] at hci hk
    exact .ef _ _ H1 hw hci (.op _ _ h) (Nat.le_of_ble_eq_true hk)
  | al => rw [hcl] at hk; cases hk
  | st => rw [hcl] at hk; cases hk
  | tk => rw [hcl] at hk; cases hk

theorem DrwQ.call {ops : Array Oper} {n0 i : Nat} {o : Oper} {r : List Oper} {p : PV} (hw : wantedA ops.toList tm o = some true) (hd : dstOk n o = true) {f : Operand} {args : Array Operand} {ats : Array TypeId} {k : FuncId} {caps al : List PV}
    (ho : o.op = .call { callee := .value f, args := args, argTypes := ats }) (hf : evalO E tm f = .fn k caps) (ha : args.toList.map (evalO E tm) ++ caps = al) (hc : clsO E own o = .qu) (h : CallOk E P k al H p H)
    (hr : DrwQ E P own n ops n0 (i + 1) r K (setD tm o.dst p) H) : DrwQ E P own n ops n0 i (o :: r) K tm H :=
  .step hd (fun ho' => .qu _ _ hw ((clsI_eq (E := E) (own := own) ho').trans hc) (.call f args ats k caps _ _ ho hf (by rw [ha]; exact h))) hr
theorem DrwQ.pass {ops : Array Oper} {n0 i : Nat} {o : Oper} {r : List Oper} (hw : wantedA ops.toList tm o = some false) (hd : dstOk n o = true) (hr : DrwQ E P own n ops n0 (i + 1) r K (setD tm o.dst unset) H) : DrwQ E P own n ops n0 i (o :: r) K tm H :=
  .step hd (fun _ => .pass _ hw) hr

/-! ### slots of which alone something is known -/
noncomputable def ovr (base : TM) : List (Nat × PV) → TM
  | [] => base
  | (d, v) :: r => setD (ovr base r) (some d) v
def okL (tm : TM) : List (Nat × PV) → Prop
  | [] => True
  | (d, v) :: r => tm d = v ∧ okL tm r
theorem ovr_self : ∀ {l : List (Nat × PV)}, okL tm l → ovr tm l = tm
  | [], _ => rfl
  | (d, v) :: r, h => by
    funext t
    simp only [ovr, setD]
    rw [ovr_self h.2]
    split
    · rename_i e; subst e; exact h.1.symm
    · rfl
theorem Wp.norm {c : Code} (l : List (Nat × PV)) (h : okL tm l) (hw : ∀ base, Wp E P own n c Q (ovr base l) H) : Wp E P own n c Q tm H := by
  have := hw tm
  rwa [ovr_self h] at this

/-! ### calls -/
def retR (E : Env) (fn : Func) (r : PV) (ex : Ex) (tm : TM) (H : Heap) : Prop := match ex with
  | .exit _ => False
  | _ => ∃ ps, resA E tm H fn.results.toList = some ps ∧ frz3 0 H (one ps) = some r
structure RetQ (E : Env) (fn : Func) (r : PV) (ex : Ex) (tm : TM) (H : Heap) : Prop where
  out : retR E fn r ex tm H
theorem RetQ.ret {fn : Func} {r : PV} {ps : List PV} (h1 : resA E tm H fn.results.toList = some ps) (h2 : frz3 0 H (one ps) = some r) : RetQ E fn r .ret tm H := ⟨⟨ps, h1, h2⟩⟩
theorem RetQ.go {fn : Func} {r : PV} {ps : List PV} (h1 : resA E tm H fn.results.toList = some ps) (h2 : frz3 0 H (one ps) = some r) : RetQ E fn r .normal tm H := ⟨⟨ps, h1, h2⟩⟩

theorem arg1_frz {p : PV} (h : frz1 p = some p) : arg1 p = p := by
  cases p <;> simp only [frz1, arg1] at h ⊢ <;> first | rfl | (cases h; rfl) | cases h
theorem arg1_frzL : ∀ {l : List PV}, frzL l = some l → l.map arg1 = l
  | [], _ => rfl
  | p :: r, h => by
    simp only [frzL] at h
    split at h
    · rename_i p' hp
      split at h
      · rename_i r' hr
        simp only [Option.some.injEq, List.cons.injEq] at h
        obtain ⟨rfl, rfl⟩ := h
        simp only [List.map_cons, arg1_frz hp, arg1_frzL hr]
      · cases h
    · cases h
theorem argV_frz {p : PV} (h : frzG p = some p) : argV p = p := by
  unfold frzG at h
  split at h
  · rename_i cs
    split at h
    · rename_i cs' hc
      simp only [Option.some.injEq, PV.agg.injEq] at h
      subst h
      simp only [argV, arg1_frzL hc]
    · cases h
  · rename_i hn
    cases p <;> simp only [argV] <;> first | exact arg1_frz h | exact (hn _ rfl).elim
theorem args_frz : ∀ {l : List PV}, frzGL l = some l → l.map argV = l
  | [], _ => rfl
  | p :: r, h => by
    simp only [frzGL] at h
    split at h
    · rename_i p' hp
      split at h
      · rename_i r' hr
        simp only [Option.some.injEq, List.cons.injEq] at h
        obtain ⟨rfl, rfl⟩ := h
        simp only [List.map_cons, argV_frz hp, args_frz hr]
      · cases h
    · cases h

/-- A call whose code has been walked at the empty heap. -/
theorem callOk_wp (hE : TOk E P) {f : FuncId} {fn : Func} {c : Code} (hf : FnOk P f fn c) {args : List PV} (ha : frzGL args = some args) {r : PV} (hr : frz3 0 hNil r = some r)
    (h : Wp E P own fn.ntmps c (RetQ E fn r) (tm0 args) hNil) (H : Heap) : CallOk E P f args H r H := by
  obtain ⟨ex, tm', H', h1, ⟨h2⟩⟩ := h.out
  refine callOk_lift ?_ ha hr H
  have hx : ∀ i, ex ≠ .exit i := fun i e => by subst e; exact h2
  obtain ⟨ps, h3, h4⟩ : ∃ ps, resA E tm' H' fn.results.toList = some ps ∧ frz3 0 H' (one ps) = some r := by
    cases ex with
    | normal => exact h2
    | ret => exact h2
    | exit i => exact h2.elim
  exact callOk_pure (own := own) hE hf (by rw [args_frz ha]; exact h1) hx h3 h4
end
end Go.Vm

/-
  Values as they come in: what the reading of an argument says of its cells.
-/
namespace Go.Vm

/-- What the cells of a type may be. -/
inductive Sh (T : TypeId → Option TI) : TypeId → List PV → Prop
  | bool {t : TypeId} {ti : TI} {b : Bool} (h : T t = some ti) (hk : ti.tk = .bool) : Sh T t [.bool b]
  | int {t : TypeId} {ti : TI} {k : IntKind} {n : Int} (h : T t = some ti) (hk : ti.tk = .int k) (hn : (Lit.int k n).wf = true) : Sh T t [.int k n]
  | str {t : TypeId} {ti : TI} {s : List UInt8} (h : T t = some ti) (hk : ti.tk = .string) (hs : s.length ≤ maxLen) : Sh T t [.str s]
  | nils {t : TypeId} {ti : TI} {e : TypeId} (h : T t = some ti) (hk : ti.tk = .slice e) : Sh T t [.nils]
  | sl {t : TypeId} {ti : TI} {e : TypeId} {ei : TI} {el : List (List PV)} (h : T t = some ti) (hk : ti.tk = .slice e) (he : T e = some ei) (hl : el.length ≤ maxLen) (hel : ∀ c, c ∈ el → Sh T e c) : Sh T t [.sl .none ei.size el]
  | struct {t : TypeId} {ti : TI} {fs : List (Nat × TypeId)} {cs : List PV} (h : T t = some ti) (hk : ti.tk = .struct fs) (hlen : cs.length = ti.size)
      (hf : ∀ o ft fi, (o, ft) ∈ fs → T ft = some fi → Sh T ft ((cs.drop o).take fi.size)) : Sh T t cs

def rowsOk (T : TypeId → Option TI) (cl : List TypeId) : List (Nat × TypeId) → Nat → Nat → Bool
  | [], o, n => Nat.beq o n
  | (o', ft) :: r, o, n => Nat.beq o' o && (cl.any (Nat.beq ft) && match T ft with | some fi => rowsOk T cl r (o + fi.size) n | none => false)
def tyOk (T : TypeId → Option TI) (cl : List TypeId) (t : TypeId) : Bool := match T t with
  | some ti => match ti.tk with
    | .bool => Nat.beq ti.size 1
    | .int _ => Nat.beq ti.size 1
    | .string => Nat.beq ti.size 1
    | .slice e => Nat.beq ti.size 1 && (cl.any (Nat.beq e) && match T e with | some ei => Nat.blt 0 ei.size | none => false)
    | .struct fs => rowsOk T cl fs 0 ti.size
    | _ => false
  | none => false

/-- The cells of the world, as they are now. -/
def wS (w : World) : Store := fun b o => w.cell? ⟨b, o, none⟩

def CellsOf (S : Store) (pcs : List PV) (cs : List Value) : Prop := cs.length = pcs.length ∧ ∀ i (hi : i < pcs.length) (hj : i < cs.length), V0 S pcs[i] cs[i]

theorem cell1 {S : Store} {p : PV} {v : Value} (h : V0 S p v) : CellsOf S [p] [v] := ⟨rfl, fun i hi hj => by
  obtain rfl : i = 0 := by simp at hi; omega
  exact h⟩

theorem any_beq {l : List Nat} {x : Nat} (h : l.any (Nat.beq x) = true) : x ∈ l := by
  obtain ⟨y, hy, e⟩ := List.any_eq_true.1 h
  rw [Nat.eq_of_beq_eq_true e]; exact hy

theorem rowsOk_le {T : TypeId → Option TI} {cl : List TypeId} : ∀ {fs : List (Nat × TypeId)} {o n : Nat}, rowsOk T cl fs o n = true → o ≤ n
  | [], o, n, h => by simp only [rowsOk] at h; exact Nat.le_of_eq (Nat.eq_of_beq_eq_true h)
  | (o', ft) :: r, o, n, h => by
    simp only [rowsOk, Bool.and_eq_true] at h
    obtain ⟨_, _, h3⟩ := h
    split at h3
    · have := rowsOk_le h3; omega
    · cases h3

theorem rows_build {T : TypeId → Option TI} {cl : List TypeId} {S : Store} {cs : List Value} {n : Nat} (hn : cs.length = n) : ∀ (fs : List (Nat × TypeId)) (o : Nat), rowsOk T cl fs o n = true →
    (∀ o' ft fi, (o', ft) ∈ fs → ft ∈ cl → T ft = some fi → ∃ pcs, Sh T ft pcs ∧ CellsOf S pcs ((cs.drop o').take fi.size)) →
    ∃ rest, rest.length + o = n ∧ CellsOf S rest (cs.drop o) ∧ ∀ pre : List PV, pre.length = o → ∀ o' ft fi, (o', ft) ∈ fs → T ft = some fi → Sh T ft (((pre ++ rest).drop o').take fi.size)
  | [], o, h, _ => by
    simp only [rowsOk] at h
    have := Nat.eq_of_beq_eq_true h
    subst this
    refine ⟨[], by simp, ⟨by simp [hn], fun i hi => absurd hi (by simp)⟩, fun _ _ _ _ _ h => absurd h (by simp)⟩
  | (o1, ft) :: r, o, h, hf => by
    simp only [rowsOk, Bool.and_eq_true] at h
    obtain ⟨h1, h2, h3⟩ := h
    have := Nat.eq_of_beq_eq_true h1
    subst this
    split at h3
    · rename_i fi hfi
      obtain ⟨pcs, hs, hc⟩ := hf o1 ft fi List.mem_cons_self (any_beq h2) hfi
      have hle := rowsOk_le h3
      obtain ⟨rest, r1, r2, r3⟩ := rows_build hn r (o1 + fi.size) h3 fun o' ft' fi' hm => hf o' ft' fi' (List.mem_cons_of_mem _ hm)
      have hl : pcs.length = fi.size := by rw [← hc.1]; simp; omega
      refine ⟨pcs ++ rest, by simp; omega, ⟨by simp; omega, fun i hi hj => ?_⟩, fun pre hp o' ft' fi' hm hfi' => ?_⟩
      · by_cases hlt : i < pcs.length
        · rw [List.getElem_append_left hlt]
          have := hc.2 i hlt (by simp; omega)
          simpa using this
        · rw [List.getElem_append_right (by omega)]
          have := r2.2 (i - pcs.length) (by simp at hi; omega) (by simp; simp at hi; omega)
          have e : o1 + fi.size + (i - pcs.length) = o1 + i := by omega
          simpa only [List.getElem_drop, e] using this
      · rcases List.mem_cons.1 hm with e | hm
        · cases e
          rw [hfi] at hfi'
          cases hfi'
          rw [List.drop_append_of_le_length (by omega), List.drop_of_length_le (by omega), List.nil_append, List.take_append_of_le_length (by omega), List.take_of_length_le (by omega)]
          exact hs
        · have := r3 (pre ++ pcs) (by simp; omega) o' ft' fi' hm hfi'
          rwa [List.append_assoc] at this
    · cases h3

theorem list_of {α : Type} {R : Nat → α → Prop} : ∀ (n : Nat), (∀ i, i < n → ∃ x, R i x) → ∃ l : List α, l.length = n ∧ ∀ i (hi : i < l.length), R i l[i]
  | 0, _ => ⟨[], rfl, fun i hi => absurd hi (by simp)⟩
  | n + 1, h => by
    obtain ⟨l, h1, h2⟩ := list_of n fun i hi => h i (by omega)
    obtain ⟨x, hx⟩ := h n (by omega)
    refine ⟨l ++ [x], by simp [h1], fun i hi => ?_⟩
    by_cases e : i < l.length
    · rw [List.getElem_append_left e]; exact h2 i e
    · have e2 : i = n := by simp at hi; omega
      rw [List.getElem_append_right (by omega)]
      subst e2
      simpa using hx

section
variable {E : Env} {P : Program} {H : Type} {enc : TypeId × Value → H} {w : World} {base : Nat} {spare : Nat → Bool} {held : Bool} {cl : List TypeId}

theorem trod_sh (hE : TOk E P) (hcl : ∀ t, t ∈ cl → tyOk E.T cl t = true) : ∀ (n : Nat) (t : TypeId) (cs : List Value) (x : DataW H × List MemPlace), t ∈ cl → DataW.trod enc P w base spare held n t cs = some x → ∃ pcs, Sh E.T t pcs ∧ CellsOf (wS w) pcs cs
  | 0, t, cs, x, _, h => by simp [DataW.trod] at h
  | n + 1, t, cs, x, ht, h => by
    have hk := hcl t ht
    unfold tyOk at hk
    split at hk
    · rename_i ti hti
      obtain ⟨i, d, z, h1, h2, h3, rfl⟩ := hE.spec hti
      have hsz : P.cellsOf t = i.size := by simp [Program.cellsOf, h1]
      simp only at hk
      split at hk
      · rename_i hd
        have hd := tk_bool hd
        subst hd
        obtain ⟨b, rfl, -⟩ := DataW.trod_bool h2 h
        exact ⟨[.bool b], .bool hti rfl, cell1 (.bool b)⟩
      · rename_i k hd
        have hd := tk_int hd
        subst hd
        obtain ⟨m, rfl, -, hw⟩ := DataW.trod_int h2 h
        exact ⟨[.int k m], .int hti rfl hw, cell1 (.int k m)⟩
      · rename_i hd
        have hd := tk_string hd
        subst hd
        obtain ⟨s, rfl, -, hw⟩ := DataW.trod_string h2 h
        exact ⟨[.str s.data.toList], .str hti rfl (by simpa using hw), cell1 (.str _ s rfl)⟩
      · rename_i e hd
        have hd := tk_slice hd
        subst hd
        simp only [Bool.and_eq_true] at hk
        obtain ⟨_, he, hei⟩ := hk
        split at hei
        · rename_i ei hte
          obtain ⟨i', d', z', h1', h2', h3', rfl⟩ := hE.spec hte
          have hes : P.cellsOf e = i'.size := by simp [Program.cellsOf, h1']
          have hpos : 0 < i'.size := Nat.le_of_ble_eq_true hei
          rcases DataW.trod_slice h2 h with ⟨rfl, -⟩ | ⟨a, len, cap, elems, rest, m, hm, rfl, -, hb, hl, hcap, hlen, hel, -, -⟩
          · exact ⟨[.nils], .nils hti rfl, cell1 (.nils)⟩
          · cases hm
            have each : ∀ i, i < len → ∃ p : List PV × List Value, Sh E.T e p.1 ∧ CellsOf (wS w) p.1 p.2 ∧ w.cells? base (a.add (i * i'.size)) i'.size = some p.2 := fun i hi => by
              have hx := hel i hi
              have hy : elems[i]? = some (elems[i]'(by omega)) := List.getElem?_eq_getElem (by omega)
              rw [hy, Option.bind_eq_some_iff] at hx
              obtain ⟨cs', hc1, hc2⟩ := hx
              obtain ⟨pcs, q1, q2⟩ := trod_sh hE hcl n e cs' _ (any_beq he) hc2
              exact ⟨(pcs, cs'), q1, q2, by rw [← hes]; exact hc1⟩
            obtain ⟨L, hL1, hL2⟩ := list_of len each
            have hcell : ∀ i (hi : i < L.length) j, j < i'.size → w.cell? ((a.add (i * i'.size)).add j) = (L[i]).2[j]? := fun i hi j hj => by
              have := (World.cells?_some (hL2 i hi).2.2)
              exact this.2.2 j hj
            have hlen2 : ∀ i (hi : i < L.length), (L[i]).2.length = i'.size := fun i hi => (World.cells?_some (hL2 i hi).2.2).2.1
            have hspot : 0 < len → a = ⟨a.block, a.off, none⟩ := fun hp => by
              have h0 := hcell 0 (by omega) 0 hpos
              rw [List.getElem?_eq_getElem (by rw [hlen2 0 (by omega)]; exact hpos)] at h0
              simp only [Nat.zero_mul, Addr.add, if_true] at h0
              obtain ⟨ab, ao, asp⟩ := a
              cases asp with
              | none => rfl
              | some z =>
                simp only [World.cell?] at h0
                split at h0
                · simp at h0
                · cases h0
            have hw' : ∀ i (hi : i < L.length), (L[i]).1.length = i'.size := fun i hi => by rw [← (hL2 i hi).2.1.1]; exact hlen2 i hi
            refine ⟨[.sl .none i'.size (L.map (·.1))], .sl hti rfl hte (by simp; omega) (fun c hc => ?_), rfl, fun k hi hj => ?_⟩
            · obtain ⟨p, hp, rfl⟩ := List.mem_map.1 hc
              obtain ⟨q, hq, rfl⟩ := List.mem_iff_getElem.1 hp
              exact (hL2 q hq).1
            · obtain rfl : k = 0 := by simp at hi; omega
              have hLm : (L.map (·.1)).length = len := by simp [hL1]
              simp only [List.getElem_cons_zero]
              have key : V0 (wS w) (.sl .none i'.size (L.map (·.1))) (.slice (some a) (L.map (·.1)).length cap) := by
                refine .sl .none i'.size (L.map (·.1)) a a.block a.off cap (fun x y => ((L[x]?.map (·.2)).getD []).getD y undef) (fun hp => hspot (by omega)) (.inl rfl) (by omega) (fun x hx => ?_) (fun x y hx hy => ?_) (fun x hx y hy => ?_)
                · simpa using hw' x (by simpa using hx)
                · have hx' : x < L.length := by simpa using hx
                  have hcl := hcell x hx' y hy
                  have ha := hspot (by omega)
                  have e0 : ∀ A : Addr, A = ⟨a.block, a.off, none⟩ → (A.add (x * i'.size)).add y = ⟨a.block, a.off + x * i'.size + y, none⟩ := fun A hA => by rw [hA, add_plain', add_plain']
                  have e1 := e0 a ha
                  rw [e1] at hcl
                  simp only [wS]
                  rw [hcl, List.getElem?_eq_getElem hx']
                  have : y < (L[x]).2.length := by rw [hlen2 x hx']; exact hy
                  simp [this]
                · have hx' : x < L.length := by simpa using hx
                  have e1 : (L.map (·.1))[x] = (L[x]).1 := by simp
                  have hy1 : y < (L[x]).1.length := by rw [← e1]; exact hy
                  have := (hL2 x hx').2.1.2 y hy1 (by rw [(hL2 x hx').2.1.1]; exact hy1)
                  have hy2 : y < (L[x]).2.length := by rw [(hL2 x hx').2.1.1]; exact hy1
                  simpa [e1, List.getElem?_eq_getElem hx', hy2] using this
              rwa [hLm] at key
        · cases hei
      · rename_i fs hd
        obtain ⟨fs', hd, hfs⟩ := tk_struct hd
        subst hd
        obtain ⟨xs, m, hm, -, hlen, hxl, hf⟩ := DataW.trod_struct h2 h
        cases hm
        rw [hsz] at hlen
        obtain ⟨rest, r1, r2, r3⟩ := rows_build (S := wS w) hlen fs 0 hk fun o' ft fi hmem hft hfi => by
          rw [hfs] at hmem
          obtain ⟨f, hfm, hfe⟩ := List.mem_map.1 hmem
          obtain ⟨q, hq, hqe⟩ := List.mem_iff_getElem.1 hfm
          cases hfe
          obtain ⟨i', d', z', h1', h2', h3', rfl⟩ := hE.spec hfi
          have hx := hf q f (by rw [← hqe]; simp only [Array.getElem_toList]; exact Array.getElem?_eq_getElem (by simpa using hq))
          have hq' : q < xs.length := by rw [hxl]; simpa using hq
          rw [List.getElem?_eq_getElem hq'] at hx
          have hs' : P.cellsOf f.type = i'.size := by simp [Program.cellsOf, h1']
          rw [hs'] at hx
          exact trod_sh hE hcl n f.type _ _ hft hx
        refine ⟨rest, .struct (fs := fs) hti (by rw [hfs]; rfl) (by simpa using r1) (fun o ft fi hmem hfi => ?_), ?_⟩
        · have := r3 [] rfl o ft fi hmem hfi
          simpa using this
        · simpa using r2
      · cases hk
    · cases hk

end
end Go.Vm

/-
  From a call that is known of values to the call of a statement's function.
-/
namespace Go.Vm
open Go.RowKit

section
variable {E : Env} {P : Program} {w : World}

def wG (w : World) : Gh := { S := wS w, σ := fun _ => none, τ := fun _ => none, κ := fun _ => 0 }

theorem wG_inv (w : World) : Inv (wG w) hNil w where
  st _ _ _ h := h
  bx id es el h := by simp [hNil] at h
  mp id es h := by simp [hNil] at h
  sp id T cs h := by simp [hNil] at h
  inj i j b h := (nil_live h).elim
  sd _ _ := rfl
  td _ _ := rfl
  tk t b lo hi' h := by simp [hNil] at h
  tinj t t' b lo hi' lo' hi2 h := by simp [hNil] at h
  nd := List.nodup_nil
  lt t h := by simp [hNil] at h
  sz id b h := by simp [wG] at h
  ro := Nat.le_refl _
  rm id b c T m h := (nil_live h).elim

/-- A call has left all as it was that lay there before. -/
structure GrownB (W w' : World) : Prop where
  kept : W.keptBut w' (fun _ => False)
  fz : ∀ a, a.block < W.heap.size → w'.frozen? a = W.frozen? a
  size : W.heap.size ≤ w'.heap.size
theorem GrownB.frame {W w' : World} (h : GrownB W w') (may : MemPlace → Prop) : W.keptBut w' may := World.keptBut_mono (fun _ f => f.elim) h.kept

theorem grown_of_keep {g g' : Gh} {H' : Heap} {w' : World} (k : Keep g hNil w g' H' w') : GrownB w w' := by
  refine ⟨⟨k.so.1, k.so.2, fun i hi => ?_⟩, fun a ha => ?_, k.size⟩
  · rw [k.heap i hi (nil_shut g i)]
    cases w.heap[i]? with
    | none => trivial
    | some o => cases o <;> simp
  · simp only [World.frozen?, k.heap a.block ha (nil_shut g a.block)]

/-- The code of a statement's function, by what it comes to at the arguments' cells. -/
theorem calls_of {f : FuncId} {fn : Func} {c : Code} (hf : FnOk P f fn c) (hG : E.G = fun _ => none) {args : List PV} {r : PV} (h : CallOk E P f args hNil r hNil) {vals : Array Value} (hv : CellsOf (wS w) args vals.toList) :
    Calls P f vals w fun e w' => ∃ v, e = .returned v ∧ (∃ g', V g' r v) ∧ GrownB w w' := by
  have hu := h (wG w) w vals (wG_inv w) (fun k cs e => by rw [hG] at e; cases e) ⟨hv.1, fun i h1 h2 => .pure _ _ (hv.2 i h1 h2)⟩
  rw [callFunc_enter hf] at hu
  exact Calls.mono hu fun e w' ⟨v, e1, g', hp, _, k⟩ => ⟨v, e1, ⟨g', hp⟩, grown_of_keep k⟩
end

section
open Go.ChangeShapes Go.WideShapes
variable {P : Program} {T : Type} {enc : TypeId × Value → T}
/-- What the kit says of a call that leaves its arguments as they were, with less asked of what is frozen. -/
theorem post_kept {f : Func} {s : ChangeSpec} {apart fresh handsOn again : Bool} {W W' : World} {args : Array Value} {v : Value} {ds gs : List (DataW T)} {before pa pv : List MemPlace}
    (hW : DataW.Whole enc P f.params.toList s.vars apart W args.toList ds gs before)
    (hres : ∀ (b : Nat) (sp : Nat → Bool) (hd : Bool), DataW.TrodAll enc P W' b sp hd f.resultTypes.toList (v.resultList f.resultTypes.size) (s.fn T (ds ++ gs)).results [])
    (hargs : ∀ sp : Nat → Bool, (∀ p ∈ before, sp p.block = true) → DataW.TrodAll enc P W' 0 sp true f.params.toList args.toList (s.fn T (ds ++ gs)).args pa)
    (hvars : ∀ sp : Nat → Bool, (∀ p ∈ before, sp p.block = true) → DataW.TrodVars enc P W' sp s.vars (s.fn T (ds ++ gs)).vars pv)
    (hps : before = pa ++ pv) (hk : W.keptBut W' (· ∈ before)) (hfz : ∀ a, a.block < W.heap.size → W'.frozen? a = W.frozen? a)
    (hok : ∀ (j : Nat) (t : TypeId) (r : Value), f.resultTypes[j]? = some t → (v.resultList f.resultTypes.size)[j]? = some r → Value.okWide P W' .any 0 t r) :
    s.post enc P f apart fresh handsOn again W args v W' := by
  have hlt := hW.lt
  have hold : ∀ p ∈ before, (fun b => decide (b < W.heap.size)) p.block = true := fun p hp => by simpa using hlt p hp
  refine ⟨ds, gs, before, [], pa, pv, hW, hres _ _ _, hargs _ hold, hvars _ hold, World.keptBut_mono (fun p hp => ⟨hp, ?_⟩) hk, fun _ => ?_⟩
  · rw [hps, List.mem_append] at hp
    exact Or.inr hp
  · obtain ⟨_, _, _, _, _, hz, hn⟩ := hW
    refine ⟨hok, _, _, ([] ++ pa) ++ pv, ⟨[] ++ pa, pv, trodAll_append (hargs _ (fun _ _ => rfl)) (hres _ _ _), hvars _ (fun _ _ => rfl), rfl, ?_, ?_⟩, ?_⟩
    · intro b off hp
      have hb : MemPlace.cell b off ∈ before := by rw [hps]; simpa using hp
      rw [hfz _ (show b < _ from hlt _ hb)]
      exact hz b off hb
    · intro ha
      have := hn ha
      rw [hps] at this
      simpa using this
    · intro p hp _
      rw [hps]
      simpa using hp
end
end Go.Vm
