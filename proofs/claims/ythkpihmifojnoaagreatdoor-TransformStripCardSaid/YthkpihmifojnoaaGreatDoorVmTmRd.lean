/-
  A term that is read is a tree; the call of a statement's function, and what it leaves as it was.
-/
import Derived.Test.YthkpihmifojnoaaGreatDoorVmTm2
import Derived.WideShapes
namespace Go.Vm
open Go.RowKit

section
variable {T : TypeId → Option TI}

theorem sh_int {x : TypeId} {cs : List PV} (h : Sh T x cs) {ti : TI} {k : IntKind} (ht : T x = some ti) (hk : ti.tk = .int k) : ∃ n, cs = [.int k n] ∧ (Lit.int k n).wf = true := by
  cases h with
  | int h' hk' hn => rw [ht] at h'; cases h'; rw [hk] at hk'; cases hk'; exact ⟨_, rfl, hn⟩
  | bool h' hk' => rw [ht] at h'; cases h'; rw [hk] at hk'; cases hk'
  | str h' hk' => rw [ht] at h'; cases h'; rw [hk] at hk'; cases hk'
  | nils h' hk' => rw [ht] at h'; cases h'; rw [hk] at hk'; cases hk'
  | sl h' hk' => rw [ht] at h'; cases h'; rw [hk] at hk'; cases hk'
  | struct h' hk' => rw [ht] at h'; cases h'; rw [hk] at hk'; cases hk'
theorem sh_str {x : TypeId} {cs : List PV} (h : Sh T x cs) {ti : TI} (ht : T x = some ti) (hk : ti.tk = .string) : ∃ s, cs = [.str s] ∧ s.length ≤ maxLen := by
  cases h with
  | int h' hk' => rw [ht] at h'; cases h'; rw [hk] at hk'; cases hk'
  | bool h' hk' => rw [ht] at h'; cases h'; rw [hk] at hk'; cases hk'
  | str h' hk' hs => exact ⟨_, rfl, hs⟩
  | nils h' hk' => rw [ht] at h'; cases h'; rw [hk] at hk'; cases hk'
  | sl h' hk' => rw [ht] at h'; cases h'; rw [hk] at hk'; cases hk'
  | struct h' hk' => rw [ht] at h'; cases h'; rw [hk] at hk'; cases hk'

theorem kids_of : ∀ (el : List (List PV)), (∀ c, c ∈ el → ∃ t : Tm, c = t.cells ∧ t.Ok) → ∃ kids : List Tm, el = cellsL kids ∧ ∀ t, t ∈ kids → t.Ok
  | [], _ => ⟨[], rfl, fun t h => absurd h (by simp)⟩
  | c :: r, h => by
    obtain ⟨t, ht, ho⟩ := h c List.mem_cons_self
    obtain ⟨kids, hk, hko⟩ := kids_of r fun c hc => h c (List.mem_cons_of_mem _ hc)
    refine ⟨t :: kids, by simp only [cellsL, ht, hk], fun u hu => ?_⟩
    rcases List.mem_cons.1 hu with rfl | hu
    · exact ho
    · exact hko u hu

theorem slV_false (es : Nat) (el : List (List PV)) : slV false es el = .sl .none es el := by
  cases el with
  | nil => exact slV_nil_false es
  | cons c r => exact slV_cons false es c r

theorem len4 {α : Type} {l : List α} (h : l.length = 4) : ∃ a b c d, l = [a, b, c, d] := by
  match l, h with
  | [a, b, c, d], _ => exact ⟨a, b, c, d, rfl⟩

theorem sh_tm {i s l t : TypeId} {ii si li ti : TI} (hi : T i = some ii) (ki : ii.tk = .int .i64) (zi : ii.size = 1) (hs : T s = some si) (ks : si.tk = .string) (zs : si.size = 1) (hl : T l = some li) (kl : li.tk = .slice t) (zl : li.size = 1)
    (ht : T t = some ti) (kt : ti.tk = .struct [(0, i), (1, s), (2, i), (3, l)]) (zt : ti.size = 4) {x : TypeId} {cs : List PV} (h : Sh T x cs) :
    (x = t → ∃ tm : Tm, cs = tm.cells ∧ tm.Ok) ∧ (x = l → ∃ b kids, cs = [slV b 4 (cellsL kids)] ∧ (∀ k, k ∈ kids → k.Ok) ∧ kids.length ≤ maxLen) := by
  induction h with
  | bool h' hk' => exact ⟨fun e => (by subst e; rw [ht] at h'; cases h'; rw [kt] at hk'; cases hk'), fun e => (by subst e; rw [hl] at h'; cases h'; rw [kl] at hk'; cases hk')⟩
  | int h' hk' => exact ⟨fun e => (by subst e; rw [ht] at h'; cases h'; rw [kt] at hk'; cases hk'), fun e => (by subst e; rw [hl] at h'; cases h'; rw [kl] at hk'; cases hk')⟩
  | str h' hk' => exact ⟨fun e => (by subst e; rw [ht] at h'; cases h'; rw [kt] at hk'; cases hk'), fun e => (by subst e; rw [hl] at h'; cases h'; rw [kl] at hk'; cases hk')⟩
  | nils h' hk' => exact ⟨fun e => (by subst e; rw [ht] at h'; cases h'; rw [kt] at hk'; cases hk'), fun e => ⟨true, [], by rw [cellsL, slV_nil_true], fun k hk => absurd hk (by simp), Nat.zero_le _⟩⟩
  | @sl x' ti' e' ei' el' h' hk' he hlen hel ih =>
    refine ⟨fun e => (by subst e; rw [ht] at h'; cases h'; rw [kt] at hk'; cases hk'), fun e => ?_⟩
    subst e
    rw [hl] at h'; cases h'
    rw [kl] at hk'; cases hk'
    rw [ht] at he; cases he
    obtain ⟨kids, hk, hok⟩ := kids_of el' fun c hc => (ih c hc).1 rfl
    refine ⟨false, kids, by rw [slV_false, ← hk, zt], hok, ?_⟩
    rw [hk, cellsL_length] at hlen
    exact hlen
  | @struct x' ti' fs' cs' h' hk' hlen hf ih =>
    refine ⟨fun e => ?_, fun e => (by subst e; rw [hl] at h'; cases h'; rw [kl] at hk'; cases hk')⟩
    subst e
    rw [ht] at h'; cases h'
    rw [kt] at hk'; cases hk'
    rw [zt] at hlen
    obtain ⟨a, b, c, d, rfl⟩ := len4 hlen
    have q0 := hf 0 i ii (by simp) hi
    have q1 := hf 1 s si (by simp) hs
    have q2 := hf 2 i ii (by simp) hi
    have q3 := (ih 3 l li (by simp) hl).2 rfl
    rw [zi] at q0 q2
    rw [zs] at q1
    rw [zl] at q3
    obtain ⟨n0, e0, w0⟩ := sh_int q0 hi ki
    obtain ⟨n1, e1, w1⟩ := sh_str q1 hs ks
    obtain ⟨n2, e2, w2⟩ := sh_int q2 hi ki
    obtain ⟨b3, kids, e3, w3, w4⟩ := q3
    simp only [List.drop_zero, List.drop_succ_cons, List.take_succ_cons, List.take_zero, List.cons.injEq, and_true] at e0 e1 e2 e3
    subst e0 e1 e2 e3
    exact ⟨.mk n0 n1 n2 b3 kids, rfl, .mk w0 w2 w1 w4 w3⟩
end

section
variable {E : Env} {P : Program} {w : World}
/-- The code of a statement's function; what it leaves as it was. -/
theorem calls_of2 {f : FuncId} {fn : Func} {c : Code} (hf : FnOk P f fn c) (hG : E.G = fun _ => none) {args : List PV} {r : PV} (h : CallOk E P f args hNil r hNil) {vals : Array Value} (hv : CellsOf (wS w) args vals.toList) :
    Calls P f vals w fun e w' => ∃ v, e = .returned v ∧ (∃ g', V g' r v) ∧ Grown w w' ∧ ∀ k, k < w.heap.size → w'.heap[k]? = w.heap[k]? := by
  have hu := h (wG w) w vals (wG_inv w) (fun k cs e => by rw [hG] at e; cases e) ⟨hv.1, fun i h1 h2 => .pure _ _ (hv.2 i h1 h2)⟩
  rw [callFunc_enter hf] at hu
  exact Calls.mono hu fun e w' ⟨v, e1, g', hp, _, k⟩ => ⟨v, e1, ⟨g', hp⟩, grown_of_keep k, fun i hi => k.heap i hi (nil_shut _ i)⟩
theorem same_of {w' : World} (h : ∀ k, k < w.heap.size → w'.heap[k]? = w.heap[k]?) {p : MemPlace} (hp : p.block < w.heap.size) : w.sameAt w' p := by
  cases p with
  | cell b o => exact World.cell?_of_block (w := w) (h b hp)
  | map b => exact h b hp
/-- An aggregate out of its cells. -/
theorem agg_of {S : Store} {pcs : List PV} {cs : Array Value} (h : CellsOf S pcs cs.toList) : V0 S (.agg pcs) (.agg cs) :=
  .agg _ _ (by have := h.1; simpa using this) fun i hi => by
    have := h.2 i hi (by rw [h.1]; exact hi)
    simpa using this
end
end Go.Vm
