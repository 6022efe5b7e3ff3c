/-
  What the listed variables hold; the call of a statement's function where the code reads them.
-/
import Derived.Test.YtgmafijeepapbaaGreatDoorVf
import Derived.LaidByTextLater
namespace Go.Vm
open Go.RowKit

section
variable {E : Env} {P : Program} {w : World}
/-- The code of a statement's function; what it leaves as it was. -/
theorem calls_of3 {f : FuncId} {fn : Func} {c : Code} (hf : FnOk P f fn c) (hG : GOk E (wS w)) {args : List PV} {r : PV} (h : CallOk E P f args hNil r hNil) {vals : Array Value} (hv : CellsOf (wS w) args vals.toList) :
    Calls P f vals w fun e w' => ∃ v, e = .returned v ∧ (∃ g', V g' r v) ∧ GrownB w w' ∧ ∀ k, k < w.heap.size → w'.heap[k]? = w.heap[k]? := by
  have hu := h (wG w) w vals (wG_inv w) hG ⟨hv.1, fun i h1 h2 => .pure _ _ (hv.2 i h1 h2)⟩
  rw [callFunc_enter hf] at hu
  exact Calls.mono hu fun e w' ⟨v, e1, g', hp, _, k⟩ => ⟨v, e1, ⟨g', hp⟩, grown_of_keep k, fun i hi => k.heap i hi (nil_shut _ i)⟩
end

section
variable {P : Program} {H : Type} {enc : TypeId × Value → H} {w : World} {base : Nat} {spare : Nat → Bool} {held : Bool}
/-- A list of words, as it is read. -/
theorem words_of {t e : TypeId} (ht : P.underlying t = some (.slice e)) (he : P.underlying e = some .string) (hs : P.cellsOf e = 1) (l : List (List UInt8)) (h0 : 0 < l.length) {fuel : Nat} {cs : List Value} {p : List MemPlace}
    (h : DataW.trod enc P w base spare held (fuel + 1) t cs = some (.slice (l.map fun s => .lit (.string s)) [], p)) : CellsOf (wS w) [.sl .none 1 (l.map fun s => [.str s])] cs := by
  rcases DataW.trod_slice ht h with ⟨rfl, hx⟩ | ⟨a, len, cap, elems, rest, m, hm, rfl, hx, hb, hl, hcap, hlen, hel, -, -⟩
  · simp at hx
  · cases hm
    simp only [Prod.mk.injEq, DataW.slice.injEq] at hx
    obtain ⟨⟨hx, -⟩, -⟩ := hx
    have hle : l.length = elems.length := by
      have := congrArg List.length hx
      simpa using this
    have hcell : ∀ i (hi : i < l.length), ∃ s : ByteArray, w.cell? (a.add i) = some (.string s) ∧ s.data.toList = l[i] := fun i hi => by
      have hy := hel i (by omega)
      have hz : elems[i]? = some (elems[i]'(by omega)) := List.getElem?_eq_getElem (by omega)
      rw [hz, Option.bind_eq_some_iff] at hy
      obtain ⟨cs', hc1, hc2⟩ := hy
      rw [hs] at hc1
      cases fuel with
      | zero => simp [DataW.trod] at hc2
      | succ n =>
        obtain ⟨s, rfl, he2, -⟩ := DataW.trod_string he hc2
        have := (World.cells?_some hc1).2.2 0 (by omega)
        refine ⟨s, ?_, ?_⟩
        · simpa [Addr.add] using this
        · have e1 : (l.map fun s => DataW.lit (H := H) (.string s))[i]? = some (.lit (.string l[i])) := by simp [hi]
          rw [hx, List.getElem?_map, hz] at e1
          simp only [Option.map_some, he2, Option.some.injEq, DataW.lit.injEq, Lit.string.injEq] at e1
          exact e1
    have hspot : a = ⟨a.block, a.off, none⟩ := by
      obtain ⟨s, h1, -⟩ := hcell 0 h0
      simp only [Addr.add, if_true] at h1
      obtain ⟨ab, ao, asp⟩ := a
      cases asp with
      | none => rfl
      | some z =>
        simp only [World.cell?] at h1
        split at h1
        · simp at h1
        · cases h1
    have hll : (l.map fun s => [PV.str s]).length = len := by simp; omega
    refine ⟨rfl, fun k hi hj => ?_⟩
    obtain rfl : k = 0 := by simp at hi; omega
    simp only [List.getElem_cons_zero]
    have key : V0 (wS w) (.sl .none 1 (l.map fun s => [.str s])) (.slice (some a) (l.map fun s => [PV.str s]).length cap) := by
      refine .sl .none 1 _ a a.block a.off cap (fun i _ => (w.cell? (a.add i)).getD undef) (fun _ => hspot) (.inl rfl) (by omega) (fun i hi => by simp) (fun i j hi hj => ?_) (fun i hi j hj => ?_)
      · obtain rfl : j = 0 := by omega
        obtain ⟨s, h1, -⟩ := hcell i (by simpa using hi)
        simp only [wS]
        have e : a.add i = ⟨a.block, a.off + i * 1 + 0, none⟩ := by
          have e0 : ∀ A : Addr, A = ⟨a.block, a.off, none⟩ → A.add i = ⟨a.block, a.off + i * 1 + 0, none⟩ := fun A hA => by rw [hA, add_plain']; simp
          exact e0 a hspot
        rw [← e, h1]
        rfl
      · obtain rfl : j = 0 := by simp at hj; omega
        obtain ⟨s, h1, h2⟩ := hcell i (by simpa using hi)
        rw [h1]
        simp only [Option.getD_some, List.getElem_map, List.getElem_cons_zero]
        exact .str _ _ h2
    rwa [hll] at key
end
end Go.Vm

/-
  Moments, strings and numbers, as they are read.
-/
namespace Go.Vm
section
variable {T : TypeId → Option TI}
theorem sh_strs {s l : TypeId} {si li : TI} (hs : T s = some si) (ks : si.tk = .string) (zs : si.size = 1) (hl : T l = some li) (kl : li.tk = .slice s) {cs : List PV} (h : Sh T l cs) :
    ∃ b L, cs = [slV b 1 (strC L)] ∧ L.length ≤ maxLen ∧ ∀ x, x ∈ L → x.length ≤ maxLen := by
  cases h with
  | bool h' hk' => rw [hl] at h'; cases h'; rw [kl] at hk'; cases hk'
  | int h' hk' => rw [hl] at h'; cases h'; rw [kl] at hk'; cases hk'
  | str h' hk' => rw [hl] at h'; cases h'; rw [kl] at hk'; cases hk'
  | struct h' hk' => rw [hl] at h'; cases h'; rw [kl] at hk'; cases hk'
  | nils h' hk' => exact ⟨true, [], by rw [show strC [] = [] from rfl, slV_nil_true], Nat.zero_le _, fun _ h => absurd h (by simp)⟩
  | sl h' hk' he hlen hel =>
    rw [hl] at h'; cases h'
    rw [kl] at hk'; cases hk'
    rw [hs] at he; cases he
    obtain ⟨L, hL, hok⟩ : ∃ L : List Byts, _ = strC L ∧ ∀ x, x ∈ L → x.length ≤ maxLen := by
      have : ∀ (el : List (List PV)), (∀ c, c ∈ el → ∃ x : Byts, c = [.str x] ∧ x.length ≤ maxLen) → ∃ L : List Byts, el = strC L ∧ ∀ x, x ∈ L → x.length ≤ maxLen := by
        intro el
        induction el with
        | nil => exact fun _ => ⟨[], rfl, fun _ h => absurd h (by simp)⟩
        | cons c r ih =>
          intro h
          obtain ⟨x, rfl, hx⟩ := h c List.mem_cons_self
          obtain ⟨L, rfl, hL⟩ := ih fun c hc => h c (List.mem_cons_of_mem _ hc)
          exact ⟨x :: L, rfl, fun y hy => by
            rcases List.mem_cons.1 hy with rfl | hy
            · exact hx
            · exact hL y hy⟩
      exact this _ fun c hc => sh_str (hel c hc) hs ks
    refine ⟨false, L, by rw [slV_false, ← hL, zs], ?_, hok⟩
    rw [hL, strC_len] at hlen
    exact hlen
theorem sh_ints {s l : TypeId} {si li : TI} (hs : T s = some si) (ks : si.tk = .int .i64) (zs : si.size = 1) (hl : T l = some li) (kl : li.tk = .slice s) {cs : List PV} (h : Sh T l cs) :
    ∃ b L, cs = [slV b 1 (intC L)] ∧ L.length ≤ maxLen ∧ ∀ x, x ∈ L → (Lit.int .i64 x).wf = true := by
  cases h with
  | bool h' hk' => rw [hl] at h'; cases h'; rw [kl] at hk'; cases hk'
  | int h' hk' => rw [hl] at h'; cases h'; rw [kl] at hk'; cases hk'
  | str h' hk' => rw [hl] at h'; cases h'; rw [kl] at hk'; cases hk'
  | struct h' hk' => rw [hl] at h'; cases h'; rw [kl] at hk'; cases hk'
  | nils h' hk' => exact ⟨true, [], by rw [show intC [] = [] from rfl, slV_nil_true], Nat.zero_le _, fun _ h => absurd h (by simp)⟩
  | sl h' hk' he hlen hel =>
    rw [hl] at h'; cases h'
    rw [kl] at hk'; cases hk'
    rw [hs] at he; cases he
    obtain ⟨L, hL, hok⟩ : ∃ L : List Int, _ = intC L ∧ ∀ x, x ∈ L → (Lit.int .i64 x).wf = true := by
      have : ∀ (el : List (List PV)), (∀ c, c ∈ el → ∃ x : Int, c = [.int .i64 x] ∧ (Lit.int .i64 x).wf = true) → ∃ L : List Int, el = intC L ∧ ∀ x, x ∈ L → (Lit.int .i64 x).wf = true := by
        intro el
        induction el with
        | nil => exact fun _ => ⟨[], rfl, fun _ h => absurd h (by simp)⟩
        | cons c r ih =>
          intro h
          obtain ⟨x, rfl, hx⟩ := h c List.mem_cons_self
          obtain ⟨L, rfl, hL⟩ := ih fun c hc => h c (List.mem_cons_of_mem _ hc)
          exact ⟨x :: L, rfl, fun y hy => by
            rcases List.mem_cons.1 hy with rfl | hy
            · exact hx
            · exact hL y hy⟩
      exact this _ fun c hc => sh_int (hel c hc) hs ks
    refine ⟨false, L, by rw [slV_false, ← hL, zs], ?_, hok⟩
    rw [hL, intC_len] at hlen
    exact hlen

/-- A trace, as it is read. -/
theorem sh_mos {i s sl t tl m ml : TypeId} {ii si sli ti tli mi mli : TI} (hi : T i = some ii) (ki : ii.tk = .int .i64) (zi : ii.size = 1) (hs : T s = some si) (ks : si.tk = .string) (zs : si.size = 1) (hsl : T sl = some sli) (ksl : sli.tk = .slice s) (zsl : sli.size = 1)
    (ht : T t = some ti) (kt : ti.tk = .struct [(0, i), (1, s), (2, i), (3, tl)]) (zt : ti.size = 4) (htl : T tl = some tli) (ktl : tli.tk = .slice t) (ztl : tli.size = 1)
    (hm : T m = some mi) (km : mi.tk = .struct [(0, i), (1, i), (2, i), (3, sl), (4, i), (5, tl)]) (zm : mi.size = 6) (hml : T ml = some mli) (kml : mli.tk = .slice m) {cs : List PV} (h : Sh T ml cs) :
    ∃ b L, cs = [slV b 6 (moC L)] ∧ ∀ x, x ∈ L → x.Ok := by
  have one : ∀ c, Sh T m c → ∃ x : Mo, c = x.cells ∧ x.Ok := fun c h => by
    cases h with
    | bool h' hk' => rw [hm] at h'; cases h'; rw [km] at hk'; cases hk'
    | int h' hk' => rw [hm] at h'; cases h'; rw [km] at hk'; cases hk'
    | str h' hk' => rw [hm] at h'; cases h'; rw [km] at hk'; cases hk'
    | nils h' hk' => rw [hm] at h'; cases h'; rw [km] at hk'; cases hk'
    | sl h' hk' => rw [hm] at h'; cases h'; rw [km] at hk'; cases hk'
    | struct h' hk' hlen hf =>
      rw [hm] at h'; cases h'
      rw [km] at hk'; cases hk'
      rw [zm] at hlen
      obtain ⟨a, b, c, d, e, f, rfl⟩ := len6 hlen
      have q0 := hf 0 i ii (by simp) hi
      have q1 := hf 1 i ii (by simp) hi
      have q2 := hf 2 i ii (by simp) hi
      have q3 := hf 3 sl sli (by simp) hsl
      have q4 := hf 4 i ii (by simp) hi
      have q5 := hf 5 tl tli (by simp) htl
      rw [zi] at q0 q1 q2 q4
      rw [zsl] at q3
      rw [ztl] at q5
      obtain ⟨n0, e0, w0⟩ := sh_int q0 hi ki
      obtain ⟨n1, e1, w1⟩ := sh_int q1 hi ki
      obtain ⟨n2, e2, w2⟩ := sh_int q2 hi ki
      obtain ⟨b3, l3, e3, w3, w3'⟩ := sh_strs hs ks zs hsl ksl q3
      obtain ⟨n4, e4, w4⟩ := sh_int q4 hi ki
      obtain ⟨b5, l5, e5, w5, w5'⟩ := (sh_tm hi ki zi hs ks zs htl ktl ztl ht kt zt q5).2 rfl
      simp only [List.drop_zero, List.drop_succ_cons, List.take_succ_cons, List.take_zero, List.cons.injEq, and_true] at e0 e1 e2 e3 e4 e5
      subst e0 e1 e2 e3 e4 e5
      exact ⟨⟨n0, n1, n2, b3, l3, n4, b5, l5⟩, rfl, ⟨w0, w1, w2, w4, w3, w3', w5', w5⟩⟩
  cases h with
  | bool h' hk' => rw [hml] at h'; cases h'; rw [kml] at hk'; cases hk'
  | int h' hk' => rw [hml] at h'; cases h'; rw [kml] at hk'; cases hk'
  | str h' hk' => rw [hml] at h'; cases h'; rw [kml] at hk'; cases hk'
  | struct h' hk' => rw [hml] at h'; cases h'; rw [kml] at hk'; cases hk'
  | nils h' hk' => exact ⟨true, [], by rw [show moC [] = [] from rfl, slV_nil_true], fun _ h => absurd h (by simp)⟩
  | sl h' hk' he hlen hel =>
    rw [hml] at h'; cases h'
    rw [kml] at hk'; cases hk'
    rw [hm] at he; cases he
    obtain ⟨L, hL, hok⟩ : ∃ L : List Mo, _ = moC L ∧ ∀ x, x ∈ L → x.Ok := by
      have : ∀ (el : List (List PV)), (∀ c, c ∈ el → ∃ x : Mo, c = x.cells ∧ x.Ok) → ∃ L : List Mo, el = moC L ∧ ∀ x, x ∈ L → x.Ok := by
        intro el
        induction el with
        | nil => exact fun _ => ⟨[], rfl, fun _ h => absurd h (by simp)⟩
        | cons c r ih =>
          intro h
          obtain ⟨x, rfl, hx⟩ := h c List.mem_cons_self
          obtain ⟨L, rfl, hL⟩ := ih fun c hc => h c (List.mem_cons_of_mem _ hc)
          exact ⟨x :: L, rfl, fun y hy => by
            rcases List.mem_cons.1 hy with rfl | hy
            · exact hx
            · exact hL y hy⟩
      exact this _ fun c hc => one c (hel c hc)
    exact ⟨false, L, by rw [slV_false, ← hL, zm], hok⟩
end
end Go.Vm
