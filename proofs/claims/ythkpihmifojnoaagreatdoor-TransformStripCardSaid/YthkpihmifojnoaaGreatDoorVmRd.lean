/-
  Values as they come in: what the reading of an argument says of its cells.
-/
import Derived.Test.YthkpihmifojnoaaGreatDoorVmW
import Derived.ChangeArms
import Derived.DataReads
namespace Go.Vm

/-- What the cells of a type may be. -/
inductive Sh (T : TypeId → Option TI) : TypeId → List PV → Prop
  | bool {t : TypeId} {ti : TI} {b : Bool} (h : T t = some ti) (hk : ti.tk = .bool) : Sh T t [.bool b]
  | int {t : TypeId} {ti : TI} {k : IntKind} {n : Int} (h : T t = some ti) (hk : ti.tk = .int k) (hn : (Lit.int k n).wf = true) : Sh T t [.int k n]
  | str {t : TypeId} {ti : TI} {s : List UInt8} (h : T t = some ti) (hk : ti.tk = .string) (hs : s.length ≤ maxLen) : Sh T t [.str s]
  | nils {t : TypeId} {ti : TI} {e : TypeId} (h : T t = some ti) (hk : ti.tk = .slice e) : Sh T t [.nils]
  | sl {t : TypeId} {ti : TI} {e : TypeId} {ei : TI} {el : List (List PV)} (h : T t = some ti) (hk : ti.tk = .slice e) (he : T e = some ei) (hl : el.length ≤ maxLen) (hel : ∀ c, c ∈ el → Sh T e c) : Sh T t [.sl .none ei.size el]
  | struct {t : TypeId} {ti : TI} {fs : List (Nat × TypeId)} {cs : List PV} (h : T t = some ti) (hk : ti.tk = .struct fs) (hlen : cs.length = ti.size)
      (hf : ∀ o ft fi, (o, ft) ∈ fs → T ft = some fi → Sh T ft ((cs.drop o).take fi.size)) : Sh T t cs

def rowsOk (T : TypeId → Option TI) (cl : List TypeId) : List (Nat × TypeId) → Nat → Nat → Bool
  | [], o, n => Nat.beq o n
  | (o', ft) :: r, o, n => Nat.beq o' o && (cl.any (Nat.beq ft) && match T ft with | some fi => rowsOk T cl r (o + fi.size) n | none => false)
def tyOk (T : TypeId → Option TI) (cl : List TypeId) (t : TypeId) : Bool := match T t with
  | some ti => match ti.tk with
    | .bool => Nat.beq ti.size 1
    | .int _ => Nat.beq ti.size 1
    | .string => Nat.beq ti.size 1
    | .slice e => Nat.beq ti.size 1 && (cl.any (Nat.beq e) && match T e with | some ei => Nat.blt 0 ei.size | none => false)
    | .struct fs => rowsOk T cl fs 0 ti.size
    | _ => false
  | none => false

/-- The cells of the world, as they are now. -/
def wS (w : World) : Store := fun b o => w.cell? ⟨b, o, none⟩

def CellsOf (S : Store) (pcs : List PV) (cs : List Value) : Prop := cs.length = pcs.length ∧ ∀ i (hi : i < pcs.length) (hj : i < cs.length), V0 S pcs[i] cs[i]

theorem cell1 {S : Store} {p : PV} {v : Value} (h : V0 S p v) : CellsOf S [p] [v] := ⟨rfl, fun i hi hj => by
  obtain rfl : i = 0 := by simp at hi; omega
  exact h⟩

theorem any_beq {l : List Nat} {x : Nat} (h : l.any (Nat.beq x) = true) : x ∈ l := by
  obtain ⟨y, hy, e⟩ := List.any_eq_true.1 h
  rw [Nat.eq_of_beq_eq_true e]; exact hy

theorem rowsOk_le {T : TypeId → Option TI} {cl : List TypeId} : ∀ {fs : List (Nat × TypeId)} {o n : Nat}, rowsOk T cl fs o n = true → o ≤ n
  | [], o, n, h => by simp only [rowsOk] at h; exact Nat.le_of_eq (Nat.eq_of_beq_eq_true h)
  | (o', ft) :: r, o, n, h => by
    simp only [rowsOk, Bool.and_eq_true] at h
    obtain ⟨_, _, h3⟩ := h
    split at h3
    · have := rowsOk_le h3; omega
    · cases h3

theorem rows_build {T : TypeId → Option TI} {cl : List TypeId} {S : Store} {cs : List Value} {n : Nat} (hn : cs.length = n) : ∀ (fs : List (Nat × TypeId)) (o : Nat), rowsOk T cl fs o n = true →
    (∀ o' ft fi, (o', ft) ∈ fs → ft ∈ cl → T ft = some fi → ∃ pcs, Sh T ft pcs ∧ CellsOf S pcs ((cs.drop o').take fi.size)) →
    ∃ rest, rest.length + o = n ∧ CellsOf S rest (cs.drop o) ∧ ∀ pre : List PV, pre.length = o → ∀ o' ft fi, (o', ft) ∈ fs → T ft = some fi → Sh T ft (((pre ++ rest).drop o').take fi.size)
  | [], o, h, _ => by
    simp only [rowsOk] at h
    have := Nat.eq_of_beq_eq_true h
    subst this
    refine ⟨[], by simp, ⟨by simp [hn], fun i hi => absurd hi (by simp)⟩, fun _ _ _ _ _ h => absurd h (by simp)⟩
  | (o1, ft) :: r, o, h, hf => by
    simp only [rowsOk, Bool.and_eq_true] at h
    obtain ⟨h1, h2, h3⟩ := h
    have := Nat.eq_of_beq_eq_true h1
    subst this
    split at h3
    · rename_i fi hfi
      obtain ⟨pcs, hs, hc⟩ := hf o1 ft fi List.mem_cons_self (any_beq h2) hfi
      have hle := rowsOk_le h3
      obtain ⟨rest, r1, r2, r3⟩ := rows_build hn r (o1 + fi.size) h3 fun o' ft' fi' hm => hf o' ft' fi' (List.mem_cons_of_mem _ hm)
      have hl : pcs.length = fi.size := by rw [← hc.1]; simp; omega
      refine ⟨pcs ++ rest, by simp; omega, ⟨by simp; omega, fun i hi hj => ?_⟩, fun pre hp o' ft' fi' hm hfi' => ?_⟩
      · by_cases hlt : i < pcs.length
        · rw [List.getElem_append_left hlt]
          have := hc.2 i hlt (by simp; omega)
          simpa using this
        · rw [List.getElem_append_right (by omega)]
          have := r2.2 (i - pcs.length) (by simp at hi; omega) (by simp; simp at hi; omega)
          have e : o1 + fi.size + (i - pcs.length) = o1 + i := by omega
          simpa only [List.getElem_drop, e] using this
      · rcases List.mem_cons.1 hm with e | hm
        · cases e
          rw [hfi] at hfi'
          cases hfi'
          rw [List.drop_append_of_le_length (by omega), List.drop_of_length_le (by omega), List.nil_append, List.take_append_of_le_length (by omega), List.take_of_length_le (by omega)]
          exact hs
        · have := r3 (pre ++ pcs) (by simp; omega) o' ft' fi' hm hfi'
          rwa [List.append_assoc] at this
    · cases h3

theorem list_of {α : Type} {R : Nat → α → Prop} : ∀ (n : Nat), (∀ i, i < n → ∃ x, R i x) → ∃ l : List α, l.length = n ∧ ∀ i (hi : i < l.length), R i l[i]
  | 0, _ => ⟨[], rfl, fun i hi => absurd hi (by simp)⟩
  | n + 1, h => by
    obtain ⟨l, h1, h2⟩ := list_of n fun i hi => h i (by omega)
    obtain ⟨x, hx⟩ := h n (by omega)
    refine ⟨l ++ [x], by simp [h1], fun i hi => ?_⟩
    by_cases e : i < l.length
    · rw [List.getElem_append_left e]; exact h2 i e
    · have e2 : i = n := by simp at hi; omega
      rw [List.getElem_append_right (by omega)]
      subst e2
      simpa using hx

section
variable {E : Env} {P : Program} {H : Type} {enc : TypeId × Value → H} {w : World} {base : Nat} {spare : Nat → Bool} {held : Bool} {cl : List TypeId}

theorem trod_sh (hE : TOk E P) (hcl : ∀ t, t ∈ cl → tyOk E.T cl t = true) : ∀ (n : Nat) (t : TypeId) (cs : List Value) (x : DataW H × List MemPlace), t ∈ cl → DataW.trod enc P w base spare held n t cs = some x → ∃ pcs, Sh E.T t pcs ∧ CellsOf (wS w) pcs cs
  | 0, t, cs, x, _, h => by simp [DataW.trod] at h
  | n + 1, t, cs, x, ht, h => by
    have hk := hcl t ht
    unfold tyOk at hk
    split at hk
    · rename_i ti hti
      obtain ⟨i, d, z, h1, h2, h3, rfl⟩ := hE.spec hti
      have hsz : P.cellsOf t = i.size := by simp [Program.cellsOf, h1]
      simp only at hk
      split at hk
      · rename_i hd
        have hd := tk_bool hd
        subst hd
        obtain ⟨b, rfl, -⟩ := DataW.trod_bool h2 h
        exact ⟨[.bool b], .bool hti rfl, cell1 (.bool b)⟩
      · rename_i k hd
        have hd := tk_int hd
        subst hd
        obtain ⟨m, rfl, -, hw⟩ := DataW.trod_int h2 h
        exact ⟨[.int k m], .int hti rfl hw, cell1 (.int k m)⟩
      · rename_i hd
        have hd := tk_string hd
        subst hd
        obtain ⟨s, rfl, -, hw⟩ := DataW.trod_string h2 h
        exact ⟨[.str s.data.toList], .str hti rfl (by simpa using hw), cell1 (.str _ s rfl)⟩
      · rename_i e hd
        have hd := tk_slice hd
        subst hd
        simp only [Bool.and_eq_true] at hk
        obtain ⟨_, he, hei⟩ := hk
        split at hei
        · rename_i ei hte
          obtain ⟨i', d', z', h1', h2', h3', rfl⟩ := hE.spec hte
          have hes : P.cellsOf e = i'.size := by simp [Program.cellsOf, h1']
          have hpos : 0 < i'.size := Nat.le_of_ble_eq_true hei
          rcases DataW.trod_slice h2 h with ⟨rfl, -⟩ | ⟨a, len, cap, elems, rest, m, hm, rfl, -, hb, hl, hcap, hlen, hel, -, -⟩
          · exact ⟨[.nils], .nils hti rfl, cell1 (.nils)⟩
          · cases hm
            have each : ∀ i, i < len → ∃ p : List PV × List Value, Sh E.T e p.1 ∧ CellsOf (wS w) p.1 p.2 ∧ w.cells? base (a.add (i * i'.size)) i'.size = some p.2 := fun i hi => by
              have hx := hel i hi
              have hy : elems[i]? = some (elems[i]'(by omega)) := List.getElem?_eq_getElem (by omega)
              rw [hy, Option.bind_eq_some_iff] at hx
              obtain ⟨cs', hc1, hc2⟩ := hx
              obtain ⟨pcs, q1, q2⟩ := trod_sh hE hcl n e cs' _ (any_beq he) hc2
              exact ⟨(pcs, cs'), q1, q2, by rw [← hes]; exact hc1⟩
            obtain ⟨L, hL1, hL2⟩ := list_of len each
            have hcell : ∀ i (hi : i < L.length) j, j < i'.size → w.cell? ((a.add (i * i'.size)).add j) = (L[i]).2[j]? := fun i hi j hj => by
              have := (World.cells?_some (hL2 i hi).2.2)
              exact this.2.2 j hj
            have hlen2 : ∀ i (hi : i < L.length), (L[i]).2.length = i'.size := fun i hi => (World.cells?_some (hL2 i hi).2.2).2.1
            have hspot : 0 < len → a = ⟨a.block, a.off, none⟩ := fun hp => by
              have h0 := hcell 0 (by omega) 0 hpos
              rw [List.getElem?_eq_getElem (by rw [hlen2 0 (by omega)]; exact hpos)] at h0
              simp only [Nat.zero_mul, Addr.add, if_true] at h0
              obtain ⟨ab, ao, asp⟩ := a
              cases asp with
              | none => rfl
              | some z =>
                simp only [World.cell?] at h0
                split at h0
                · simp at h0
                · cases h0
            have hw' : ∀ i (hi : i < L.length), (L[i]).1.length = i'.size := fun i hi => by rw [← (hL2 i hi).2.1.1]; exact hlen2 i hi
            refine ⟨[.sl .none i'.size (L.map (·.1))], .sl hti rfl hte (by simp; omega) (fun c hc => ?_), rfl, fun k hi hj => ?_⟩
            · obtain ⟨p, hp, rfl⟩ := List.mem_map.1 hc
              obtain ⟨q, hq, rfl⟩ := List.mem_iff_getElem.1 hp
              exact (hL2 q hq).1
            · obtain rfl : k = 0 := by simp at hi; omega
              have hLm : (L.map (·.1)).length = len := by simp [hL1]
              simp only [List.getElem_cons_zero]
              have key : V0 (wS w) (.sl .none i'.size (L.map (·.1))) (.slice (some a) (L.map (·.1)).length cap) := by
                refine .sl .none i'.size (L.map (·.1)) a a.block a.off cap (fun x y => ((L[x]?.map (·.2)).getD []).getD y undef) (fun hp => hspot (by omega)) (.inl rfl) (by omega) (fun x hx => ?_) (fun x y hx hy => ?_) (fun x hx y hy => ?_)
                · simpa using hw' x (by simpa using hx)
                · have hx' : x < L.length := by simpa using hx
                  have hcl := hcell x hx' y hy
                  have ha := hspot (by omega)
                  have e0 : ∀ A : Addr, A = ⟨a.block, a.off, none⟩ → (A.add (x * i'.size)).add y = ⟨a.block, a.off + x * i'.size + y, none⟩ := fun A hA => by rw [hA, add_plain', add_plain']
                  have e1 := e0 a ha
                  rw [e1] at hcl
                  simp only [wS]
                  rw [hcl, List.getElem?_eq_getElem hx']
                  have : y < (L[x]).2.length := by rw [hlen2 x hx']; exact hy
                  simp [this]
                · have hx' : x < L.length := by simpa using hx
                  have e1 : (L.map (·.1))[x] = (L[x]).1 := by simp
                  have hy1 : y < (L[x]).1.length := by rw [← e1]; exact hy
                  have := (hL2 x hx').2.1.2 y hy1 (by rw [(hL2 x hx').2.1.1]; exact hy1)
                  have hy2 : y < (L[x]).2.length := by rw [(hL2 x hx').2.1.1]; exact hy1
                  simpa [e1, List.getElem?_eq_getElem hx', hy2] using this
              rwa [hLm] at key
        · cases hei
      · rename_i fs hd
        obtain ⟨fs', hd, hfs⟩ := tk_struct hd
        subst hd
        obtain ⟨xs, m, hm, -, hlen, hxl, hf⟩ := DataW.trod_struct h2 h
        cases hm
        rw [hsz] at hlen
        obtain ⟨rest, r1, r2, r3⟩ := rows_build (S := wS w) hlen fs 0 hk fun o' ft fi hmem hft hfi => by
          rw [hfs] at hmem
          obtain ⟨f, hfm, hfe⟩ := List.mem_map.1 hmem
          obtain ⟨q, hq, hqe⟩ := List.mem_iff_getElem.1 hfm
          cases hfe
          obtain ⟨i', d', z', h1', h2', h3', rfl⟩ := hE.spec hfi
          have hx := hf q f (by rw [← hqe]; simp only [Array.getElem_toList]; exact Array.getElem?_eq_getElem (by simpa using hq))
          have hq' : q < xs.length := by rw [hxl]; simpa using hq
          rw [List.getElem?_eq_getElem hq'] at hx
          have hs' : P.cellsOf f.type = i'.size := by simp [Program.cellsOf, h1']
          rw [hs'] at hx
          exact trod_sh hE hcl n f.type _ _ hft hx
        refine ⟨rest, .struct (fs := fs) hti (by rw [hfs]; rfl) (by simpa using r1) (fun o ft fi hmem hfi => ?_), ?_⟩
        · have := r3 [] rfl o ft fi hmem hfi
          simpa using this
        · simpa using r2
      · cases hk
    · cases hk

end
end Go.Vm
