/-
  As VmRd, with the bulk of what is read: the values and letters that a reading holds bound what its cells hold.
-/
import Derived.Test.YtajpkolimokcdaaGreatDoorFf
namespace Go.Vm
mutual
def wt : PV → Nat
  | .str s => s.length + 1
  | .sl _ _ el => wtLL el + 1
  | _ => 1
def wtL : List PV → Nat
  | [] => 0
  | c :: r => wt c + wtL r
def wtLL : List (List PV) → Nat
  | [] => 0
  | c :: r => wtL c + wtLL r
end
theorem wtL_append : ∀ a b : List PV, wtL (a ++ b) = wtL a + wtL b
  | [], b => by simp [wtL]
  | c :: a, b => by simp only [List.cons_append, wtL, wtL_append a b]; omega
theorem wt_pos : ∀ p : PV, 1 ≤ wt p
  | .str s => by simp [wt]
  | .sl _ _ el => by simp [wt]
  | .bool _ | .int _ _ | .nilp | .ptr _ _ _ _ | .fptr _ _ | .nils | .own _ _ _ _ | .nilm | .map _ | .nilf | .fn _ _ | .agg _ | .tup _ | .undef => by simp [wt]
theorem len_wtL : ∀ l : List PV, l.length ≤ wtL l
  | [] => by simp [wtL]
  | c :: r => by have := len_wtL r; have := wt_pos c; simp only [wtL, List.length_cons]; omega
theorem len_wtLL : ∀ (l : List (List PV)), (∀ c, c ∈ l → 0 < c.length) → l.length ≤ wtLL l
  | [], _ => by simp [wtLL]
  | c :: r, h => by
    have := len_wtLL r fun c hc => h c (List.mem_cons_of_mem _ hc)
    have := h c List.mem_cons_self
    have := len_wtL c
    simp only [wtLL, List.length_cons]
    omega
theorem wtLL_sum : ∀ {l : List (List PV)} {b : List Nat}, l.length = b.length → (∀ i (hi : i < l.length) (hj : i < b.length), wtL l[i] ≤ b[i]) → wtLL l ≤ b.sum
  | [], [], _, _ => by simp [wtLL]
  | c :: r, x :: b, hl, h => by
    have h0 := h 0 (by simp) (by simp)
    have := wtLL_sum (l := r) (b := b) (by simpa using hl) fun i hi hj => by
      have := h (i + 1) (by simp; omega) (by simp; omega)
      simpa using this
    simp only [wtLL, List.sum_cons]
    simp only [List.getElem_cons_zero] at h0
    omega
  | [], _ :: _, hl, _ => by simp at hl
  | _ :: _, [], hl, _ => by simp at hl
structure BulkOk {H : Type} (B : DataW H → Nat) : Prop where
  lit : ∀ l, 1 ≤ B (.lit l)
  str : ∀ s, s.length + 1 ≤ B (.lit (.string s))
  nil : 1 ≤ B .nil
  slice : ∀ e s, (e.map B).sum + 1 ≤ B (.slice e s)
  agg : ∀ ps, (ps.map B).sum ≤ B (.agg ps)
theorem rows_buildW {T : TypeId → Option TI} {cl : List TypeId} {S : Store} {cs : List Value} {n : Nat} (hn : cs.length = n) : ∀ (fs : List (Nat × TypeId)) (bs : List Nat) (o : Nat), fs.length = bs.length → rowsOk T cl fs o n = true →
    (∀ q (hq : q < fs.length) (hb : q < bs.length) fi, fs[q].2 ∈ cl → T fs[q].2 = some fi → ∃ pcs, Sh T fs[q].2 pcs ∧ CellsOf S pcs ((cs.drop fs[q].1).take fi.size) ∧ wtL pcs ≤ bs[q]) →
    ∃ rest, rest.length + o = n ∧ CellsOf S rest (cs.drop o) ∧ wtL rest ≤ bs.sum ∧ ∀ pre : List PV, pre.length = o → ∀ o' ft fi, (o', ft) ∈ fs → T ft = some fi → Sh T ft (((pre ++ rest).drop o').take fi.size)
  | [], [], o, _, h, _ => by
    simp only [rowsOk] at h
    have := Nat.eq_of_beq_eq_true h
    subst this
    refine ⟨[], by simp, ⟨by simp [hn], fun i hi => absurd hi (by simp)⟩, by simp [wtL], fun _ _ _ _ _ h => absurd h (by simp)⟩
  | (o1, ft) :: r, b :: bs, o, hl, h, hf => by
    simp only [rowsOk, Bool.and_eq_true] at h
    obtain ⟨h1, h2, h3⟩ := h
    have := Nat.eq_of_beq_eq_true h1
    subst this
    split at h3
    · rename_i fi hfi
      obtain ⟨pcs, hs, hc, hwt⟩ := hf 0 (by simp) (by simp) fi (any_beq h2) hfi
      simp only [List.getElem_cons_zero] at hs hc hwt
      have hle := rowsOk_le h3
      obtain ⟨rest, r1, r2, rw_, r3⟩ := rows_buildW hn r bs (o1 + fi.size) (by simpa using hl) h3 fun q hq hb fi' hm hfi' => by
        have := hf (q + 1) (by simp; omega) (by simp; omega) fi' (by simpa using hm) (by simpa using hfi')
        simpa using this
      have hl : pcs.length = fi.size := by rw [← hc.1]; simp; omega
      refine ⟨pcs ++ rest, by simp; omega, ⟨by simp; omega, fun i hi hj => ?_⟩, by rw [wtL_append, List.sum_cons]; omega, fun pre hp o' ft' fi' hm hfi' => ?_⟩
      · by_cases hlt : i < pcs.length
        · rw [List.getElem_append_left hlt]
          have := hc.2 i hlt (by simp; omega)
          simpa using this
        · rw [List.getElem_append_right (by omega)]
          have := r2.2 (i - pcs.length) (by simp at hi; omega) (by simp; simp at hi; omega)
          have e : o1 + fi.size + (i - pcs.length) = o1 + i := by omega
          simpa only [List.getElem_drop, e] using this
      · rcases List.mem_cons.1 hm with e | hm
        · cases e
          rw [hfi] at hfi'
          cases hfi'
          rw [List.drop_append_of_le_length (by omega), List.drop_of_length_le (by omega), List.nil_append, List.take_append_of_le_length (by omega), List.take_of_length_le (by omega)]
          exact hs
        · have := r3 (pre ++ pcs) (by simp; omega) o' ft' fi' hm hfi'
          rwa [List.append_assoc] at this
    · cases h3
  | [], _ :: _, _, hl, _, _ => by simp at hl
  | _ :: _, [], _, hl, _, _ => by simp at hl
section
variable {E : Env} {P : Program} {H : Type} {enc : TypeId × Value → H} {w : World} {base : Nat} {spare : Nat → Bool} {held : Bool} {cl : List TypeId}
theorem trod_shW (hE : TOk E P) {B : DataW H → Nat} (hB : BulkOk B) (hcl : ∀ t, t ∈ cl → tyOk E.T cl t = true) : ∀ (n : Nat) (t : TypeId) (cs : List Value) (x : DataW H × List MemPlace), t ∈ cl → DataW.trod enc P w base spare held n t cs = some x → ∃ pcs, Sh E.T t pcs ∧ CellsOf (wS w) pcs cs ∧ wtL pcs ≤ B x.1
  | 0, t, cs, x, _, h => by simp [DataW.trod] at h
  | n + 1, t, cs, x, ht, h => by
    have hk := hcl t ht
    unfold tyOk at hk
    split at hk
    · rename_i ti hti
      obtain ⟨i, d, z, h1, h2, h3, rfl⟩ := hE.spec hti
      have hsz : P.cellsOf t = i.size := by simp [Program.cellsOf, h1]
      simp only at hk
      split at hk
      · rename_i hd
        have hd := tk_bool hd
        subst hd
        obtain ⟨b, rfl, rfl⟩ := DataW.trod_bool h2 h
        exact ⟨[.bool b], .bool hti rfl, cell1 (.bool b), by have := hB.lit (.bool b); simpa [wtL, wt] using this⟩
      · rename_i k hd
        have hd := tk_int hd
        subst hd
        obtain ⟨m, rfl, rfl, hw⟩ := DataW.trod_int h2 h
        exact ⟨[.int k m], .int hti rfl hw, cell1 (.int k m), by have := hB.lit (.int k m); simpa [wtL, wt] using this⟩
      · rename_i hd
        have hd := tk_string hd
        subst hd
        obtain ⟨s, rfl, rfl, hw⟩ := DataW.trod_string h2 h
        exact ⟨[.str s.data.toList], .str hti rfl (by simpa using hw), cell1 (.str _ s rfl), by have := hB.str s.data.toList; simpa [wtL, wt] using this⟩
      · rename_i e hd
        have hd := tk_slice hd
        subst hd
        simp only [Bool.and_eq_true] at hk
        obtain ⟨_, he, hei⟩ := hk
        split at hei
        · rename_i ei hte
          obtain ⟨i', d', z', h1', h2', h3', rfl⟩ := hE.spec hte
          have hes : P.cellsOf e = i'.size := by simp [Program.cellsOf, h1']
          have hpos : 0 < i'.size := Nat.le_of_ble_eq_true hei
          rcases DataW.trod_slice h2 h with ⟨rfl, rfl⟩ | ⟨a, len, cap, elems, rest, m, hm, rfl, rfl, hb, hl, hcap, hlen, hel, -, -⟩
          · exact ⟨[.nils], .nils hti rfl, cell1 (.nils), by have := hB.nil; simpa [wtL, wt] using this⟩
          · cases hm
            have each : ∀ i, i < len → ∃ p : List PV × List Value, Sh E.T e p.1 ∧ CellsOf (wS w) p.1 p.2 ∧ w.cells? base (a.add (i * i'.size)) i'.size = some p.2 ∧ ∃ hh : i < elems.length, wtL p.1 ≤ B (elems[i]'hh).1 := fun i hi => by
              have hx := hel i hi
              have hy : elems[i]? = some (elems[i]'(by omega)) := List.getElem?_eq_getElem (by omega)
              rw [hy, Option.bind_eq_some_iff] at hx
              obtain ⟨cs', hc1, hc2⟩ := hx
              obtain ⟨pcs, q1, q2, q3⟩ := trod_shW hE hB hcl n e cs' _ (any_beq he) hc2
              exact ⟨(pcs, cs'), q1, q2, by rw [← hes]; exact hc1, by omega, q3⟩
            obtain ⟨L, hL1, hL2⟩ := list_of len each
            have hcell : ∀ i (hi : i < L.length) j, j < i'.size → w.cell? ((a.add (i * i'.size)).add j) = (L[i]).2[j]? := fun i hi j hj => by
              have := (World.cells?_some (hL2 i hi).2.2.1)
              exact this.2.2 j hj
            have hlen2 : ∀ i (hi : i < L.length), (L[i]).2.length = i'.size := fun i hi => (World.cells?_some (hL2 i hi).2.2.1).2.1
            have hspot : 0 < len → a = ⟨a.block, a.off, none⟩ := fun hp => by
              have h0 := hcell 0 (by omega) 0 hpos
              rw [List.getElem?_eq_getElem (by rw [hlen2 0 (by omega)]; exact hpos)] at h0
              simp only [Nat.zero_mul, Addr.add, if_true] at h0
              obtain ⟨ab, ao, asp⟩ := a
              cases asp with
              | none => rfl
              | some z =>
                simp only [World.cell?] at h0
                split at h0
                · simp at h0
                · cases h0
            have hw' : ∀ i (hi : i < L.length), (L[i]).1.length = i'.size := fun i hi => by rw [← (hL2 i hi).2.1.1]; exact hlen2 i hi
            refine ⟨[.sl .none i'.size (L.map (·.1))], .sl hti rfl hte (by simp; omega) (fun c hc => ?_), ⟨rfl, fun k hi hj => ?_⟩, ?_⟩
            · obtain ⟨p, hp, rfl⟩ := List.mem_map.1 hc
              obtain ⟨q, hq, rfl⟩ := List.mem_iff_getElem.1 hp
              exact (hL2 q hq).1
            · obtain rfl : k = 0 := by simp at hi; omega
              have hLm : (L.map (·.1)).length = len := by simp [hL1]
              simp only [List.getElem_cons_zero]
              have key : V0 (wS w) (.sl .none i'.size (L.map (·.1))) (.slice (some a) (L.map (·.1)).length cap) := by
                refine .sl .none i'.size (L.map (·.1)) a a.block a.off cap (fun x y => ((L[x]?.map (·.2)).getD []).getD y undef) (fun hp => hspot (by omega)) (.inl rfl) (by omega) (fun x hx => ?_) (fun x y hx hy => ?_) (fun x hx y hy => ?_)
                · simpa using hw' x (by simpa using hx)
                · have hx' : x < L.length := by simpa using hx
                  have hcl := hcell x hx' y hy
                  have ha := hspot (by omega)
                  have e0 : ∀ A : Addr, A = ⟨a.block, a.off, none⟩ → (A.add (x * i'.size)).add y = ⟨a.block, a.off + x * i'.size + y, none⟩ := fun A hA => by rw [hA, add_plain', add_plain']
                  have e1 := e0 a ha
                  rw [e1] at hcl
                  simp only [wS]
                  rw [hcl, List.getElem?_eq_getElem hx']
                  have : y < (L[x]).2.length := by rw [hlen2 x hx']; exact hy
                  simp [this]
                · have hx' : x < L.length := by simpa using hx
                  have e1 : (L.map (·.1))[x] = (L[x]).1 := by simp
                  have hy1 : y < (L[x]).1.length := by rw [← e1]; exact hy
                  have := (hL2 x hx').2.1.2 y hy1 (by rw [(hL2 x hx').2.1.1]; exact hy1)
                  have hy2 : y < (L[x]).2.length := by rw [(hL2 x hx').2.1.1]; exact hy1
                  simpa [e1, List.getElem?_eq_getElem hx', hy2] using this
              rwa [hLm] at key
            · have h1 := hB.slice (elems.map (·.1)) (rest.map (·.1))
              have h2 : wtLL (L.map (·.1)) ≤ ((elems.map (·.1)).map B).sum := wtLL_sum (by simp; omega) fun i hi hj => by
                obtain ⟨hh, hq⟩ := (hL2 i (by simpa using hi)).2.2.2
                simpa using hq
              simp only [wtL, wt]
              omega
        · cases hei
      · rename_i fs hd
        obtain ⟨fs', hd, hfs⟩ := tk_struct hd
        subst hd
        obtain ⟨xs, m, hm, rfl, hlen, hxl, hf⟩ := DataW.trod_struct h2 h
        cases hm
        rw [hsz] at hlen
        obtain ⟨rest, r1, r2, rw_, r3⟩ := rows_buildW (S := wS w) hlen fs ((xs.map (·.1)).map B) 0 (by rw [hfs]; simp [hxl]) hk fun q hq hb fi hft hfi => by
          have hq2 : q < fs'.toList.length := by rw [hfs] at hq; simpa using hq
          obtain ⟨f, hqe⟩ : ∃ f, f = fs'.toList[q] := ⟨_, rfl⟩
          have efq : fs[q] = (f.offset, f.type) := by simp only [hfs, List.getElem_map, hqe]
          rw [efq] at hft hfi ⊢
          simp only at hft hfi ⊢
          obtain ⟨i', d', z', h1', h2', h3', rfl⟩ := hE.spec hfi
          have hx := hf q f (by rw [hqe]; simp only [Array.getElem_toList]; exact Array.getElem?_eq_getElem (by simpa using hq2))
          have hq' : q < xs.length := by rw [hxl]; simpa using hq2
          rw [List.getElem?_eq_getElem hq'] at hx
          have hs' : P.cellsOf f.type = i'.size := by simp [Program.cellsOf, h1']
          rw [hs'] at hx
          obtain ⟨pcs, z1, z2, z3⟩ := trod_shW hE hB hcl n f.type _ _ hft hx
          exact ⟨pcs, z1, z2, by simpa using z3⟩
        refine ⟨rest, .struct (fs := fs) hti (by rw [hfs]; rfl) (by simpa using r1) (fun o ft fi hmem hfi => ?_), ?_, ?_⟩
        · have := r3 [] rfl o ft fi hmem hfi
          simpa using this
        · simpa using r2
        · have := hB.agg (xs.map (·.1))
          exact Nat.le_trans rw_ this
      · cases hk
    · cases hk
end
end Go.Vm
