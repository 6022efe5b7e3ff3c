/-
  The operations that make memory or write it.
-/
import Derived.Test.YthkpihmifojnoaaGreatDoorVmF
namespace Go.Vm
section
variable {E : Env} {P : Program} {g : Gh} {H : Heap} {w : World}

theorem VL.append {a b : List PV} {x y : List Value} (h : VL g a x) (h' : VL g b y) : VL g (a ++ b) (x ++ y) := by
  refine ⟨by simp [h.1, h'.1], fun i hi hj => ?_⟩
  by_cases e : i < a.length
  · have e' : i < x.length := by rw [h.1]; exact e
    rw [List.getElem_append_left e, List.getElem_append_left e']
    exact h.2 i e e'
  · have e' : x.length ≤ i := by rw [h.1]; omega
    rw [List.getElem_append_right (by omega), List.getElem_append_right e']
    have := h'.2 (i - a.length) (by simp at hi; omega) (by rw [h'.1]; simp at hi; omega)
    simpa [h.1] using this
theorem VL.take {a : List PV} {x : List Value} (h : VL g a x) (n : Nat) : VL g (a.take n) (x.take n) := by
  refine ⟨by simp [h.1], fun i hi hj => ?_⟩
  simp at hi hj
  simpa using h.2 i (by omega) (by omega)
theorem VL.drop {a : List PV} {x : List Value} (h : VL g a x) (n : Nat) : VL g (a.drop n) (x.drop n) := by
  refine ⟨by simp [h.1], fun i hi hj => ?_⟩
  simp at hi hj
  simpa using h.2 (n + i) (by omega) (by omega)
theorem VL.mono {g' : Gh} (hle : g.Le g') {a : List PV} {x : List Value} (h : VL g a x) : VL g' a x := ⟨h.1, fun i hi hj => (h.2 i hi hj).mono hle⟩

theorem VL.zero (z : Value) (hz : 0 < (ofConst z).cells.length) : VL g (ofConst z).cells z.cells.toList := (V.pure _ _ (V0.ofConst g.S z)).cells hz

/-- One new box of one element. -/
theorem new_box (hi : Inv g H w) (cs : List PV) (vs : List Value) (hvl : VL g cs vs) (T : TypeId) :
    ∃ g', V g' (.ptr H.bx.length cs.length 0 0) (.pointer (some ⟨w.heap.size, 0, none⟩)) ∧ Inv g' (H.push (.cells cs.length [cs])) (w.alloc (.cells vs.toArray T)) ∧
      Keep g H w g' (H.push (.cells cs.length [cs])) (w.alloc (.cells vs.toArray T)) := by
  obtain ⟨i1, k1⟩ := inv_push hi (.cells vs.toArray T) (.cells cs.length [cs]) rfl
    (fun es el h => by
      cases h
      refine ⟨_, T, rfl, fun i hi => ?_, by simp [hvl.1], fun i hi j hj => ?_⟩
      · obtain rfl : i = 0 := by simp at hi; omega
        rfl
      · obtain rfl : i = 0 := by simp at hi; omega
        have hj' : j < cs.length := by simpa using hj
        exact ⟨vs[j]'(by rw [hvl.1]; exact hj'), by simp [hvl.1, hj'], by simpa using hvl.2 j hj' (by rw [hvl.1]; exact hj')⟩)
    (fun es h => by cases h)
  refine ⟨_, ?_, i1, k1⟩
  have := V.ptr (g := g.link H.bx.length w.heap.size) H.bx.length cs.length 0 0 w.heap.size (by simp [Gh.link])
  simpa using this

theorem alloc_ok (hE : TOk E P) (hi : Inv g H w) {e : TypeId} {ei : TI} (he : E.T e = some ei) (hz : ei.zero.cells.length = ei.size) (hp : 0 < ei.size) :
    ∃ v w' g', (Instr.alloc e true (.tuple #[])).run P w = .ok v w' ∧ V g' (.ptr H.bx.length ei.size 0 0) v ∧ Inv g' (H.push (.cells ei.size [ei.zero.cells])) w' ∧ Keep g H w g' (H.push (.cells ei.size [ei.zero.cells])) w' := by
  obtain ⟨i, d, z, h1, h2, h3, rfl⟩ := hE.spec he
  simp only at hz hp
  obtain ⟨g', a, b, c⟩ := new_box hi _ _ (VL.zero z (by omega)) e
  rw [hz] at a b c
  refine ⟨_, _, g', ?_, a, b, c⟩
  simp [Instr.alloc, run_zero' h1 h3, newVar, newRow, newObj]
  rfl

theorem box_ok (hi : Inv g H w) {p : PV} {a : Value} (hp : V g p a) (hpos : 0 < p.cells.length) (e : TypeId) :
    ∃ v w' g', (Instr.box e a).run P w = .ok v w' ∧ V g' (.ptr H.bx.length p.cells.length 0 0) v ∧ Inv g' (H.push (.cells p.cells.length [p.cells])) w' ∧ Keep g H w g' (H.push (.cells p.cells.length [p.cells])) w' := by
  obtain ⟨g', x, y, z⟩ := new_box hi _ _ (hp.cells hpos) e
  refine ⟨_, _, g', ?_, x, y, z⟩
  simp [Instr.box, newVar, newRow, newObj]
  rfl

theorem cellOk_one {p : PV} {v : Value} (h : V g p v) (hc : cellOk p = true) : v.oneCell' = true := by
  cases p with
  | agg _ => simp [cellOk] at hc
  | tup _ => simp [cellOk] at hc
  | undef => simp [cellOk] at hc
  | bool _ => rw [h.bool_inv]; rfl
  | int _ _ => rw [h.int_inv]; rfl
  | str _ => obtain ⟨_, rfl, _⟩ := h.str_inv; rfl
  | nilp => rw [h.nilp_inv]; rfl
  | ptr _ _ _ _ => obtain ⟨_, _, rfl⟩ := h.ptr_inv; rfl
  | fptr _ _ => obtain ⟨_, _, _, _, _, rfl⟩ := h.fptr_inv; rfl
  | nils => rw [h.nils_inv]; rfl
  | sl _ _ _ => obtain ⟨_, _, _, _, _, rfl, _⟩ := h.sl_inv; rfl
  | own _ _ _ _ => obtain ⟨_, _, _, _, _, _, _, rfl⟩ := h.own_inv; rfl
  | nilm => rw [h.nilm_inv]; rfl
  | map _ => obtain ⟨_, _, rfl⟩ := h.map_inv; rfl
  | nilf => rw [h.nilf_inv]; rfl
  | fn _ _ => obtain ⟨_, _, rfl, _⟩ := h.fn_inv; rfl

/-- A stretch of a row written. -/
theorem splice_get (c : Array Value) (vs : List Value) (o : Nat) (h : o + vs.length ≤ c.size) (x : Nat) :
    (c.toList.take o ++ vs ++ c.toList.drop (o + vs.length)).toArray[x]? = if x < o then c[x]? else if x < o + vs.length then vs[x - o]? else c[x]? := by
  have h1 : (c.toList.take o).length = o := by simp; omega
  simp only [List.getElem?_toArray]
  by_cases e1 : x < o
  · rw [if_pos e1, List.append_assoc, List.getElem?_append_left (by omega), List.getElem?_take_of_lt e1]
    simp
  · rw [if_neg e1, List.append_assoc, List.getElem?_append_right (by omega), h1]
    by_cases e2 : x < o + vs.length
    · rw [if_pos e2, List.getElem?_append_left (by omega)]
    · rw [if_neg e2, List.getElem?_append_right (by omega), List.getElem?_drop]
      have : o + vs.length + (x - o - vs.length) = x := by omega
      rw [this]; simp

theorem splice_size (c : Array Value) (vs : List Value) (o : Nat) (h : o + vs.length ≤ c.size) : (c.toList.take o ++ vs ++ c.toList.drop (o + vs.length)).toArray.size = c.size := by
  simp; omega

theorem put_inv {H' : Heap} {id : Nat} {b : Box} (h : H.put id b = some H') : H.ro ≤ id ∧ H' = { H with bx := H.bx.set id b } := by
  unfold Heap.put at h
  split at h
  · cases h
  · cases h; exact ⟨by omega, rfl⟩

theorem frozen_setRow (w : World) (b : Nat) (old cs : Array Value) (T : TypeId) (fr : Nat × Nat) (h : w.heap[b]? = some (.cells old T fr)) (a : Addr) : (w.setRow b cs).frozen? a = w.frozen? a := by
  by_cases e : a.block = b
  · simp only [World.frozen?, e, setRow_heap w b old cs T fr h, h]
  · simp only [World.frozen?, setRow_other w b a.block cs e]

theorem wr_ok (hi : Inv g H w) {p : PV} {a : Value} (hp : V g p a) {cs : List PV} {vs : List Value} (hvl : VL g cs vs) (hc : cs.all cellOk = true) {H' : Heap} (h : H.wr p cs = some H') :
    ∃ b o w', a = .pointer (some ⟨b, o, none⟩) ∧ (storeCells ⟨b, o, none⟩ vs).run P w = .ok () w' ∧ Inv g H' w' ∧ Keep g H w g H' w' := by
  unfold Heap.wr at h
  split at h
  · rename_i id es ix off
    rw [nth_eq] at h
    split at h
    · rename_i es' el hb
      split at h
      · rename_i he; subst he
        rw [nth_eq] at h
        split at h
        · rename_i old hold
          split at h
          · rename_i hle
            obtain ⟨hro, rfl⟩ := put_inv h
            obtain ⟨b, hσ, rfl⟩ := hp.ptr_inv
            obtain ⟨b', c, T, h1, h2, h3, h4, h5, h6⟩ := hi.bx _ _ _ hb
            rw [hσ] at h1; cases h1
            have hix := get_lt hold
            have hel := get_eq hold
            have hlen : old.length = es := hel ▸ h3 ix hix
            have hvlen : vs.length = cs.length := hvl.1
            have hup : ix * es + es ≤ el.length * es := by
              have := Nat.mul_le_mul_right es (show ix + 1 ≤ el.length from hix)
              rwa [Nat.add_mul, Nat.one_mul] at this
            have hfit : ix * es + off + vs.length ≤ c.size := by omega
            have hone : ∀ v ∈ vs, v.oneCell' = true := fun v hv => by
              obtain ⟨j, hj, rfl⟩ := List.mem_iff_getElem.1 hv
              exact cellOk_one (hvl.2 j (by omega) hj) (List.all_eq_true.1 hc _ (List.getElem_mem _))
            have hst := run_storeCells_at (P := P) b (ix * es + off) T vs 0 c w h2 (by omega) hone
            rw [Nat.add_zero] at hst
            refine ⟨b, _, _, rfl, hst, ?_⟩
            refine inv_put hi hro hb trivial hσ h6 (fun k hk => setRow_other w b k _ hk) (by simp) (setRow_heap w b c _ T _ h2) (frozen_setRow w b c _ T _ h2) ?_ (fun es h => by cases h) (fun c1 T1 m1 h => by
              cases h
              rw [splice_size _ _ _ hfit]
              exact hi.rm id b c T _ ⟨_, hb, trivial⟩ hσ h2) ⟨by simp, by simp⟩
            intro es0 el0 e0
            cases e0
            refine ⟨_, T, rfl, fun i hi => ?_, ?_, fun i hi j hj => ?_⟩
            · rw [List.getElem_set]
              split
              · simp; omega
              · exact h3 i (by simpa using hi)
            · rw [splice_size _ _ _ hfit]; simpa using h4
            · have hi' : i < el.length := by simpa using hi
              rw [splice_get _ _ _ hfit]
              by_cases e : i = ix
              · subst e
                have e1 : (el.set i (old.take off ++ (cs ++ old.drop (off + cs.length))))[i]'hi = old.take off ++ (cs ++ old.drop (off + cs.length)) := by simp
                have hje : j < es := by rw [e1] at hj; simp at hj; omega
                by_cases c1 : j < off
                · rw [if_pos (by omega)]
                  obtain ⟨v, q1, q2⟩ := h5 i hi' j (by rw [hel, hlen]; exact hje)
                  refine ⟨v, q1, ?_⟩
                  have : ((el.set i (old.take off ++ (cs ++ old.drop (off + cs.length))))[i]'hi)[j] = (el[i])[j]'(by rw [hel, hlen]; exact hje) := by
                    simp only [e1, hel]
                    rw [List.getElem_append_left (by simp; omega)]
                    simp
                  rw [this]; exact q2
                · rw [if_neg (by omega)]
                  by_cases c2 : j < off + cs.length
                  · rw [if_pos (by omega)]
                    have hk : j - off < vs.length := by omega
                    have ek : i * es + j - (i * es + off) = j - off := by omega
                    refine ⟨vs[j - off], by rw [ek]; simp [hk], ?_⟩
                    have : ((el.set i (old.take off ++ (cs ++ old.drop (off + cs.length))))[i]'hi)[j] = cs[j - off]'(by omega) := by
                      simp only [e1]
                      rw [List.getElem_append_right (by simp; omega), List.getElem_append_left (by simp; omega)]
                      congr 1
                      simp; omega
                    rw [this]; exact hvl.2 _ (by omega) hk
                  · rw [if_neg (by omega)]
                    obtain ⟨v, q1, q2⟩ := h5 i hi' j (by rw [hel, hlen]; exact hje)
                    refine ⟨v, q1, ?_⟩
                    have : ((el.set i (old.take off ++ (cs ++ old.drop (off + cs.length))))[i]'hi)[j] = (el[i])[j]'(by rw [hel, hlen]; exact hje) := by
                      simp only [e1, hel]
                      rw [List.getElem_append_right (by simp; omega), List.getElem_append_right (by simp; omega)]
                      simp only [List.getElem_drop]
                      congr 1
                      simp; omega
                    rw [this]; exact q2
              · have e1 : (el.set ix (old.take off ++ (cs ++ old.drop (off + cs.length))))[i]'hi = el[i] := by rw [List.getElem_set_ne (Ne.symm e)]
                have hje : j < es := by rw [e1, h3 i hi'] at hj; exact hj
                have hout : i * es + j < ix * es + off ∨ ix * es + off + vs.length ≤ i * es + j := by
                  rcases Nat.lt_or_gt_of_ne e with l | l
                  · have := Nat.mul_le_mul_right es (show i + 1 ≤ ix from l)
                    rw [Nat.add_mul, Nat.one_mul] at this
                    exact .inl (by omega)
                  · have := Nat.mul_le_mul_right es (show ix + 1 ≤ i from l)
                    rw [Nat.add_mul, Nat.one_mul] at this
                    exact .inr (by omega)
                obtain ⟨v, q1, q2⟩ := h5 i hi' j (by rw [h3 i hi']; exact hje)
                refine ⟨v, ?_, by simpa [e1] using q2⟩
                by_cases c1 : i * es + j < ix * es + off
                · rw [if_pos c1]; exact q1
                · rw [if_neg c1, if_neg (by omega)]; exact q1
          · cases h
        · cases h
      · cases h
    · cases h
  · cases h

theorem store_ok (hE : TOk E P) (hi : Inv g H w) {t : TypeId} {ti : TI} (ht : E.T t = some ti) {p q : PV} {a x : Value} (hp : V g p a) (hq : V g q x) (hl : q.cells.length = ti.size) (hpos : 0 < ti.size) (hc : q.cells.all cellOk = true) {H' : Heap} (h : H.wr p q.cells = some H') :
    ∃ w', (Instr.storeAt t a x).run P w = .ok () w' ∧ Inv g H' w' ∧ Keep g H w g H' w' := by
  obtain ⟨i, d, z, h1, h2, h3, rfl⟩ := hE.spec ht
  simp only at hl hpos
  have hvl := hq.cells (by omega)
  obtain ⟨b, o, w', rfl, hr, a1, a2⟩ := wr_ok (P := P) hi hp hvl hc h
  refine ⟨w', ?_, a1, a2⟩
  have hs : x.cells.size = i.size := by have := hvl.1; simp at this; omega
  simp [Instr.storeAt, Instr.sureAddr, storeVar, run_sizeOf' h1, hs, hr]

end
end Go.Vm
