/-
  The operations that make memory or write it.
-/
import Derived.Test.YthkpihmifojnoaaGreatDoorVa
import Derived.Laws.MakeOwn
import Derived.Laws.AppendOwn
import Derived.Laws.Append
namespace Go.Vm
section
variable {E : Env} {P : Program} {g : Gh} {H : Heap} {w : World}

theorem VL.append {a b : List PV} {x y : List Value} (h : VL g a x) (h' : VL g b y) : VL g (a ++ b) (x ++ y) := by
  refine ⟨by simp [h.1, h'.1], fun i hi hj => ?_⟩
  by_cases e : i < a.length
  · have e' : i < x.length := by rw [h.1]; exact e
    rw [List.getElem_append_left e, List.getElem_append_left e']
    exact h.2 i e e'
  · have e' : x.length ≤ i := by rw [h.1]; omega
    rw [List.getElem_append_right (by omega), List.getElem_append_right e']
    have := h'.2 (i - a.length) (by simp at hi; omega) (by rw [h'.1]; simp at hi; omega)
    simpa [h.1] using this
theorem VL.take {a : List PV} {x : List Value} (h : VL g a x) (n : Nat) : VL g (a.take n) (x.take n) := by
  refine ⟨by simp [h.1], fun i hi hj => ?_⟩
  simp at hi hj
  simpa using h.2 i (by omega) (by omega)
theorem VL.drop {a : List PV} {x : List Value} (h : VL g a x) (n : Nat) : VL g (a.drop n) (x.drop n) := by
  refine ⟨by simp [h.1], fun i hi hj => ?_⟩
  simp at hi hj
  simpa using h.2 (n + i) (by omega) (by omega)
theorem VL.mono {g' : Gh} (hle : g.Le g') {a : List PV} {x : List Value} (h : VL g a x) : VL g' a x := ⟨h.1, fun i hi hj => (h.2 i hi hj).mono hle⟩

theorem VL.zero (z : Value) (hz : 0 < (ofConst z).cells.length) : VL g (ofConst z).cells z.cells.toList := (V.pure _ _ (V0.ofConst g.S z)).cells hz

/-- One new box of one element. -/
theorem new_box (hi : Inv g H w) (cs : List PV) (vs : List Value) (hvl : VL g cs vs) (T : TypeId) :
    ∃ g', V g' (.ptr H.bx.length cs.length 0 0) (.pointer (some ⟨w.heap.size, 0, none⟩)) ∧ Inv g' (H.push (.cells cs.length [cs])) (w.alloc (.cells vs.toArray T)) ∧
      Keep g H w g' (H.push (.cells cs.length [cs])) (w.alloc (.cells vs.toArray T)) := by
  obtain ⟨i1, k1⟩ := inv_push hi (.cells vs.toArray T) (.cells cs.length [cs]) rfl
    (fun es el h => by
      cases h
      refine ⟨_, T, rfl, fun i hi => ?_, by simp [hvl.1], fun i hi j hj => ?_⟩
      · obtain rfl : i = 0 := by simp at hi; omega
        rfl
      · obtain rfl : i = 0 := by simp at hi; omega
        have hj' : j < cs.length := by simpa using hj
        exact ⟨vs[j]'(by rw [hvl.1]; exact hj'), by simp [hvl.1, hj'], by simpa using hvl.2 j hj' (by rw [hvl.1]; exact hj')⟩)
    (fun es h => by cases h)
  refine ⟨_, ?_, i1, k1⟩
  have := V.ptr (g := g.link H.bx.length w.heap.size) H.bx.length cs.length 0 0 w.heap.size (by simp [Gh.link])
  simpa using this

theorem alloc_ok (hE : TOk E P) (hi : Inv g H w) {e : TypeId} {ei : TI} (he : E.T e = some ei) (hz : ei.zero.cells.length = ei.size) (hp : 0 < ei.size) :
    ∃ v w' g', (Instr.alloc e true (.tuple #[])).run P w = .ok v w' ∧ V g' (.ptr H.bx.length ei.size 0 0) v ∧ Inv g' (H.push (.cells ei.size [ei.zero.cells])) w' ∧ Keep g H w g' (H.push (.cells ei.size [ei.zero.cells])) w' := by
  obtain ⟨i, d, z, h1, h2, h3, rfl⟩ := hE.spec he
  simp only at hz hp
  obtain ⟨g', a, b, c⟩ := new_box hi _ _ (VL.zero z (by omega)) e
  rw [hz] at a b c
  refine ⟨_, _, g', ?_, a, b, c⟩
  simp [Instr.alloc, run_zero' h1 h3, newVar, newRow, newObj]
  rfl

theorem box_ok (hi : Inv g H w) {p : PV} {a : Value} (hp : V g p a) (hpos : 0 < p.cells.length) (e : TypeId) :
    ∃ v w' g', (Instr.box e a).run P w = .ok v w' ∧ V g' (.ptr H.bx.length p.cells.length 0 0) v ∧ Inv g' (H.push (.cells p.cells.length [p.cells])) w' ∧ Keep g H w g' (H.push (.cells p.cells.length [p.cells])) w' := by
  obtain ⟨g', x, y, z⟩ := new_box hi _ _ (hp.cells hpos) e
  refine ⟨_, _, g', ?_, x, y, z⟩
  simp [Instr.box, newVar, newRow, newObj]
  rfl

theorem cellOk_one {p : PV} {v : Value} (h : V g p v) (hc : cellOk p = true) : v.oneCell' = true := by
  cases p with
  | agg _ => simp [cellOk] at hc
  | tup _ => simp [cellOk] at hc
  | undef => simp [cellOk] at hc
  | bool _ => rw [h.bool_inv]; rfl
  | int _ _ => rw [h.int_inv]; rfl
  | str _ => obtain ⟨_, rfl, _⟩ := h.str_inv; rfl
  | nilp => rw [h.nilp_inv]; rfl
  | ptr _ _ _ _ => obtain ⟨_, _, rfl⟩ := h.ptr_inv; rfl
  | fptr _ _ => obtain ⟨_, _, _, _, _, rfl⟩ := h.fptr_inv; rfl
  | nils => rw [h.nils_inv]; rfl
  | sl _ _ _ => obtain ⟨_, _, _, _, _, rfl, _⟩ := h.sl_inv; rfl
  | own _ _ _ _ => obtain ⟨_, _, _, _, _, _, _, rfl⟩ := h.own_inv; rfl
  | nilm => rw [h.nilm_inv]; rfl
  | map _ => obtain ⟨_, _, rfl⟩ := h.map_inv; rfl
  | nilf => rw [h.nilf_inv]; rfl
  | fn _ _ => obtain ⟨_, _, rfl, _⟩ := h.fn_inv; rfl

/-- A stretch of a row written. -/
theorem splice_get (c : Array Value) (vs : List Value) (o : Nat) (h : o + vs.length ≤ c.size) (x : Nat) :
    (c.toList.take o ++ vs ++ c.toList.drop (o + vs.length)).toArray[x]? = if x < o then c[x]? else if x < o + vs.length then vs[x - o]? else c[x]? := by
  have h1 : (c.toList.take o).length = o := by simp; omega
  simp only [List.getElem?_toArray]
  by_cases e1 : x < o
  · rw [if_pos e1, List.append_assoc, List.getElem?_append_left (by omega), List.getElem?_take_of_lt e1]
    simp
  · rw [if_neg e1, List.append_assoc, List.getElem?_append_right (by omega), h1]
    by_cases e2 : x < o + vs.length
    · rw [if_pos e2, List.getElem?_append_left (by omega)]
    · rw [if_neg e2, List.getElem?_append_right (by omega), List.getElem?_drop]
      have : o + vs.length + (x - o - vs.length) = x := by omega
      rw [this]; simp

theorem splice_size (c : Array Value) (vs : List Value) (o : Nat) (h : o + vs.length ≤ c.size) : (c.toList.take o ++ vs ++ c.toList.drop (o + vs.length)).toArray.size = c.size := by
  simp; omega

theorem put_inv {H' : Heap} {id : Nat} {b : Box} (h : H.put id b = some H') : H.ro ≤ id ∧ H' = { H with bx := H.bx.set id b } := by
  unfold Heap.put at h
  split at h
  · cases h
  · cases h; exact ⟨by omega, rfl⟩

theorem frozen_setRow (w : World) (b : Nat) (old cs : Array Value) (T : TypeId) (fr : Nat × Nat) (h : w.heap[b]? = some (.cells old T fr)) (a : Addr) : (w.setRow b cs).frozen? a = w.frozen? a := by
  by_cases e : a.block = b
  · simp only [World.frozen?, e, setRow_heap w b old cs T fr h, h]
  · simp only [World.frozen?, setRow_other w b a.block cs e]

theorem wr_ok (hi : Inv g H w) {p : PV} {a : Value} (hp : V g p a) {cs : List PV} {vs : List Value} (hvl : VL g cs vs) (hc : cs.all cellOk = true) {H' : Heap} (h : H.wr p cs = some H') :
    ∃ b o w', a = .pointer (some ⟨b, o, none⟩) ∧ (storeCells ⟨b, o, none⟩ vs).run P w = .ok () w' ∧ Inv g H' w' ∧ Keep g H w g H' w' := by
  unfold Heap.wr at h
  split at h
  · rename_i id es ix off
    rw [nth_eq] at h
    split at h
    · rename_i es' el hb
      split at h
      · rename_i he; subst he
        rw [nth_eq] at h
        split at h
        · rename_i old hold
          split at h
          · rename_i hle
            obtain ⟨hro, rfl⟩ := put_inv h
            obtain ⟨b, hσ, rfl⟩ := hp.ptr_inv
            obtain ⟨b', c, T, h1, h2, h3, h4, h5, h6⟩ := hi.bx _ _ _ hb
            rw [hσ] at h1; cases h1
            have hix := get_lt hold
            have hel := get_eq hold
            have hlen : old.length = es := hel ▸ h3 ix hix
            have hvlen : vs.length = cs.length := hvl.1
            have hup : ix * es + es ≤ el.length * es := by
              have := Nat.mul_le_mul_right es (show ix + 1 ≤ el.length from hix)
              rwa [Nat.add_mul, Nat.one_mul] at this
            have hfit : ix * es + off + vs.length ≤ c.size := by omega
            have hone : ∀ v ∈ vs, v.oneCell' = true := fun v hv => by
              obtain ⟨j, hj, rfl⟩ := List.mem_iff_getElem.1 hv
              exact cellOk_one (hvl.2 j (by omega) hj) (List.all_eq_true.1 hc _ (List.getElem_mem _))
            have hst := run_storeCells_at (P := P) b (ix * es + off) T vs 0 c w h2 (by omega) hone
            rw [Nat.add_zero] at hst
            refine ⟨b, _, _, rfl, hst, ?_⟩
            refine inv_put hi hro hb trivial hσ h6 (fun k hk => setRow_other w b k _ hk) (by simp) (setRow_heap w b c _ T _ h2) (frozen_setRow w b c _ T _ h2) ?_ (fun es h => by cases h) (fun c1 T1 m1 h => by
              cases h
              rw [splice_size _ _ _ hfit]
              exact hi.rm id b c T _ ⟨_, hb, trivial⟩ hσ h2) ⟨by simp, by simp⟩
            intro es0 el0 e0
            cases e0
            refine ⟨_, T, rfl, fun i hi => ?_, ?_, fun i hi j hj => ?_⟩
            · rw [List.getElem_set]
              split
              · simp; omega
              · exact h3 i (by simpa using hi)
            · rw [splice_size _ _ _ hfit]; simpa using h4
            · have hi' : i < el.length := by simpa using hi
              rw [splice_get _ _ _ hfit]
              by_cases e : i = ix
              · subst e
                have e1 : (el.set i (old.take off ++ (cs ++ old.drop (off + cs.length))))[i]'hi = old.take off ++ (cs ++ old.drop (off + cs.length)) := by simp
                have hje : j < es := by rw [e1] at hj; simp at hj; omega
                by_cases c1 : j < off
                · rw [if_pos (by omega)]
                  obtain ⟨v, q1, q2⟩ := h5 i hi' j (by rw [hel, hlen]; exact hje)
                  refine ⟨v, q1, ?_⟩
                  have : ((el.set i (old.take off ++ (cs ++ old.drop (off + cs.length))))[i]'hi)[j] = (el[i])[j]'(by rw [hel, hlen]; exact hje) := by
                    simp only [e1, hel]
                    rw [List.getElem_append_left (by simp; omega)]
                    simp
                  rw [this]; exact q2
                · rw [if_neg (by omega)]
                  by_cases c2 : j < off + cs.length
                  · rw [if_pos (by omega)]
                    have hk : j - off < vs.length := by omega
                    have ek : i * es + j - (i * es + off) = j - off := by omega
                    refine ⟨vs[j - off], by rw [ek]; simp [hk], ?_⟩
                    have : ((el.set i (old.take off ++ (cs ++ old.drop (off + cs.length))))[i]'hi)[j] = cs[j - off]'(by omega) := by
                      simp only [e1]
                      rw [List.getElem_append_right (by simp; omega), List.getElem_append_left (by simp; omega)]
                      congr 1
                      simp; omega
                    rw [this]; exact hvl.2 _ (by omega) hk
                  · rw [if_neg (by omega)]
                    obtain ⟨v, q1, q2⟩ := h5 i hi' j (by rw [hel, hlen]; exact hje)
                    refine ⟨v, q1, ?_⟩
                    have : ((el.set i (old.take off ++ (cs ++ old.drop (off + cs.length))))[i]'hi)[j] = (el[i])[j]'(by rw [hel, hlen]; exact hje) := by
                      simp only [e1, hel]
                      rw [List.getElem_append_right (by simp; omega), List.getElem_append_right (by simp; omega)]
                      simp only [List.getElem_drop]
                      congr 1
                      simp; omega
                    rw [this]; exact q2
              · have e1 : (el.set ix (old.take off ++ (cs ++ old.drop (off + cs.length))))[i]'hi = el[i] := by rw [List.getElem_set_ne (Ne.symm e)]
                have hje : j < es := by rw [e1, h3 i hi'] at hj; exact hj
                have hout : i * es + j < ix * es + off ∨ ix * es + off + vs.length ≤ i * es + j := by
                  rcases Nat.lt_or_gt_of_ne e with l | l
                  · have := Nat.mul_le_mul_right es (show i + 1 ≤ ix from l)
                    rw [Nat.add_mul, Nat.one_mul] at this
                    exact .inl (by omega)
                  · have := Nat.mul_le_mul_right es (show ix + 1 ≤ i from l)
                    rw [Nat.add_mul, Nat.one_mul] at this
                    exact .inr (by omega)
                obtain ⟨v, q1, q2⟩ := h5 i hi' j (by rw [h3 i hi']; exact hje)
                refine ⟨v, ?_, by simpa [e1] using q2⟩
                by_cases c1 : i * es + j < ix * es + off
                · rw [if_pos c1]; exact q1
                · rw [if_neg c1, if_neg (by omega)]; exact q1
          · cases h
        · cases h
      · cases h
    · cases h
  · cases h

theorem store_ok (hE : TOk E P) (hi : Inv g H w) {t : TypeId} {ti : TI} (ht : E.T t = some ti) {p q : PV} {a x : Value} (hp : V g p a) (hq : V g q x) (hl : q.cells.length = ti.size) (hpos : 0 < ti.size) (hc : q.cells.all cellOk = true) {H' : Heap} (h : H.wr p q.cells = some H') :
    ∃ w', (Instr.storeAt t a x).run P w = .ok () w' ∧ Inv g H' w' ∧ Keep g H w g H' w' := by
  obtain ⟨i, d, z, h1, h2, h3, rfl⟩ := hE.spec ht
  simp only at hl hpos
  have hvl := hq.cells (by omega)
  obtain ⟨b, o, w', rfl, hr, a1, a2⟩ := wr_ok (P := P) hi hp hvl hc h
  refine ⟨w', ?_, a1, a2⟩
  have hs : x.cells.size = i.size := by have := hvl.1; simp at this; omega
  simp [Instr.storeAt, Instr.sureAddr, storeVar, run_sizeOf' h1, hs, hr]

end
end Go.Vm

/-
  Literals of structs and slices, new slices, lengths.
-/
namespace Go.Vm

theorem fold_put (l : List Value) : ∀ (k off : Nat) (cs : Array Value), off + k + l.length ≤ cs.size →
    ((l.zipIdx k).foldl (fun cs x => cs.setIfInBounds (off + x.2) x.1) cs).toList = cs.toList.take (off + k) ++ (l ++ cs.toList.drop (off + k + l.length)) := by
  induction l with
  | nil => intro k off cs h; simp
  | cons v l ih =>
    intro k off cs h
    simp only [List.length_cons] at h
    simp only [List.zipIdx_cons, List.foldl_cons]
    rw [ih (k + 1) off _ (by simp; omega)]
    simp only [Array.toList_setIfInBounds, List.length_cons]
    apply List.ext_getElem?
    intro x
    have hk : off + k < cs.toList.length := by simp; omega
    have e1 : (List.take (off + (k + 1)) (cs.toList.set (off + k) v)) = cs.toList.take (off + k) ++ [v] := by
      rw [show off + (k + 1) = off + k + 1 from rfl, List.take_succ_eq_append_getElem (by simpa using hk)]
      simp [List.take_set_of_le]
    have e2 : List.drop (off + (k + 1) + l.length) (cs.toList.set (off + k) v) = cs.toList.drop (off + k + (l.length + 1)) := by
      rw [List.drop_set_of_lt (by omega)]
      congr 1; omega
    rw [e1, e2]
    simp

section
variable {E : Env} {P : Program} {g : Gh} {H : Heap} {w : World}

theorem fill_put (v : Value) (off : Nat) (cells : Array Value) (h : off + v.cells.size ≤ cells.size) :
    (v.cells.zipIdx.foldl (fun cs (x : Value × Nat) => cs.setIfInBounds (off + x.2) x.1) cells).toList = cells.toList.take off ++ (v.cells.toList ++ cells.toList.drop (off + v.cells.size)) := by
  rw [← Array.foldl_toList, Array.toList_zipIdx]
  have := fold_put v.cells.toList 0 off cells (by simpa using h)
  simpa using this

theorem list_mapM_run {α β : Type} (f : α → Sem β) (k : α → β) (l : List α) (h : ∀ x ∈ l, (f x).run P w = .ok (k x) w) : (l.mapM f).run P w = .ok (l.map k) w := by
  induction l with
  | nil => simp
  | cons a l ih =>
    simp [List.mapM_cons, h a (by simp), ih (fun x hx => h x (by simp [hx]))]

theorem array_mapM_run {α β : Type} (f : α → Sem β) (k : α → β) (l : Array α) (h : ∀ x ∈ l.toList, (f x).run P w = .ok (k x) w) : (l.mapM f).run P w = .ok (l.map k) w := by
  rw [Array.mapM_eq_mapM_toList, Sem.run_map, list_mapM_run f k _ h]
  simp only [Result.andThen_ok]
  congr 1
  apply Array.ext'
  simp

/-- A list of parts, abstract and real. -/
def PL (g : Gh) (a : List (Nat × PV)) (b : List (Nat × Value)) : Prop := a.length = b.length ∧ ∀ i (hi : i < a.length) (hj : i < b.length), a[i].1 = b[i].1 ∧ V g a[i].2 b[i].2

theorem PL.cons_inv {i : Nat} {p : PV} {a : List (Nat × PV)} {b : List (Nat × Value)} (h : PL g ((i, p) :: a) b) : ∃ v b', b = (i, v) :: b' ∧ V g p v ∧ PL g a b' := by
  cases b with
  | nil => exact absurd h.1 (by simp)
  | cons x b' =>
    have h0 := h.2 0 (by simp) (by simp)
    simp only [List.getElem_cons_zero] at h0
    obtain ⟨j, v⟩ := x
    obtain ⟨rfl, hv⟩ := h0
    refine ⟨v, b', rfl, hv, by simpa using h.1, fun k hk hj => ?_⟩
    exact h.2 (k + 1) (by simpa using hk) (by simpa using hj)

theorem fill_ok (hE : TOk E P) {fa : Array Field} {parts : List (Nat × PV)} : ∀ {vals : List (Nat × Value)} {cells : List PV} {arr : Array Value} {cs : List PV},
    PL g parts vals → VL g cells arr.toList → (∀ f ∈ fa.toList, ∃ ti, E.T f.type = some ti) →
    aFill (fa.toList.map fun f => (f.offset, f.type)) E cells parts = some cs →
    ∃ out, Instr.fill ((fa.map fun f => (f.offset, ((P.info? f.type).map (·.size)).getD 0))[·]?) arr vals = some out ∧ VL g cs out.toList ∧ cs.length = cells.length := by
  induction parts with
  | nil =>
    intro vals cells arr cs hp hv _ h
    have : vals = [] := by have := hp.1; simpa using this.symm
    subst this
    simp only [aFill, Option.some.injEq] at h
    subst h
    exact ⟨arr, rfl, hv, rfl⟩
  | cons x parts ih =>
    obtain ⟨i, p⟩ := x
    intro vals cells arr cs hp hv hT h
    obtain ⟨v, vals', rfl, hpv, hp'⟩ := hp.cons_inv
    simp only [aFill, nth_eq] at h
    split at h
    · rename_i o ft hf
      split at h
      · rename_i fi hfi
        split at h
        · rename_i hcond
          obtain ⟨hlen, hpos, hle⟩ := hcond
          obtain ⟨fld, hfld, e⟩ : ∃ fld, fa[i]? = some fld ∧ (fld.offset, fld.type) = (o, ft) := by simpa using hf
          cases e
          obtain ⟨inf, d, z, h1, h2, h3, rfl⟩ := hE.spec hfi
          simp only at hlen hpos hle h
          have hcl : cells.length = arr.size := by have := hv.1; simp at this; omega
          · have hvl := hpv.cells (by omega)
            have hvs : v.cells.size = inf.size := by have := hvl.1; simp at this; omega
            have hfit : fld.offset + v.cells.size ≤ arr.size := by omega
            have hnew : VL g (cells.take fld.offset ++ (p.cells ++ cells.drop (fld.offset + inf.size))) (v.cells.zipIdx.foldl (fun cs (x : Value × Nat) => cs.setIfInBounds (fld.offset + x.2) x.1) arr).toList := by
              rw [fill_put v _ _ hfit, hvs]
              exact (hv.take _).append (hvl.append (hv.drop _))
            obtain ⟨out, ho, hvo, hlo⟩ := ih hp' hnew hT h
            refine ⟨out, ?_, hvo, by rw [hlo]; simp; omega⟩
            have hpl : (fa.map fun f => (f.offset, ((P.info? f.type).map (·.size)).getD 0))[i]? = some (fld.offset, inf.size) := by simp [hfld, h1]
            simp only [Instr.fill, hpl]
            have : ¬ (v.cells.size ≠ inf.size || decide (fld.offset + v.cells.size > arr.size)) = true := by simp [hvs]; omega
            rw [if_neg (by simpa using this)]
            exact ho
        · cases h
      · cases h
    · cases h

theorem build_ok (hE : TOk E P) {t : TypeId} {parts : List (Nat × PV)} {vals : Array (Nat × Value)} (hp : PL g parts vals.toList) {q : PV} (h : aBuild E t parts = some q) :
    ∃ v, (Instr.build t vals).run P w = .ok v w ∧ V g q v := by
  unfold aBuild at h
  split at h
  · rename_i ti ht
    obtain ⟨i, d, z, h1, h2, h3, rfl⟩ := hE.spec ht
    simp only at h
    split at h
    · rename_i fs hfs
      obtain ⟨fa, rfl, rfl⟩ := tk_struct hfs
      split at h
      · rename_i hall
        obtain ⟨hall, hpos⟩ := hall
        split at h
        · rename_i cs hcs
          cases h
          have hT : ∀ f ∈ fa.toList, ∃ ti, E.T f.type = some ti := fun f hf => by
            have := List.all_eq_true.1 hall (f.offset, f.type) (List.mem_map.2 ⟨f, hf, rfl⟩)
            exact Option.isSome_iff_exists.1 this
          obtain ⟨out, ho, hvo, -⟩ := fill_ok (P := P) hE hp (VL.zero z hpos) hT hcs
          refine ⟨.agg out, ?_, .agg _ _ (by have := hvo.1; simpa using this) fun i hi => by rw [← Array.getElem_toList]; exact hvo.2 i hi (by have := hvo.1; omega)⟩
          have hm : (fa.mapM fun f => do pure (f.offset, ← sizeOf f.type) : Sem (Array (Nat × Nat))).run P w = .ok (fa.map fun f => (f.offset, ((P.info? f.type).map (·.size)).getD 0)) w := by
            refine array_mapM_run _ _ _ fun f hf => ?_
            obtain ⟨ti, hti⟩ := hT f hf
            obtain ⟨i', d', z', h1', h2', h3', rfl⟩ := hE.spec hti
            simp [run_sizeOf' h1', h1']
          simp only [Instr.build, Sem.run_bind, run_zero' h1 h3, Result.andThen_ok, run_underlying h2, hm, ho]
          rfl
        · cases h
      · cases h
    · cases h
  · cases h

end
end Go.Vm

/-
  Rows of cells: slice literals and new slices.
-/
namespace Go.Vm

/-- A row of elements, in the first cells of an array. -/
def RL (g : Gh) (es : Nat) (el : List (List PV)) (arr : Array Value) : Prop :=
  (∀ i (hi : i < el.length), (el[i]).length = es) ∧ el.length * es ≤ arr.size ∧
    ∀ i (hi : i < el.length) j (hj : j < (el[i]).length), ∃ v, arr[i * es + j]? = some v ∧ V g ((el[i])[j]) v

theorem idx_lt {i j es n : Nat} (hi : i < n) (hj : j < es) : i * es + j < n * es := by
  have := Nat.mul_le_mul_right es (show i + 1 ≤ n from hi)
  rw [Nat.add_mul, Nat.one_mul] at this
  omega

section
variable {E : Env} {P : Program} {g : Gh} {H : Heap} {w : World}

theorem frz1_ok {p p' : PV} {v : Value} (h : V g p v) (hf : frz1 p = some p') : V0 g.S p' v := by
  cases p <;> simp only [frz1, Option.some.injEq] at hf <;> first | cases hf | skip
  case bool => rw [h.bool_inv]; exact .bool _
  case int => rw [h.int_inv]; exact .int _ _
  case str => obtain ⟨b, rfl, e⟩ := h.str_inv; exact .str _ _ e
  case nilp => rw [h.nilp_inv]; exact .nilp
  case nils => rw [h.nils_inv]; exact .nils
  case nilm => rw [h.nilm_inv]; exact .nilm
  case nilf => rw [h.nilf_inv]; exact .nilf
  case sl =>
    cases h with
    | pure _ _ h => exact h.sl_none
    | tok _ _ _ _ _ _ h _ => exact h
  case fptr => cases h with | pure _ _ h => exact h

theorem frzL_ok {cs cs' : List PV} (h : frzL cs = some cs') : cs'.length = cs.length ∧ ∀ i (hi : i < cs.length) (hi' : i < cs'.length), frz1 cs[i] = some cs'[i] := by
  induction cs generalizing cs' with
  | nil => simp only [frzL, Option.some.injEq] at h; subst h; exact ⟨rfl, fun i hi => absurd hi (by simp)⟩
  | cons c cs ih =>
    simp only [frzL] at h
    split at h
    · rename_i c' hc
      split at h
      · rename_i r' hr
        cases h
        obtain ⟨h1, h2⟩ := ih hr
        refine ⟨by simp [h1], fun i hi hi' => ?_⟩
        cases i with
        | zero => simpa using hc
        | succ i => exact h2 i (by simpa using hi) (by simpa using hi')
      · cases h
    · cases h

theorem frzLL_ok {cs cs' : List (List PV)} (h : frzLL cs = some cs') : cs'.length = cs.length ∧ ∀ i (hi : i < cs.length) (hi' : i < cs'.length), frzL cs[i] = some cs'[i] := by
  induction cs generalizing cs' with
  | nil => simp only [frzLL, Option.some.injEq] at h; subst h; exact ⟨rfl, fun i hi => absurd hi (by simp)⟩
  | cons c cs ih =>
    simp only [frzLL] at h
    split at h
    · rename_i c' hc
      split at h
      · rename_i r' hr
        cases h
        obtain ⟨h1, h2⟩ := ih hr
        refine ⟨by simp [h1], fun i hi hi' => ?_⟩
        cases i with
        | zero => simpa using hc
        | succ i => exact h2 i (by simpa using hi) (by simpa using hi')
      · cases h
    · cases h

/-- A frozen row, as it reads. -/
theorem RL.frozen {es : Nat} {el el' : List (List PV)} {arr : Array Value} (h : RL g es el arr) (hf : frzLL el = some el') :
    el'.length = el.length ∧ (∀ i (hi : i < el'.length), (el'[i]).length = es) ∧
    ∀ i (hi : i < el'.length) j (hj : j < (el'[i]).length), ∃ v, arr[i * es + j]? = some v ∧ V0 g.S ((el'[i])[j]) v := by
  obtain ⟨h1, h2⟩ := frzLL_ok hf
  have h3 : ∀ i (hi : i < el'.length), (el'[i]).length = es := fun i hi => by
    rw [(frzL_ok (h2 i (by omega) hi)).1]; exact h.1 i (by omega)
  refine ⟨h1, h3, fun i hi j hj => ?_⟩
  have hi' : i < el.length := by omega
  obtain ⟨f1, f2⟩ := frzL_ok (h2 i hi' hi)
  obtain ⟨v, e, x⟩ := h.2.2 i hi' j (by omega)
  exact ⟨v, e, frz1_ok x (f2 j (by omega) hj)⟩

theorem zrow_ok (z : Value) (n es : Nat) (hes : (ofConst z).cells.length = es) (hpos : 0 < es) :
    RL g es (List.replicate n (ofConst z).cells) ((Array.range (n * es)).map (z.cells[· % z.cells.size]!)) := by
  have hv := VL.zero (g := g) z (by omega)
  have hsz : z.cells.size = es := by have := hv.1; simp at this; omega
  refine ⟨fun i hi => by simpa using hes, by simp, fun i hi j hj => ?_⟩
  have hi' : i < n := by simpa using hi
  have hj' : j < es := by simp at hj; omega
  have hlt := idx_lt hi' hj'
  have hmod : (i * es + j) % es = j := by rw [Nat.add_comm, Nat.add_mul_mod_self_right, Nat.mod_eq_of_lt hj']
  refine ⟨z.cells[j]'(by omega), ?_, ?_⟩
  · simp [hlt, hsz, hmod, hj']
  · have := hv.2 j (by omega) (by simp; omega)
    simpa using this

theorem fillS_ok {es : Nat} {parts : List (Nat × PV)} : ∀ {vals : List (Nat × Value)} {el : List (List PV)} {arr : Array Value} {el' : List (List PV)},
    PL g parts vals → RL g es el arr → arr.size = el.length * es → 0 < es → aFillS es el parts = some el' →
    ∃ out, Instr.fill (fun i => some (i * es, es)) arr vals = some out ∧ RL g es el' out ∧ out.size = arr.size ∧ el'.length = el.length := by
  induction parts with
  | nil =>
    intro vals el arr el' hp hv _ _ h
    have : vals = [] := by have := hp.1; simpa using this.symm
    subst this
    simp only [aFillS, Option.some.injEq] at h
    subst h
    exact ⟨arr, rfl, hv, rfl, rfl⟩
  | cons x parts ih =>
    obtain ⟨i, p⟩ := x
    intro vals el arr el' hp hv hsz hpos h
    obtain ⟨v, vals', rfl, hpv, hp'⟩ := hp.cons_inv
    simp only [aFillS] at h
    split at h
    · rename_i hcond
      obtain ⟨hlen, hi⟩ := hcond
      have hvl := hpv.cells (by omega)
      have hvs : v.cells.size = es := by have := hvl.1; simp at this; omega
      have hup : i * es + es ≤ el.length * es := by
        have := Nat.mul_le_mul_right es (show i + 1 ≤ el.length from hi)
        rwa [Nat.add_mul, Nat.one_mul] at this
      have hfit : i * es + v.cells.size ≤ arr.size := by omega
      have hout := fill_put v (i * es) arr hfit
      have harr : v.cells.zipIdx.foldl (fun cs (x : Value × Nat) => cs.setIfInBounds (i * es + x.2) x.1) arr = (arr.toList.take (i * es) ++ v.cells.toList ++ arr.toList.drop (i * es + v.cells.toList.length)).toArray := by
        apply Array.ext'
        rw [hout]; simp
      have hfit' : i * es + v.cells.toList.length ≤ arr.size := by simpa using hfit
      have hnew : RL g es (el.set i p.cells) (v.cells.zipIdx.foldl (fun cs (x : Value × Nat) => cs.setIfInBounds (i * es + x.2) x.1) arr) := by
        rw [harr]
        refine ⟨fun k hk => ?_, by rw [splice_size _ _ _ hfit']; simpa using hv.2.1, fun k hk j hj => ?_⟩
        · rw [List.getElem_set]
          split
          · exact hlen
          · exact hv.1 k (by simpa using hk)
        · have hk' : k < el.length := by simpa using hk
          rw [splice_get _ _ _ hfit']
          by_cases e : k = i
          · subst e
            have e1 : (el.set k p.cells)[k]'hk = p.cells := by simp
            have hj' : j < p.cells.length := by simpa [e1] using hj
            rw [if_neg (by omega), if_pos (by simp; omega)]
            have ek : k * es + j - k * es = j := by omega
            refine ⟨v.cells.toList[j]'(by rw [hvl.1]; exact hj'), by rw [ek]; exact List.getElem?_eq_getElem _, ?_⟩
            have q := hvl.2 j hj' (by rw [hvl.1]; exact hj')
            simp only [e1]
            exact q
          · have e1 : (el.set i p.cells)[k]'hk = el[k] := by rw [List.getElem_set_ne (Ne.symm e)]
            have hj' : j < (el[k]).length := by rw [← e1]; exact hj
            have hje : j < es := by rw [hv.1 k hk'] at hj'; exact hj'
            have hout2 : k * es + j < i * es ∨ i * es + v.cells.toList.length ≤ k * es + j := by
              simp only [Array.length_toList]
              rcases Nat.lt_or_gt_of_ne e with l | l
              · exact .inl (idx_lt l hje |> fun h => by
                  have := Nat.mul_le_mul_right es (show k + 1 ≤ i from l)
                  rw [Nat.add_mul, Nat.one_mul] at this
                  omega)
              · have := Nat.mul_le_mul_right es (show i + 1 ≤ k from l)
                rw [Nat.add_mul, Nat.one_mul] at this
                exact .inr (by omega)
            obtain ⟨u, q1, q2⟩ := hv.2.2 k hk' j hj'
            refine ⟨u, ?_, by simpa [e1] using q2⟩
            by_cases c1 : k * es + j < i * es
            · rw [if_pos c1]; exact q1
            · rw [if_neg c1, if_neg (by omega)]; exact q1
      obtain ⟨out, ho, hvo, hso, hlo⟩ := ih hp' hnew (by rw [harr, splice_size _ _ _ hfit']; simpa using hsz) hpos h
      refine ⟨out, ?_, hvo, by rw [hso, harr, splice_size _ _ _ hfit'], by rw [hlo]; simp⟩
      simp only [Instr.fill]
      rw [if_neg (by simp [hvs]; omega)]
      exact ho
    · cases h

theorem buildSlice_run (hE : TOk E P) {t : TypeId} {n : Nat} {parts : List (Nat × PV)} {vals : Array (Nat × Value)} (hp : PL g parts vals.toList) {es : Nat} {el : List (List PV)} (h : aBuildSlice E t n parts = some (es, el)) :
    ∃ e out, (Instr.buildSlice t n vals).run P w = .ok (.slice (some ⟨w.heap.size, 0, none⟩) n n) (w.alloc (.cells out e)) ∧ RL g es el out ∧ el.length = n ∧ out.size = n * es ∧ 0 < es ∧ n ≤ 65536 := by
  unfold aBuildSlice at h
  split at h
  · rename_i ti ht
    obtain ⟨i, d, z, h1, h2, h3, rfl⟩ := hE.spec ht
    simp only at h
    split at h
    · rename_i e hd
      have hd := tk_slice hd
      subst hd
      split at h
      · rename_i ei hei
        obtain ⟨i', d', z', h1', h2', h3', rfl⟩ := hE.spec hei
        simp only at h
        split at h
        · rename_i hcond
          obtain ⟨hz, hpos, hsmall⟩ := hcond
          split at h
          · rename_i el0 hfill
            simp only [Option.some.injEq, Prod.mk.injEq] at h
            obtain ⟨rfl, rfl⟩ := h
            have hlim : ¬ n * i'.size > 2 ^ 24 := by omega
            by_cases hn : n * i'.size = 0
            · have hn0 : n = 0 := by
                rcases Nat.mul_eq_zero.1 hn with h | h
                · exact h
                · omega
              subst hn0
              obtain ⟨out, ho, hv, hs, hl⟩ := fillS_ok (g := g) hp (show RL g i'.size (List.replicate 0 (ofConst z').cells) #[] from ⟨fun i hi => absurd hi (by simp), by simp, fun i hi => absurd hi (by simp)⟩) (by simp) hpos hfill
              refine ⟨e, out, ?_, hv, by simpa using hl, by simpa using hs, hpos, Nat.le_trans (Nat.le_mul_of_pos_right _ hpos) hsmall⟩
              have hr : Array.range 0 = (#[] : Array Nat) := rfl
              simp [Instr.buildSlice, run_underlying h2, run_sizeOf' h1', hr, ho, newRow, newObj]
              rfl
            · obtain ⟨out, ho, hv, hs, hl⟩ := fillS_ok (g := g) hp (zrow_ok z' n i'.size hz hpos) (by simp) hpos hfill
              refine ⟨e, out, ?_, hv, by simpa using hl, by simpa using hs, hpos, Nat.le_trans (Nat.le_mul_of_pos_right _ hpos) hsmall⟩
              simp [Instr.buildSlice, run_underlying h2, run_sizeOf' h1', run_zero' h1' h3', hlim, hn, ho, newRow, newObj]
              rfl
          · cases h
        · cases h
      · cases h
    · cases h
  · cases h

theorem RL.mono {g' : Gh} (hle : g.Le g') {es : Nat} {el : List (List PV)} {arr : Array Value} (h : RL g es el arr) : RL g' es el arr :=
  ⟨h.1, h.2.1, fun i hi j hj => let ⟨v, e, x⟩ := h.2.2 i hi j hj; ⟨v, e, x.mono hle⟩⟩

/-- A new row, frozen whole: a slice without room. -/
theorem frozen_row (hi : Inv g H w) {es n : Nat} {el el' : List (List PV)} {arr : Array Value} (e : TypeId) (h : RL g es el arr) (hl : el.length = n) (hf : frzLL el = some el') :
    ∃ g', V g' (.sl .full es el') (.slice (some ⟨w.heap.size, 0, none⟩) n n) ∧ Inv g' H (w.alloc (.cells arr e)) ∧ Keep g H w g' H (w.alloc (.cells arr e)) := by
  obtain ⟨i1, k1⟩ := inv_row hi arr e arr.size
  obtain ⟨f1, f2, f3⟩ := h.frozen hf
  have hS : ∀ o, (g.addS w.heap.size (rowS arr arr.size)).S w.heap.size o = arr[o]? := fun o => by
    simp only [Gh.addS, rowS, if_true]
    split
    · rfl
    · rename_i h; simp [Array.getElem?_eq_none (Nat.le_of_not_lt h)]
  refine ⟨_, ?_, i1, k1⟩
  refine V.sl_mk (fun i j => arr[i * es + j]?.getD undef) (by omega) (by omega) f2 (fun i j hi hj => ?_) (fun i hi j hj => ?_) (by show n = _; omega)
  · rw [hS, Nat.zero_add]
    obtain ⟨v, q, _⟩ := f3 i hi j (by rw [f2 i hi]; exact hj)
    rw [q]; rfl
  · obtain ⟨v, q, x⟩ := f3 i hi j hj
    simp only [q, Option.getD_some]
    exact x.mono k1.le.S

/-- A new row that is a box. -/
theorem own_row (hi : Inv g H w) {es n : Nat} {el : List (List PV)} {arr : Array Value} (e : TypeId) (h : RL g es el arr) (cap : Nat) (hn : n ≤ cap) (hcs : cap * es ≤ arr.size) (hcm : cap ≤ 9223372036854775807) :
    ∃ g', V g' (.own H.bx.length es 0 n) (.slice (some ⟨w.heap.size, 0, none⟩) n cap) ∧ Inv g' (H.push (.cells es el)) (w.alloc (.cells arr e)) ∧ Keep g H w g' (H.push (.cells es el)) (w.alloc (.cells arr e)) := by
  obtain ⟨i1, k1⟩ := inv_push hi (.cells arr e) (.cells es el) rfl
    (fun es0 el0 h0 => by cases h0; exact ⟨arr, e, rfl, h⟩) (fun es h => by cases h) arr.size (fun c T m h => by cases h; exact Nat.le_refl _)
  exact ⟨_, .own _ _ _ _ w.heap.size cap _ (by simp [Gh.link]) hn (fun _ => by simp) rfl ⟨by simpa [Gh.link] using hcs, hcm⟩, i1, k1⟩

theorem buildSlice_ok (hE : TOk E P) (hi : Inv g H w) {t : TypeId} {n : Nat} {parts : List (Nat × PV)} {vals : Array (Nat × Value)} (hp : PL g parts vals.toList) {es : Nat} {el : List (List PV)} (h : aBuildSlice E t n parts = some (es, el)) :
    (∀ el', frzLL el = some el' → ∃ v w' g', (Instr.buildSlice t n vals).run P w = .ok v w' ∧ V g' (.sl .full es el') v ∧ Inv g' H w' ∧ Keep g H w g' H w') ∧
    ∃ v w' g', (Instr.buildSlice t n vals).run P w = .ok v w' ∧ V g' (.own H.bx.length es 0 n) v ∧ Inv g' (H.push (.cells es el)) w' ∧ Keep g H w g' (H.push (.cells es el)) w' := by
  obtain ⟨e, out, hr, hv, hl, hs, hpos, hn6⟩ := buildSlice_run (w := w) hE hp h
  refine ⟨fun el' hf => ?_, ?_⟩
  · obtain ⟨g', a, b, c⟩ := frozen_row hi e hv hl hf
    exact ⟨_, _, g', hr, a, b, c⟩
  · obtain ⟨g', a, b, c⟩ := own_row hi (n := n) e hv n (Nat.le_refl _) (by omega) (by omega)
    exact ⟨_, _, g', hr, a, b, c⟩

theorem makeSlice_ok (hE : TOk E P) (hi : Inv g H w) {t : TypeId} {l c : PV} {lv cv : Value} (hl : V g l lv) (hc : V g c cv) {q : PV} {H' : Heap} (h : aMakeSlice E t l c H = some (q, H')) :
    ∃ v w' g', (Instr.makeSlice t lv cv).run P w = .ok v w' ∧ V g' q v ∧ Inv g' H' w' ∧ Keep g H w g' H' w' := by
  unfold aMakeSlice at h
  split at h
  · rename_i ti ht
    obtain ⟨i, d, z, h1, h2, h3, rfl⟩ := hE.spec ht
    simp only at h
    split at h
    · rename_i e hd
      have hd := tk_slice hd
      subst hd
      split at h
      · rename_i ei n m hei hn hm
        obtain ⟨i', d', z', h1', h2', h3', rfl⟩ := hE.spec hei
        obtain ⟨k, rfl⟩ := nat_inv hn
        obtain ⟨k', rfl⟩ := nat_inv hm
        obtain rfl := hl.int_inv
        obtain rfl := hc.int_inv
        simp only at h
        split at h
        · rename_i hcond
          obtain ⟨hz, hpos, hby, hmx⟩ := hcond
          split at h
          · rename_i he
            subst he
            cases h
            have hrun := run_make (P := P) w t e i' z' h2 h1' h3' k k' (n : Int) (n : Int) (by omega) (by omega) (by
              have : i'.bytes * n ≤ 140737488355328 := by rw [Nat.mul_comm]; exact hby
              have h2 : ((i'.bytes * n : Nat) : Int) ≤ ((140737488355328 : Nat) : Int) := Int.ofNat_le.2 this
              rw [Int.natCast_mul] at h2
              omega) (by omega)
            obtain ⟨g', a, b, c⟩ := own_row hi (n := n) e (zrow_ok (g := g) z' n i'.size hz hpos) n (Nat.le_refl _) (by rw [Array.size_map, Array.size_range]; exact Nat.le_refl _) (by omega)
            exact ⟨_, _, g', hrun, a, b, c⟩
          · cases h
        · cases h
      · cases h
    · cases h
  · cases h

theorem makeMap_ok (hi : Inv g H w) (t : TypeId) :
    ∃ v w' g', (Instr.makeMap t none).run P w = .ok v w' ∧ V g' (.map H.bx.length) v ∧ Inv g' (H.push (.map [])) w' ∧ Keep g H w g' (H.push (.map [])) w' := by
  obtain ⟨i1, k1⟩ := inv_push hi (.map #[] 0) (.map []) trivial (fun es el h => by cases h) (fun es h => by cases h; exact ⟨#[], 0, rfl, rfl, fun i hi => absurd hi (by simp)⟩)
  refine ⟨.map (some w.heap.size), _, _, ?_, .map _ w.heap.size (by simp [Gh.link]), i1, k1⟩
  simp [Instr.makeMap, newObj]
  rfl

end
end Go.Vm

/-
  New slices of zeros, lengths, maps.
-/
namespace Go.Vm
section
variable {E : Env} {P : Program} {g : Gh} {H : Heap} {w : World}

theorem run_askRoom (k : Nat) (w : World) : (askRoom k).run P w = .ok () w := by
  unfold askRoom; split <;> simp [mark, Sem.run]

theorem wrap_small (n : Nat) (h : n ≤ 4611686018427387904) : IntKind.i64.wrap (n : Int) = n := by
  have e1 : (2 : Int) ^ 64 = 18446744073709551616 := by decide
  have e2 : (2 : Int) ^ 63 = 9223372036854775808 := by decide
  simp only [IntKind.wrap, IntKind.bits, IntKind.signed, e1, Nat.reduceSub, e2, Bool.true_and, decide_eq_true_eq]
  split <;> omega

theorem len_ok (hE : TOk E P) (hi : Inv g H w) {t ty : TypeId} {p : PV} {a : Value} (hp : V g p a) {q : PV} (h : aLen E t p H = some q) :
    ∃ v, (Builtin.len_ #[t] ty #[a]).run P w = .ok v w ∧ V g q v := by
  unfold aLen at h
  split at h
  · rename_i ti ht
    obtain ⟨i, d, z, h1, h2, h3, rfl⟩ := hE.spec ht
    simp only at h
    split at h
    · rename_i s hd
      have hd := tk_string hd
      subst hd
      cases h
      obtain ⟨b, rfl, rfl⟩ := hp.str_inv
      exact ⟨_, by simp [Builtin.len_, run_underlying h2]; rfl, .pure _ _ (.int _ _)⟩
    · rename_i e tl es el hd
      have hd := tk_slice hd
      subst hd
      cases h
      obtain ⟨b, o, cap, vals, a, rfl, -⟩ := hp.sl_inv
      exact ⟨_, by simp [Builtin.len_, run_underlying h2]; rfl, .pure _ _ (.int _ _)⟩
    · rename_i e hd
      have hd := tk_slice hd
      subst hd
      cases h
      obtain rfl := hp.nils_inv
      exact ⟨_, by simp [Builtin.len_, run_underlying h2]; rfl, .pure _ _ (.int _ _)⟩
    · rename_i e id es ix len hd
      have hd := tk_slice hd
      subst hd
      cases h
      obtain ⟨b, cap, a, -, -, -, -, rfl⟩ := hp.own_inv
      exact ⟨_, by simp [Builtin.len_, run_underlying h2]; rfl, .pure _ _ (.int _ _)⟩
    · rename_i k e hd
      have hd := tk_map hd
      subst hd
      cases h
      obtain rfl := hp.nilm_inv
      exact ⟨_, by simp [Builtin.len_, run_underlying h2]; rfl, .pure _ _ (.int _ _)⟩
    · rename_i k e id hd
      have hd := tk_map hd
      subst hd
      rw [nth_eq] at h
      split at h
      · rename_i es hb
        cases h
        obtain ⟨b, hσ, rfl⟩ := hp.map_inv
        obtain ⟨b', ents, clk, q1, q2, q3, q4⟩ := hi.mp _ _ hb
        rw [hσ] at q1; cases q1
        refine ⟨.int .i64 (ents.size : Int), ?_, by rw [q3]; exact .pure _ _ (.int _ _)⟩
        simp [Builtin.len_, run_underlying h2, getObj, Sem.run, q2, goInt]
      · cases h
    · rename_i n e p' hd
      have hd := tk_array hd
      subst hd
      cases h
      exact ⟨_, by simp [Builtin.len_, run_underlying h2]; rfl, .pure _ _ (.int _ _)⟩
    · cases h
  · cases h

/-! ### maps -/
def KeyD (p : PV) (d : TypeDesc) : Prop := match p with
  | .str _ => d = .string
  | .int kk _ => d = .int kk
  | .bool _ => d = .bool
  | _ => False

theorem ByteArray.beq_iff {a b : ByteArray} (h : (a == b) = true) : a = b := by
  have : a.data == b.data := h
  cases a; cases b; congr 1; simpa using this
theorem ByteArray.beq_refl (b : ByteArray) : (b == b) = true := by
  show (b.data == b.data) = true
  simp

theorem keyEq_now {p q : PV} {k v : Value} (hp : V g p k) (hq : V g q v) {d : TypeDesc} {b : Bool} (h : keyEq p q = some b)
    (hd : KeyD p d) : Instr.sameNow d k v = some b := by
  cases p <;> cases q <;> simp only [keyEq] at h <;> first | cases h | skip
  · subst hd; rw [hp.bool_inv, hq.bool_inv]; rfl
  · subst hd
    split at h
    · rename_i e; subst e; cases h; rw [hp.int_inv, hq.int_inv]; simp [Instr.sameNow]
    · cases h
  · subst hd
    obtain ⟨a, rfl, rfl⟩ := hp.str_inv
    obtain ⟨b, rfl, rfl⟩ := hq.str_inv
    simp only [Instr.sameNow]
    congr 1
    rw [Bool.eq_iff_iff]
    exact ⟨fun e => by
      have := ByteArray.beq_iff e
      simp [this], fun e => by
      have : a = b := by cases a; cases b; congr 1; exact Array.toList_inj.1 (by simpa using e)
      rw [this]; exact ByteArray.beq_refl b⟩

theorem keyOk_spec (hE : TOk E P) {t : TypeId} {p : PV} (h : keyOk E t p = true) :
    ∃ d, P.underlying t = some d ∧ KeyD p d := by
  unfold keyOk at h
  split at h
  · rename_i ti ht
    obtain ⟨i, d, z, h1, h2, h3, rfl⟩ := hE.spec ht
    simp only at h
    refine ⟨d, h2, ?_⟩
    cases p <;> cases e : tkOf d <;> simp only [e] at h <;> first | cases h | skip
    · exact tk_bool e
    · simp at h; subst h; exact tk_int e
    · exact tk_string e
  · cases h

theorem run_checkKey {t : TypeId} {p : PV} {k : Value} (hp : V g p k) {d : TypeDesc} (h2 : P.underlying t = some d) (hd : KeyD p d) (e : Bool) (n : Nat) :
    (Instr.checkKey e (n + 1) t k).run P w = .ok () w := by
  cases p <;> first | exact hd.elim | skip
  · obtain rfl := hp.bool_inv; have hd : d = .bool := hd; subst hd; simp [Instr.checkKey, run_underlying h2]
  · obtain rfl := hp.int_inv; have hd : d = .int _ := hd; subst hd; simp [Instr.checkKey, run_underlying h2]
  · obtain ⟨b, rfl, -⟩ := hp.str_inv; have hd : d = .string := hd; subst hd; simp [Instr.checkKey, run_underlying h2]

theorem findE_ok {p : PV} {k : Value} (hp : V g p k) {d : TypeDesc} (hd : KeyD p d) :
    ∀ (es : List (PV × PV)) (ents : List MapEntry) (i : Nat) (r : Option (Nat × PV)), ents.length = es.length → (∀ j (hj : j < es.length) (hj' : j < ents.length), V g (es[j]).1 (ents[j]).key ∧ V g (es[j]).2 (ents[j]).val) → findE p es i = some r →
    match r with
    | none => Instr.findNow d k ents i = some none
    | some (m, pv) => i ≤ m ∧ m - i < es.length ∧ ∃ (_ : m - i < es.length) (hm' : m - i < ents.length), Instr.findNow d k ents i = some (some (m, (ents[m - i]).val)) ∧ V g pv (ents[m - i]).val ∧ Instr.sameNow d k (ents[m - i]).key = some true := by
  intro es
  induction es with
  | nil =>
    intro ents i r hl hv h
    have : ents = [] := by simpa using hl
    subst this
    simp only [findE, Option.some.injEq] at h
    subst h
    rfl
  | cons x es ih =>
    intro ents i r hl hv h
    obtain ⟨kx, vx⟩ := x
    cases ents with
    | nil => simp at hl
    | cons e ents =>
      have h0 := hv 0 (by simp) (by simp)
      simp only [List.getElem_cons_zero] at h0
      simp only [findE] at h
      split at h
      · rename_i hk
        cases h
        have hn := keyEq_now hp h0.1 hk hd
        refine ⟨Nat.le_refl _, by simp, by simp, by simp, ?_, by simpa using h0.2, by simpa using hn⟩
        simp [Instr.findNow, hn]
      · rename_i hk
        have hn := keyEq_now hp h0.1 hk hd
        have := ih ents (i + 1) r (by simpa using hl) (fun j hj hj' => hv (j + 1) (by simpa using hj) (by simpa using hj')) h
        match r, this with
        | none, q => simp only [Instr.findNow, hn]; exact q
        | some (m, pv), ⟨q1, q2, q3, q4, q5, q6, q7⟩ =>
          have em : m - i = (m - (i + 1)) + 1 := by omega
          refine ⟨by omega, by simp; omega, by simp; omega, by simp; omega, ?_, ?_, ?_⟩
          · simp only [Instr.findNow, hn, q5, em, List.getElem_cons_succ]
          · simpa only [em, List.getElem_cons_succ] using q6
          · simpa only [em, List.getElem_cons_succ] using q7
      · cases h

theorem lookup_ok (hE : TOk E P) (hi : Inv g H w) {t : TypeId} {p q : PV} {a k : Value} (hp : V g p a) (hq : V g q k) {ok : Bool} {r : PV} (h : aLookup E t p q ok H = some r) :
    ∃ v, (Instr.lookup t a k ok).run P w = .ok v w ∧ V g r v := by
  unfold aLookup at h
  split at h
  · rename_i ti ht
    obtain ⟨i, d, z, h1, h2, h3, rfl⟩ := hE.spec ht
    simp only at h
    split at h
    · rename_i kt e hd
      have hd := tk_map hd
      subst hd
      split at h
      · rename_i hk
        obtain ⟨kd, k1, k2⟩ := keyOk_spec hE hk
        have hmk : ∀ (vv : Value) (pp : PV) (b : Bool), V g pp vv → V g (if ok then .tup [pp, .bool b] else pp) (if ok then .tuple #[vv, .bool b] else vv) := fun vv pp b hv => by
          cases ok
          · exact hv
          · refine .tup _ _ rfl fun i hi => ?_
            match i, hi with
            | 0, _ => exact hv
            | 1, _ => exact .pure _ _ (.bool b)
        have fin : ∀ (es : List (PV × PV)) (ents : Array MapEntry), ents.size = es.length → (∀ i (hi : i < es.length), ∃ e, ents[i]? = some e ∧ V g (es[i]).1 e.key ∧ V g (es[i]).2 e.val) →
            (match findE q es 0 with
              | some (some (_, v)) => some (if ok then PV.tup [v, .bool true] else v)
              | some none => match E.T e with
                | some ei => some (if ok then PV.tup [ei.zero, .bool false] else ei.zero)
                | none => none
              | none => none) = some r →
            (Instr.checkKey ents.isEmpty 10000 kt k).run P w = .ok () w ∧
            ((∃ m vv, (Instr.findKey kt k ents.toList).run P w = .ok (some (m, vv)) w ∧ V g r (if ok then .tuple #[vv, .bool true] else vv)) ∨
             (∃ z', (Instr.findKey kt k ents.toList).run P w = .ok none w ∧ (zeroValue e).run P w = .ok z' w ∧ V g r (if ok then .tuple #[z', .bool false] else z'))) := by
          intro es ents hsz hents hr
          have hv : ∀ j (hj : j < es.length) (hj' : j < ents.toList.length), V g (es[j]).1 (ents.toList[j]).key ∧ V g (es[j]).2 (ents.toList[j]).val := fun j hj hj' => by
            obtain ⟨e, q1, q2⟩ := hents j hj
            have : ents.toList[j] = e := by
              have hj2 : j < ents.size := by simpa using hj'
              rw [Array.getElem?_eq_getElem hj2] at q1
              simpa using q1
            rw [this]; exact q2
          have hck := run_checkKey (P := P) (w := w) hq k1 k2 ents.isEmpty 9999
          cases hf : findE q es 0 with
          | none => simp [hf] at hr
          | some o =>
            have := findE_ok hq k2 es ents.toList 0 o (by simpa using hsz) hv hf
            match o, this with
            | none, hnow =>
              simp only [hf] at hr
              split at hr
              · rename_i ei hei
                obtain ⟨i', d', z', h1', h2', h3', rfl⟩ := hE.spec hei
                simp only [Option.some.injEq] at hr
                subst hr
                exact ⟨hck, .inr ⟨z', by simp [Instr.findKey, run_underlying k1, hnow], run_zero' h1' h3' w, hmk z' _ false (.pure _ _ (V0.ofConst g.S z'))⟩⟩
              · cases hr
            | some (m, pv), ⟨_, _, hm, hm', hnow, hval, _⟩ =>
              simp only [hf, Option.some.injEq] at hr
              subst hr
              exact ⟨hck, .inl ⟨m, _, by simp [Instr.findKey, run_underlying k1, hnow], hmk _ _ true hval⟩⟩
        split at h
        · rename_i es hes
          split at hes
          · cases hes
            obtain rfl := hp.nilm_inv
            obtain ⟨c1, ⟨m, vv, c2, c3⟩ | ⟨z', c2, c3, c4⟩⟩ := fin [] #[] rfl (fun i hi => absurd hi (by simp)) h
            · simp at c1 c2
              exact ⟨_, by simp [Instr.lookup, run_underlying h2, c1, c2], c3⟩
            · simp at c1 c2
              exact ⟨_, by simp [Instr.lookup, run_underlying h2, c1, c2, c3], c4⟩
          · rename_i id
            rw [nth_eq] at hes
            split at hes
            · rename_i es' hb
              cases hes
              obtain ⟨b, hσ, rfl⟩ := hp.map_inv
              obtain ⟨b', ents, clk, q1, q2, q3, q4, q5⟩ := hi.mp _ _ hb
              rw [hσ] at q1; cases q1
              obtain ⟨c1, ⟨m, vv, c2, c3⟩ | ⟨z', c2, c3, c4⟩⟩ := fin es ents q3 q4 h
              · exact ⟨_, by simp [Instr.lookup, run_underlying h2, getObj, Sem.run, q2, c1, c2], c3⟩
              · exact ⟨_, by simp [Instr.lookup, run_underlying h2, getObj, Sem.run, q2, c1, c2, c3], c4⟩
            · cases hes
          · cases hes
        · cases h
      · cases h
    · cases h
  · cases h

theorem mapUpdate_ok (hE : TOk E P) (hi : Inv g H w) {t : TypeId} {p q r : PV} {a k x : Value} (hp : V g p a) (hq : V g q k) (hr : V g r x) {H' : Heap} (h : aMapUpdate E t p q r H = some H') :
    ∃ w', (Instr.mapUpdate t a k x).run P w = .ok () w' ∧ Inv g H' w' ∧ Keep g H w g H' w' := by
  unfold aMapUpdate at h
  split at h
  · rename_i ti ht
    obtain ⟨i, d, z, h1, h2, h3, rfl⟩ := hE.spec ht
    simp only at h
    split at h
    · rename_i kt e id hd
      have hd := tk_map hd
      subst hd
      split at h
      · rename_i hk
        obtain ⟨kd, k1, k2⟩ := keyOk_spec hE hk
        rw [nth_eq] at h
        split at h
        · rename_i es hb
          obtain ⟨b, hσ, rfl⟩ := hp.map_inv
          obtain ⟨b', ents, clk, q1, q2, q3, q4, q5⟩ := hi.mp _ _ hb
          rw [hσ] at q1; cases q1
          have hck := run_checkKey (P := P) (w := w) hq k1 k2 false 9999
          have hv : ∀ j (hj : j < es.length) (hj' : j < ents.toList.length), V g (es[j]).1 (ents.toList[j]).key ∧ V g (es[j]).2 (ents.toList[j]).val := fun j hj hj' => by
            obtain ⟨e, q1, q2⟩ := q4 j hj
            have : ents.toList[j] = e := by
              have hj2 : j < ents.size := by simpa using hj'
              rw [Array.getElem?_eq_getElem hj2] at q1
              simpa using q1
            rw [this]; exact q2
          have hblt : b < w.heap.size := hi.sz _ _ hσ
          have done : ∀ (ents' : Array MapEntry) (clk' : Nat) (es' : List (PV × PV)) (H' : Heap), H.put id (.map es') = some H' → ents'.size = es'.length → (∀ i (hi : i < es'.length), ∃ e, ents'[i]? = some e ∧ V g (es'[i]).1 e.key ∧ V g (es'[i]).2 e.val) →
              (setObj b (.map ents' clk')).run P w = .ok () { w with heap := w.heap.setIfInBounds b (.map ents' clk') } ∧
              Inv g H' { w with heap := w.heap.setIfInBounds b (.map ents' clk') } ∧ Keep g H w g H' { w with heap := w.heap.setIfInBounds b (.map ents' clk') } := by
            intro ents' clk' es' H' hput hsz hents
            obtain ⟨hro, rfl⟩ := put_inv hput
            refine ⟨by simp [setObj, Sem.run, q2], inv_put (ob := .map ents' clk') hi hro hb trivial hσ q5 (fun k hk => ?_) (by simp) (by simp [hblt]) (fun a => ?_) (fun es el h => by cases h) (fun es h => by cases h; exact ⟨ents', clk', rfl, hsz, hents⟩) (fun c T m h => by cases h) ⟨rfl, rfl⟩⟩
            · simp [Ne.symm hk]
            · by_cases e : a.block = b
              · simp only [World.frozen?, e, q2]
                simp [hblt]
              · simp only [World.frozen?]
                rw [show ({ w with heap := w.heap.setIfInBounds b (.map ents' clk') } : World).heap[a.block]? = w.heap[a.block]? by simp [Ne.symm e]]
          cases hf : findE q es 0 with
          | none => simp [hf] at h
          | some o =>
            have := findE_ok hq k2 es ents.toList 0 o (by simpa using q3) hv hf
            match o, this with
            | none, hnow =>
              simp only [hf] at h
              obtain ⟨d1, d2, d3⟩ := done (ents.push { key := k, val := x, born := clk }) (clk + 1) _ _ h (by simp [q3]) (fun i hi => by
                by_cases e : i < es.length
                · obtain ⟨e0, p1, p2⟩ := q4 i e
                  refine ⟨e0, ?_, ?_⟩
                  · rw [Array.getElem?_push_lt (by omega)]
                    rw [Array.getElem?_eq_getElem (by omega)] at p1
                    exact p1
                  · rw [List.getElem_append_left e]; exact p2
                · have : i = es.length := by simp at hi; omega
                  subst this
                  refine ⟨{ key := k, val := x, born := clk }, by rw [← q3]; simp, ?_⟩
                  simpa using ⟨hq, hr⟩)
              refine ⟨_, ?_, d2, d3⟩
              simp [Instr.mapUpdate, run_underlying h2, getObj, Sem.run, q2, hck, Instr.findKey, run_underlying k1, hnow, d1]
            | some (m, pv), ⟨_, hm, _, hm', hnow, hval, hsame⟩ =>
              simp only [hf] at h
              simp only [Nat.sub_zero] at hm hm' hnow hval hsame
              have hms : m < ents.size := by simpa using hm'
              have hkeys : (Instr.keyThatStays (((ents[m]?).map (·.key)).getD k) k).run P w = .ok k w := by
                have e1 : ((ents[m]?).map (·.key)).getD k = (ents.toList[m]).key := by simp [hms]
                rw [e1]
                have : Instr.sameBits 10000 (ents.toList[m]).key k = true := by
                  generalize (ents.toList[m]).key = k' at hsame
                  cases q <;> first | exact k2.elim | skip
                  · obtain rfl := hq.bool_inv; have k2 : kd = .bool := k2; subst k2
                    cases k' <;> simp [Instr.sameNow] at hsame
                    subst hsame; simp [Instr.sameBits]
                  · obtain rfl := hq.int_inv; have k2 : kd = .int _ := k2; subst k2
                    cases k' <;> simp [Instr.sameNow] at hsame
                    obtain ⟨rfl, rfl⟩ := hsame; simp [Instr.sameBits]
                  · obtain ⟨b, rfl, -⟩ := hq.str_inv; have k2 : kd = .string := k2; subst k2
                    cases k' <;> simp [Instr.sameNow] at hsame
                    have := ByteArray.beq_iff (by simpa using hsame); subst this; simp only [Instr.sameBits]; exact ByteArray.beq_refl _
                unfold Instr.keyThatStays
                rw [if_pos this]
                rfl
              obtain ⟨d1, d2, d3⟩ := done (ents.modify m fun e => { e with key := k, val := x }) clk _ _ h (by simp [q3]) (fun i hi => by
                have hi' : i < es.length := by simpa using hi
                obtain ⟨e0, p1, p2⟩ := q4 i hi'
                by_cases e : m = i
                · subst e
                  refine ⟨{ e0 with key := k, val := x }, by simp [Array.getElem?_modify, p1], ?_⟩
                  simpa using ⟨hq, hr⟩
                · refine ⟨e0, by simp [Array.getElem?_modify, e, p1], ?_⟩
                  rw [List.getElem_set_ne e]; exact p2)
              refine ⟨_, ?_, d2, d3⟩
              simp [Instr.mapUpdate, run_underlying h2, getObj, Sem.run, q2, hck, Instr.findKey, run_underlying k1, hnow, hkeys, d1]
        · cases h
      · cases h
    · cases h
  · cases h

end
end Go.Vm

/-
  Append.
-/
namespace Go.Vm

/-- A row of elements of which nothing changes any more. -/
def RL0 (S : Store) (es : Nat) (el : List (List PV)) (arr : Array Value) : Prop :=
  (∀ i (hi : i < el.length), (el[i]).length = es) ∧ el.length * es ≤ arr.size ∧
    ∀ i (hi : i < el.length) j (hj : j < (el[i]).length), ∃ v, arr[i * es + j]? = some v ∧ V0 S ((el[i])[j]) v

theorem RL0.nil (S : Store) (es : Nat) (arr : Array Value) : RL0 S es [] arr := ⟨fun i hi => absurd hi (by simp), by simp, fun i hi => absurd hi (by simp)⟩

theorem RL0.append {S : Store} {es : Nat} {el ys : List (List PV)} {a b : Array Value} (h : RL0 S es el a) (h' : RL0 S es ys b) (hs : a.size = el.length * es) : RL0 S es (el ++ ys) (a ++ b) := by
  refine ⟨fun i hi => ?_, by simp [Nat.add_mul]; have := h'.2.1; omega, fun i hi j hj => ?_⟩
  · by_cases e : i < el.length
    · rw [List.getElem_append_left e]; exact h.1 i e
    · rw [List.getElem_append_right (by omega)]; exact h'.1 _ (by simp at hi; omega)
  · by_cases e : i < el.length
    · have e1 : (el ++ ys)[i] = el[i] := List.getElem_append_left e
      have hj' : j < (el[i]).length := by rw [← e1]; exact hj
      obtain ⟨v, q, x⟩ := h.2.2 i e j hj'
      have hlt : i * es + j < a.size := by rw [hs]; exact idx_lt e (by rw [← h.1 i e]; exact hj')
      refine ⟨v, by rw [Array.getElem?_append_left hlt]; exact q, ?_⟩
      simpa only [e1] using x
    · have hk : i - el.length < ys.length := by simp at hi; omega
      have e1 : (el ++ ys)[i] = ys[i - el.length] := List.getElem_append_right (by omega)
      have hj' : j < (ys[i - el.length]).length := by rw [← e1]; exact hj
      obtain ⟨v, q, x⟩ := h'.2.2 _ hk j hj'
      have hge : i * es + j = a.size + ((i - el.length) * es + j) := by
        rw [hs, Nat.sub_mul]
        have := Nat.mul_le_mul_right es (show el.length ≤ i by omega)
        omega
      refine ⟨v, by rw [hge, Array.getElem?_append_right (by omega)]; simpa using q, ?_⟩
      simpa only [e1] using x

theorem RL0.more {S : Store} {es : Nat} {el : List (List PV)} {a : Array Value} (h : RL0 S es el a) (b : Array Value) : RL0 S es el (a ++ b) := by
  refine ⟨h.1, by simp; have := h.2.1; omega, fun i hi j hj => ?_⟩
  obtain ⟨v, q, x⟩ := h.2.2 i hi j hj
  have hlt : i * es + j < a.size := by
    rcases Nat.lt_or_ge (i * es + j) a.size with h | h
    · exact h
    · simp [Array.getElem?_eq_none h] at q
  exact ⟨v, by rw [Array.getElem?_append_left hlt]; exact q, x⟩

theorem RL0.mono {S S' : Store} (hS : ∀ b o v, S b o = some v → S' b o = some v) {es : Nat} {el : List (List PV)} {a : Array Value} (h : RL0 S es el a) : RL0 S' es el a :=
  ⟨h.1, h.2.1, fun i hi j hj => let ⟨v, q, x⟩ := h.2.2 i hi j hj; ⟨v, q, x.mono hS⟩⟩

theorem RL0.toRL {g : Gh} {es : Nat} {el : List (List PV)} {a : Array Value} (h : RL0 g.S es el a) : RL g es el a :=
  ⟨h.1, h.2.1, fun i hi j hj => let ⟨v, q, x⟩ := h.2.2 i hi j hj; ⟨v, q, .pure _ _ x⟩⟩

theorem growBy_le (n : Nat) : ∀ (r c : Nat), Builtin.growBy n r c ≤ max c (n + (n + 768) / 4)
  | 0, c => by simp [Builtin.growBy]; omega
  | r + 1, c => by
    simp only [Builtin.growBy]
    split
    · omega
    · have := growBy_le n r (c + (c + 768) / 4)
      omega

theorem nextcap_le {n c : Nat} (h : c < n) : Builtin.nextslicecap n c ≤ 2 * (n + 96) := by
  unfold Builtin.nextslicecap
  split
  · omega
  · split
    · omega
    · have := growBy_le n 4 c
      omega

section
variable {E : Env} {P : Program} {g : Gh} {H : Heap} {w : World}

/-- The first cells of a slice, as they are read. -/
theorem cells_sl (hi : Inv g H w) {tl : Tail} {es : Nat} {el : List (List PV)} {v : Value} (h : V g (.sl tl es el) v) :
    ∃ arr, (Builtin.firstCells es el.length v).run P w = .ok arr w ∧ RL0 g.S es el arr ∧ arr.size = el.length * es := by
  obtain ⟨b, o, cap, vals, a, rfl, hc, hw, hs, hv, -, ha⟩ := h.sl_inv
  by_cases h0 : 0 < el.length
  case neg =>
    have e0 : el = [] := by
      cases el with
      | nil => rfl
      | cons _ _ => simp at h0
    subst e0
    exact ⟨#[], by simp [Builtin.firstCells, loadCells, loadCellsFrom], .nil _ _ _, by simp⟩
  obtain rfl := ha (.inl h0)
  have hr : (Builtin.firstCells es el.length (.slice (some ⟨b, o, none⟩) el.length cap)).run P w = .ok ((List.range (el.length * es)).map (fun j => (w.cell? ⟨b, o + j, none⟩).getD undef)).toArray w := by
    have := run_loadCells_list (P := P) w ⟨b, o, none⟩ ((List.range (el.length * es)).map (fun j => (w.cell? ⟨b, o + j, none⟩).getD undef)) (fun j v hj => by
      rw [add_plain']
      have hj' : j < el.length * es := by
        have := get_lt hj; simpa using this
      simp [hj'] at hj
      have hpos : 0 < es := by
        rcases Nat.eq_zero_or_pos es with h | h
        · subst h; simp at hj'
        · exact h
      have := hi.st _ _ _ (hs (j / es) (j % es) (by rw [Nat.div_lt_iff_lt_mul hpos]; exact hj') (Nat.mod_lt _ hpos))
      rw [Nat.add_assoc, Nat.div_add_mod'] at this
      rw [this] at hj ⊢
      simpa using hj)
    simpa [Builtin.firstCells] using this
  refine ⟨_, hr, ⟨hw, by simp, fun i hi' j hj => ?_⟩, by simp⟩
  have hje : j < es := by rw [hw i hi'] at hj; exact hj
  have hlt := idx_lt hi' hje
  have := hi.st _ _ _ (hs i j hi' hje)
  refine ⟨vals i j, ?_, hv i hi' j hj⟩
  rw [Nat.add_assoc] at this
  simp [hlt, this]

/-- What an append reads of the slice that it adds. -/
theorem src_ok (hi : Inv g H w) {p : PV} {v : Value} (hp : V g p v) {es : Nat} (hes : slSize es p = es) {ys : List (List PV)} (h : slElems H p = some ys) :
    (Builtin.lenOf v).run P w = .ok ys.length w ∧ ∃ arr, (Builtin.firstCells es ys.length v).run P w = .ok arr w ∧ RL0 g.S es ys arr ∧ arr.size = ys.length * es := by
  unfold slElems at h
  split at h
  · cases h
    obtain rfl := hp.nils_inv
    exact ⟨by simp [Builtin.lenOf], #[], by simp [Builtin.firstCells], .nil _ _ _, by simp⟩
  · rename_i tl es0 el0
    cases h
    have he : es0 = es := hes
    clear hes
    subst he
    obtain ⟨arr, h1, h2, h3⟩ := cells_sl (P := P) hi hp
    refine ⟨?_, arr, h1, h2, h3⟩
    obtain ⟨b, o, cap, vals, a, rfl, -⟩ := hp.sl_inv
    simp [Builtin.lenOf]
  · rename_i id es' ix len
    have he : es' = es := hes
    clear hes
    subst he
    rw [nth_eq] at h
    split at h
    · rename_i es0 el hb
      split at h
      · rename_i hcond
        obtain ⟨rfl, hle⟩ := hcond
        obtain ⟨b, cap, a, hσ, hc, ha, hsp, rfl⟩ := hp.own_inv
        obtain ⟨b', c, T, h1, h2, h3, h4, h5, h6⟩ := hi.bx _ _ _ hb
        rw [hσ] at h1; cases h1
        obtain ⟨f1, f2⟩ := frzLL_ok h
        have hl : ys.length = len := by rw [f1]; simp; omega
        subst hl
        by_cases h0 : ys.length = 0
        · have e0 : ys = [] := by simpa using h0
          subst e0
          refine ⟨by simp [Builtin.lenOf], #[], ?_, .nil _ _ _, by simp⟩
          have := run_loadCells_list (P := P) w a [] (fun j v hj => by simp at hj)
          simpa [Builtin.firstCells] using this
        · have := ha (by omega)
          subst this
          refine ⟨by simp [Builtin.lenOf], ?_⟩
          have hRL : RL g es' ((el.drop ix).take ys.length) ((List.range (ys.length * es')).map (fun j => (c[ix * es' + j]?).getD undef)).toArray := by
            refine ⟨fun i hi => by simpa using h3 (ix + i) (by simp at hi; omega), by simp; exact Nat.mul_le_mul_right _ (Nat.min_le_left _ _), fun i hi j hj => ?_⟩
            have hi' : ix + i < el.length := by simp at hi; omega
            have hi2 : i < ys.length := by simp at hi; omega
            have e1 : ((el.drop ix).take ys.length)[i] = el[ix + i] := by simp
            have hj' : j < (el[ix + i]).length := by rw [← e1]; exact hj
            obtain ⟨v, q1, q2⟩ := h5 (ix + i) hi' j hj'
            have hlt := idx_lt hi2 (show j < es' by rw [h3 _ hi'] at hj'; exact hj')
            have e2 : (ix + i) * es' + j = ix * es' + (i * es' + j) := by rw [Nat.add_mul, Nat.add_assoc]
            rw [e2] at q1
            refine ⟨v, by simp [hlt, q1], by simpa only [e1] using q2⟩
          obtain ⟨z1, z2, z3⟩ := hRL.frozen h
          refine ⟨_, ?_, ⟨z2, by simp, z3⟩, by simp⟩
          have := run_loadCells_list (P := P) w ⟨b, ix * es', none⟩ ((List.range (ys.length * es')).map (fun j => (c[ix * es' + j]?).getD undef)) (fun j v hj => by
            rw [add_plain']
            have hj' : j < ys.length * es' := by have := get_lt hj; simpa using this
            simp [hj'] at hj
            have hin : ix * es' + j < c.size := by
              have := Nat.mul_le_mul_right es' hle
              rw [Nat.add_mul] at this
              omega
            simp [hin] at hj
            simp [World.cell?, h2, hin, hj])
          simpa [Builtin.firstCells] using this
      · cases h
    · cases h
  · cases h

theorem apElems_spec (hE : TOk E P) {t u : TypeId} {s x : PV} {es by_ : Nat} {ys : List (List PV)} (h : apElems E t u s x H = some (es, by_, ys)) :
    ∃ e e2 i z, P.underlying t = some (.slice e) ∧ P.underlying u = some (.slice e2) ∧ P.info? e = some i ∧ i.zero = some z ∧ i.size = es ∧ i.bytes = by_ ∧ z.cells.size = es ∧ 0 < es ∧
      slSize es s = es ∧ slSize es x = es ∧ slElems H x = some ys ∧ (∀ c ∈ ys, c.all cellOk = true) ∧ slOk s = true := by
  unfold apElems at h
  split at h
  · rename_i ti ui ht hu
    obtain ⟨i, d, z, h1, h2, h3, rfl⟩ := hE.spec ht
    obtain ⟨iu, du, zu, u1, u2, u3, rfl⟩ := hE.spec hu
    simp only at h
    split at h
    · rename_i e e2 hd hd2
      have hd := tk_slice hd
      have hd2 := tk_slice hd2
      subst hd
      subst hd2
      split at h
      · rename_i ei hei
        obtain ⟨i', d', z', h1', h2', h3', rfl⟩ := hE.spec hei
        simp only at h
        split at h
        · rename_i hc
          obtain ⟨c1, c2, c3, c4⟩ := hc
          split at h
          · rename_i ys' hys
            split at h
            · rename_i hall
              simp only [Option.some.injEq, Prod.mk.injEq] at h
              obtain ⟨rfl, rfl, rfl⟩ := h
              have hz : z'.cells.size = i'.size := by
                have := (VL.zero (g := ⟨fun _ _ => none, fun _ => none, fun _ => none, fun _ => 0⟩) z' (by omega)).1
                simp at this; omega
              exact ⟨e, e2, i', z', h2, u2, h1', h3', rfl, rfl, hz, c1, c3, c4, hys, fun c hc => List.all_eq_true.1 hall.1 c hc, hall.2⟩
            · cases h
          · cases h
        · cases h
      · cases h
    · cases h
  · cases h

/-- Room enough: nothing is made. -/
theorem append_in_run {t u ty e e2 : TypeId} {i : TypeInfo} (h1 : P.underlying t = some (.slice e)) (h2 : P.underlying u = some (.slice e2)) (h3 : P.info? e = some i) {base : Option Addr} {n cap m : Nat} {xv : Value} {arr : Array Value}
    (hl : (Builtin.lenOf xv).run P w = .ok m w) (hf : (Builtin.firstCells i.size m xv).run P w = .ok arr w) (hle : n + m ≤ cap) :
    (Builtin.append_ #[t, u] ty #[.slice base n cap, xv]).run P w = match base with
      | some a => ((storeCells (a.add (n * i.size)) arr.toList).run P w).andThen fun _ w' => .ok (.slice base (n + m) cap) w'
      | none => .ok (.slice base (n + m) cap) w := by
  cases base <;> simp [Builtin.append_, run_underlying h1, run_underlying h2, run_sizeOf' h3, hl, hf, hle]

/-- No room: a new block. -/
theorem append_new_run {t u ty e e2 : TypeId} {i : TypeInfo} {z : Value} (h1 : P.underlying t = some (.slice e)) (h2 : P.underlying u = some (.slice e2)) (h3 : P.info? e = some i) (hz : i.zero = some z) {base : Option Addr} {n cap m : Nat} {xv : Value} {old arr : Array Value}
    (hl : (Builtin.lenOf xv).run P w = .ok m w) (ho : (Builtin.firstCells i.size n (.slice base n cap)).run P w.drew = .ok old w.drew) (hf : (Builtin.firstCells i.size m xv).run P w.drew = .ok arr w.drew) (hle : cap < n + m)
    (hfit : (n + m + 96) * i.bytes ≤ 140737488355328) (hbig : n + m ≤ 4611686018427387904) :
    ∃ nc, n + m ≤ nc ∧ nc ≤ 9223372036854775807 ∧ (Builtin.append_ #[t, u] ty #[.slice base n cap, xv]).run P w =
      .ok (.slice (some ⟨w.heap.size, 0, none⟩) (n + m) nc) (w.drew.alloc (.cells (old ++ arr ++ Builtin.zeroCells z.cells (nc - (n + m))) e)) := by
  refine ⟨grownCap w (n + m) cap e, by simp [grownCap, Question.cut], ?_, ?_⟩
  · have := grownCap_le_maxLen w (n + m) cap e (by unfold maxLen; omega)
    unfold maxLen at this
    omega
  have hn : ¬ (n + m ≤ cap) := by omega
  have h63' : ¬ (9223372036854775807 < ((n : Int) + (m : Int))) := by omega
  have h48' : ¬ (281474976710656 < Builtin.nextslicecap (n + m) cap * i.bytes) := by
    have := nextcap_le hle
    have h2 := Nat.mul_le_mul_right i.bytes this
    rw [Nat.mul_assoc] at h2
    omega
  simp [Builtin.append_, run_underlying h1, run_underlying h2, sizeOf, typeInfo, zeroValue, h3, hz, hl, hn, h63', h48', Question.forced, ho, hf, newRow, grownCap]

theorem zeroCells_size (z : Array Value) (k : Nat) : (Builtin.zeroCells z k).size = k * z.size := by simp [Builtin.zeroCells]

theorem fits_spec {n m b : Nat} (h : apFits n m b = true) : (n + m + 96) * b ≤ 140737488355328 ∧ n + m ≤ 4611686018427387904 := by
  simp only [apFits, Bool.and_eq_true, Nat.ble_eq] at h
  exact h

/-- The new block of an append that finds no room. -/
theorem append_new_ok (hi : Inv g H w) {t u ty e e2 : TypeId} {i : TypeInfo} {z : Value} (h1 : P.underlying t = some (.slice e)) (h2 : P.underlying u = some (.slice e2)) (h3 : P.info? e = some i) (hz : i.zero = some z) (hzs : z.cells.size = i.size)
    {base : Option Addr} {cap : Nat} {xv : Value} {el ys : List (List PV)} {old arr : Array Value}
    (ho : (Builtin.firstCells i.size el.length (.slice base el.length cap)).run P w.drew = .ok old w.drew) (ro : RL0 g.S i.size el old) (so : old.size = el.length * i.size)
    (hl : (Builtin.lenOf xv).run P w = .ok ys.length w) (hf : (Builtin.firstCells i.size ys.length xv).run P w.drew = .ok arr w.drew) (ra : RL0 g.S i.size ys arr) (sa : arr.size = ys.length * i.size)
    (hroom : cap < el.length + ys.length) (hfit : apFits el.length ys.length i.bytes = true) :
    (∀ l : List Nat, l.Sublist H.live → ∃ v w' g', (Builtin.append_ #[t, u] ty #[.slice base el.length cap, xv]).run P w = .ok v w' ∧ V g' (.sl (.tok H.nt) i.size (el ++ ys)) v ∧
      Inv g' { H with nt := H.nt + 1, live := H.nt :: l } w' ∧ Keep g H w g' { H with nt := H.nt + 1, live := H.nt :: l } w') ∧
    ∃ v w' g', (Builtin.append_ #[t, u] ty #[.slice base el.length cap, xv]).run P w = .ok v w' ∧ V g' (.own H.bx.length i.size 0 (el.length + ys.length)) v ∧
      Inv g' (H.push (.cells i.size (el ++ ys))) w' ∧ Keep g H w g' (H.push (.cells i.size (el ++ ys))) w' := by
  obtain ⟨f1, f2⟩ := fits_spec hfit
  obtain ⟨nc, hnc, hncm, hrun⟩ := append_new_run (ty := ty) h1 h2 h3 hz hl ho hf hroom f1 f2
  have hi1 : Inv g H w.drew := hi.same rfl
  have k0 : Keep g H w g H w.drew := .same rfl
  have hsz : (old ++ arr ++ Builtin.zeroCells z.cells (nc - (el.length + ys.length))).size = nc * i.size := by
    simp only [Array.size_append, zeroCells_size, so, sa, hzs, ← Nat.add_mul]
    congr 1
    omega
  have hR := (ro.append ra so).more (Builtin.zeroCells z.cells (nc - (el.length + ys.length)))
  have hlen : (el ++ ys).length = el.length + ys.length := by simp
  refine ⟨fun l hsub => ?_, ?_⟩
  · obtain ⟨i1, k1⟩ := inv_append_new hi1 (old ++ arr ++ Builtin.zeroCells z.cells (nc - (el.length + ys.length))) e ((el.length + ys.length) * i.size) (nc * i.size) (by omega) l hsub
    refine ⟨_, _, _, hrun, ?_, i1, k0.then hi k1⟩
    have hS : ∀ o, o < (el.length + ys.length) * i.size → ((g.addS w.drew.heap.size (rowS (old ++ arr ++ Builtin.zeroCells z.cells (nc - (el.length + ys.length))) ((el.length + ys.length) * i.size))).tok H.nt (w.drew.heap.size, (el.length + ys.length) * i.size, nc * i.size)).S w.heap.size o = (old ++ arr ++ Builtin.zeroCells z.cells (nc - (el.length + ys.length)))[o]? := fun o ho => by
      simp [Gh.tok, Gh.addS, rowS, ho]
    refine V.sl_mk (fun a b => ((old ++ arr ++ Builtin.zeroCells z.cells (nc - (el.length + ys.length)))[a * i.size + b]?).getD undef) hlen.symm (by omega) hR.1 (fun a b ha hb => ?_) (fun a ha b hb => ?_) (.inr ?_)
    · have hlt := idx_lt (show a < el.length + ys.length by omega) hb
      rw [Nat.zero_add, hS _ hlt]
      obtain ⟨v, q, _⟩ := hR.2.2 a ha b (by rw [hR.1 a ha]; exact hb)
      rw [q]; rfl
    · obtain ⟨v, q, x⟩ := hR.2.2 a ha b hb
      simp only [q, Option.getD_some]
      exact x.mono k1.le.S
    · simp [Gh.tok]
  · obtain ⟨g', a1, a2, a3⟩ := own_row hi1 (n := el.length + ys.length) e hR.toRL nc hnc (by omega) hncm
    exact ⟨_, _, g', hrun, a1, a2, k0.then hi a3⟩

theorem eraseTok_spec {k : Nat} : ∀ {l r : List Nat}, eraseTok k l = some r → k ∈ l ∧ r.Sublist l ∧ (l.Nodup → ∀ x, x ∈ r → x ≠ k)
  | [], r, h => by simp [eraseTok] at h
  | x :: l, r, h => by
    simp only [eraseTok] at h
    split at h
    · rename_i e
      cases h
      subst e
      exact ⟨by simp, List.sublist_cons_self _ _, fun hn y hy e => by subst e; exact (List.nodup_cons.1 hn).1 hy⟩
    · rename_i e
      split at h
      · rename_i r' hr
        cases h
        obtain ⟨a, b, c⟩ := eraseTok_spec hr
        refine ⟨by simp [a], b.cons_cons x, fun hn y hy => ?_⟩
        rcases List.mem_cons.1 hy with rfl | hy
        · exact e
        · exact c (List.nodup_cons.1 hn).2 y hy
      · cases h

theorem RL0.one {S : Store} {es : Nat} {ys : List (List PV)} {arr : Array Value} (h : RL0 S es ys arr) (hs : arr.size = ys.length * es) (hpos : 0 < es) (hc : ∀ c ∈ ys, c.all cellOk = true) : ∀ v ∈ arr.toList, v.oneCell' = true := by
  intro v hv
  obtain ⟨x, hx, rfl⟩ := List.mem_iff_getElem.1 hv
  have hx' : x < ys.length * es := by simpa [hs] using hx
  have hi : x / es < ys.length := by rw [Nat.div_lt_iff_lt_mul hpos]; exact hx'
  have hj : x % es < (ys[x / es]).length := by rw [h.1 _ hi]; exact Nat.mod_lt _ hpos
  obtain ⟨v, q, y⟩ := h.2.2 _ hi _ hj
  rw [Nat.div_add_mod'] at q
  have : arr.toList[x] = v := by
    have hx2 : x < arr.size := by simpa using hx
    rw [Array.getElem?_eq_getElem hx2] at q
    simpa using q
  rw [this]
  exact cellOk_one (.pure (g := ⟨S, fun _ => none, fun _ => none, fun _ => 0⟩) _ _ y) (List.all_eq_true.1 (hc _ (List.getElem_mem _)) _ (List.getElem_mem _))

theorem append_ok (hE : TOk E P) (hi : Inv g H w) {t u ty : TypeId} {s x : PV} {sv xv : Value} (hs : V g s sv) (hx : V g x xv) {q : PV} {H' : Heap} (h : aAppend E t u s x H = some (q, H')) :
    ∃ v w' g', (Builtin.append_ #[t, u] ty #[sv, xv]).run P w = .ok v w' ∧ V g' q v ∧ Inv g' H' w' ∧ Keep g H w g' H' w' := by
  unfold aAppend at h
  split at h
  · rename_i es by_ ys hap
    obtain ⟨e, e2, i, z, h1, h2, h3, hz, rfl, rfl, hzs, hpos, hss, hsx, hys, hco, hso⟩ := apElems_spec hE hap
    obtain ⟨hl, arr, hf, ra, sa⟩ := src_ok (P := P) hi hx hsx hys
    have hi1 : Inv g H w.drew := hi.same rfl
    obtain ⟨-, arr', hf', ra', sa'⟩ := src_ok (P := P) hi1 hx hsx hys
    split at h
    · cases h
      have harr : arr.toList = [] := by simpa using sa
      have base : ∀ (b : Option Addr) (n cap : Nat), n ≤ cap → sv = .slice b n cap → (Builtin.append_ #[t, u] ty #[sv, xv]).run P w = .ok sv w := by
        intro b n cap hn e0
        subst e0
        rw [append_in_run (ty := ty) h1 h2 h3 hl hf (by simpa using hn)]
        cases b <;> simp [harr, storeCells]
      refine ⟨sv, w, g, ?_, hs, hi, .refl _ _ _⟩
      cases s with
      | nils => obtain rfl := hs.nils_inv; exact base _ _ _ (Nat.le_refl _) rfl
      | sl tl es el => obtain ⟨b, o, cap, vals, a, rfl, hc, -⟩ := hs.sl_inv; exact base _ _ _ hc rfl
      | own id es ix len => obtain ⟨b, cap, a, -, hc, -, -, rfl⟩ := hs.own_inv; exact base _ _ _ hc rfl
      | _ => simp [slOk] at hso
    · rename_i y yr
      split at h
      · rename_i k es' el
        have he : es' = i.size := hss
        clear hss
        subst he
        split at h
        · rename_i hfit
          split at h
          · rename_i l hel
            cases h
            obtain ⟨hk, hsub, hne⟩ := eraseTok_spec hel
            have hne := hne hi.nd
            obtain ⟨b, o, cap, vals, a, rfl, hc, hw, hst, hv, htl, ha⟩ := hs.sl_inv
            obtain rfl := ha (.inr ⟨k, rfl⟩)
            by_cases hroom : el.length + (y :: yr).length ≤ cap
            · have hτ : g.τ k = some (b, o + el.length * i.size, o + cap * i.size) := by
                rcases htl with h | h
                · simp at hroom; omega
                · exact h
              obtain ⟨⟨c, T, hb, hsz⟩, hfree, hnob⟩ := hi.tk k b _ _ hk hτ
              have hmul : (el.length + (y :: yr).length) * i.size ≤ cap * i.size := Nat.mul_le_mul_right _ hroom
              rw [Nat.add_mul] at hmul
              have hfit2 : o + el.length * i.size + arr.toList.length ≤ c.size := by simp only [Array.length_toList, sa]; omega
              have hrun := run_storeCells_at (P := P) b (o + el.length * i.size) T arr.toList 0 c w hb (by omega) (ra.one sa hpos hco)
              rw [Nat.add_zero] at hrun
              have hlt : ∀ x, x ∈ l → x ∈ H.live ∧ x ≠ k := fun x hx => ⟨hsub.subset hx, hne x hx⟩
              obtain ⟨i1, k1⟩ := inv_append_in hi hk hτ c (c.toList.take (o + el.length * i.size) ++ arr.toList ++ c.toList.drop (o + el.length * i.size + arr.toList.length)).toArray T ((y :: yr).length * i.size) hb (setRow_heap w b c _ T _ hb) (splice_size _ _ _ hfit2)
                (fun x hx => by rw [splice_get _ _ _ hfit2, if_pos hx]) (fun x hx => setRow_other w b x _ hx) (by simp) (frozen_setRow w b c _ T _ hb) l hlt (hi.nd.sublist hsub)
                (fun x => if x < o + el.length * i.size then g.S b x else if x < o + el.length * i.size + (y :: yr).length * i.size then (c.toList.take (o + el.length * i.size) ++ arr.toList ++ c.toList.drop (o + el.length * i.size + arr.toList.length)).toArray[x]? else none)
                (fun x v hx => by
                  split at hx
                  · rename_i h; exact .inl ⟨h, hx⟩
                  · rename_i h
                    split at hx
                    · rename_i h'; exact .inr ⟨by omega, h', hx⟩
                    · cases hx)
                (fun x v hx => by
                  have : x < o + el.length * i.size := by
                    rcases Nat.lt_or_ge x (o + el.length * i.size) with h | h
                    · exact h
                    · rw [hfree x h] at hx; cases hx
                  simp only [if_pos this]; exact hx) ⟨rfl, rfl⟩
              refine ⟨.slice (some ⟨b, o, none⟩) (el.length + (y :: yr).length) cap, _, _, ?_, ?_, i1, k1⟩
              · rw [append_in_run (ty := ty) h1 h2 h3 hl hf hroom]
                simp only [add_plain', hrun, Result.andThen_ok]
              · have hS : ∀ x, ((g.addS b (fun x => if x < o + el.length * i.size then g.S b x else if x < o + el.length * i.size + (y :: yr).length * i.size then (c.toList.take (o + el.length * i.size) ++ arr.toList ++ c.toList.drop (o + el.length * i.size + arr.toList.length)).toArray[x]? else none)).tok H.nt (b, o + el.length * i.size + (y :: yr).length * i.size, o + cap * i.size)).S b x = if x < o + el.length * i.size then g.S b x else if x < o + el.length * i.size + (y :: yr).length * i.size then (c.toList.take (o + el.length * i.size) ++ arr.toList ++ c.toList.drop (o + el.length * i.size + arr.toList.length)).toArray[x]? else none := fun x => by simp [Gh.tok, Gh.addS]
                have hwid : ∀ i' (hi' : i' < (el ++ y :: yr).length), ((el ++ y :: yr)[i']).length = i.size := fun i' hi' => by
                  by_cases hlt' : i' < el.length
                  · rw [List.getElem_append_left hlt']; exact hw i' hlt'
                  · rw [List.getElem_append_right (by omega)]; exact ra.1 _ (by simp only [List.length_append] at hi'; omega)
                refine V.sl_mk (fun a d => if a < el.length then vals a d else (arr[(a - el.length) * i.size + d]?).getD undef) (by simp) (by simp at hroom ⊢; omega) hwid (fun a d ha hd => ?_) (fun a ha d hd => ?_) (.inr ?_)
                · rw [hS]
                  by_cases hlt' : a < el.length
                  · have := idx_lt hlt' hd
                    simp only [if_pos hlt']
                    rw [if_pos (by omega)]
                    exact hst a d hlt' hd
                  · have ha' : a - el.length < (y :: yr).length := by simp only [List.length_append] at ha; omega
                    have := idx_lt ha' hd
                    have hge : o + a * i.size + d = o + el.length * i.size + ((a - el.length) * i.size + d) := by
                      rw [Nat.sub_mul]
                      have := Nat.mul_le_mul_right i.size (show el.length ≤ a by omega)
                      omega
                    simp only [if_neg hlt']
                    rw [hge, if_neg (by omega), if_pos (by omega), splice_get _ _ _ hfit2, if_neg (by omega), if_pos (by simp only [Array.length_toList, sa]; omega)]
                    obtain ⟨v, q, _⟩ := ra.2.2 _ ha' d (by rw [ra.1 _ ha']; exact hd)
                    rw [Nat.add_sub_cancel_left, q]
                    simpa using q
                · by_cases hlt' : a < el.length
                  · simp only [if_pos hlt']
                    have e1 : (el ++ y :: yr)[a] = el[a] := List.getElem_append_left hlt'
                    have hd' : d < (el[a]).length := by rw [← e1]; exact hd
                    have := (hv a hlt' d hd').mono k1.le.S
                    simpa only [e1] using this
                  · have ha' : a - el.length < (y :: yr).length := by simp only [List.length_append] at ha; omega
                    simp only [if_neg hlt']
                    have e1 : (el ++ y :: yr)[a] = (y :: yr)[a - el.length] := List.getElem_append_right (by omega)
                    have hd' : d < ((y :: yr)[a - el.length]).length := by rw [← e1]; exact hd
                    obtain ⟨v, q, x⟩ := ra.2.2 _ ha' d hd'
                    rw [q]
                    have := x.mono k1.le.S
                    simpa only [e1, Option.getD_some] using this
                · simp [Gh.tok, Nat.add_mul]
                  omega
            · obtain ⟨old, ho, ro, so⟩ := cells_sl (P := P) hi1 hs
              exact (append_new_ok (ty := ty) hi h1 h2 h3 hz hzs ho ro so hl hf' ra' sa' (by omega) hfit).1 l hsub
          · cases h
        · cases h
      · split at h
        · rename_i el hfull
          split at h
          · rename_i hfit
            cases h
            cases s with
            | nils =>
              obtain rfl := hs.nils_inv
              simp only [slFull, Option.some.injEq] at hfull
              subst hfull
              refine (append_new_ok (ty := ty) (el := []) (old := #[]) hi h1 h2 h3 hz hzs (by simp [Builtin.firstCells]) (.nil _ _ _) (by simp) hl hf' ra' sa' (by simp) hfit).1 H.live (List.Sublist.refl _)
            | sl tl es' el' =>
              cases tl with
              | full =>
                simp only [slFull, Option.some.injEq] at hfull
                subst hfull
                have he : es' = i.size := hss
                clear hss
                subst he
                obtain ⟨old, ho, ro, so⟩ := cells_sl (P := P) hi1 hs
                obtain ⟨b, o, cap, vals, a, rfl, hc, hw, hst, hv, htl, -⟩ := hs.sl_inv
                have htl : cap = el'.length := htl
                exact (append_new_ok (ty := ty) hi h1 h2 h3 hz hzs ho ro so hl hf' ra' sa' (by simp; omega) hfit).1 H.live (List.Sublist.refl _)
              | _ => simp [slFull] at hfull
            | _ => simp [slFull] at hfull
          · cases h
        · cases h
  · cases h

theorem appendOwn_ok (hE : TOk E P) (hi : Inv g H w) {t u ty : TypeId} {s x : PV} {sv xv : Value} (hs : V g s sv) (hx : V g x xv) {q : PV} {H' : Heap} (h : aAppendOwn E t u s x H = some (q, H')) :
    ∃ v w' g', (Builtin.append_ #[t, u] ty #[sv, xv]).run P w = .ok v w' ∧ V g' q v ∧ Inv g' H' w' ∧ Keep g H w g' H' w' := by
  unfold aAppendOwn at h
  split at h
  · rename_i es by_ ys hap
    split at h
    · refine append_ok hE hi hs hx ?_
      unfold aAppend
      rw [hap]
      exact h
    · rename_i y yr
      obtain ⟨e, e2, i, z, h1, h2, h3, hz, rfl, rfl, hzs, hpos, hss, hsx, hys, hco, hso⟩ := apElems_spec hE hap
      obtain ⟨hl, -⟩ := src_ok (P := P) hi hx hsx hys
      have hi1 : Inv g H w.drew := hi.same rfl
      obtain ⟨-, arr', hf', ra', sa'⟩ := src_ok (P := P) hi1 hx hsx hys
      split at h
      · rename_i el hfull
        split at h
        · rename_i hfit
          cases h
          cases s with
          | nils =>
            obtain rfl := hs.nils_inv
            simp only [slFull, Option.some.injEq] at hfull
            subst hfull
            refine (append_new_ok (ty := ty) (el := []) (old := #[]) hi h1 h2 h3 hz hzs (by simp [Builtin.firstCells]) (.nil _ _ _) (by simp) hl hf' ra' sa' (by simp) hfit).2
          | sl tl es' el' =>
            cases tl with
            | full =>
              simp only [slFull, Option.some.injEq] at hfull
              subst hfull
              have he : es' = i.size := hss
              clear hss
              subst he
              obtain ⟨old, ho, ro, so⟩ := cells_sl (P := P) hi1 hs
              obtain ⟨b, o, cap, vals, a, rfl, hc, hw, hst, hv, htl, -⟩ := hs.sl_inv
              have htl : cap = el'.length := htl
              exact (append_new_ok (ty := ty) hi h1 h2 h3 hz hzs ho ro so hl hf' ra' sa' (by simp; omega) hfit).2
            | _ => simp [slFull] at hfull
          | _ => simp [slFull] at hfull
        · cases h
      · cases h
  · cases h

end
end Go.Vm

/-
  Comparisons, and every operation that is no call.
-/
namespace Go.Vm
section
variable {E : Env} {P : Program} {g : Gh} {H : Heap} {w : World}

theorem eqGuard_ok (op : BinOp) (t : TypeId) (x y : Operand) (a b : Value) (h : ∀ u v, a = .agg u → b = .agg v → False) (h2 : a = .nilIface → b = .nilIface → False) : (eqGuard op t x y a b).run P w = .ok () w := by
  cases op <;> first | rfl | skip
  all_goals
    cases a <;> first | rfl | skip
    · cases b <;> first | rfl | exact (h2 rfl rfl).elim
    · cases b <;> first | rfl | exact (h _ _ rfl rfl).elim

theorem equal_ok (hE : TOk E P) {t : TypeId} {ti : TI} (ht : E.T t = some ti) {p q : PV} {a c : Value} (hp : V g p a) (hq : V g q c) {b : Bool} (h : aEq ti.tk p q = some b) :
    (Op.equal t a c).run P w = .ok b w ∧ (∀ k n, a ≠ .int k n) ∧ (∀ s, a ≠ .string s) ∧ (∀ u, a ≠ .agg u) ∧ a ≠ .nilIface ∧ (∀ k n, a ≠ .float k n) ∧ (∀ k n m, a ≠ .complex k n m) := by
  obtain ⟨i, d, z, h1, h2, h3, rfl⟩ := hE.spec ht
  simp only at h
  have key : ∀ r : Bool, (∀ n, (Op.equalIn (n + 1) t a c).run P w = .ok r w) → (Op.equal t a c).run P w = .ok r w := fun r h => h 9999
  unfold aEq at h
  split at h
  · rename_i x y
    split at h
    · rename_i hd
      have hd := tk_bool hd
      subst hd
      cases h
      obtain rfl := hp.bool_inv
      obtain rfl := hq.bool_inv
      refine ⟨key _ fun n => ?_, by simp, by simp, by simp, by simp, by simp, by simp⟩
      simp [Op.equalIn, run_underlying h2]
    · cases h
  · split at h
    all_goals first
      | cases h
      | skip
    all_goals
      first
        | (have hd := tk_slice ‹tkOf d = TK.slice _›; subst hd)
        | (have hd := tk_pointer ‹tkOf d = TK.pointer _›; subst hd)
        | (have hd := tk_map ‹tkOf d = TK.map _ _›; subst hd)
        | (obtain ⟨f1, f2, f3, hd⟩ := tk_func ‹tkOf d = TK.func›; subst hd)
    all_goals
      first
        | obtain rfl := hp.nils_inv
        | (obtain ⟨b, o, cap, vals, a, rfl, -⟩ := hp.sl_inv)
        | (obtain ⟨b, cap, a, -, -, -, -, rfl⟩ := hp.own_inv)
        | obtain rfl := hp.nilp_inv
        | (obtain ⟨b, -, rfl⟩ := hp.ptr_inv)
        | obtain rfl := hp.nilm_inv
        | (obtain ⟨b, -, rfl⟩ := hp.map_inv)
        | obtain rfl := hp.nilf_inv
        | (obtain ⟨vs, hl, rfl, -⟩ := hp.fn_inv)
    all_goals
      first
        | obtain rfl := hq.nils_inv
        | (obtain ⟨b, o, cap, vals, a, rfl, -⟩ := hq.sl_inv)
        | (obtain ⟨b, cap, a, -, -, -, -, rfl⟩ := hq.own_inv)
        | obtain rfl := hq.nilp_inv
        | (obtain ⟨b, -, rfl⟩ := hq.ptr_inv)
        | obtain rfl := hq.nilm_inv
        | (obtain ⟨b, -, rfl⟩ := hq.map_inv)
        | obtain rfl := hq.nilf_inv
        | (obtain ⟨vs, hl, rfl, -⟩ := hq.fn_inv)
    all_goals
      refine ⟨key _ fun n => ?_, by simp, by simp, by simp, by simp, by simp, by simp⟩
      simp [Op.equalIn, run_underlying h2]

theorem bin_ok (hE : TOk E P) {op : BinOp} {t : TypeId} {p q : PV} {a c : Value} (hp : V g p a) (hq : V g q c) (x y : Operand) {r : PV} (h : aBin E op t p q = some r) :
    ∃ v, (do eqGuard op t x y a c; binOp op t a c : Sem Value).run P w = .ok v w ∧ V g r v := by
  unfold aBin at h
  split at h
  · rename_i k n k' m
    obtain rfl := hp.int_inv
    obtain rfl := hq.int_inv
    have hg : (eqGuard op t x y (.int k n) (.int k' m)).run P w = .ok () w := eqGuard_ok _ _ _ _ _ _ (fun _ _ h => by cases h) (fun h => by cases h)
    split at h
    · obtain ⟨v, hr, hv⟩ := shift_ok (g := g) (P := P) (w := w) (k' := k') h t
      exact ⟨v, by simp [hg, hr], hv⟩
    · obtain ⟨v, hr, hv⟩ := shift_ok (g := g) (P := P) (w := w) (k' := k') h t
      exact ⟨v, by simp [hg, hr], hv⟩
    · rename_i h1 h2
      split at h
      · rename_i e
        subst e
        obtain ⟨v, hr, hv⟩ := arith_ok (g := g) (P := P) (w := w) h h1 h2 t
        exact ⟨v, by simp [hg, hr], hv⟩
      · cases h
  · rename_i s s'
    obtain ⟨b1, rfl, rfl⟩ := hp.str_inv
    obtain ⟨b2, rfl, rfl⟩ := hq.str_inv
    have hg : (eqGuard op t x y (.string b1) (.string b2)).run P w = .ok () w := eqGuard_ok _ _ _ _ _ _ (fun _ _ h => by cases h) (fun h => by cases h)
    obtain ⟨v, hr, hv⟩ := str_ok (g := g) (P := P) (w := w) h t
    exact ⟨v, by simp [hg, hr], hv⟩
  · split at h
    · split at h
      · rename_i ti ht
        obtain ⟨b, hb, rfl⟩ := Option.map_eq_some_iff.1 h
        obtain ⟨hr, n1, n2, n3, n4, n5, n6⟩ := equal_ok (w := w) hE ht hp hq hb
        refine ⟨.bool b, ?_, .pure _ _ (.bool b)⟩
        have hg : (eqGuard .eql t x y a c).run P w = .ok () w := eqGuard_ok _ _ _ _ _ _ (fun u _ h => (n3 u h).elim) (fun h => (n4 h).elim)
        have e : binOp .eql t a c = (do pure (.bool (← Op.equal t a c))) := by
          cases a <;> simp_all [binOp]
        simp [hg, e, hr]
      · cases h
    · split at h
      · rename_i ti ht
        obtain ⟨b, hb, rfl⟩ := Option.map_eq_some_iff.1 h
        obtain ⟨hr, n1, n2, n3, n4, n5, n6⟩ := equal_ok (w := w) hE ht hp hq hb
        refine ⟨.bool (!b), ?_, .pure _ _ (.bool _)⟩
        have hg : (eqGuard .neq t x y a c).run P w = .ok () w := eqGuard_ok _ _ _ _ _ _ (fun u _ h => (n3 u h).elim) (fun h => (n4 h).elim)
        have e : binOp .neq t a c = (do pure (.bool (!(← Op.equal t a c)))) := by
          cases a <;> simp_all [binOp]
        simp [hg, e, hr]
      · cases h
    · cases h

theorem maxL_ok : ∀ {l : List PV} {vs : List Value} {p q : PV} {v : Value}, VL g l vs → V g p v → aMaxL l p = some q → ∃ u, (vs.foldlM Builtin.max2 v).run P w = .ok u w ∧ V g q u
  | [], vs, p, q, v, hl, hp, h => by
    have : vs = [] := by have := hl.1; simpa using this
    subst this
    simp only [aMaxL, Option.some.injEq] at h
    subst h
    exact ⟨v, by simp, hp⟩
  | x :: l, vs, p, q, v, hl, hp, h => by
    cases vs with
    | nil => have := hl.1; simp at this
    | cons u vs =>
      have h0 : V g x u := hl.2 0 (by simp) (by simp)
      have hl' : VL g l vs := ⟨by have := hl.1; simpa using this, fun i hi hj => hl.2 (i + 1) (by simpa using hi) (by simpa using hj)⟩
      unfold aMaxL at h
      split at h
      · cases ‹_ :: _ = []›
      · rename_i k y r k' z e
        cases e
        obtain rfl := h0.int_inv
        obtain rfl := hp.int_inv
        obtain ⟨u, hu, hq⟩ := maxL_ok hl' (.pure _ _ (.int _ _)) h
        exact ⟨u, by simpa [List.foldlM_cons, Builtin.max2] using hu, hq⟩
      · cases h
theorem minL_ok : ∀ {l : List PV} {vs : List Value} {p q : PV} {v : Value}, VL g l vs → V g p v → aMinL l p = some q → ∃ u, (vs.foldlM Builtin.min2 v).run P w = .ok u w ∧ V g q u
  | [], vs, p, q, v, hl, hp, h => by
    have : vs = [] := by have := hl.1; simpa using this
    subst this
    simp only [aMinL, Option.some.injEq] at h
    subst h
    exact ⟨v, by simp, hp⟩
  | x :: l, vs, p, q, v, hl, hp, h => by
    cases vs with
    | nil => have := hl.1; simp at this
    | cons u vs =>
      have h0 : V g x u := hl.2 0 (by simp) (by simp)
      have hl' : VL g l vs := ⟨by have := hl.1; simpa using this, fun i hi hj => hl.2 (i + 1) (by simpa using hi) (by simpa using hj)⟩
      unfold aMinL at h
      split at h
      · cases ‹_ :: _ = []›
      · rename_i k y r k' z e
        cases e
        obtain rfl := h0.int_inv
        obtain rfl := hp.int_inv
        obtain ⟨u, hu, hq⟩ := minL_ok hl' (.pure _ _ (.int _ _)) h
        exact ⟨u, by simpa [List.foldlM_cons, Builtin.min2] using hu, hq⟩
      · cases h

theorem opOk_of {s : Sem Value} {r : Result Next} {p : PV} {H' : Heap} (hr : ∀ v w', s.run P w = .ok v w' → r = .ok (.value v) w')
    (h : ∃ v w' g', s.run P w = .ok v w' ∧ V g' p v ∧ Inv g' H' w' ∧ Keep g H w g' H' w') : OpOk g H w r p H' := by
  obtain ⟨v, w', g', a, b, c, d⟩ := h
  exact ⟨_, v, w', g', hr _ _ a, .inl rfl, b, c, d⟩

theorem opOk_val {s : Sem Value} {r : Result Next} {p : PV} (hi : Inv g H w) (hr : ∀ v w', s.run P w = .ok v w' → r = .ok (.value v) w')
    (h : ∃ v, s.run P w = .ok v w ∧ V g p v) : OpOk g H w r p H := by
  obtain ⟨v, a, b⟩ := h
  exact ⟨_, v, w, g, hr _ _ a, .inl rfl, b, hi, .refl _ _ _⟩

theorem opOk_unit {s : Sem Unit} {r : Result Next} {H' : Heap} (hr : ∀ w', s.run P w = .ok () w' → r = .ok .skip w')
    (h : ∃ w', s.run P w = .ok () w' ∧ Inv g H' w' ∧ Keep g H w g H' w') : OpOk g H w r .undef H' := by
  obtain ⟨w', a, c, d⟩ := h
  exact ⟨_, undef, w', g, hr _ a, .inr ⟨rfl, rfl⟩, .pure _ _ (.undef _), c, d⟩

theorem PL_of {ρa : Operand → PV} {ρ : Operand → Value} (hρ : ∀ x, V g (ρa x) (ρ x)) (ps : Array (Nat × Operand)) :
    PL g (ps.toList.map fun p => (p.1, ρa p.2)) (ps.map fun x => (x.1, ρ x.2)).toList :=
  ⟨by simp, fun i hi hj => by simpa using hρ _⟩

theorem VL_of {ρa : Operand → PV} {ρ : Operand → Value} (hρ : ∀ x, V g (ρa x) (ρ x)) (ps : Array Operand) :
    VL g (ps.toList.map ρa) (ps.map ρ).toList := ⟨by simp, fun i hi hj => by simpa using hρ _⟩

theorem optV_of {ρa : Operand → PV} {ρ : Operand → Value} (hρ : ∀ x, V g (ρa x) (ρ x)) (o : Option Operand) : OptV g (optV ρa o) (o.map ρ) := by
  cases o with
  | none => trivial
  | some x => exact hρ x

theorem builtin_ok (hE : TOk E P) (hi : Inv g H w) {own : Bool} {b : Builtin} {ts : Array TypeId} {ty : TypeId} {cs : Array Bool} {args : List PV} {vs : Array Value} (hv : VL g args vs.toList) {p : PV} {H' : Heap}
    (h : aBuiltin E own b ts.toList args H = some (p, H')) : OpOk g H w ((builtin b ts ty cs vs).run P w) p H' := by
  unfold aBuiltin at h
  split at h
  · rename_i ts' args' t x hts
    obtain ⟨q, hq, e⟩ := Option.map_eq_some_iff.1 h
    cases e
    obtain rfl : ts = #[t] := by apply Array.ext'; simpa using hts
    obtain ⟨a, rfl⟩ : ∃ a, vs = #[a] := by
      have := hv.1
      simp at this
      exact ⟨vs[0], by apply Array.ext (by simpa using this); intro i h1 h2; simp at h2; subst h2; rfl⟩
    have ha : V g x a := hv.2 0 (by simp) (by simp)
    exact opOk_val (P := P) hi (fun v w' hr => by simp [builtin, hr]) (len_ok (ty := ty) hE hi ha hq)
  · rename_i ts' args' t u s x hts
    obtain rfl : ts = #[t, u] := by apply Array.ext'; simpa using hts
    obtain ⟨a, c, rfl⟩ : ∃ a c, vs = #[a, c] := by
      have := hv.1
      simp at this
      exact ⟨vs[0], vs[1], by apply Array.ext (by simpa using this); intro i h1 h2; simp at h2; rcases i with _ | _ | i <;> first | rfl | omega⟩
    have ha : V g s a := hv.2 0 (by simp) (by simp)
    have hc : V g x c := hv.2 1 (by simp) (by simp)
    split at h
    · exact opOk_of (P := P) (fun v w' hr => by simp [builtin, hr]) (appendOwn_ok (ty := ty) hE hi ha hc h)
    · exact opOk_of (P := P) (fun v w' hr => by simp [builtin, hr]) (append_ok (ty := ty) hE hi ha hc h)
  · rename_i ts' args' x r
    obtain ⟨q, hq, e⟩ := Option.map_eq_some_iff.1 h
    cases e
    obtain ⟨a, vr, hvs⟩ : ∃ a vr, vs.toList = a :: vr := by
      cases hc : vs.toList with
      | nil => have := hv.1; rw [hc] at this; simp at this
      | cons a vr => exact ⟨a, vr, rfl⟩
    rw [hvs] at hv
    exact opOk_val (P := P) hi (fun v w' hr => by simp [builtin, hr]) (s := Builtin.max_ ts ty vs) (by
      obtain ⟨u, h1, h2⟩ := maxL_ok (P := P) (w := w) (l := r) (vs := vr) ⟨by have := hv.1; simpa using this, fun i hi hj => hv.2 (i + 1) (by simpa using hi) (by simpa using hj)⟩ (hv.2 0 (by simp) (by simp)) hq
      exact ⟨u, by simp only [Builtin.max_, hvs]; exact h1, h2⟩)
  · rename_i ts' args' x r
    obtain ⟨q, hq, e⟩ := Option.map_eq_some_iff.1 h
    cases e
    obtain ⟨a, vr, hvs⟩ : ∃ a vr, vs.toList = a :: vr := by
      cases hc : vs.toList with
      | nil => have := hv.1; rw [hc] at this; simp at this
      | cons a vr => exact ⟨a, vr, rfl⟩
    rw [hvs] at hv
    exact opOk_val (P := P) hi (fun v w' hr => by simp [builtin, hr]) (s := Builtin.min_ ts ty vs) (by
      obtain ⟨u, h1, h2⟩ := minL_ok (P := P) (w := w) (l := r) (vs := vr) ⟨by have := hv.1; simpa using this, fun i hi hj => hv.2 (i + 1) (by simpa using hi) (by simpa using hj)⟩ (hv.2 0 (by simp) (by simp)) hq
      exact ⟨u, by simp only [Builtin.min_, hvs]; exact h1, h2⟩)
  · cases h

theorem aOp_ok (hE : TOk E P) (hi : Inv g H w) {own : Bool} {ρa : Operand → PV} {ρ : Operand → Value} (hρ : ∀ x, V g (ρa x) (ρ x)) {o : Oper} {p : PV} {H' : Heap}
    (h : aOp E own ρa o.op H = some (p, H')) : OpOk g H w ((execOp ρ o).run P w) p H' := by
  obtain ⟨dst, op, ty, pos, after, guard⟩ := o
  simp only at h
  unfold aOp at h
  split at h
  · rename_i x
    cases h
    exact .val _ (by simp [execOp]) (hρ x) hi
  · rename_i x
    cases h
    exact .val _ (by simp [execOp]) (hρ x) hi
  · rename_i c a b
    split at h
    · rename_i t ht
      cases h
      have hc := hρ c
      rw [ht] at hc
      have hb := hc.bool_inv
      refine .val (if t then ρ a else ρ b) (by simp [execOp, hb, asBool]) ?_ hi
      cases t
      · exact hρ b
      · exact hρ a
    · cases h
  · rename_i e
    split at h
    · rename_i ei he
      split at h
      · rename_i hc
        cases h
        exact opOk_of (P := P) (fun v w' hr => by simp [execOp, hr]) (alloc_ok hE hi he hc.1 hc.2)
      · cases h
    · cases h
  · rename_i e x
    split at h
    · rename_i hc
      cases h
      exact opOk_of (P := P) (fun v w' hr => by simp [execOp, hr]) (box_ok hi (hρ x) hc e)
    · cases h
  · rename_i t ps
    obtain ⟨q, hq, e⟩ := Option.map_eq_some_iff.1 h
    cases e
    exact opOk_val (P := P) hi (fun v w' hr => by simp [execOp, hr]) (build_ok hE (PL_of hρ ps) hq)
  · rename_i t n ps
    split at h
    · rename_i es el hbs
      obtain ⟨b1, b2⟩ := buildSlice_ok (w := w) hE hi (PL_of hρ ps) hbs
      split at h
      · cases h
        exact opOk_of (P := P) (fun v w' hr => by simp [execOp, hr]) b2
      · split at h
        · rename_i el' hf
          cases h
          exact opOk_of (P := P) (fun v w' hr => by simp [execOp, hr]) (b1 el' hf)
        · cases h
    · cases h
  · rename_i t a
    obtain ⟨q, hq, e⟩ := Option.map_eq_some_iff.1 h
    cases e
    exact opOk_val (P := P) hi (fun v w' hr => by simp [execOp, hr]) (load_ok hE hi (hρ a) hq)
  · rename_i t a x
    split at h
    · rename_i ti ht
      split at h
      · rename_i hc
        obtain ⟨H2, hq, e⟩ := Option.map_eq_some_iff.1 h
        cases e
        exact opOk_unit (P := P) (fun w' hr => by simp [execOp, hr]) (store_ok hE hi ht (hρ a) (hρ x) hc.1 hc.2.1 hc.2.2 hq)
      · cases h
    · cases h
  · rename_i x
    split at h
    · rename_i hx
      cases h
      have hc := hρ x
      rw [hx] at hc
      obtain ⟨b, hb, e⟩ := hc.ptr_inv
      exact .val (ρ x) (by simp [execOp, e]) hc hi
    · rename_i hx
      cases h
      have hc := hρ x
      rw [hx] at hc
      obtain ⟨b, o, vals, _, _, e⟩ := hc.fptr_inv
      exact .val (ρ x) (by simp [execOp, e]) hc hi
    · rename_i hx
      cases h
      have hc := hρ x
      rw [hx] at hc
      obtain ⟨vs, hl, e, _⟩ := hc.fn_inv
      exact .val (ρ x) (by simp [execOp, e]) hc hi
    · cases h
  · rename_i op' t x y yt
    obtain ⟨q, hq, e⟩ := Option.map_eq_some_iff.1 h
    cases e
    exact opOk_val (P := P) hi (fun v w' hr => by simp only [execOp, Sem.run_bind, hr, Result.andThen_ok, Sem.run_pure]) (bin_ok hE (hρ x) (hρ y) x y hq)
  · rename_i op' t x
    obtain ⟨q, hq, e⟩ := Option.map_eq_some_iff.1 h
    cases e
    exact opOk_val (P := P) hi (fun v w' hr => by simp [execOp, hr]) (un_ok (hρ x) hq)
  · rename_i s d x
    obtain ⟨q, hq, e⟩ := Option.map_eq_some_iff.1 h
    cases e
    exact opOk_val (P := P) hi (fun v w' hr => by simp [execOp, hr]) (conv_ok hE (hρ x) hq)
  · rename_i f fi ca
    split at h
    · rename_i hf
      cases h
      have hf' : fi = #[] := by simpa using hf
      subst hf'
      refine .val (.func (.func f) #[] (ca.map ρ)) (by simp [execOp, Instr.makeFunc]) (.fn f _ _ (by simp) fun i hi => by simpa using hρ _) hi
    · cases h
  · rename_i t
    cases h
    exact opOk_of (P := P) (fun v w' hr => by simp [execOp, hr]) (makeMap_ok hi t)
  · rename_i t l c
    split at h
    · exact opOk_of (P := P) (fun v w' hr => by simp [execOp, hr]) (makeSlice_ok hE hi (hρ l) (hρ c) h)
    · cases h
  · rename_i t x lo hi' mx
    obtain ⟨q, hq, e⟩ := Option.map_eq_some_iff.1 h
    cases e
    exact opOk_val (P := P) hi (fun v w' hr => by simp [execOp, hr]) (slice_ok hE (hρ x) (optV_of hρ lo) (optV_of hρ hi') (optV_of hρ mx) hq)
  · rename_i t x f
    obtain ⟨q, hq, e⟩ := Option.map_eq_some_iff.1 h
    cases e
    exact opOk_val (P := P) hi (fun v w' hr => by simp [execOp, hr]) (fieldAddr_ok hE (hρ x) hq)
  · rename_i t x f
    obtain ⟨q, hq, e⟩ := Option.map_eq_some_iff.1 h
    cases e
    exact opOk_val (P := P) hi (fun v w' hr => by simp [execOp, hr]) (field_ok hE (hρ x) hq)
  · rename_i t x i
    obtain ⟨q, hq, e⟩ := Option.map_eq_some_iff.1 h
    cases e
    exact opOk_val (P := P) hi (fun v w' hr => by simp [execOp, hr]) (indexAddr_ok hE (hρ x) (hρ i) hq)
  · rename_i t x i
    obtain ⟨q, hq, e⟩ := Option.map_eq_some_iff.1 h
    cases e
    exact opOk_val (P := P) hi (fun v w' hr => by simp [execOp, hr]) (index_ok hE (hρ x) (hρ i) hq)
  · rename_i t x i ok
    obtain ⟨q, hq, e⟩ := Option.map_eq_some_iff.1 h
    cases e
    exact opOk_val (P := P) hi (fun v w' hr => by simp [execOp, hr]) (lookup_ok hE hi (hρ x) (hρ i) hq)
  · rename_i t m k x
    obtain ⟨H2, hq, e⟩ := Option.map_eq_some_iff.1 h
    cases e
    exact opOk_unit (P := P) (fun w' hr => by simp [execOp, hr]) (mapUpdate_ok hE hi (hρ m) (hρ k) (hρ x) hq)
  · rename_i x i
    split at h
    · rename_i vs hx
      rw [nth_eq] at h
      obtain ⟨q, hq, e⟩ := Option.map_eq_some_iff.1 h
      cases e
      have hc := hρ x
      rw [hx] at hc
      obtain ⟨ws, hl, e, hv⟩ := hc.tup_inv
      have hlt := get_lt hq
      have hv' := hv i hlt
      rw [get_eq hq] at hv'
      have hlt' : i < ws.size := by omega
      exact .val (ws[i]) (by simp [execOp, e, Instr.extract, hlt']) hv' hi
    · cases h
  · rename_i b args ats
    exact builtin_ok (w := w) (ty := ty) (cs := _) hE hi (VL_of hρ args) h
  · cases h

end
end Go.Vm

/-
  Acts: the operations of a region, one after the other.
-/
namespace Go.Vm

/-- What a slot holds before anything is written to it, and where an operation is passed by. -/
abbrev unset : PV := .tup []

structure Rel (E : Env) (g : Gh) (n : Nat) (tm : TM) (H : Heap) (a : Act) (w : World) : Prop where
  sz : n ≤ a.tmps.size
  tm : ∀ t, V g (tm t) (a.tmps.getD t undef)
  inv : Inv g H w
  gl : GOk E g.S
  df : a.defers = []

theorem V.unset (g : Gh) : V g unset Go.undef := .tup _ _ rfl fun i hi => absurd hi (by simp)

section
variable {E : Env} {P : Program} {g : Gh} {n : Nat} {tm : TM} {H : Heap} {a : Act} {w : World}

theorem Rel.eval (h : Rel E g n tm H a w) (x : Operand) : V g (evalO E tm x) (a.eval x) := by
  cases x with
  | tmp t => exact h.tm t
  | const v => exact .pure _ _ (V0.ofConst _ v)
  | global k =>
    simp only [evalO, Act.eval]
    split
    · rename_i cs hc; exact .pure _ _ (h.gl k cs hc)
    · exact .pure _ _ (.undef _)
  | func f => exact .fn f [] #[] rfl fun i hi => absurd hi (by simp)

theorem Rel.put (h : Rel E g n tm H a w) {g' : Gh} {H' : Heap} {w' : World} (hi : Inv g' H' w') (k : Keep g H w g' H' w') {d : Option Tmp} (hd : ∀ t, d = some t → t < n) {p : PV} {v : Value} (hv : V g' p v) :
    Rel E g' n (setD tm d p) H' (a.put d v) w' := by
  refine ⟨?_, fun t => ?_, hi, fun x cs hx => (h.gl x cs hx).mono k.le.S, ?_⟩
  · have := h.sz; cases d <;> simpa [Act.put] using this
  · cases d with
    | none => exact (h.tm t).mono k.le
    | some d =>
      have hlt : d < a.tmps.size := Nat.lt_of_lt_of_le (hd d rfl) h.sz
      simp only [setD, Act.put]
      by_cases e : t = d
      · subst e
        rw [if_pos rfl]
        simpa [Array.getD, hlt] using hv
      · rw [if_neg e]
        have := (h.tm t).mono k.le
        have e2 : (a.tmps.setIfInBounds d v).getD t undef = a.tmps.getD t undef := by
          simp only [Array.getD_eq_getD_getElem?, Array.getElem?_setIfInBounds]
          rw [if_neg (Ne.symm e)]
        rw [e2]; exact this
  · cases d <;> simp [Act.put, h.df]

/-! ### calls -/
def UponCall (P : Program) (K : Value → World → Prop) : Result Next → Prop
  | .ok (.value v) w => K v w
  | .ok (.enter f args) w => Calls P f args w fun e w' => ∃ v, e = .returned v ∧ K v w'
  | _ => False

/-- A call, abstractly: what it returns and what it makes of the heap. -/
def CallOk (E : Env) (P : Program) (f : FuncId) (args : List PV) (H : Heap) (r : PV) (H' : Heap) : Prop :=
  ∀ g w (vals : Array Value), Inv g H w → GOk E g.S → VL g args vals.toList → UponCall P (fun v w' => ∃ g', V g' r v ∧ Inv g' H' w' ∧ Keep g H w g' H' w') ((callFunc f vals).run P w)

theorem UponCall.mono {K K' : Value → World → Prop} (h : ∀ v w, K v w → K' v w) {r : Result Next} (x : UponCall P K r) : UponCall P K' r := by
  unfold UponCall at *
  split
  · exact h _ _ x
  · exact Calls.mono x fun e w' ⟨v, e1, e2⟩ => ⟨v, e1, h _ _ e2⟩
  · rename_i h1 h2
    split at x
    · exact (h1 _ _ rfl).elim
    · exact (h2 _ _ _ rfl).elim
    · exact x

/-! ### one operation -/
/-- What an operation does to the abstract state. -/
noncomputable def evOp (E : Env) (call : FuncId → List PV → Heap → Option (PV × Heap)) (own : Tmp → Bool) (tm : TM) (o : Oper) (H : Heap) : Option (PV × Heap) :=
  match o.op with
  | .call { callee := .value f, args, .. } => match evalO E tm f with
    | .fn g caps => call g (args.toList.map (evalO E tm) ++ caps) H
    | _ => none
  | op => aOp E (own (o.dst.getD 0)) (evalO E tm) op H

/-- The same, as a statement: calls by their contracts. -/
inductive OpTo (E : Env) (P : Program) (own : Tmp → Bool) (tm : TM) (o : Oper) (H : Heap) : PV → Heap → Prop
  | op (p : PV) (H' : Heap) (h : aOp E (own (o.dst.getD 0)) (evalO E tm) o.op H = some (p, H')) : OpTo E P own tm o H p H'
  | call (f : Operand) (args : Array Operand) (ats : Array TypeId) (k : FuncId) (caps : List PV) (p : PV) (H' : Heap) (ho : o.op = .call { callee := .value f, args, argTypes := ats })
      (hf : evalO E tm f = .fn k caps) (h : CallOk E P k (args.toList.map (evalO E tm) ++ caps) H p H') : OpTo E P own tm o H p H'

theorem op_upon (hE : TOk E P) {own : Tmp → Bool} {o : Oper} {p : PV} {H' : Heap} (h : OpTo E P own tm o H p H') (hr : Rel E g n tm H a w) {next : Act → World → Prop} {Q : Exit → Act → World → Prop}
    (hn : ∀ v w' g', V g' p v → Inv g' H' w' → Keep g H w g' H' w' → next (a.put o.dst v) w') : o.wp P a w next Q := by
  unfold Oper.wp
  cases h with
  | op _ _ h =>
    obtain ⟨nx, v, w', g', e, e2, hv, hi, hk⟩ := aOp_ok (w := w) hE hr.inv hr.eval h
    rw [e]
    rcases e2 with rfl | ⟨rfl, rfl⟩
    · exact hn _ _ _ hv hi hk
    · exact hn _ _ _ hv hi hk
  | call f args ats k caps _ _ ho hf h =>
    have hfv := hr.eval f
    rw [hf] at hfv
    obtain ⟨vs, hl, e, hvs⟩ := hfv.fn_inv
    have hargs : VL g (args.toList.map (evalO E tm) ++ caps) (args.map a.eval ++ vs).toList := by
      rw [Array.toList_append]
      refine (VL_of hr.eval args).append ⟨by simpa using hl, fun i hi hj => by simpa using hvs i hi⟩
    have hu := h g w (args.map a.eval ++ vs) hr.inv hr.gl hargs
    have hx : (execOp a.eval o).run P w = (callFunc k (args.map a.eval ++ vs)).run P w := by
      obtain ⟨dst, op, ty, pos, after, guard⟩ := o
      simp only at ho
      subst ho
      simp [execOp, resolve, e, Deferred.ofValue, invoke]
    rw [hx]
    generalize (callFunc k (args.map a.eval ++ vs)).run P w = r at hu
    unfold UponCall at hu
    split at hu
    · obtain ⟨g', a1, a2, a3⟩ := hu
      exact hn _ _ _ a1 a2 a3
    · refine Calls.mono hu fun e w' ⟨v, e1, g', a1, a2, a3⟩ => ?_
      subst e1
      exact hn _ _ _ a1 a2 a3
    · exact hu.elim

/-! ### guards -/
/-- Is the operation wanted? Nothing, where that cannot be told. -/
noncomputable def wantedA (ops : List Oper) (tm : TM) (o : Oper) : Option Bool :=
  match o.guard with
  | none => some true
  | some (j, want) => match nth ops j with
    | some oj => match oj.dst with
      | some d => match tm d with
        | .bool b => some (b == want)
        | .tup _ => some false
        | _ => none
      | none => some false
    | none => some false

theorem wanted_ok {ops : Array Oper} {o : Oper} {b : Bool} (h : wantedA ops.toList tm o = some b) (hr : Rel E g n tm H a w) : Region.wanted o (yielded ops a.tmps) = b := by
  unfold wantedA at h
  unfold Region.wanted
  cases hg : o.guard with
  | none => simp only [hg, Option.some.injEq] at h; simpa using h
  | some x =>
    obtain ⟨j, want⟩ := x
    simp only [hg, nth_eq] at h
    simp only [yielded]
    have e1 : ops.toList[j]? = ops[j]? := by simp
    rw [e1] at h
    cases hj : ops[j]? with
    | none => simp only [hj, Option.some.injEq] at h; subst h; simp
    | some oj =>
      simp only [hj] at h
      cases hd : oj.dst with
      | none => simp only [hd, Option.some.injEq] at h; subst h; simp [hd]
      | some d =>
        simp only [hd] at h
        have hv := hr.tm d
        simp only [Option.bind_some, hd]
        by_cases hlt : d < a.tmps.size
        · have e2 : a.tmps[d]? = some (a.tmps.getD d undef) := by simp [Array.getD, hlt]
          rw [e2]
          split at h
          · rename_i b' hb
            rw [hb] at hv
            rw [hv.bool_inv]
            simp only [Option.some.injEq] at h
            subst h
            cases b' <;> cases want <;> rfl
          · rename_i vs hb
            rw [hb] at hv
            obtain ⟨_, _, e, _⟩ := hv.tup_inv
            rw [e]
            simp only [Option.some.injEq] at h
            subst h
            rfl
          · cases h
        · have e2 : a.tmps[d]? = none := Array.getElem?_eq_none (Nat.le_of_not_lt hlt)
          rw [e2]
          have e3 : a.tmps.getD d undef = undef := by simp [Array.getD, hlt]
          rw [e3] at hv
          split at h
          · rename_i b' hb
            rw [hb] at hv
            have := hv.bool_inv
            cases this
          · simp only [Option.some.injEq] at h; subst h; rfl
          · cases h

end
end Go.Vm
