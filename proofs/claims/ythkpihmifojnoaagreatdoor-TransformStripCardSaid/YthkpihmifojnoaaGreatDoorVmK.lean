/-
  Append.
-/
import Derived.Test.YthkpihmifojnoaaGreatDoorVmJ
import Derived.Laws.AppendOwn
import Derived.Laws.Append
namespace Go.Vm

/-- A row of elements of which nothing changes any more. -/
def RL0 (S : Store) (es : Nat) (el : List (List PV)) (arr : Array Value) : Prop :=
  (∀ i (hi : i < el.length), (el[i]).length = es) ∧ el.length * es ≤ arr.size ∧
    ∀ i (hi : i < el.length) j (hj : j < (el[i]).length), ∃ v, arr[i * es + j]? = some v ∧ V0 S ((el[i])[j]) v

theorem RL0.nil (S : Store) (es : Nat) (arr : Array Value) : RL0 S es [] arr := ⟨fun i hi => absurd hi (by simp), by simp, fun i hi => absurd hi (by simp)⟩

theorem RL0.append {S : Store} {es : Nat} {el ys : List (List PV)} {a b : Array Value} (h : RL0 S es el a) (h' : RL0 S es ys b) (hs : a.size = el.length * es) : RL0 S es (el ++ ys) (a ++ b) := by
  refine ⟨fun i hi => ?_, by simp [Nat.add_mul]; have := h'.2.1; omega, fun i hi j hj => ?_⟩
  · by_cases e : i < el.length
    · rw [List.getElem_append_left e]; exact h.1 i e
    · rw [List.getElem_append_right (by omega)]; exact h'.1 _ (by simp at hi; omega)
  · by_cases e : i < el.length
    · have e1 : (el ++ ys)[i] = el[i] := List.getElem_append_left e
      have hj' : j < (el[i]).length := by rw [← e1]; exact hj
      obtain ⟨v, q, x⟩ := h.2.2 i e j hj'
      have hlt : i * es + j < a.size := by rw [hs]; exact idx_lt e (by rw [← h.1 i e]; exact hj')
      refine ⟨v, by rw [Array.getElem?_append_left hlt]; exact q, ?_⟩
      simpa only [e1] using x
    · have hk : i - el.length < ys.length := by simp at hi; omega
      have e1 : (el ++ ys)[i] = ys[i - el.length] := List.getElem_append_right (by omega)
      have hj' : j < (ys[i - el.length]).length := by rw [← e1]; exact hj
      obtain ⟨v, q, x⟩ := h'.2.2 _ hk j hj'
      have hge : i * es + j = a.size + ((i - el.length) * es + j) := by
        rw [hs, Nat.sub_mul]
        have := Nat.mul_le_mul_right es (show el.length ≤ i by omega)
        omega
      refine ⟨v, by rw [hge, Array.getElem?_append_right (by omega)]; simpa using q, ?_⟩
      simpa only [e1] using x

theorem RL0.more {S : Store} {es : Nat} {el : List (List PV)} {a : Array Value} (h : RL0 S es el a) (b : Array Value) : RL0 S es el (a ++ b) := by
  refine ⟨h.1, by simp; have := h.2.1; omega, fun i hi j hj => ?_⟩
  obtain ⟨v, q, x⟩ := h.2.2 i hi j hj
  have hlt : i * es + j < a.size := by
    rcases Nat.lt_or_ge (i * es + j) a.size with h | h
    · exact h
    · simp [Array.getElem?_eq_none h] at q
  exact ⟨v, by rw [Array.getElem?_append_left hlt]; exact q, x⟩

theorem RL0.mono {S S' : Store} (hS : ∀ b o v, S b o = some v → S' b o = some v) {es : Nat} {el : List (List PV)} {a : Array Value} (h : RL0 S es el a) : RL0 S' es el a :=
  ⟨h.1, h.2.1, fun i hi j hj => let ⟨v, q, x⟩ := h.2.2 i hi j hj; ⟨v, q, x.mono hS⟩⟩

theorem RL0.toRL {g : Gh} {es : Nat} {el : List (List PV)} {a : Array Value} (h : RL0 g.S es el a) : RL g es el a :=
  ⟨h.1, h.2.1, fun i hi j hj => let ⟨v, q, x⟩ := h.2.2 i hi j hj; ⟨v, q, .pure _ _ x⟩⟩

theorem growBy_le (n : Nat) : ∀ (r c : Nat), Builtin.growBy n r c ≤ max c (n + (n + 768) / 4)
  | 0, c => by simp [Builtin.growBy]; omega
  | r + 1, c => by
    simp only [Builtin.growBy]
    split
    · omega
    · have := growBy_le n r (c + (c + 768) / 4)
      omega

theorem nextcap_le {n c : Nat} (h : c < n) : Builtin.nextslicecap n c ≤ 2 * (n + 96) := by
  unfold Builtin.nextslicecap
  split
  · omega
  · split
    · omega
    · have := growBy_le n 4 c
      omega

section
variable {E : Env} {P : Program} {g : Gh} {H : Heap} {w : World}

/-- The first cells of a slice, as they are read. -/
theorem cells_sl (hi : Inv g H w) {tl : Tail} {es : Nat} {el : List (List PV)} {v : Value} (h : V g (.sl tl es el) v) :
    ∃ arr, (Builtin.firstCells es el.length v).run P w = .ok arr w ∧ RL0 g.S es el arr ∧ arr.size = el.length * es := by
  obtain ⟨b, o, cap, vals, a, rfl, hc, hw, hs, hv, -, ha⟩ := h.sl_inv
  by_cases h0 : 0 < el.length
  case neg =>
    have e0 : el = [] := by
      cases el with
      | nil => rfl
      | cons _ _ => simp at h0
    subst e0
    exact ⟨#[], by simp [Builtin.firstCells, loadCells, loadCellsFrom], .nil _ _ _, by simp⟩
  obtain rfl := ha (.inl h0)
  have hr : (Builtin.firstCells es el.length (.slice (some ⟨b, o, none⟩) el.length cap)).run P w = .ok ((List.range (el.length * es)).map (fun j => (w.cell? ⟨b, o + j, none⟩).getD undef)).toArray w := by
    have := run_loadCells_list (P := P) w ⟨b, o, none⟩ ((List.range (el.length * es)).map (fun j => (w.cell? ⟨b, o + j, none⟩).getD undef)) (fun j v hj => by
      rw [add_plain']
      have hj' : j < el.length * es := by
        have := get_lt hj; simpa using this
      simp [hj'] at hj
      have hpos : 0 < es := by
        rcases Nat.eq_zero_or_pos es with h | h
        · subst h; simp at hj'
        · exact h
      have := hi.st _ _ _ (hs (j / es) (j % es) (by rw [Nat.div_lt_iff_lt_mul hpos]; exact hj') (Nat.mod_lt _ hpos))
      rw [Nat.add_assoc, Nat.div_add_mod'] at this
      rw [this] at hj ⊢
      simpa using hj)
    simpa [Builtin.firstCells] using this
  refine ⟨_, hr, ⟨hw, by simp, fun i hi' j hj => ?_⟩, by simp⟩
  have hje : j < es := by rw [hw i hi'] at hj; exact hj
  have hlt := idx_lt hi' hje
  have := hi.st _ _ _ (hs i j hi' hje)
  refine ⟨vals i j, ?_, hv i hi' j hj⟩
  rw [Nat.add_assoc] at this
  simp [hlt, this]

/-- What an append reads of the slice that it adds. -/
theorem src_ok (hi : Inv g H w) {p : PV} {v : Value} (hp : V g p v) {es : Nat} (hes : slSize es p = es) {ys : List (List PV)} (h : slElems H p = some ys) :
    (Builtin.lenOf v).run P w = .ok ys.length w ∧ ∃ arr, (Builtin.firstCells es ys.length v).run P w = .ok arr w ∧ RL0 g.S es ys arr ∧ arr.size = ys.length * es := by
  unfold slElems at h
  split at h
  · cases h
    obtain rfl := hp.nils_inv
    exact ⟨by simp [Builtin.lenOf], #[], by simp [Builtin.firstCells], .nil _ _ _, by simp⟩
  · rename_i tl es0 el0
    cases h
    have he : es0 = es := hes
    clear hes
    subst he
    obtain ⟨arr, h1, h2, h3⟩ := cells_sl (P := P) hi hp
    refine ⟨?_, arr, h1, h2, h3⟩
    obtain ⟨b, o, cap, vals, a, rfl, -⟩ := hp.sl_inv
    simp [Builtin.lenOf]
  · rename_i id es' ix len
    have he : es' = es := hes
    clear hes
    subst he
    rw [nth_eq] at h
    split at h
    · rename_i es0 el hb
      split at h
      · rename_i hcond
        obtain ⟨rfl, hle⟩ := hcond
        obtain ⟨b, cap, a, hσ, hc, ha, hsp, rfl⟩ := hp.own_inv
        obtain ⟨b', c, T, h1, h2, h3, h4, h5, h6⟩ := hi.bx _ _ _ hb
        rw [hσ] at h1; cases h1
        obtain ⟨f1, f2⟩ := frzLL_ok h
        have hl : ys.length = len := by rw [f1]; simp; omega
        subst hl
        by_cases h0 : ys.length = 0
        · have e0 : ys = [] := by simpa using h0
          subst e0
          refine ⟨by simp [Builtin.lenOf], #[], ?_, .nil _ _ _, by simp⟩
          have := run_loadCells_list (P := P) w a [] (fun j v hj => by simp at hj)
          simpa [Builtin.firstCells] using this
        · have := ha (by omega)
          subst this
          refine ⟨by simp [Builtin.lenOf], ?_⟩
          have hRL : RL g es' ((el.drop ix).take ys.length) ((List.range (ys.length * es')).map (fun j => (c[ix * es' + j]?).getD undef)).toArray := by
            refine ⟨fun i hi => by simpa using h3 (ix + i) (by simp at hi; omega), by simp; exact Nat.mul_le_mul_right _ (Nat.min_le_left _ _), fun i hi j hj => ?_⟩
            have hi' : ix + i < el.length := by simp at hi; omega
            have hi2 : i < ys.length := by simp at hi; omega
            have e1 : ((el.drop ix).take ys.length)[i] = el[ix + i] := by simp
            have hj' : j < (el[ix + i]).length := by rw [← e1]; exact hj
            obtain ⟨v, q1, q2⟩ := h5 (ix + i) hi' j hj'
            have hlt := idx_lt hi2 (show j < es' by rw [h3 _ hi'] at hj'; exact hj')
            have e2 : (ix + i) * es' + j = ix * es' + (i * es' + j) := by rw [Nat.add_mul, Nat.add_assoc]
            rw [e2] at q1
            refine ⟨v, by simp [hlt, q1], by simpa only [e1] using q2⟩
          obtain ⟨z1, z2, z3⟩ := hRL.frozen h
          refine ⟨_, ?_, ⟨z2, by simp, z3⟩, by simp⟩
          have := run_loadCells_list (P := P) w ⟨b, ix * es', none⟩ ((List.range (ys.length * es')).map (fun j => (c[ix * es' + j]?).getD undef)) (fun j v hj => by
            rw [add_plain']
            have hj' : j < ys.length * es' := by have := get_lt hj; simpa using this
            simp [hj'] at hj
            have hin : ix * es' + j < c.size := by
              have := Nat.mul_le_mul_right es' hle
              rw [Nat.add_mul] at this
              omega
            simp [hin] at hj
            simp [World.cell?, h2, hin, hj])
          simpa [Builtin.firstCells] using this
      · cases h
    · cases h
  · cases h

theorem apElems_spec (hE : TOk E P) {t u : TypeId} {s x : PV} {es by_ : Nat} {ys : List (List PV)} (h : apElems E t u s x H = some (es, by_, ys)) :
    ∃ e e2 i z, P.underlying t = some (.slice e) ∧ P.underlying u = some (.slice e2) ∧ P.info? e = some i ∧ i.zero = some z ∧ i.size = es ∧ i.bytes = by_ ∧ z.cells.size = es ∧ 0 < es ∧
      slSize es s = es ∧ slSize es x = es ∧ slElems H x = some ys ∧ (∀ c ∈ ys, c.all cellOk = true) ∧ slOk s = true := by
  unfold apElems at h
  split at h
  · rename_i ti ui ht hu
    obtain ⟨i, d, z, h1, h2, h3, rfl⟩ := hE.spec ht
    obtain ⟨iu, du, zu, u1, u2, u3, rfl⟩ := hE.spec hu
    simp only at h
    split at h
    · rename_i e e2 hd hd2
      have hd := tk_slice hd
      have hd2 := tk_slice hd2
      subst hd
      subst hd2
      split at h
      · rename_i ei hei
        obtain ⟨i', d', z', h1', h2', h3', rfl⟩ := hE.spec hei
        simp only at h
        split at h
        · rename_i hc
          obtain ⟨c1, c2, c3, c4⟩ := hc
          split at h
          · rename_i ys' hys
            split at h
            · rename_i hall
              simp only [Option.some.injEq, Prod.mk.injEq] at h
              obtain ⟨rfl, rfl, rfl⟩ := h
              have hz : z'.cells.size = i'.size := by
                have := (VL.zero (g := ⟨fun _ _ => none, fun _ => none, fun _ => none, fun _ => 0⟩) z' (by omega)).1
                simp at this; omega
              exact ⟨e, e2, i', z', h2, u2, h1', h3', rfl, rfl, hz, c1, c3, c4, hys, fun c hc => List.all_eq_true.1 hall.1 c hc, hall.2⟩
            · cases h
          · cases h
        · cases h
      · cases h
    · cases h
  · cases h

/-- Room enough: nothing is made. -/
theorem append_in_run {t u ty e e2 : TypeId} {i : TypeInfo} (h1 : P.underlying t = some (.slice e)) (h2 : P.underlying u = some (.slice e2)) (h3 : P.info? e = some i) {base : Option Addr} {n cap m : Nat} {xv : Value} {arr : Array Value}
    (hl : (Builtin.lenOf xv).run P w = .ok m w) (hf : (Builtin.firstCells i.size m xv).run P w = .ok arr w) (hle : n + m ≤ cap) :
    (Builtin.append_ #[t, u] ty #[.slice base n cap, xv]).run P w = match base with
      | some a => ((storeCells (a.add (n * i.size)) arr.toList).run P w).andThen fun _ w' => .ok (.slice base (n + m) cap) w'
      | none => .ok (.slice base (n + m) cap) w := by
  cases base <;> simp [Builtin.append_, run_underlying h1, run_underlying h2, run_sizeOf' h3, hl, hf, hle]

/-- No room: a new block. -/
theorem append_new_run {t u ty e e2 : TypeId} {i : TypeInfo} {z : Value} (h1 : P.underlying t = some (.slice e)) (h2 : P.underlying u = some (.slice e2)) (h3 : P.info? e = some i) (hz : i.zero = some z) {base : Option Addr} {n cap m : Nat} {xv : Value} {old arr : Array Value}
    (hl : (Builtin.lenOf xv).run P w = .ok m w) (ho : (Builtin.firstCells i.size n (.slice base n cap)).run P w.drew = .ok old w.drew) (hf : (Builtin.firstCells i.size m xv).run P w.drew = .ok arr w.drew) (hle : cap < n + m)
    (hfit : (n + m + 96) * i.bytes ≤ 140737488355328) (hbig : n + m ≤ 4611686018427387904) :
    ∃ nc, n + m ≤ nc ∧ nc ≤ 9223372036854775807 ∧ (Builtin.append_ #[t, u] ty #[.slice base n cap, xv]).run P w =
      .ok (.slice (some ⟨w.heap.size, 0, none⟩) (n + m) nc) (w.drew.alloc (.cells (old ++ arr ++ Builtin.zeroCells z.cells (nc - (n + m))) e)) := by
  refine ⟨grownCap w (n + m) cap e, by simp [grownCap, Question.cut], ?_, ?_⟩
  · have := grownCap_le_maxLen w (n + m) cap e (by unfold maxLen; omega)
    unfold maxLen at this
    omega
  have hn : ¬ (n + m ≤ cap) := by omega
  have h63' : ¬ (9223372036854775807 < ((n : Int) + (m : Int))) := by omega
  have h48' : ¬ (281474976710656 < Builtin.nextslicecap (n + m) cap * i.bytes) := by
    have := nextcap_le hle
    have h2 := Nat.mul_le_mul_right i.bytes this
    rw [Nat.mul_assoc] at h2
    omega
  simp [Builtin.append_, run_underlying h1, run_underlying h2, sizeOf, typeInfo, zeroValue, h3, hz, hl, hn, h63', h48', Question.forced, ho, hf, newRow, grownCap]

theorem zeroCells_size (z : Array Value) (k : Nat) : (Builtin.zeroCells z k).size = k * z.size := by simp [Builtin.zeroCells]

theorem fits_spec {n m b : Nat} (h : apFits n m b = true) : (n + m + 96) * b ≤ 140737488355328 ∧ n + m ≤ 4611686018427387904 := by
  simp only [apFits, Bool.and_eq_true, Nat.ble_eq] at h
  exact h

/-- The new block of an append that finds no room. -/
theorem append_new_ok (hi : Inv g H w) {t u ty e e2 : TypeId} {i : TypeInfo} {z : Value} (h1 : P.underlying t = some (.slice e)) (h2 : P.underlying u = some (.slice e2)) (h3 : P.info? e = some i) (hz : i.zero = some z) (hzs : z.cells.size = i.size)
    {base : Option Addr} {cap : Nat} {xv : Value} {el ys : List (List PV)} {old arr : Array Value}
    (ho : (Builtin.firstCells i.size el.length (.slice base el.length cap)).run P w.drew = .ok old w.drew) (ro : RL0 g.S i.size el old) (so : old.size = el.length * i.size)
    (hl : (Builtin.lenOf xv).run P w = .ok ys.length w) (hf : (Builtin.firstCells i.size ys.length xv).run P w.drew = .ok arr w.drew) (ra : RL0 g.S i.size ys arr) (sa : arr.size = ys.length * i.size)
    (hroom : cap < el.length + ys.length) (hfit : apFits el.length ys.length i.bytes = true) :
    (∀ l : List Nat, l.Sublist H.live → ∃ v w' g', (Builtin.append_ #[t, u] ty #[.slice base el.length cap, xv]).run P w = .ok v w' ∧ V g' (.sl (.tok H.nt) i.size (el ++ ys)) v ∧
      Inv g' { H with nt := H.nt + 1, live := H.nt :: l } w' ∧ Keep g H w g' { H with nt := H.nt + 1, live := H.nt :: l } w') ∧
    ∃ v w' g', (Builtin.append_ #[t, u] ty #[.slice base el.length cap, xv]).run P w = .ok v w' ∧ V g' (.own H.bx.length i.size 0 (el.length + ys.length)) v ∧
      Inv g' (H.push (.cells i.size (el ++ ys))) w' ∧ Keep g H w g' (H.push (.cells i.size (el ++ ys))) w' := by
  obtain ⟨f1, f2⟩ := fits_spec hfit
  obtain ⟨nc, hnc, hncm, hrun⟩ := append_new_run (ty := ty) h1 h2 h3 hz hl ho hf hroom f1 f2
  have hi1 : Inv g H w.drew := hi.same rfl
  have k0 : Keep g H w g H w.drew := .same rfl
  have hsz : (old ++ arr ++ Builtin.zeroCells z.cells (nc - (el.length + ys.length))).size = nc * i.size := by
    simp only [Array.size_append, zeroCells_size, so, sa, hzs, ← Nat.add_mul]
    congr 1
    omega
  have hR := (ro.append ra so).more (Builtin.zeroCells z.cells (nc - (el.length + ys.length)))
  have hlen : (el ++ ys).length = el.length + ys.length := by simp
  refine ⟨fun l hsub => ?_, ?_⟩
  · obtain ⟨i1, k1⟩ := inv_append_new hi1 (old ++ arr ++ Builtin.zeroCells z.cells (nc - (el.length + ys.length))) e ((el.length + ys.length) * i.size) (nc * i.size) (by omega) l hsub
    refine ⟨_, _, _, hrun, ?_, i1, k0.then hi k1⟩
    have hS : ∀ o, o < (el.length + ys.length) * i.size → ((g.addS w.drew.heap.size (rowS (old ++ arr ++ Builtin.zeroCells z.cells (nc - (el.length + ys.length))) ((el.length + ys.length) * i.size))).tok H.nt (w.drew.heap.size, (el.length + ys.length) * i.size, nc * i.size)).S w.heap.size o = (old ++ arr ++ Builtin.zeroCells z.cells (nc - (el.length + ys.length)))[o]? := fun o ho => by
      simp [Gh.tok, Gh.addS, rowS, ho]
    refine V.sl_mk (fun a b => ((old ++ arr ++ Builtin.zeroCells z.cells (nc - (el.length + ys.length)))[a * i.size + b]?).getD undef) hlen.symm (by omega) hR.1 (fun a b ha hb => ?_) (fun a ha b hb => ?_) (.inr ?_)
    · have hlt := idx_lt (show a < el.length + ys.length by omega) hb
      rw [Nat.zero_add, hS _ hlt]
      obtain ⟨v, q, _⟩ := hR.2.2 a ha b (by rw [hR.1 a ha]; exact hb)
      rw [q]; rfl
    · obtain ⟨v, q, x⟩ := hR.2.2 a ha b hb
      simp only [q, Option.getD_some]
      exact x.mono k1.le.S
    · simp [Gh.tok]
  · obtain ⟨g', a1, a2, a3⟩ := own_row hi1 (n := el.length + ys.length) e hR.toRL nc hnc (by omega) hncm
    exact ⟨_, _, g', hrun, a1, a2, k0.then hi a3⟩

theorem eraseTok_spec {k : Nat} : ∀ {l r : List Nat}, eraseTok k l = some r → k ∈ l ∧ r.Sublist l ∧ (l.Nodup → ∀ x, x ∈ r → x ≠ k)
  | [], r, h => by simp [eraseTok] at h
  | x :: l, r, h => by
    simp only [eraseTok] at h
    split at h
    · rename_i e
      cases h
      subst e
      exact ⟨by simp, List.sublist_cons_self _ _, fun hn y hy e => by subst e; exact (List.nodup_cons.1 hn).1 hy⟩
    · rename_i e
      split at h
      · rename_i r' hr
        cases h
        obtain ⟨a, b, c⟩ := eraseTok_spec hr
        refine ⟨by simp [a], b.cons_cons x, fun hn y hy => ?_⟩
        rcases List.mem_cons.1 hy with rfl | hy
        · exact e
        · exact c (List.nodup_cons.1 hn).2 y hy
      · cases h

theorem RL0.one {S : Store} {es : Nat} {ys : List (List PV)} {arr : Array Value} (h : RL0 S es ys arr) (hs : arr.size = ys.length * es) (hpos : 0 < es) (hc : ∀ c ∈ ys, c.all cellOk = true) : ∀ v ∈ arr.toList, v.oneCell' = true := by
  intro v hv
  obtain ⟨x, hx, rfl⟩ := List.mem_iff_getElem.1 hv
  have hx' : x < ys.length * es := by simpa [hs] using hx
  have hi : x / es < ys.length := by rw [Nat.div_lt_iff_lt_mul hpos]; exact hx'
  have hj : x % es < (ys[x / es]).length := by rw [h.1 _ hi]; exact Nat.mod_lt _ hpos
  obtain ⟨v, q, y⟩ := h.2.2 _ hi _ hj
  rw [Nat.div_add_mod'] at q
  have : arr.toList[x] = v := by
    have hx2 : x < arr.size := by simpa using hx
    rw [Array.getElem?_eq_getElem hx2] at q
    simpa using q
  rw [this]
  exact cellOk_one (.pure (g := ⟨S, fun _ => none, fun _ => none, fun _ => 0⟩) _ _ y) (List.all_eq_true.1 (hc _ (List.getElem_mem _)) _ (List.getElem_mem _))

theorem append_ok (hE : TOk E P) (hi : Inv g H w) {t u ty : TypeId} {s x : PV} {sv xv : Value} (hs : V g s sv) (hx : V g x xv) {q : PV} {H' : Heap} (h : aAppend E t u s x H = some (q, H')) :
    ∃ v w' g', (Builtin.append_ #[t, u] ty #[sv, xv]).run P w = .ok v w' ∧ V g' q v ∧ Inv g' H' w' ∧ Keep g H w g' H' w' := by
  unfold aAppend at h
  split at h
  · rename_i es by_ ys hap
    obtain ⟨e, e2, i, z, h1, h2, h3, hz, rfl, rfl, hzs, hpos, hss, hsx, hys, hco, hso⟩ := apElems_spec hE hap
    obtain ⟨hl, arr, hf, ra, sa⟩ := src_ok (P := P) hi hx hsx hys
    have hi1 : Inv g H w.drew := hi.same rfl
    obtain ⟨-, arr', hf', ra', sa'⟩ := src_ok (P := P) hi1 hx hsx hys
    split at h
    · cases h
      have harr : arr.toList = [] := by simpa using sa
      have base : ∀ (b : Option Addr) (n cap : Nat), n ≤ cap → sv = .slice b n cap → (Builtin.append_ #[t, u] ty #[sv, xv]).run P w = .ok sv w := by
        intro b n cap hn e0
        subst e0
        rw [append_in_run (ty := ty) h1 h2 h3 hl hf (by simpa using hn)]
        cases b <;> simp [harr, storeCells]
      refine ⟨sv, w, g, ?_, hs, hi, .refl _ _ _⟩
      cases s with
      | nils => obtain rfl := hs.nils_inv; exact base _ _ _ (Nat.le_refl _) rfl
      | sl tl es el => obtain ⟨b, o, cap, vals, a, rfl, hc, -⟩ := hs.sl_inv; exact base _ _ _ hc rfl
      | own id es ix len => obtain ⟨b, cap, a, -, hc, -, -, rfl⟩ := hs.own_inv; exact base _ _ _ hc rfl
      | _ => simp [slOk] at hso
    · rename_i y yr
      split at h
      · rename_i k es' el
        have he : es' = i.size := hss
        clear hss
        subst he
        split at h
        · rename_i hfit
          split at h
          · rename_i l hel
            cases h
            obtain ⟨hk, hsub, hne⟩ := eraseTok_spec hel
            have hne := hne hi.nd
            obtain ⟨b, o, cap, vals, a, rfl, hc, hw, hst, hv, htl, ha⟩ := hs.sl_inv
            obtain rfl := ha (.inr ⟨k, rfl⟩)
            by_cases hroom : el.length + (y :: yr).length ≤ cap
            · have hτ : g.τ k = some (b, o + el.length * i.size, o + cap * i.size) := by
                rcases htl with h | h
                · simp at hroom; omega
                · exact h
              obtain ⟨⟨c, T, hb, hsz⟩, hfree, hnob⟩ := hi.tk k b _ _ hk hτ
              have hmul : (el.length + (y :: yr).length) * i.size ≤ cap * i.size := Nat.mul_le_mul_right _ hroom
              rw [Nat.add_mul] at hmul
              have hfit2 : o + el.length * i.size + arr.toList.length ≤ c.size := by simp only [Array.length_toList, sa]; omega
              have hrun := run_storeCells_at (P := P) b (o + el.length * i.size) T arr.toList 0 c w hb (by omega) (ra.one sa hpos hco)
              rw [Nat.add_zero] at hrun
              have hlt : ∀ x, x ∈ l → x ∈ H.live ∧ x ≠ k := fun x hx => ⟨hsub.subset hx, hne x hx⟩
              obtain ⟨i1, k1⟩ := inv_append_in hi hk hτ c (c.toList.take (o + el.length * i.size) ++ arr.toList ++ c.toList.drop (o + el.length * i.size + arr.toList.length)).toArray T ((y :: yr).length * i.size) hb (setRow_heap w b c _ T _ hb) (splice_size _ _ _ hfit2)
                (fun x hx => by rw [splice_get _ _ _ hfit2, if_pos hx]) (fun x hx => setRow_other w b x _ hx) (by simp) (frozen_setRow w b c _ T _ hb) l hlt (hi.nd.sublist hsub)
                (fun x => if x < o + el.length * i.size then g.S b x else if x < o + el.length * i.size + (y :: yr).length * i.size then (c.toList.take (o + el.length * i.size) ++ arr.toList ++ c.toList.drop (o + el.length * i.size + arr.toList.length)).toArray[x]? else none)
                (fun x v hx => by
                  split at hx
                  · rename_i h; exact .inl ⟨h, hx⟩
                  · rename_i h
                    split at hx
                    · rename_i h'; exact .inr ⟨by omega, h', hx⟩
                    · cases hx)
                (fun x v hx => by
                  have : x < o + el.length * i.size := by
                    rcases Nat.lt_or_ge x (o + el.length * i.size) with h | h
                    · exact h
                    · rw [hfree x h] at hx; cases hx
                  simp only [if_pos this]; exact hx) ⟨rfl, rfl⟩
              refine ⟨.slice (some ⟨b, o, none⟩) (el.length + (y :: yr).length) cap, _, _, ?_, ?_, i1, k1⟩
              · rw [append_in_run (ty := ty) h1 h2 h3 hl hf hroom]
                simp only [add_plain', hrun, Result.andThen_ok]
              · have hS : ∀ x, ((g.addS b (fun x => if x < o + el.length * i.size then g.S b x else if x < o + el.length * i.size + (y :: yr).length * i.size then (c.toList.take (o + el.length * i.size) ++ arr.toList ++ c.toList.drop (o + el.length * i.size + arr.toList.length)).toArray[x]? else none)).tok H.nt (b, o + el.length * i.size + (y :: yr).length * i.size, o + cap * i.size)).S b x = if x < o + el.length * i.size then g.S b x else if x < o + el.length * i.size + (y :: yr).length * i.size then (c.toList.take (o + el.length * i.size) ++ arr.toList ++ c.toList.drop (o + el.length * i.size + arr.toList.length)).toArray[x]? else none := fun x => by simp [Gh.tok, Gh.addS]
                have hwid : ∀ i' (hi' : i' < (el ++ y :: yr).length), ((el ++ y :: yr)[i']).length = i.size := fun i' hi' => by
                  by_cases hlt' : i' < el.length
                  · rw [List.getElem_append_left hlt']; exact hw i' hlt'
                  · rw [List.getElem_append_right (by omega)]; exact ra.1 _ (by simp only [List.length_append] at hi'; omega)
                refine V.sl_mk (fun a d => if a < el.length then vals a d else (arr[(a - el.length) * i.size + d]?).getD undef) (by simp) (by simp at hroom ⊢; omega) hwid (fun a d ha hd => ?_) (fun a ha d hd => ?_) (.inr ?_)
                · rw [hS]
                  by_cases hlt' : a < el.length
                  · have := idx_lt hlt' hd
                    simp only [if_pos hlt']
                    rw [if_pos (by omega)]
                    exact hst a d hlt' hd
                  · have ha' : a - el.length < (y :: yr).length := by simp only [List.length_append] at ha; omega
                    have := idx_lt ha' hd
                    have hge : o + a * i.size + d = o + el.length * i.size + ((a - el.length) * i.size + d) := by
                      rw [Nat.sub_mul]
                      have := Nat.mul_le_mul_right i.size (show el.length ≤ a by omega)
                      omega
                    simp only [if_neg hlt']
                    rw [hge, if_neg (by omega), if_pos (by omega), splice_get _ _ _ hfit2, if_neg (by omega), if_pos (by simp only [Array.length_toList, sa]; omega)]
                    obtain ⟨v, q, _⟩ := ra.2.2 _ ha' d (by rw [ra.1 _ ha']; exact hd)
                    rw [Nat.add_sub_cancel_left, q]
                    simpa using q
                · by_cases hlt' : a < el.length
                  · simp only [if_pos hlt']
                    have e1 : (el ++ y :: yr)[a] = el[a] := List.getElem_append_left hlt'
                    have hd' : d < (el[a]).length := by rw [← e1]; exact hd
                    have := (hv a hlt' d hd').mono k1.le.S
                    simpa only [e1] using this
                  · have ha' : a - el.length < (y :: yr).length := by simp only [List.length_append] at ha; omega
                    simp only [if_neg hlt']
                    have e1 : (el ++ y :: yr)[a] = (y :: yr)[a - el.length] := List.getElem_append_right (by omega)
                    have hd' : d < ((y :: yr)[a - el.length]).length := by rw [← e1]; exact hd
                    obtain ⟨v, q, x⟩ := ra.2.2 _ ha' d hd'
                    rw [q]
                    have := x.mono k1.le.S
                    simpa only [e1, Option.getD_some] using this
                · simp [Gh.tok, Nat.add_mul]
                  omega
            · obtain ⟨old, ho, ro, so⟩ := cells_sl (P := P) hi1 hs
              exact (append_new_ok (ty := ty) hi h1 h2 h3 hz hzs ho ro so hl hf' ra' sa' (by omega) hfit).1 l hsub
          · cases h
        · cases h
      · split at h
        · rename_i el hfull
          split at h
          · rename_i hfit
            cases h
            cases s with
            | nils =>
              obtain rfl := hs.nils_inv
              simp only [slFull, Option.some.injEq] at hfull
              subst hfull
              refine (append_new_ok (ty := ty) (el := []) (old := #[]) hi h1 h2 h3 hz hzs (by simp [Builtin.firstCells]) (.nil _ _ _) (by simp) hl hf' ra' sa' (by simp) hfit).1 H.live (List.Sublist.refl _)
            | sl tl es' el' =>
              cases tl with
              | full =>
                simp only [slFull, Option.some.injEq] at hfull
                subst hfull
                have he : es' = i.size := hss
                clear hss
                subst he
                obtain ⟨old, ho, ro, so⟩ := cells_sl (P := P) hi1 hs
                obtain ⟨b, o, cap, vals, a, rfl, hc, hw, hst, hv, htl, -⟩ := hs.sl_inv
                have htl : cap = el'.length := htl
                exact (append_new_ok (ty := ty) hi h1 h2 h3 hz hzs ho ro so hl hf' ra' sa' (by simp; omega) hfit).1 H.live (List.Sublist.refl _)
              | _ => simp [slFull] at hfull
            | _ => simp [slFull] at hfull
          · cases h
        · cases h
  · cases h

theorem appendOwn_ok (hE : TOk E P) (hi : Inv g H w) {t u ty : TypeId} {s x : PV} {sv xv : Value} (hs : V g s sv) (hx : V g x xv) {q : PV} {H' : Heap} (h : aAppendOwn E t u s x H = some (q, H')) :
    ∃ v w' g', (Builtin.append_ #[t, u] ty #[sv, xv]).run P w = .ok v w' ∧ V g' q v ∧ Inv g' H' w' ∧ Keep g H w g' H' w' := by
  unfold aAppendOwn at h
  split at h
  · rename_i es by_ ys hap
    split at h
    · refine append_ok hE hi hs hx ?_
      unfold aAppend
      rw [hap]
      exact h
    · rename_i y yr
      obtain ⟨e, e2, i, z, h1, h2, h3, hz, rfl, rfl, hzs, hpos, hss, hsx, hys, hco, hso⟩ := apElems_spec hE hap
      obtain ⟨hl, -⟩ := src_ok (P := P) hi hx hsx hys
      have hi1 : Inv g H w.drew := hi.same rfl
      obtain ⟨-, arr', hf', ra', sa'⟩ := src_ok (P := P) hi1 hx hsx hys
      split at h
      · rename_i el hfull
        split at h
        · rename_i hfit
          cases h
          cases s with
          | nils =>
            obtain rfl := hs.nils_inv
            simp only [slFull, Option.some.injEq] at hfull
            subst hfull
            refine (append_new_ok (ty := ty) (el := []) (old := #[]) hi h1 h2 h3 hz hzs (by simp [Builtin.firstCells]) (.nil _ _ _) (by simp) hl hf' ra' sa' (by simp) hfit).2
          | sl tl es' el' =>
            cases tl with
            | full =>
              simp only [slFull, Option.some.injEq] at hfull
              subst hfull
              have he : es' = i.size := hss
              clear hss
              subst he
              obtain ⟨old, ho, ro, so⟩ := cells_sl (P := P) hi1 hs
              obtain ⟨b, o, cap, vals, a, rfl, hc, hw, hst, hv, htl, -⟩ := hs.sl_inv
              have htl : cap = el'.length := htl
              exact (append_new_ok (ty := ty) hi h1 h2 h3 hz hzs ho ro so hl hf' ra' sa' (by simp; omega) hfit).2
            | _ => simp [slFull] at hfull
          | _ => simp [slFull] at hfull
        · cases h
      · cases h
  · cases h

end
end Go.Vm
