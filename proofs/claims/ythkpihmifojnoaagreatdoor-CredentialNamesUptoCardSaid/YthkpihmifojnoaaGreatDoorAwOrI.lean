/-
  The oracle for slices.Insert at a narration's steps, and all oracles together.
-/
import Derived.Test.YthkpihmifojnoaaGreatDoorAwIns
import Derived.Test.YthkpihmifojnoaaGreatDoorAwOrA
import Derived.Test.YthkpihmifojnoaaGreatDoorVe
namespace Go.Vm.Seat
open Go.Proofs

theorem box_cells {g : Gh} {es : Nat} {el : List (List PV)} {c : Array Value} (hw : ∀ i (hi : i < el.length), (el[i]).length = es)
    (hv : ∀ i (hi : i < el.length) j (hj : j < (el[i]).length), ∃ v, c[i * es + j]? = some v ∧ V g ((el[i])[j]) v) (hc : ∀ x ∈ el, x.all cellOk = true) (hpos : 0 < es) {n : Nat} (hn : n = el.length * es) :
    ∀ v ∈ c.toList.take n, v.oneCell' = true := by
  intro v h
  obtain ⟨k, hk, rfl⟩ := List.mem_iff_getElem.1 h
  have hk' : k < el.length * es := by simp at hk; omega
  have hi : k / es < el.length := (Nat.div_lt_iff_lt_mul hpos).2 hk'
  have hj : k % es < es := Nat.mod_lt _ hpos
  obtain ⟨u, h1, h2⟩ := hv (k / es) hi (k % es) (by rw [hw _ hi]; exact hj)
  rw [Nat.div_add_mod'] at h1
  have hkc : k < c.size := by simp at hk; omega
  rw [Array.getElem?_eq_getElem hkc] at h1
  have e : (c.toList.take n)[k] = u := by simpa using h1
  rw [e]
  exact cellOk_one h2 (List.all_eq_true.1 (hc _ (List.getElem_mem hi)) _ (List.getElem_mem _))

theorem len1 {α : Type} {l : List α} (h : l.length = 3) : ∃ a b c, l = [a, b, c] := by
  match l, h with
  | [a, b, c], _ => exact ⟨a, b, c, rfl⟩

theorem name51 : (Tryz.f51.name == "runtime.NumGoroutine") = false := by kernel_rfl
theorem body51 : Tryz.f51.body = some (Tryz.f51.body.getD .skip) := by kernel_rfl

set_option maxRecDepth 100000 in
set_option maxHeartbeats 1000000 in
theorem or51 {args : List PV} {H H' : Heap} {p : PV} (h : insZ args H = some (p, H')) : CallOk E0 Tryz.prog 51 args H p H' := by
  unfold insZ at h
  split at h
  · rename_i id es ix len k i id2 es2 ix2 len2
    split at h
    · rename_i hok
      split at h
      · rename_i e1 c0 e2 y0 y1 hb1 hb2
        split at h
        · rename_i hcl
          cases h
          rw [nth_eq] at hb1 hb2
          simp only [insOk, Bool.and_eq_true, decide_eq_true_eq, Bool.not_eq_true'] at hok
          obtain ⟨q1, q2, q3, q4, q5, q6, rfl, rfl, q7, q8⟩ := hok
          obtain rfl := Nat.eq_of_beq_eq_true q1
          obtain rfl := Nat.eq_of_beq_eq_true q2
          obtain rfl := Nat.eq_of_beq_eq_true q3
          obtain rfl := Nat.eq_of_beq_eq_true q4
          obtain rfl := Nat.eq_of_beq_eq_true q5
          obtain rfl := Nat.eq_of_beq_eq_true q6
          have hro : H.ro ≤ id := Nat.le_of_ble_eq_true q7
          have hne : id ≠ id2 := fun e => by rw [e, Nat.beq_refl] at q8; cases q8
          simp only [Bool.and_eq_true] at hcl
          obtain ⟨p1, p2, p3, p4, p5⟩ := hcl
          obtain rfl := Nat.eq_of_beq_eq_true p1
          obtain rfl := Nat.eq_of_beq_eq_true p2
          intro g w vals hi hg hv
          obtain ⟨l, hv⟩ := hv
          obtain ⟨v0, v1, v2, hvals⟩ := len1 (show vals.toList.length = 3 by simpa using l)
          rw [hvals] at hv
          have a0 := hv 0 (by simp) (by simp)
          have a1 := hv 1 (by simp) (by simp)
          have a2 := hv 2 (by simp) (by simp)
          simp only [List.getElem_cons_succ, List.getElem_cons_zero] at a0 a1 a2
          obtain rfl := a1.int_inv
          obtain ⟨b, cap, a, hσ, hcap, ha, -, ⟨hk1, hk2⟩, rfl⟩ := a0.own_inv2
          obtain ⟨vb, vc, av, hσv, hvc, hav, -, -, rfl⟩ := a2.own_inv2
          obtain rfl := ha (by omega)
          obtain rfl := hav (by omega)
          obtain rfl : vals = #[.slice (some ⟨b, 0 * 7, none⟩) 1 cap, .int .i64 0, .slice (some ⟨vb, 0 * 7, none⟩) 2 vc] := Array.toList_inj.1 (by simpa using hvals)
          obtain ⟨b', c, T, s1, s2, s3, s4, s5, s6⟩ := hi.bx _ _ _ hb1
          rw [hσ] at s1; cases s1
          obtain ⟨vb', c2, T2, t1, t2, t3, t4, t5, t6⟩ := hi.bx _ _ _ hb2
          rw [hσv] at t1; cases t1
          have hrm := hi.rm id b c T _ ⟨_, hb1, trivial⟩ hσ s2
          have hvb : vb ≠ b := fun e => hne (hi.inj id id2 b ⟨_, hb1, trivial⟩ ⟨_, hb2, trivial⟩ hσ (e ▸ hσv))
          have s4' : 7 ≤ c.size := by simpa using s4
          have t4' : 14 ≤ c2.size := by simpa using t4
          have hbw := hi.sz _ _ hσ
          obtain ⟨cs, hcs⟩ : ∃ cs, cs = c.toList.take 7 := ⟨_, rfl⟩
          obtain ⟨vs, hvs⟩ : ∃ vs, vs = c2.toList.take 14 := ⟨_, rfl⟩
          have lcs : cs.length = 7 := by rw [hcs]; simp; omega
          have lvs : vs.length = 14 := by rw [hvs]; simp; omega
          have gcs : ∀ j, j < 7 → cs[j]? = c[j]? := fun j hj => by rw [hcs]; simp [hj]
          have gvs : ∀ j, j < 14 → vs[j]? = c2[j]? := fun j hj => by rw [hvs]; simp [hj]
          have kcs : ∀ j v, cs[j]? = some v → w.cell? ⟨b, 0 + j, none⟩ = some v := fun j v e => by
            have hj : j < 7 := by have := get_lt e; omega
            rw [gcs j hj] at e
            simpa [World.cell?, s2] using e
          have kvs : ∀ j v, vs[j]? = some v → w.cell? ⟨vb, 0 + j, none⟩ = some v := fun j v e => by
            have hj : j < 14 := by have := get_lt e; omega
            rw [gvs j hj] at e
            simpa [World.cell?, t2] using e
          have ocs : ∀ v ∈ cs, v.oneCell' = true := by
            rw [hcs]
            exact box_cells s3 s5 (fun x hx => by rw [List.mem_singleton.1 hx]; exact p3) (by omega) (by simp)
          have ovs : ∀ v ∈ vs, v.oneCell' = true := by
            rw [hvs]
            exact box_cells t3 t5 (fun x hx => by
              rcases List.mem_cons.1 hx with rfl | hx
              · exact p4
              · rw [List.mem_singleton.1 hx]; exact p5) (by omega) (by simp)
          have fr0 : ∀ o, w.frozen? ⟨b, o, none⟩ = false := fun o => by simp [World.frozen?, s2]
          have fr1 : ∀ o, w.frozen? ⟨vb, o, none⟩ = false := fun o => by simp [World.frozen?, t2]
          have hshA : w.shape? vb = some (T2, c2.size) := by simp [World.shape?, t2]
          have hshB : w.shape? b = some (T, c.size) := by simp [World.shape?, s2]
          -- the three elements in a row whose first cells are the new ones
          have wel : ∀ i (hi : i < [y0, y1, c0].length), ([y0, y1, c0][i]).length = 7 := by
            have u0 := t3 0 (by simp)
            have u1 := t3 1 (by simp)
            have u2 := s3 0 (by simp)
            simp only [List.getElem_cons_succ, List.getElem_cons_zero] at u0 u1 u2
            intro i hi
            match i, hi with
            | 0, _ => exact u0
            | 1, _ => exact u1
            | 2, _ => exact u2
          have vel : ∀ F : Array Value, (∀ j, j < 14 → F[j]? = vs[j]?) → (∀ j, j < 7 → F[14 + j]? = cs[j]?) →
              ∀ i (hi : i < [y0, y1, c0].length) j (hj : j < ([y0, y1, c0][i]).length), ∃ v, F[i * 7 + j]? = some v ∧ V g (([y0, y1, c0][i])[j]) v := by
            intro F hF1 hF2 i hi j hj
            have hj7 : j < 7 := by rw [wel i hi] at hj; exact hj
            match i, hi, hj with
            | 0, _, hj =>
              obtain ⟨v, e, x⟩ := t5 0 (by simp) j hj
              refine ⟨v, ?_, x⟩
              rw [hF1 _ (by omega), gvs _ (by omega)]; exact e
            | 1, _, hj =>
              obtain ⟨v, e, x⟩ := t5 1 (by simp) j hj
              refine ⟨v, ?_, x⟩
              rw [hF1 _ (by omega), gvs _ (by omega)]; exact e
            | 2, _, hj =>
              obtain ⟨v, e, x⟩ := s5 0 (by simp) j hj
              refine ⟨v, ?_, x⟩
              rw [show 2 * 7 + j = 14 + j by omega, hF2 j hj7, gcs j hj7]
              simpa using e
          have hf51 : FnOk Tryz.prog 51 Tryz.f51 (Tryz.f51.body.getD .skip) := ⟨Tryz.func51, body51, name51⟩
          rw [callFunc_enter hf51]
          simp only [UponCall]
          have hl3 : ([y0, y1, c0] : List (List PV)).length * 7 = 21 := by simp
          by_cases hroom : 3 ≤ cap
          · have hsz : 21 ≤ c.size := by omega
            refine Calls.mono (ins_room b cap vb vc cs vs w hroom (by omega) hvb lcs lvs kcs (fun j hj => by simp [World.cell?, s2]; omega) (fun j _ => fr0 _) kvs ocs ovs T2 T c2.size c.size hshA hshB (by omega) (fr1 _) (fr1 _)) fun e w' ⟨he, hw'⟩ => ?_
            subst he
            obtain ⟨c3, r1, r2, r3, r4, r5, r6, r7, r8⟩ := setCells_row (w := w.drew) (b := b) s2 cs 14 (by omega)
            obtain ⟨c4, z1, z2, z3, z4, z5, z6, z7, z8⟩ := setCells_row (w := w.drew.setCells b 14 cs) (b := b) r1 vs 0 (by omega)
            rw [← hw'] at z1 z5 z6 z7 z8
            obtain ⟨j1, j2⟩ := inv_move hi (w' := w') hro hb1 trivial hσ s6 (fun k hk => (z5 k hk).trans (r5 k hk)) (z6.trans r6) z1 (fun a => (z8 a).trans (r8 a)) ⟨z7.1.trans r7.1, z7.2.trans r7.2⟩
              (es := 7) (el := [y0, y1, c0]) wel (by omega) (vel c4 (fun j hj => by
                have := z3 j (by omega)
                rw [Nat.zero_add] at this
                rw [this, List.getElem?_eq_getElem (by omega)]) (fun j hj => by
                rw [z4 (14 + j) (.inr (by omega)), r3 j (by omega), List.getElem?_eq_getElem (by omega)])) (g.κ id) (by omega)
            exact ⟨_, rfl, _, .own _ _ _ _ b cap _ (by simp [Gh.link]) hroom (fun _ => by simp) rfl ⟨by simpa [Gh.link] using hk1, hk2⟩, j1, j2⟩
          · refine Calls.mono (ins_grow b cap vb vc cs vs w hcap (by omega) lcs lvs kcs kvs ocs ovs) fun e w' ⟨G, ROW, g1, g2, g3, he, hw'⟩ => ?_
            subst he
            have hn0 : ((w.alloc (.cells ROW 62)).drew).heap[w.heap.size]? = some (.cells ROW 62 (0, 0)) := heap_alloc_new w _
            obtain ⟨c3, r1, r2, r3, r4, r5, r6, r7, r8⟩ := setCells_row hn0 vs 0 (by omega)
            have r1' : (((w.alloc (.cells ROW 62)).drew.setCells w.heap.size 0 vs).drew).heap[w.heap.size]? = some (.cells c3 62 (0, 0)) := r1
            obtain ⟨c4, z1, z2, z3, z4, z5, z6, z7, z8⟩ := setCells_row r1' cs 14 (by omega)
            rw [← hw'] at z1 z5 z6 z7 z8
            have hh : w'.heap = (w.alloc (.cells c4 62)).heap := by
              refine Array.ext_getElem? fun k => ?_
              by_cases e : k = w.heap.size
              · subst e; rw [z1, heap_alloc_new]
              · rw [z5 k e]
                refine (r5 k e).trans ?_
                rcases Nat.lt_or_ge k w.heap.size with h | h
                · exact (heap_alloc_lt w _ h).trans (heap_alloc_lt w _ h).symm
                · exact (heap_alloc_ge w _ (by omega)).trans (heap_alloc_ge w _ (by omega)).symm
            obtain ⟨j1, j2⟩ := inv_regrow hi (w' := w') hro hh ⟨z7.1.trans r7.1, z7.2.trans r7.2⟩ (es := 7) (el := [y0, y1, c0]) wel (by omega) (vel c4 (fun j hj => by
                have := r3 j (by omega)
                rw [Nat.zero_add] at this
                rw [z4 j (.inl (by omega)), this, List.getElem?_eq_getElem (by omega)]) (fun j hj => by
                rw [z3 j (by omega), List.getElem?_eq_getElem (by omega)])) c4.size (Nat.le_refl _)
            exact ⟨_, rfl, _, .own _ _ _ _ w.heap.size G _ (by simp [Gh.link]) g1 (fun _ => by simp) rfl ⟨by simp [Gh.link]; omega, g2⟩, j1, j2⟩
        · cases h
      · cases h
    · cases h
  · cases h

set_option maxRecDepth 100000 in
theorem zOk : CallsOk E0 Tryz.prog E0.Z := by
  intro f args H p H' h
  simp only [E0] at h
  split at h
  · rename_i hf
    obtain rfl := Nat.eq_of_beq_eq_true hf
    unfold idxZ at h
    split at h
    · rename_i s k c
      split at h
      · rename_i hc
        simp only [Bool.and_eq_true, decide_eq_true_eq] at hc
        obtain ⟨rfl, h0, h1⟩ := hc
        cases h
        exact ⟨or258 h0 h1 _, fun _ => rfl⟩
      · cases h
    · cases h
  · split at h
    · rename_i hf
      obtain rfl := Nat.eq_of_beq_eq_true hf
      exact ⟨or51 h, fun he => by
        have : E0.eff 51 = true := by kernel_rfl
        rw [this] at he; cases he⟩
    · split at h
      · rename_i hf
        obtain rfl := Nat.eq_of_beq_eq_true hf
        unfold cntZ at h
        split at h
        · rename_i s k c
          split at h
          · rename_i hc
            simp only [Bool.and_eq_true, decide_eq_true_eq] at hc
            obtain ⟨rfl, h0, h1⟩ := hc
            cases h
            exact ⟨or253 h0 h1 _, fun _ => rfl⟩
          · cases h
        · cases h
      · cases h
end Go.Vm.Seat
