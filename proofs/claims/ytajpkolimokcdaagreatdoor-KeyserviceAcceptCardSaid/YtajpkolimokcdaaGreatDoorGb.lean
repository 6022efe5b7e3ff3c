/-
  Proofs of an extension: what the program reads out of one; both kinds of proofs as the document reads them.
-/
import Derived.Test.YtajpkolimokcdaaGreatDoorGa
set_option maxHeartbeats 64000000
set_option maxRecDepth 100000
namespace Go.Vm.Seat
open Go.Proofs
theorem under2 (n : Nat) (x y : Tm) : under n (.tup [.agg x.cells, .agg y.cells]) = true := by
 have h1 := under_tm n x
 have h2 := under_tm n y
 simp only [under, underL, Bool.and_true] at h1 h2 ⊢
 simp [h1, h2]
theorem uE (n m : Int) (w : Bool) (t : Tm) : underL 3 [.ptr 2 2 0 0, .int .i64 n, .int .i64 m, .bool w, .agg t.cells] = true := by
 have := under_tm 3 t
 simp only [underL, under, Bool.and_true] at this ⊢
 simpa using this
theorem eql_t {a b : Int} (h : a = b) : aBin E7 .eql 3 (.int .i64 a) (.int .i64 b) = some (.bool true) := by
 show some (PV.bool (a == b)) = _
 rw [h, beq_self_eq_true]
theorem eql_f {a b : Int} (h : a ≠ b) : aBin E7 .eql 3 (.int .i64 a) (.int .i64 b) = some (.bool false) := by
 show some (PV.bool (a == b)) = _
 rw [beq_eq_false_iff_ne.2 h]
theorem leq_t {a b : Int} (h : a ≤ b) : aBin E7 .leq 3 (.int .i64 a) (.int .i64 b) = some (.bool true) := by
 show some (PV.bool (decide (a ≤ b))) = _
 rw [decide_eq_true h]
theorem leq_f {a b : Int} (h : ¬ a ≤ b) : aBin E7 .leq 3 (.int .i64 a) (.int .i64 b) = some (.bool false) := by
 show some (PV.bool (decide (a ≤ b))) = _
 rw [decide_eq_false h]
theorem c156 : ∀ (f : Nat) {n m : Nat}, m ≤ f → 1 ≤ n → n ≤ m → m ≤ 32 → ∀ (w : Bool) (old : Tm) (p : List Tm × Bool) (b : Bool), ∃ b', ∀ A B, boxU 3 A = true → boxU 3 B = true →
  CallOk E7 Tryz.prog 156 [.ptr 2 2 0 0, .int .i64 (n : Int), .int .i64 (m : Int), .bool w, .agg old.cells] ⟨[A, B, prB b p.1 p.2], 0, [], 0⟩ (.tup [.agg (extT f n m w old p).1.1.cells, .agg (extT f n m w old p).1.2.cells]) ⟨[A, B, prB b' (extT f n m w old p).2.1 (extT f n m w old p).2.2], 0, [], 0⟩
 | 0, n, m, h, h1, h2, _ => by omega
 | f + 1, n, m, hm, h1, hnm, h32 => by
   intro w old p b
   have hch := fun H => to07 (c196 h32 H)
   have hhp := half_pos m
   by_cases hn : n = m
   · have he := eql_t (a := (n : Int)) (b := (m : Int)) (by omega)
     simp only [extT, if_pos hn]
     cases w with
     | true =>
       refine ⟨b, fun A B hA hB => shed3 ?_ (under2 _ _ _) hA hB (prB_u _ _ _ _)⟩
       simp only [if_true]
       generalize prB b p.1 p.2 = X0
       obtain ⟨k, nm, s, tb, kids⟩ := old
       simp only [Tm.cells]
       refine callOk_wpR (own := (fun d => [29999, 50018, 50024, 50026, 40200, 40201, 40208, 40209].any (Nat.beq d))) tOk7 fe156.ok ?_
       refine Wp.seq ?_
       repeat' first | refine κn ?_ | refine κi ?_ | refine κt ?_ | refine κg ?_ | refine κh ?_ | refine κa ?_ | (apply Wp.drawS tOk7 follows; kernel_rfl; rfl) | fail
       all_goals exact RetR.ret rfl ⟨rfl, _, rfl⟩
     | false =>
       obtain ⟨b2, hx⟩ := next_ok b p
       refine ⟨b2, fun A B hA hB => shed3 ?_ (under2 _ _ _) hA hB (prB_u _ _ _ _)⟩
       simp only [Bool.false_eq_true, if_false]
       have hx := (hx A B hA hB).ext (ext := [.cells 4 [old.cells], .cells 4 [Tm.zero.cells], .cells 4 [Tm.zero.cells]]) rfl rfl (by simp [hA, hB, prB_u]) (Nat.zero_le _)
       rw [zero_cells] at hx
       generalize nextT p = Q at hx ⊢
       obtain ⟨y, q⟩ := Q
       simp only [] at hx ⊢
       generalize prB b p.1 p.2 = X0 at hx ⊢
       generalize prB b2 q.1 q.2 = X1 at hx ⊢
       obtain ⟨k, nm, s, tb, kids⟩ := old
       obtain ⟨k1, nm1, s1, tb1, kids1⟩ := y
       simp only [Tm.cells] at hx ⊢
       refine callOk_wpR (own := (fun d => [29999, 50018, 50024, 50026, 40200, 40201, 40208, 40209].any (Nat.beq d))) tOk7 fe156.ok ?_
       refine Wp.seq ?_
       repeat' first | refine κn ?_ | refine κc hx ?_ | refine κi ?_ | refine κt ?_ | refine κg ?_ | refine κh ?_ | refine κa ?_ | (apply Wp.drawS tOk7 follows; kernel_rfl; rfl) | fail
       all_goals exact RetR.ret rfl ⟨rfl, _, rfl⟩
   · have he := eql_f (a := (n : Int)) (b := (m : Int)) (by omega)
     have hhl := half_lt (n := m) (by omega)
     simp only [extT, if_neg hn]
     by_cases hlt : n ≤ halfN m
     · have hb1 := leq_t (a := (n : Int)) (b := (halfN m : Int)) (by omega)
       obtain ⟨b1, hr⟩ := c156 f (n := n) (m := halfN m) (by omega) h1 hlt (by omega) w old p b
       obtain ⟨b2, hx⟩ := next_ok b1 (extT f n (halfN m) w old p).2
       have hN := fun H => to07 (c204 (extT f n (halfN m) w old p).1.2 (nextT (extT f n (halfN m) w old p).2).1 H)
       refine ⟨b2, fun A B hA hB => shed3 ?_ (by simp only [if_pos hlt]; exact under2 _ _ _) hA hB (prB_u _ _ _ _)⟩
       have hr := hr A B hA hB
       simp only [if_pos hlt]
       generalize extT f n (halfN m) w old p = Q at hr hx hN ⊢
       obtain ⟨⟨x, y⟩, q⟩ := Q
       simp only [] at hr hx hN ⊢
       generalize nextT q = Q2 at hx hN ⊢
       obtain ⟨z, q2⟩ := Q2
       simp only [] at hr hx hN ⊢
       have hs := storeC3 hx rfl (prB_u 3 b1 q.1 q.2) (by simp [prB]) hA hB [.cells 4 [old.cells], .cells 4 [Tm.zero.cells], .cells 4 [Tm.zero.cells], .cells 4 [x.cells], .cells 4 [y.cells]]
       have hr := hr.ext (ext := [.cells 4 [old.cells], .cells 4 [Tm.zero.cells], .cells 4 [Tm.zero.cells]]) rfl (uE _ _ _ old) (by simp [hA, hB, prB_u]) (Nat.zero_le _)
       rw [zero_cells] at hs hr
       generalize nodeT y z = R at hN ⊢
       generalize prB b p.1 p.2 = X0 at hr ⊢
       generalize prB b1 q.1 q.2 = X1 at hr hs
       generalize prB b2 q2.1 q2.2 = X2 at hs ⊢
       obtain ⟨k, nm, s, tb, kids⟩ := old
       obtain ⟨k1, nm1, s1, tb1, kids1⟩ := R
       obtain ⟨k2, nm2, s2, tb2, kids2⟩ := x
       obtain ⟨k3, nm3, s3, tb3, kids3⟩ := y
       obtain ⟨k4, nm4, s4, tb4, kids4⟩ := z
       simp only [Tm.cells] at hr hs hN ⊢
       refine callOk_wpR (own := (fun d => [29999, 6044, 50025, 50042, 50048, 50050, 40329, 40330, 40336, 40337, 40338].any (Nat.beq d))) tOk7 fe156.ok ?_
       refine Wp.seq ?_
       repeat' first | refine κn ?_ | refine κc (hch _) ?_ | refine κc hr ?_ | refine κi ?_ | refine κg ?_ | refine κd (hN _) ?_ | (apply dCs; rfl; rfl; rfl; rfl; rfl; exact hs; exact IsH.mkN; rfl; rfl) | refine κh ?_ | refine κa ?_ | (apply Wp.drawS tOk7 follows; kernel_rfl; rfl) | fail
       all_goals exact RetR.ret rfl ⟨rfl, _, rfl⟩
     · have hb1 := leq_f (a := (n : Int)) (b := (halfN m : Int)) (by omega)
       obtain ⟨b1, hr⟩ := c156 f (n := n - halfN m) (m := m - halfN m) (by omega) (by omega) (by omega) (by omega) false old p b
       obtain ⟨b2, hx⟩ := next_ok b1 (extT f (n - halfN m) (m - halfN m) false old p).2
       have hN1 := fun H => to07 (c204 (nextT (extT f (n - halfN m) (m - halfN m) false old p).2).1 (extT f (n - halfN m) (m - halfN m) false old p).1.1 H)
       have hN2 := fun H => to07 (c204 (nextT (extT f (n - halfN m) (m - halfN m) false old p).2).1 (extT f (n - halfN m) (m - halfN m) false old p).1.2 H)
       refine ⟨b2, fun A B hA hB => shed3 ?_ (by simp only [if_neg hlt]; exact under2 _ _ _) hA hB (prB_u _ _ _ _)⟩
       have hr := hr A B hA hB
       simp only [if_neg hlt]
       have w1 : IntKind.i64.wrap ((n : Int) - (halfN m : Int)) = ((n - halfN m : Nat) : Int) := by
        rw [IntWalk.i64_in _ (by omega)]; omega
       have w2 : IntKind.i64.wrap ((m : Int) - (halfN m : Int)) = ((m - halfN m : Nat) : Int) := by
        rw [IntWalk.i64_in _ (by omega)]; omega
       generalize extT f (n - halfN m) (m - halfN m) false old p = Q at hr hx hN1 hN2 ⊢
       rw [← w1, ← w2] at hr
       obtain ⟨⟨x, y⟩, q⟩ := Q
       simp only [] at hr hx hN1 hN2 ⊢
       generalize nextT q = Q2 at hx hN1 hN2 ⊢
       obtain ⟨z, q2⟩ := Q2
       simp only [] at hr hx hN1 hN2 ⊢
       have hx := (hx A B hA hB).ext (ext := [.cells 4 [old.cells], .cells 4 [Tm.zero.cells], .cells 4 [Tm.zero.cells], .cells 4 [x.cells], .cells 4 [y.cells]]) rfl rfl (by simp [hA, hB, prB_u]) (Nat.zero_le _)
       have hr := hr.ext (ext := [.cells 4 [old.cells], .cells 4 [Tm.zero.cells], .cells 4 [Tm.zero.cells]]) rfl (uE _ _ _ old) (by simp [hA, hB, prB_u]) (Nat.zero_le _)
       rw [zero_cells] at hx hr
       generalize nodeT z x = R at hN1 ⊢
       generalize nodeT z y = R' at hN2 ⊢
       generalize prB b p.1 p.2 = X0 at hr ⊢
       generalize prB b1 q.1 q.2 = X1 at hr hx
       generalize prB b2 q2.1 q2.2 = X2 at hx ⊢
       obtain ⟨k, nm, s, tb, kids⟩ := old
       obtain ⟨k1, nm1, s1, tb1, kids1⟩ := R
       obtain ⟨k2, nm2, s2, tb2, kids2⟩ := x
       obtain ⟨k3, nm3, s3, tb3, kids3⟩ := y
       obtain ⟨k4, nm4, s4, tb4, kids4⟩ := z
       obtain ⟨k5, nm5, s5, tb5, kids5⟩ := R'
       simp only [Tm.cells] at hr hx hN1 hN2 ⊢
       refine callOk_wpR (own := (fun d => [29999, 50050, 50056, 50058, 40483, 40489, 40490, 40507, 40512, 40513, 40514].any (Nat.beq d))) tOk7 fe156.ok ?_
       refine Wp.seq ?_
       repeat' first | refine κn ?_ | (apply qCl; rfl; rfl; rfl; rfl; first | exact hch _ | exact hr | exact hx) | refine κi ?_ | refine κg ?_ | refine κd (hN1 _) ?_ | refine κd (hN2 _) ?_ | refine κh ?_ | refine κa ?_ | (apply Wp.drawS tOk7 follows; kernel_rfl; rfl) | fail
       all_goals exact RetR.ret rfl ⟨rfl, _, rfl⟩
theorem ext_okT {S : Nat} (hS : 1 ≤ S) {old : Tm} (ho : old.Ok) (hos : old.size ≤ S) : ∀ (f n m : Nat) (w : Bool) {p : List Tm × Bool}, (∀ x, x ∈ p.1 → x.Ok ∧ x.size ≤ S) →
  ((extT f n m w old p).1.1.Ok ∧ (extT f n m w old p).1.1.size ≤ (f + 1) * (S + 4)) ∧ ((extT f n m w old p).1.2.Ok ∧ (extT f n m w old p).1.2.size ≤ (f + 1) * (S + 4)) ∧ ∀ x, x ∈ (extT f n m w old p).2.1 → x.Ok ∧ x.size ≤ S
 | 0, n, m, w, p, hp => by
   have hz : Tm.zero.Ok ∧ Tm.zero.size ≤ (0 + 1) * (S + 4) := ⟨Tm.ok_zero, by simp [Tm.zero, Tm.size, sizeL]⟩
   exact ⟨hz, hz, hp⟩
 | f + 1, n, m, w, p, hp => by
   have e : (f + 1 + 1) * (S + 4) = (f + 1) * (S + 4) + (S + 4) := by rw [Nat.succ_mul]
   have e0 : S ≤ (f + 1 + 1) * (S + 4) := by rw [e]; omega
   simp only [extT]
   split
   · split
     · exact ⟨⟨ho, by simp only []; omega⟩, ⟨ho, by simp only []; omega⟩, hp⟩
     · obtain ⟨b1, b2, b3⟩ := next_okT hS hp
       exact ⟨⟨b1, by simp only []; omega⟩, ⟨b1, by simp only []; omega⟩, b3⟩
   · split
     · obtain ⟨⟨a1, a2⟩, ⟨a3, a4⟩, a5⟩ := ext_okT hS ho hos f n (halfN m) w hp
       obtain ⟨b1, b2, b3⟩ := next_okT hS a5
       refine ⟨⟨a1, by simp only []; omega⟩, ⟨ok_nodeT a3 b1, ?_⟩, b3⟩
       simp only [sz_nodeT]; omega
     · obtain ⟨⟨a1, a2⟩, ⟨a3, a4⟩, a5⟩ := ext_okT hS ho hos f (n - halfN m) (m - halfN m) false hp
       obtain ⟨b1, b2, b3⟩ := next_okT hS a5
       refine ⟨⟨ok_nodeT b1 a1, ?_⟩, ⟨ok_nodeT b1 a3, ?_⟩, b3⟩
       all_goals (simp only [sz_nodeT]; omega)
theorem extOk {n m : Nat} (h1 : 1 ≤ n) (h2 : n ≤ m) (h32 : m ≤ 32) (old : Tm) (l : List Tm) (b : Bool) : ∃ b', ∀ A B, boxU 3 A = true → boxU 3 B = true →
  CallOk E7 Tryz.prog 156 [.ptr 2 2 0 0, .int .i64 (n : Int), .int .i64 (m : Int), .bool true, .agg old.cells] ⟨[A, B, prB b l false], 0, [], 0⟩ (.tup [.agg (extT 32 n m true old (l, false)).1.1.cells, .agg (extT 32 n m true old (l, false)).1.2.cells]) ⟨[A, B, prB b' (extT 32 n m true old (l, false)).2.1 (extT 32 n m true old (l, false)).2.2], 0, [], 0⟩ :=
 c156 32 h32 h1 h2 h32 true old (l, false) b
theorem frzCe (h t : Tm) (n i : Int) (b : Bool) (L : List (List PV)) : frzGL [.agg h.cells, .int .i64 n, .agg t.cells, .int .i64 i, slV b 4 L] = some [.agg h.cells, .int .i64 n, .agg t.cells, .int .i64 i, slV b 4 L] := by
 obtain ⟨k, nm, s, tb, kids⟩ := h
 obtain ⟨k', nm', s', tb', kids'⟩ := t
 simp only [Tm.cells]
 have e1 : ∀ (k : Int) (nm : List UInt8) (s : Int) (tb : Bool) (kids : List Tm), frzG (.agg [.int .i64 k, .str nm, .int .i64 s, slV tb 4 (cellsL kids)]) = some (.agg [.int .i64 k, .str nm, .int .i64 s, slV tb 4 (cellsL kids)]) := fun k nm s tb kids => by
  simp only [frzG, frzL, frz1_slV]; rfl
 simp only [frzGL, frzG_slV, e1]
 rfl
theorem c89 {old h : Tm} (ho : old.Ok) (hos : old.size ≤ 20000) (hh : h.Ok) (hhs : h.size ≤ 20000) {l : List Tm} (hl : ∀ x, x ∈ l → x.Ok ∧ x.size ≤ 20000) (b : Bool) {n m : Int} (hn : (Lit.int .i64 n).wf = true) (hm : (Lit.int .i64 m).wf = true) : ∀ H,
  CallOk E0 Tryz.prog 89 [.agg old.cells, .int .i64 n, .agg h.cells, .int .i64 m, slV b 4 (cellsL l)] H (.bool (ckExtT old n h m l)) H := by
 by_cases hC : m < 1 ∨ 32 < m ∨ n < 1 ∨ m < n ∨ 32 < l.length
 · unfold ckExtT
   rw [if_pos hC]
   have hfz := frzCe old h n m b (cellsL l)
   have hlen := cellsL_length l
   obtain ⟨k, nm, s, tb, kids⟩ := old
   obtain ⟨k', nm', s', tb', kids'⟩ := h
   simp only [Tm.cells] at hfz ⊢
   refine κw tOk fe89.ok rfl ?_ hfz
   repeat' first | refine κn ?_ | refine κk ?_ | refine κl ?_ | refine κt ?_ | refine κb ?_ ?_ | refine κg ?_ | refine κa ?_ | refine κf ?_ | intro hb
   all_goals first
    | rfl
    | (exfalso; simp only [decide_eq_false_iff_not, hlen] at *; omega)
 · obtain ⟨n', rfl⟩ := Int.eq_ofNat_of_zero_le (show 0 ≤ n by omega)
   obtain ⟨m', rfl⟩ := Int.eq_ofNat_of_zero_le (show 0 ≤ m by omega)
   have e0 : ∀ R, R = extT 32 n' m' true old (l, false) → ckExtT old n' h m' l = (!R.2.2 && R.2.1.isEmpty && decide (R.1.1.cmp old = 0) && decide (R.1.2.cmp h = 0)) := fun R hR => by
    subst hR
    unfold ckExtT
    rw [if_neg hC]
    rfl
   obtain ⟨b', hr⟩ := extOk (n := n') (m := m') (by omega) (by omega) (by omega) old l b
   obtain ⟨⟨x1, x2⟩, ⟨y1, y2⟩, -⟩ := ext_okT (S := 20000) (by omega) ho hos 32 n' m' true (p := (l, false)) hl
   have hr := hr (.cells 4 [old.cells]) (.cells 4 [h.cells]) (by have := under_tm 3 old; simpa [boxU, under] using this) (by have := under_tm 3 h; simpa [boxU, under] using this)
   have hs1 := fun H => to07 (c155 x1 ho (by omega) (by omega) H)
   have hs2 := fun H => to07 (c155 y1 hh (by omega) (by omega) H)
   have hbl := buildP b l
   have hlen := cellsL_length l
   have hfz := frzCe old h n' m' b (cellsL l)
   obtain ⟨R, hR⟩ : ∃ R, R = extT 32 n' m' true old (l, false) := ⟨_, rfl⟩
   rw [e0 R hR]
   rw [← hR] at hr hs1 hs2
   clear x1 x2 y1 y2 e0 hR
   obtain ⟨⟨x, y⟩, q, f⟩ := R
   unfold prB at hr
   simp only [] at hr hs1 hs2 ⊢
   generalize decide (x.cmp old = 0) = D at hs1 ⊢
   generalize decide (y.cmp h = 0) = D' at hs2 ⊢
   generalize cellsL l = L at hr hbl hlen hfz ⊢
   have h1 : decide ((m' : Int) < 1) = false := by simp; omega
   have h2 : decide ((32 : Int) < (m' : Int)) = false := by simp; omega
   have h3 : decide ((n' : Int) < 1) = false := by simp; omega
   have h4 : decide ((m' : Int) < (n' : Int)) = false := by simp; omega
   have h5 : decide ((32 : Int) < (L.length : Int)) = false := by simp; omega
   obtain ⟨k, nm, s, tb, kids⟩ := old
   obtain ⟨k', nm', s', tb', kids'⟩ := h
   obtain ⟨k2, nm2, s2, tb2, kids2⟩ := x
   obtain ⟨k3, nm3, s3, tb3, kids3⟩ := y
   simp only [Tm.cells] at hr hs1 hs2 hfz ⊢
   cases q with
   | nil =>
     simp only [cellsL] at hr
     cases b' <;> cases f <;> simp only [slV_nil_true, slV_nil_false] at hr <;> cases D <;> cases D'
     all_goals
      refine to70s ?_
      refine κw tOk7 fe89.ok rfl ?_ hfz
      repeat' first | refine κn ?_ | refine κk ?_ | (apply qCl; rfl; rfl; rfl; rfl; first | exact hr | exact hs1 _ | exact hs2 _) | (apply qBd; rfl; rfl; rfl; assumption; exact IsV.aggN) | refine κl ?_ | refine κt ?_ | refine κb ?_ ?_ | refine κg ?_ | refine κa ?_ | refine κf ?_ | intro hb
     all_goals first
      | rfl
      | (exfalso; clear h1 h2 h3 h4 hr hs1 hs2; simp only [decide_eq_true_eq, decide_eq_false_iff_not] at *; omega)
      | (exfalso; clear hbl hfz hr hs1 hs2; simp_all; done)
   | cons c r =>
     simp only [cellsL, slV_cons] at hr
     generalize cellsL r = L' at hr
     generalize c.cells = C at hr
     have h6 : (((L'.length + 1 : Nat) : Int) == 0) = false := by simp; omega
     cases f
     all_goals
      refine to70s ?_
      refine κw tOk7 fe89.ok rfl ?_ hfz
      repeat' first | refine κn ?_ | refine κk ?_ | refine κc hr ?_ | (apply qBd; rfl; rfl; rfl; assumption; exact IsV.aggN) | refine κl ?_ | refine κt ?_ | refine κb ?_ ?_ | refine κg ?_ | refine κa ?_ | refine κf ?_ | intro hb
     all_goals first
      | rfl
      | (exfalso; clear h1 h2 h3 h4 hr hs1 hs2; simp only [decide_eq_true_eq, decide_eq_false_iff_not] at *; omega)
      | (exfalso; clear hbl hfz hr hs1 hs2; simp_all; done)
end Go.Vm.Seat
