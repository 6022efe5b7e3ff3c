/-
  Proofs of an extension as the document checks them; lists of terms, readers and answers that are equal or small. Readers of a service: their validity, in the program and in the document.
-/
import Derived.Test.YtajpkolimokcdaaGreatDoorGd
set_option maxHeartbeats 64000000
set_option maxRecDepth 100000
namespace Go.Vm.Seat
open Go.Proofs
theorem grow_ok {S : Nat} (hS : 1 ≤ S) {old : Tm} (ho : old.Ok) (hos : old.size ≤ S) {n m : Nat} (h1 : 1 ≤ n) (h2 : n ≤ m) (h32 : m ≤ 32) {l : List Tm} (hl : ∀ x, x ∈ l → x.Ok ∧ x.size ≤ S) (hk : (growT 32 old n m true l).2.2 = true) :
  ((growT 32 old n m true l).1.1.Ok ∧ (growT 32 old n m true l).1.1.size ≤ 33 * (S + 4)) ∧ ((growT 32 old n m true l).1.2.Ok ∧ (growT 32 old n m true l).1.2.size ≤ 33 * (S + 4)) := by
 have e := ext_grow 32 n m true old l (by omega) h1 h2
 rw [if_pos hk] at e
 have := ext_okT hS ho hos 32 n m true (p := (l, false)) hl
 rw [e] at this
 exact ⟨this.1, this.2.1⟩
theorem c94 {old h : Tm} (ho : old.Ok) (hos : old.size ≤ 20000) (hh : h.Ok) (hhs : h.size ≤ 20000) {l : List Tm} (hl : ∀ x, x ∈ l → x.Ok ∧ x.size ≤ 20000) (b : Bool) {n m : Int} (hn : (Lit.int .i64 n).wf = true) (hm : (Lit.int .i64 m).wf = true) : ∀ H,
  CallOk E0 Tryz.prog 94 [.agg old.cells, .int .i64 n, .agg h.cells, .int .i64 m, slV b 4 (cellsL l)] H (.bool (ckExtR old n h m l)) H := by
 have hlen := cellsL_length l
 by_cases hC : m < 1 ∨ 32 < m ∨ n < 1 ∨ m < n ∨ 32 < l.length
 · unfold ckExtR
   rw [if_pos hC]
   have hfz := frzCe old h n m b (cellsL l)
   obtain ⟨k, nm, s, tb, kids⟩ := old
   obtain ⟨k', nm', s', tb', kids'⟩ := h
   simp only [Tm.cells] at hfz ⊢
   refine κw tOk fe94.ok rfl ?_ hfz
   repeat' first | refine κn ?_ | refine κk ?_ | refine κl ?_ | refine κt ?_ | refine κb ?_ ?_ | refine κg ?_ | refine κa ?_ | refine κf ?_ | intro hb
   all_goals first
    | rfl
    | (exfalso; simp only [decide_eq_false_iff_not, hlen] at *; omega)
 · obtain ⟨n', rfl⟩ := Int.eq_ofNat_of_zero_le (show 0 ≤ n by omega)
   obtain ⟨m', rfl⟩ := Int.eq_ofNat_of_zero_le (show 0 ≤ m by omega)
   have e0 : ∀ R, R = growT 32 old n' m' true l → ckExtR old n' h m' l = (R.2.2 && R.2.1.isEmpty && decide (R.1.1.cmp old = 0) && decide (R.1.2.cmp h = 0)) := fun R hR => by
    subst hR
    unfold ckExtR
    rw [if_neg hC]
    rfl
   obtain ⟨b', hr⟩ := c161 32 (n := n') (m := m') (by omega) (by omega) (by omega) (by omega) true old l b
   have hk := grow_ok (S := 20000) (by omega) ho hos (n := n') (m := m') (by omega) (by omega) (by omega) hl
   have hfz := frzCe old h n' m' b (cellsL l)
   obtain ⟨R, hR⟩ : ∃ R, R = growT 32 old n' m' true l := ⟨_, rfl⟩
   rw [e0 R hR]
   rw [← hR] at hr hk
   clear e0 hR
   obtain ⟨⟨x, y⟩, q, f⟩ := R
   simp only [growV] at hr hk ⊢
   generalize cellsL l = L at hr hlen hfz ⊢
   have h1 : decide ((m' : Int) < 1) = false := by simp; omega
   have h2 : decide ((32 : Int) < (m' : Int)) = false := by simp; omega
   have h3 : decide ((n' : Int) < 1) = false := by simp; omega
   have h4 : decide ((m' : Int) < (n' : Int)) = false := by simp; omega
   have h5 : decide ((32 : Int) < (L.length : Int)) = false := by simp; omega
   cases f with
   | false =>
     clear hk
     obtain ⟨k, nm, s, tb, kids⟩ := old
     obtain ⟨k', nm', s', tb', kids'⟩ := h
     obtain ⟨k2, nm2, s2, tb2, kids2⟩ := x
     obtain ⟨k3, nm3, s3, tb3, kids3⟩ := y
     simp only [gCells, Tm.cells, List.cons_append, List.nil_append] at hr hfz ⊢
     refine κw tOk fe94.ok rfl ?_ hfz
     repeat' first | refine κn ?_ | refine κk ?_ | refine κc (hr _) ?_ | refine κl ?_ | refine κt ?_ | refine κb ?_ ?_ | refine κg ?_ | refine κa ?_ | refine κf ?_ | intro hb
     all_goals first
      | rfl
      | (exfalso; clear h1 h2 h3 h4 hr; simp only [decide_eq_true_eq, decide_eq_false_iff_not] at *; omega)
   | true =>
     obtain ⟨⟨x1, x2⟩, y1, y2⟩ := hk rfl
     have hs1 := c13 x1 ho (by omega) (by omega)
     have hs2 := c13 y1 hh (by omega) (by omega)
     clear hk x1 x2 y1 y2
     generalize decide (x.cmp old = 0) = D at hs1 ⊢
     generalize decide (y.cmp h = 0) = D' at hs2 ⊢
     obtain ⟨k, nm, s, tb, kids⟩ := old
     obtain ⟨k', nm', s', tb', kids'⟩ := h
     obtain ⟨k2, nm2, s2, tb2, kids2⟩ := x
     obtain ⟨k3, nm3, s3, tb3, kids3⟩ := y
     simp only [gCells, Tm.cells, List.cons_append, List.nil_append] at hr hs1 hs2 hfz ⊢
     cases q with
     | nil =>
       simp only [cellsL] at hr
       cases b' <;> simp only [slV_nil_true, slV_nil_false] at hr <;> cases D <;> cases D'
       all_goals
        refine κw tOk fe94.ok rfl ?_ hfz
        repeat' first | refine κn ?_ | refine κk ?_ | (apply qCl; rfl; rfl; rfl; rfl; first | exact hr _ | exact hs1 _ | exact hs2 _) | refine κl ?_ | refine κt ?_ | refine κb ?_ ?_ | refine κg ?_ | refine κa ?_ | refine κf ?_ | intro hb
       all_goals first
        | rfl
        | (exfalso; clear h1 h2 h3 h4 hr hs1 hs2; simp only [decide_eq_true_eq, decide_eq_false_iff_not] at *; omega)
        | (exfalso; clear hfz hr hs1 hs2; simp_all; done)
     | cons c r =>
       simp only [cellsL, slV_cons] at hr
       generalize cellsL r = L' at hr
       generalize c.cells = C at hr
       have h6 : (((L'.length + 1 : Nat) : Int) == 0) = false := by simp; omega
       refine κw tOk fe94.ok rfl ?_ hfz
       repeat' first | refine κn ?_ | refine κk ?_ | refine κc (hr _) ?_ | refine κl ?_ | refine κt ?_ | refine κb ?_ ?_ | refine κg ?_ | refine κa ?_ | refine κf ?_ | intro hb
       all_goals first
        | rfl
        | (exfalso; clear h1 h2 h3 h4 hr hs1 hs2; simp only [decide_eq_true_eq, decide_eq_false_iff_not] at *; omega)
        | (exfalso; clear hfz hr hs1 hs2; simp_all; done)
def lisB : List Tm → List Tm → Bool
 | [], [] => true
 | x :: r, y :: r' => decide (x.cmp y = 0) && lisB r r'
 | [], _ :: _ => false
 | _ :: _, [] => false
theorem lisB_len : ∀ {l m : List Tm}, l.length ≠ m.length → lisB l m = false
 | [], [], h => absurd rfl h
 | [], _ :: _, _ => rfl
 | _ :: _, [], _ => rfl
 | x :: r, y :: r', h => by
   simp only [lisB, lisB_len (l := r) (m := r') (fun e => h (by simp [e])), Bool.and_false]
theorem c85 {l m : List Tm} (hl : ∀ t, t ∈ l → t.Ok ∧ t.size ≤ 1000000) (hm : ∀ t, t ∈ m → t.Ok ∧ t.size ≤ 1000000) (hll : l.length ≤ 1000000) (b c : Bool) : ∀ H, CallOk E0 Tryz.prog 85 [slV b 4 (cellsL l), slV c 4 (cellsL m)] H (.bool (lisB l m)) H := by
 have h1 := cellsL_length l
 have h2 := cellsL_length m
 refine κw tOk fe85.ok rfl ?_
 repeat' first | refine κn ?_ | refine κl ?_ | refine κt ?_ | refine κb ?_ ?_ | refine κg ?_ | refine κa ?_ | refine κf ?_ | intro hb
 · rw [h1, h2] at hb
   rw [lisB_len (l := l) (m := m) (by intro e; rw [e] at hb; simp at hb)]
 have hlm : l.length = m.length := by
  rw [h1, h2] at hb
  have : (l.length : Int) = m.length := by simpa using hb
  omega
 clear hb
 refine Wp.while (fun k tm H => ∃ (i : Nat) (base : TM), i + k = l.length ∧ lisB l m = lisB (l.drop i) (m.drop i) ∧ tm = ovr base [(0, slV b 4 (cellsL l)), (1, slV c 4 (cellsL m)), (5, .int .i64 (i : Int))] ∧ H = ⟨[], 0, [], 0⟩)
  (fun k tm H hI => ?_) l.length _ _ ⟨0, _, by omega, by simp, ovr_mk ⟨rfl, rfl, rfl, trivial⟩, rfl⟩
 obtain ⟨i, base, hi, hI, rfl, rfl⟩ := hI
 by_cases hlt : i < l.length
 · obtain ⟨t', ht'⟩ : ∃ t', l[i]? = some t' := ⟨l[i], by simp⟩
   obtain ⟨u', hu'⟩ : ∃ u', m[i]? = some u' := ⟨m[i]'(by omega), by simp⟩
   have m1 := hl t' (List.mem_of_getElem? ht')
   have m2 := hm u' (List.mem_of_getElem? hu')
   have hc := c13 m1.1 m2.1 m1.2 m2.2
   rw [drop_cons ht', drop_cons hu'] at hI
   simp only [lisB] at hI
   have hlx : decide ((i : Int) < ((cellsL l).length : Int)) = true := by rw [h1]; simp; omega
   have hlx2 : i < (cellsL l).length := by omega
   have hlx3 : i < (cellsL m).length := by omega
   generalize decide (t'.cmp u' = 0) = D at hc hI
   obtain ⟨k', nm', s', b', kids'⟩ := t'
   obtain ⟨k2, nm2, s2, b2, kids2⟩ := u'
   have hj1 := cellsL_get ht'
   have hj2 := cellsL_get hu'
   simp only [Tm.cells] at hc
   cases D with
   | false =>
     simp only [Bool.false_and] at hI
     rw [hI]
     repeat' first | refine κn ?_ | refine κl ?_ | refine κt ?_ | refine κb ?_ ?_ | refine κg ?_ | refine κd (hc _) ?_ | refine κI ?_ | (apply dT (ty := 4); rfl; rfl; rfl; rfl) | refine κh ?_ | refine κa ?_ | (apply Wp.draw tOk follows; kernel_rfl) | refine κf ?_ | intro hb
     all_goals first
      | rfl
      | (exfalso; rw [h1] at hb; simp at hb; omega)
   | true =>
     simp only [Bool.true_and] at hI
     repeat' first | refine κn ?_ | refine κl ?_ | refine κt ?_ | refine κb ?_ ?_ | refine κg ?_ | refine κd (hc _) ?_ | refine κI ?_ | (apply dF (ty := 4); rfl; rfl; rfl; rfl) | refine κh ?_ | refine κa ?_ | (apply Wp.draw tOk follows; kernel_rfl) | refine κf ?_ | intro hb
     · exact LoopI.go (k - 1) (by omega) ⟨i + 1, _, by omega, hI, ovr_mk ⟨rfl, rfl, int_eq (wrap_nat (n := i + 1) (by omega)), trivial⟩, rfl⟩
     all_goals (exfalso; rw [h1] at hb; simp at hb; omega)
 · have e : i = l.length := by omega
   subst e
   rw [List.drop_length, show m.drop l.length = [] by rw [hlm, List.drop_length]] at hI
   rw [hI]
   repeat' first | refine κn ?_ | refine κl ?_ | refine κt ?_ | refine κb ?_ ?_ | refine κg ?_ | refine κh ?_ | refine κa ?_ | (apply Wp.draw tOk follows; kernel_rfl) | refine κf ?_ | intro hb
   all_goals first
    | rfl
    | (exfalso; rw [h1] at hb; simp at hb)
end Go.Vm.Seat
namespace Go.Vm.Seat
open Go.Proofs
def RdOk (S : Nat) (c : Rd) : Prop := (c.svc.Ok ∧ c.svc.size ≤ S) ∧ (c.head.Ok ∧ c.head.size ≤ S) ∧ c.signed.Ok ∧ c.signed.size ≤ S
theorem lists3 {x y z x' y' z' : Tm} (h : ∀ t, t ∈ [x, y, z] → t.Ok ∧ t.size ≤ 1000000) (h' : ∀ t, t ∈ [x', y', z'] → t.Ok ∧ t.size ≤ 1000000) : ∀ H, CallOk E0 Tryz.prog 85 [.sl .full 4 [x.cells, y.cells, z.cells], .sl .full 4 [x'.cells, y'.cells, z'.cells]] H (.bool (lisB [x, y, z] [x', y', z'])) H := fun H => by
 have := c85 h h' (by simp) true true H
 simp only [cellsL, slV_cons] at this
 exact callOk_frz this rfl
theorem few3 {x y z : Tm} (hx : x.Ok) (hy : y.Ok) (hz : z.Ok) : ∀ H, CallOk E0 Tryz.prog 33 [.sl .full 4 [x.cells, y.cells, z.cells], .int .i64 3, .int .i64 900] H (.bool (fewF [x, y, z] 3 900)) H := fun H => by
 have := c33 (l := [x, y, z]) (by
  intro t ht
  rcases (by simpa using ht : t = x ∨ t = y ∨ t = z) with rfl | rfl | rfl
  · exact hx
  · exact hy
  · exact hz) (by unfold maxLen; simp) true (n := 3) (most := 900) (by decide) (by decide) H
 simp only [cellsL, slV_cons] at this
 exact callOk_frz this rfl
def sameRd (x y : Rd) : Bool := decide (x.size = y.size) && lisB [x.svc, x.head, x.signed] [y.svc, y.head, y.signed]
theorem c27 {x y : Rd} (hx : RdOk 1000000 x) (hy : RdOk 1000000 y) : ∀ H, CallOk E0 Tryz.prog 27 [.agg x.cells, .agg y.cells] H (.bool (sameRd x y)) H := by
 have hL := lists3 (x := x.svc) (y := x.head) (z := x.signed) (x' := y.svc) (y' := y.head) (z' := y.signed) (by simpa [RdOk] using hx) (by simpa [RdOk] using hy)
 unfold sameRd
 generalize lisB [x.svc, x.head, x.signed] [y.svc, y.head, y.signed] = D at hL ⊢
 clear hx hy
 obtain ⟨⟨k1, nm1, s1, b1, kids1⟩, n, ⟨k2, nm2, s2, b2, kids2⟩, k3, nm3, s3, b3, kids3⟩ := x
 obtain ⟨⟨k4, nm4, s4, b4, kids4⟩, n', ⟨k5, nm5, s5, b5, kids5⟩, k6, nm6, s6, b6, kids6⟩ := y
 simp only [Rd.cells, Tm.cells, List.cons_append, List.nil_append] at hL ⊢
 by_cases hn : n = n'
 · have he := eql0_t hn
   rw [decide_eq_true hn]
   refine κw tOk fe27.ok rfl ?_
   repeat' first | refine κn ?_ | refine κc (hL _) ?_ | refine κs ?_ | refine κi ?_ | refine κt ?_ | refine κg ?_ | refine κa ?_ | refine κf ?_ | fail
   all_goals rfl
 · have he := eql0_f hn
   rw [decide_eq_false hn]
   refine κw tOk fe27.ok rfl ?_
   repeat' first | refine κn ?_ | refine κk ?_ | refine κi ?_ | refine κt ?_ | refine κg ?_ | refine κa ?_ | refine κf ?_ | fail
   all_goals rfl
theorem c29 {x : Rd} (h1 : x.svc.Ok) (h2 : x.head.Ok) (h3 : x.signed.Ok) : ∀ H, CallOk E0 Tryz.prog 29 [.agg x.cells] H (.bool (fewF [x.svc, x.head, x.signed] 3 900)) H := by
 have hF := few3 h1 h2 h3
 generalize fewF [x.svc, x.head, x.signed] 3 900 = D at hF ⊢
 clear h1 h2 h3
 obtain ⟨⟨k1, nm1, s1, b1, kids1⟩, n, ⟨k2, nm2, s2, b2, kids2⟩, k3, nm3, s3, b3, kids3⟩ := x
 simp only [Rd.cells, Tm.cells, List.cons_append, List.nil_append] at hF ⊢
 refine κw tOk fe29.ok rfl ?_
 repeat' first | refine κn ?_ | refine κc (hF _) ?_ | refine κs ?_ | refine κt ?_ | refine κg ?_ | refine κa ?_ | refine κf ?_ | fail
 all_goals rfl
def fewAn (a : An) : Bool := decide (a.name.length ≤ 100) && (fewF [a.entry, a.head, a.signed] 3 900 && (fewF a.incl 40 900 && fewF a.ext 40 900))
structure AnOk (a : An) : Prop where
 e : a.entry.Ok
 h : a.head.Ok
 s : a.signed.Ok
 i : ∀ t, t ∈ a.incl → t.Ok
 x : ∀ t, t ∈ a.ext → t.Ok
 il : a.incl.length ≤ maxLen
 xl : a.ext.length ≤ maxLen
theorem c30 {a : An} (h : AnOk a) : ∀ H, CallOk E0 Tryz.prog 30 [.agg a.cells] H (.bool (fewAn a)) H := by
 have h1 := few3 h.e h.h h.s
 have h2 := c33 h.i h.il a.ib (n := 40) (most := 900) (by decide) (by decide)
 have h3 := c33 h.x h.xl a.eb (n := 40) (most := 900) (by decide) (by decide)
 clear h
 unfold fewAn
 generalize fewF [a.entry, a.head, a.signed] 3 900 = D1 at h1 ⊢
 generalize fewF a.incl 40 900 = D2 at h2 ⊢
 generalize fewF a.ext 40 900 = D3 at h3 ⊢
 obtain ⟨name, ⟨k1, nm1, s1, b1, kids1⟩, ai, n, ⟨k2, nm2, s2, b2, kids2⟩, ⟨k3, nm3, s3, b3, kids3⟩, ib, incl, eb, ext⟩ := a
 simp only [An.cells, Tm.cells, List.cons_append, List.nil_append] at h1 h2 h3 ⊢
 by_cases hn : name.length ≤ 100
 · have he := leq0_t (a := (name.length : Int)) (b := 100) (by omega)
   rw [decide_eq_true hn]
   refine κw tOk fe30.ok rfl ?_
   repeat' first | refine κn ?_ | refine κk ?_ | (apply qCl; rfl; rfl; rfl; rfl; first | exact h1 _ | exact h2 _ | exact h3 _) | refine κs ?_ | refine κi ?_ | refine κt ?_ | refine κb ?_ ?_ | refine κg ?_ | refine κa ?_ | refine κf ?_ | intro hb
   all_goals (subst_vars; rfl)
 · have he := leq0_f (a := (name.length : Int)) (b := 100) (by omega)
   rw [decide_eq_false hn]
   refine κw tOk fe30.ok rfl ?_
   repeat' first | refine κn ?_ | refine κk ?_ | refine κi ?_ | refine κt ?_ | refine κg ?_ | refine κa ?_ | refine κf ?_ | fail
   all_goals rfl
theorem zeroB_cells (k : Int) (nm : Bs) (s : Int) (b : Bool) (kids : List Tm) : zeroB (.mk k nm s b kids) = (decide (k = 0) && (decide (nm = []) && (decide (s = 0) && decide (kids.length = 0)))) := by
 unfold zeroB
 cases kids <;> cases nm <;> simp
 all_goals (by_cases h1 : k = 0 <;> by_cases h2 : s = 0 <;> simp [h1, h2])
theorem eqlS_t {a b : Bs} (h : a = b) : aBin E0 .eql 9 (.str a) (.str b) = some (.bool true) := by
 show some (PV.bool (a == b)) = _
 rw [h, beq_self_eq_true]
theorem eqlS_f {a b : Bs} (h : a ≠ b) : aBin E0 .eql 9 (.str a) (.str b) = some (.bool false) := by
 show some (PV.bool (a == b)) = _
 rw [beq_eq_false_iff_ne.2 h]
theorem neq0_t {a b : Int} (h : a ≠ b) : aBin E0 .neq 3 (.int .i64 a) (.int .i64 b) = some (.bool true) := by
 show some (PV.bool (!(a == b))) = _
 rw [beq_eq_false_iff_ne.2 h]
 rfl
theorem neqS_t {a b : Bs} (h : a ≠ b) : aBin E0 .neq 9 (.str a) (.str b) = some (.bool true) := by
 show some (PV.bool (!(a == b))) = _
 rw [beq_eq_false_iff_ne.2 h]
 rfl
theorem eqlL (l : List Tm) : aBin E0 .eql 3 (.int .i64 ((cellsL l).length : Int)) (.int .i64 0) = some (.bool (decide (l.length = 0))) := by
 show some (PV.bool (((cellsL l).length : Int) == 0)) = _
 rw [cellsL_length]
 congr 2
 rw [Bool.eq_iff_iff]
 simp
theorem zeroP (t : Tm) : ∀ H, CallOk E0 Tryz.prog 153 [.agg t.cells] H (.bool (zeroB t)) H := by
 obtain ⟨k, nm, s, b, kids⟩ := t
 rw [zeroB_cells]
 have hl := eqlL kids
 simp only [Tm.cells]
 generalize decide (kids.length = 0) = D at hl ⊢
 by_cases h1 : k = 0
 · rw [decide_eq_true h1]
   have e1 := eql0_t h1
   by_cases h2 : nm = []
   · rw [decide_eq_true h2]
     have e2 := eqlS_t h2
     by_cases h3 : s = 0
     · rw [decide_eq_true h3]
       have e3 := eql0_t h3
       clear h1 h2 h3
       refine κw tOk fe153.ok rfl ?_
       repeat' first | refine κn ?_ | refine κi ?_ | refine κl ?_ | refine κt ?_ | refine κg ?_ | refine κa ?_ | refine κf ?_ | fail
       all_goals rfl
     · rw [decide_eq_false h3]
       have e3 := eql0_f h3
       refine κw tOk fe153.ok rfl ?_
       repeat' first | refine κn ?_ | refine κk ?_ | refine κi ?_ | refine κt ?_ | refine κg ?_ | refine κa ?_ | refine κf ?_ | fail
       all_goals rfl
   · rw [decide_eq_false h2]
     have e2 := eqlS_f h2
     refine κw tOk fe153.ok rfl ?_
     repeat' first | refine κn ?_ | refine κk ?_ | refine κi ?_ | refine κt ?_ | refine κg ?_ | refine κa ?_ | refine κf ?_ | fail
     all_goals rfl
 · rw [decide_eq_false h1]
   have e1 := eql0_f h1
   refine κw tOk fe153.ok rfl ?_
   repeat' first | refine κn ?_ | refine κk ?_ | refine κi ?_ | refine κt ?_ | refine κg ?_ | refine κa ?_ | refine κf ?_ | fail
   all_goals rfl
theorem zeroR (t : Tm) : ∀ H, CallOk E0 Tryz.prog 157 [.agg t.cells] H (.bool (zeroB t)) H := by
 obtain ⟨k, nm, s, b, kids⟩ := t
 rw [zeroB_cells]
 have hl := eqlL kids
 simp only [Tm.cells]
 generalize decide (kids.length = 0) = D at hl ⊢
 by_cases h1 : k = 0
 · rw [decide_eq_true h1]
   have e1 := eql0_t h1
   by_cases h2 : nm = []
   · rw [decide_eq_true h2]
     have e2 := eqlS_t h2
     by_cases h3 : s = 0
     · rw [decide_eq_true h3]
       have e3 := eql0_t h3
       clear h1 h2 h3
       refine κw tOk fe157.ok rfl ?_
       repeat' first | refine κn ?_ | refine κi ?_ | refine κl ?_ | refine κt ?_ | refine κg ?_ | refine κa ?_ | refine κf ?_ | fail
       all_goals rfl
     · rw [decide_eq_false h3]
       have e3 := eql0_f h3
       refine κw tOk fe157.ok rfl ?_
       repeat' first | refine κn ?_ | refine κk ?_ | refine κi ?_ | refine κt ?_ | refine κg ?_ | refine κa ?_ | refine κf ?_ | fail
       all_goals rfl
   · rw [decide_eq_false h2]
     have e2 := eqlS_f h2
     refine κw tOk fe157.ok rfl ?_
     repeat' first | refine κn ?_ | refine κk ?_ | refine κi ?_ | refine κt ?_ | refine κg ?_ | refine κa ?_ | refine κf ?_ | fail
     all_goals rfl
 · rw [decide_eq_false h1]
   have e1 := eql0_f h1
   refine κw tOk fe157.ok rfl ?_
   repeat' first | refine κn ?_ | refine κk ?_ | refine κi ?_ | refine κt ?_ | refine κg ?_ | refine κa ?_ | refine κf ?_ | fail
   all_goals rfl
end Go.Vm.Seat
