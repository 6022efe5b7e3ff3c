/-
  Moments of some kinds, traces that are the same, small traces; the statement's function of EventParts.
-/
import Derived.Test.YtgmafijeepapbaaGreatDoorEp
namespace Go.Vm.Seat
open Go.Proofs
set_option maxRecDepth 100000

/-- Where a number stands in a list. -/
def idxI (v : Int) : List Int → Nat → Int
  | [], _ => -1
  | k :: r, i => if v = k then (i : Int) else idxI v r (i + 1)
theorem idxI_iff (v : Int) : ∀ (l : List Int) (i : Nat), 0 ≤ idxI v l i ↔ l.any (fun k => decide (k = v)) = true
  | [], i => by simp [idxI]
  | k :: r, i => by
    simp only [idxI, List.any_cons, Bool.or_eq_true, decide_eq_true_eq]
    by_cases h : v = k
    · subst h; simp
    · have : ¬ k = v := fun e => h e.symm
      simp only [if_neg h, idxI_iff v r (i + 1), this, false_or]
theorem idxI_any (v : Int) (l : List Int) (i : Nat) : l.any (fun k => decide (k = v)) = decide (0 ≤ idxI v l i) := by
  rw [Bool.eq_iff_iff, ← idxI_iff v l i, decide_eq_true_eq]

set_option maxHeartbeats 2000000 in
theorem c74 {l : List Int} (hl : l.length ≤ 1000) (v : Int) (b : Bool) :
    ∀ H, CallOk E0 Tryz.prog 74 [slV b 1 (intC l), .int .i64 v] H (.int .i64 (idxI v l 0)) H := by
  refine callOk_wp (own := fun _ => false) tOk fe74.ok (by simp only [frzGL, frzG_slV]; rfl) rfl ?_
  refine Wp.seq ?_
  repeat' first
    | apply RegQ.nil
    | (apply qBi; rfl; rfl; rfl; rfl; assumption; exact IsV.any _)
    | (apply qIa; rfl; rfl; rfl; rfl; assumption; exact IsV.any _)
    | (apply qLn; rfl; rfl; rfl; rfl; rfl)
    | (apply qIx; rfl; rfl; rfl; rfl; rfl; rfl; rfl; rfl; assumption)
    | (apply qT (ty := 4); rfl; rfl; rfl)
    | (apply qF (ty := 4); rfl; rfl; rfl)
    | (apply qB (ty := 4); rfl; rfl; rfl)
    | (apply qT (ty := 0); rfl; rfl; rfl)
    | (apply qF (ty := 0); rfl; rfl; rfl)
    | (apply qB (ty := 0); rfl; rfl; rfl)
    | (apply g0; rfl; rfl; rfl; exact IsV.n)
    | (apply g1; rfl; rfl; rfl; exact IsV.n; exact IsH.mkN)
    | intro hb
    | apply Wp.seq
    | apply SeqQ.go
    | apply Wp.region
    | (apply Wp.condT; rfl)
    | (apply Wp.condF; rfl)
    | apply Wp.skip
    | apply Wp.ret
    | apply Wp.exit
    | apply Wp.block
    | apply SeqQ.ret
    | apply SeqQ.exit
    | apply BlockQ.go
    | apply BlockQ.ret
    | (apply BlockQ.hit; rfl)
    | (apply BlockQ.miss; rfl)
    | apply LoopI.ret
    | apply LoopI.exit
    | apply DropQ.ret
    | apply DropQ.exit
    | (apply rInt; rfl; rfl)
    | (apply rBool; rfl; rfl)
    | (apply rFin; rfl; exact IsL.n)
    | (apply mFin; rfl; exact IsL.n)
  refine Wp.while (fun m tm H => ∃ (i : Nat) (base : TM), i + m = l.length ∧ idxI v l 0 = idxI v (l.drop i) i ∧
      tm = ovr base [(0, slV b 1 (intC l)), (1, .int .i64 v), (7, .int .i64 (l.length : Int)), (8, .int .i64 (i : Int))] ∧ H = hNil)
    (fun m tm H hI => ?_) l.length _ _ ⟨0, _, by omega, by simp, ovr_mk ⟨rfl, rfl, int_eq (by rw [intC_len]), rfl, trivial⟩, rfl⟩
  obtain ⟨i, base, hi, hx, rfl, rfl⟩ := hI
  by_cases hlt : i < l.length
  · obtain ⟨x, hk⟩ : ∃ x, l[i]? = some x := ⟨l[i], by simp⟩
    have hj := intC_get hk
    rw [drop_cons hk] at hx
    simp only [idxI] at hx
    repeat' first
      | apply RegQ.nil
      | (apply qBi; rfl; rfl; rfl; rfl; assumption; exact IsV.any _)
      | (apply qIa; rfl; rfl; rfl; rfl; assumption; exact IsV.any _)
      | (apply qLn; rfl; rfl; rfl; rfl; rfl)
      | (apply qIx; rfl; rfl; rfl; rfl; rfl; rfl; rfl; rfl; assumption)
      | (apply qT (ty := 4); rfl; rfl; rfl)
      | (apply qF (ty := 4); rfl; rfl; rfl)
      | (apply qB (ty := 4); rfl; rfl; rfl)
      | (apply qT (ty := 0); rfl; rfl; rfl)
      | (apply qF (ty := 0); rfl; rfl; rfl)
      | (apply qB (ty := 0); rfl; rfl; rfl)
      | (apply g0; rfl; rfl; rfl; exact IsV.n)
      | (apply g1; rfl; rfl; rfl; exact IsV.n; exact IsH.mkN)
      | intro hb
      | apply Wp.seq
      | apply SeqQ.go
      | apply Wp.region
      | (apply Wp.condT; rfl)
      | (apply Wp.condF; rfl)
      | apply Wp.skip
      | apply Wp.ret
      | apply Wp.exit
      | apply Wp.block
      | apply SeqQ.ret
      | apply SeqQ.exit
      | apply BlockQ.go
      | apply BlockQ.ret
      | (apply BlockQ.hit; rfl)
      | (apply BlockQ.miss; rfl)
      | apply LoopI.ret
      | apply LoopI.exit
      | apply DropQ.ret
      | apply DropQ.exit
      | (apply rInt; rfl; rfl)
      | (apply rBool; rfl; rfl)
      | (apply rFin; rfl; exact IsL.n)
      | (apply mFin; rfl; exact IsL.n)
    · simp at hb
      rw [if_pos hb] at hx
      exact int_eq hx.symm
    · simp at hb
      rw [if_neg hb] at hx
      exact LoopI.go (m - 1) (by omega) ⟨i + 1, _, by omega, hx, ovr_mk ⟨rfl, rfl, rfl, int_eq (wrap_nat (n := i + 1) (by omega)), trivial⟩, rfl⟩
    · simp at hb <;> omega
  · have e : i = l.length := by omega
    subst e
    repeat' first
      | apply RegQ.nil
      | (apply qBi; rfl; rfl; rfl; rfl; assumption; exact IsV.any _)
      | (apply qIa; rfl; rfl; rfl; rfl; assumption; exact IsV.any _)
      | (apply qLn; rfl; rfl; rfl; rfl; rfl)
      | (apply qIx; rfl; rfl; rfl; rfl; rfl; rfl; rfl; rfl; assumption)
      | (apply qT (ty := 4); rfl; rfl; rfl)
      | (apply qF (ty := 4); rfl; rfl; rfl)
      | (apply qB (ty := 4); rfl; rfl; rfl)
      | (apply qT (ty := 0); rfl; rfl; rfl)
      | (apply qF (ty := 0); rfl; rfl; rfl)
      | (apply qB (ty := 0); rfl; rfl; rfl)
      | (apply g0; rfl; rfl; rfl; exact IsV.n)
      | (apply g1; rfl; rfl; rfl; exact IsV.n; exact IsH.mkN)
      | intro hb
      | apply Wp.seq
      | apply SeqQ.go
      | apply Wp.region
      | (apply Wp.condT; rfl)
      | (apply Wp.condF; rfl)
      | apply Wp.skip
      | apply Wp.ret
      | apply Wp.exit
      | apply Wp.block
      | apply SeqQ.ret
      | apply SeqQ.exit
      | apply BlockQ.go
      | apply BlockQ.ret
      | (apply BlockQ.hit; rfl)
      | (apply BlockQ.miss; rfl)
      | apply LoopI.ret
      | apply LoopI.exit
      | apply DropQ.ret
      | apply DropQ.exit
      | (apply rInt; rfl; rfl)
      | (apply rBool; rfl; rfl)
      | (apply rFin; rfl; exact IsL.n)
      | (apply mFin; rfl; exact IsL.n)
    · simp at hb
    · rw [hx]; simp [idxI]

theorem c40 {l : List Int} (hl : l.length ≤ 1000) (v : Int) (b : Bool) :
    ∀ H, CallOk E0 Tryz.prog 40 [slV b 1 (intC l), .int .i64 v] H (.bool (l.any (fun k => decide (k = v)))) H := by
  have hc := c74 hl v b
  rw [idxI_any v l 0]
  refine callOk_wp (own := fun _ => false) tOk fe40.ok (by simp only [frzGL, frzG_slV]; rfl) rfl ?_
  refine Wp.seq ?_
  repeat' first
    | apply RegQ.nil
    | (apply qCl; rfl; rfl; rfl; rfl; exact hc _)
    | (apply qT (ty := 4); rfl; rfl; rfl)
    | (apply qF (ty := 4); rfl; rfl; rfl)
    | (apply qB (ty := 4); rfl; rfl; rfl)
    | (apply g0; rfl; rfl; rfl; exact IsV.n)
    | (apply g1; rfl; rfl; rfl; exact IsV.n; exact IsH.mkN)
    | intro hb
    | apply Wp.seq
    | apply SeqQ.go
    | apply Wp.region
    | (apply Wp.condT; rfl)
    | (apply Wp.condF; rfl)
    | apply Wp.skip
    | apply Wp.ret
    | apply Wp.exit
    | apply Wp.block
    | apply SeqQ.ret
    | apply SeqQ.exit
    | apply BlockQ.go
    | apply BlockQ.ret
    | (apply BlockQ.hit; rfl)
    | (apply BlockQ.miss; rfl)
    | apply LoopI.ret
    | apply LoopI.exit
    | apply DropQ.ret
    | apply DropQ.exit
    | (apply rInt; rfl; rfl)
    | (apply rBool; rfl; rfl)
    | (apply rFin; rfl; exact IsL.n)
    | (apply mFin; rfl; exact IsL.n)
  all_goals first
    | rfl
    | (rw [hb]; done)
    | (simp_all; done)

theorem kinds_snoc {ks : List Int} {l : List Mo} {i : Nat} {x : Mo} (h : l[i]? = some x) : kindsF ks (l.take (i + 1)) = kindsF ks (l.take i) ++ (if ks.any (fun k => decide (k = x.kind)) = true then [x] else []) := by
  simp only [kindsF, List.take_add_one, h, Option.toList_some, List.filter_append, List.filter_cons, List.filter_nil]
theorem kinds_len (ks : List Int) (l : List Mo) : (kindsF ks l).length ≤ l.length := List.length_filter_le _ _

set_option maxHeartbeats 2000000 in
theorem c18 {l : List Mo} (hl : l.length ≤ 420) {ks : List Int} (hk : ks.length ≤ 1000) (b b' : Bool) :
    ∀ H, CallOk E0 Tryz.prog 18 [slV b 6 (moC l), slV b' 1 (intC ks)] H (slV true 6 (moC (kindsF ks l))) H := by
  refine callOk_wp (own := fun _ => false) tOk fe18.ok (by simp only [frzGL, frzG_slV]) (frz3_slV _ _ _ _ _) ?_
  refine Wp.seq ?_
  repeat' first
    | apply RegQ.nil
    | (apply qBs; rfl; rfl; rfl; rfl; exact IsLL.n; (first | rfl | (simp only [frzLL, frzL, frz1_slV]; rfl)))
    | (apply qAp; rfl; rfl; rfl; rfl; rfl; (first | assumption | solve_by_elim))
    | (apply qBi; rfl; rfl; rfl; rfl; assumption; exact IsV.any _)
    | (apply qIa; rfl; rfl; rfl; rfl; assumption; exact IsV.any _)
    | (apply qLn; rfl; rfl; rfl; rfl; rfl)
    | (apply qIx; rfl; rfl; rfl; rfl; rfl; rfl; rfl; rfl; assumption)
    | (apply qT (ty := 4); rfl; rfl; rfl)
    | (apply qF (ty := 4); rfl; rfl; rfl)
    | (apply qB (ty := 4); rfl; rfl; rfl)
    | (apply qT (ty := 0); rfl; rfl; rfl)
    | (apply qF (ty := 0); rfl; rfl; rfl)
    | (apply qB (ty := 0); rfl; rfl; rfl)
    | (apply g0; rfl; rfl; rfl; exact IsV.n)
    | (apply g1; rfl; rfl; rfl; exact IsV.n; exact IsH.mkN)
    | (apply qSt; rfl; rfl; rfl; exact IsL.n; rfl; (first | rfl | assumption | (simp only [List.all_cons, List.all_nil, cellOk_slV, Bool.and_true]; rfl)); (first | rfl | assumption); exact IsH.mkN)
    | intro hb
    | apply Wp.seq
    | apply SeqQ.go
    | apply Wp.region
    | (apply Wp.condT; rfl)
    | (apply Wp.condF; rfl)
    | apply Wp.skip
    | apply Wp.ret
    | apply Wp.exit
    | apply Wp.block
    | apply SeqQ.ret
    | apply SeqQ.exit
    | apply BlockQ.go
    | apply BlockQ.ret
    | (apply BlockQ.hit; rfl)
    | (apply BlockQ.miss; rfl)
    | apply LoopI.ret
    | apply LoopI.exit
    | apply DropQ.ret
    | apply DropQ.exit
    | (apply rInt; rfl; rfl)
    | (apply rBool; rfl; rfl)
    | (apply rFin; rfl; exact IsL.n)
    | (apply mFin; rfl; exact IsL.n)
  refine Wp.while (fun m tm H => ∃ (i : Nat) (base : TM) (out : PV) (lv : List Nat) (nt : Nat), i + m = l.length ∧ ApV true 6 (moC (kindsF ks (l.take i))) out lv nt ∧
      tm = ovr base [(1, slV b' 1 (intC ks)), (5, out), (8, slV b 6 (moC l)), (9, .int .i64 (l.length : Int)), (10, .int .i64 (i : Int))] ∧ H = ⟨[], 0, lv, nt⟩)
    (fun m tm H hI => Wp.drop ?_) l.length _ _ ⟨0, _, _, _, _, by omega, .nil _ _ rfl, ovr_mk ⟨rfl, rfl, rfl, int_eq (by rw [moC_len]), rfl, trivial⟩, rfl⟩
  obtain ⟨i, base, out, lv, nt, hi, hA, rfl, rfl⟩ := hI
  by_cases hlt : i < l.length
  · obtain ⟨x, hx⟩ : ∃ x, l[i]? = some x := ⟨l[i], by simp⟩
    have hs := kinds_snoc (ks := ks) hx
    have hsl := kinds_len ks (l.take i)
    rw [List.length_take] at hsl
    obtain ⟨out', lv', nt', hap, hA', -⟩ := hA.app apT_mo (.sl .full 6 (moC [x])) (moC_ok _) (fits_of (by simp only [moC_len, List.length_cons, List.length_nil]; omega) (by decide)) (noB_moC _)
    rw [← moC_append] at hA'
    have hj := moC_get hx
    have hc := c40 hk x.kind b'
    obtain ⟨S, hS⟩ : ∃ S, S = ks.any (fun k => decide (k = x.kind)) := ⟨_, rfl⟩
    rw [← hS] at hc hs
    obtain ⟨kd, nu, ro, an, ag, go, tn, te⟩ := x
    simp only [Mo.cells] at hj hs hc
    rw [moC_one] at hap
    cases S with
    | true =>
      repeat' first
        | apply RegQ.nil
        | (apply qCl; rfl; rfl; rfl; rfl; exact hc _)
        | (apply qBs; rfl; rfl; rfl; rfl; exact IsLL.n; (first | rfl | (simp only [frzLL, frzL, frz1_slV]; rfl)))
        | (apply qAp; rfl; rfl; rfl; rfl; rfl; (first | assumption | solve_by_elim))
        | (apply qBi; rfl; rfl; rfl; rfl; assumption; exact IsV.any _)
        | (apply qIa; rfl; rfl; rfl; rfl; assumption; exact IsV.any _)
        | (apply qLn; rfl; rfl; rfl; rfl; rfl)
        | (apply qIx; rfl; rfl; rfl; rfl; rfl; rfl; rfl; rfl; assumption)
        | (apply qT (ty := 4); rfl; rfl; rfl)
        | (apply qF (ty := 4); rfl; rfl; rfl)
        | (apply qB (ty := 4); rfl; rfl; rfl)
        | (apply qT (ty := 0); rfl; rfl; rfl)
        | (apply qF (ty := 0); rfl; rfl; rfl)
        | (apply qB (ty := 0); rfl; rfl; rfl)
        | (apply g0; rfl; rfl; rfl; exact IsV.n)
        | (apply g1; rfl; rfl; rfl; exact IsV.n; exact IsH.mkN)
        | (apply qSt; rfl; rfl; rfl; exact IsL.n; rfl; (first | rfl | assumption | (simp only [List.all_cons, List.all_nil, cellOk_slV, Bool.and_true]; rfl)); (first | rfl | assumption); exact IsH.mkN)
        | intro hb
        | apply Wp.seq
        | apply SeqQ.go
        | apply Wp.region
        | (apply Wp.condT; rfl)
        | (apply Wp.condF; rfl)
        | apply Wp.skip
        | apply Wp.ret
        | apply Wp.exit
        | apply Wp.block
        | apply SeqQ.ret
        | apply SeqQ.exit
        | apply BlockQ.go
        | apply BlockQ.ret
        | (apply BlockQ.hit; rfl)
        | (apply BlockQ.miss; rfl)
        | apply LoopI.ret
        | apply LoopI.exit
        | apply DropQ.ret
        | apply DropQ.exit
        | (apply rInt; rfl; rfl)
        | (apply rBool; rfl; rfl)
        | (apply rFin; rfl; exact IsL.n)
        | (apply mFin; rfl; exact IsL.n)
      · rw [if_pos rfl] at hs
        exact DropQ.go [(1, slV b' 1 (intC ks)), (5, out'), (8, slV b 6 (moC l)), (9, .int .i64 (l.length : Int)), (10, .int .i64 ((i + 1 : Nat) : Int))] ⟨rfl, rfl, rfl, rfl, int_eq (wrap_nat (n := i + 1) (by omega)), trivial⟩
          (by simp [hA'.under, under_slV, under]) rfl rfl (LoopI.go (m - 1) (by omega) ⟨i + 1, _, out', lv', nt', by omega, by rw [hs]; exact hA', rfl, rfl⟩)
      · exfalso; simp at hb <;> omega
    | false =>
      repeat' first
        | apply RegQ.nil
        | (apply qCl; rfl; rfl; rfl; rfl; exact hc _)
        | (apply qBs; rfl; rfl; rfl; rfl; exact IsLL.n; (first | rfl | (simp only [frzLL, frzL, frz1_slV]; rfl)))
        | (apply qAp; rfl; rfl; rfl; rfl; rfl; (first | assumption | solve_by_elim))
        | (apply qBi; rfl; rfl; rfl; rfl; assumption; exact IsV.any _)
        | (apply qIa; rfl; rfl; rfl; rfl; assumption; exact IsV.any _)
        | (apply qLn; rfl; rfl; rfl; rfl; rfl)
        | (apply qIx; rfl; rfl; rfl; rfl; rfl; rfl; rfl; rfl; assumption)
        | (apply qT (ty := 4); rfl; rfl; rfl)
        | (apply qF (ty := 4); rfl; rfl; rfl)
        | (apply qB (ty := 4); rfl; rfl; rfl)
        | (apply qT (ty := 0); rfl; rfl; rfl)
        | (apply qF (ty := 0); rfl; rfl; rfl)
        | (apply qB (ty := 0); rfl; rfl; rfl)
        | (apply g0; rfl; rfl; rfl; exact IsV.n)
        | (apply g1; rfl; rfl; rfl; exact IsV.n; exact IsH.mkN)
        | (apply qSt; rfl; rfl; rfl; exact IsL.n; rfl; (first | rfl | assumption | (simp only [List.all_cons, List.all_nil, cellOk_slV, Bool.and_true]; rfl)); (first | rfl | assumption); exact IsH.mkN)
        | intro hb
        | apply Wp.seq
        | apply SeqQ.go
        | apply Wp.region
        | (apply Wp.condT; rfl)
        | (apply Wp.condF; rfl)
        | apply Wp.skip
        | apply Wp.ret
        | apply Wp.exit
        | apply Wp.block
        | apply SeqQ.ret
        | apply SeqQ.exit
        | apply BlockQ.go
        | apply BlockQ.ret
        | (apply BlockQ.hit; rfl)
        | (apply BlockQ.miss; rfl)
        | apply LoopI.ret
        | apply LoopI.exit
        | apply DropQ.ret
        | apply DropQ.exit
        | (apply rInt; rfl; rfl)
        | (apply rBool; rfl; rfl)
        | (apply rFin; rfl; exact IsL.n)
        | (apply mFin; rfl; exact IsL.n)
      · rw [if_neg (by simp), List.append_nil] at hs
        exact DropQ.go [(1, slV b' 1 (intC ks)), (5, out), (8, slV b 6 (moC l)), (9, .int .i64 (l.length : Int)), (10, .int .i64 ((i + 1 : Nat) : Int))] ⟨rfl, rfl, rfl, rfl, int_eq (wrap_nat (n := i + 1) (by omega)), trivial⟩
          (by simp [hA.under, under_slV, under]) rfl rfl (LoopI.go (m - 1) (by omega) ⟨i + 1, _, out, lv, nt, by omega, by rw [hs]; exact hA, rfl, rfl⟩)
      · exfalso; simp at hb <;> omega
  · have e : i = l.length := by omega
    subst e
    rw [List.take_length] at hA
    repeat' first
      | apply RegQ.nil
      | (apply qBs; rfl; rfl; rfl; rfl; exact IsLL.n; (first | rfl | (simp only [frzLL, frzL, frz1_slV]; rfl)))
      | (apply qAp; rfl; rfl; rfl; rfl; rfl; (first | assumption | solve_by_elim))
      | (apply qBi; rfl; rfl; rfl; rfl; assumption; exact IsV.any _)
      | (apply qIa; rfl; rfl; rfl; rfl; assumption; exact IsV.any _)
      | (apply qLn; rfl; rfl; rfl; rfl; rfl)
      | (apply qIx; rfl; rfl; rfl; rfl; rfl; rfl; rfl; rfl; assumption)
      | (apply qT (ty := 4); rfl; rfl; rfl)
      | (apply qF (ty := 4); rfl; rfl; rfl)
      | (apply qB (ty := 4); rfl; rfl; rfl)
      | (apply qT (ty := 0); rfl; rfl; rfl)
      | (apply qF (ty := 0); rfl; rfl; rfl)
      | (apply qB (ty := 0); rfl; rfl; rfl)
      | (apply g0; rfl; rfl; rfl; exact IsV.n)
      | (apply g1; rfl; rfl; rfl; exact IsV.n; exact IsH.mkN)
      | (apply qSt; rfl; rfl; rfl; exact IsL.n; rfl; (first | rfl | assumption | (simp only [List.all_cons, List.all_nil, cellOk_slV, Bool.and_true]; rfl)); (first | rfl | assumption); exact IsH.mkN)
      | intro hb
      | apply Wp.seq
      | apply SeqQ.go
      | apply Wp.region
      | (apply Wp.condT; rfl)
      | (apply Wp.condF; rfl)
      | apply Wp.skip
      | apply Wp.ret
      | apply Wp.exit
      | apply Wp.block
      | apply SeqQ.ret
      | apply SeqQ.exit
      | apply BlockQ.go
      | apply BlockQ.ret
      | (apply BlockQ.hit; rfl)
      | (apply BlockQ.miss; rfl)
      | apply LoopI.ret
      | apply LoopI.exit
      | apply DropQ.ret
      | apply DropQ.exit
      | (apply rInt; rfl; rfl)
      | (apply rBool; rfl; rfl)
      | (apply rFin; rfl; exact IsL.n)
      | (apply mFin; rfl; exact IsL.n)
    · simp at hb
    · exact hA.frz3 _ _

set_option maxHeartbeats 4000000 in
theorem c19 {l : List Mo} (hl : l.length ≤ 420) {ks : List Int} (hk : ks.length ≤ 1000) (b b' : Bool) :
    ∀ H, CallOk E0 Tryz.prog 19 [slV b 6 (moC l), slV b' 1 (intC ks)] H (slV true 6 (moC (kindsF ks l))) H := by
  refine callOk_wp (own := fun _ => false) tOk fe19.ok (by simp only [frzGL, frzG_slV]) (frz3_slV _ _ _ _ _) ?_
  refine Wp.seq ?_
  repeat' first
    | apply RegQ.nil
    | (apply qK; rfl; rfl)
    | (apply qBs; rfl; rfl; rfl; rfl; exact IsLL.n; (first | rfl | (simp only [frzLL, frzL, frz1_slV]; rfl)))
    | (apply qAp; rfl; rfl; rfl; rfl; rfl; (first | assumption | solve_by_elim))
    | (apply qBi; rfl; rfl; rfl; rfl; assumption; exact IsV.any _)
    | (apply qIa; rfl; rfl; rfl; rfl; assumption; exact IsV.any _)
    | (apply qLn; rfl; rfl; rfl; rfl; rfl)
    | (apply qIx; rfl; rfl; rfl; rfl; rfl; rfl; rfl; rfl; assumption)
    | (apply qT (ty := 4); rfl; rfl; rfl)
    | (apply qF (ty := 4); rfl; rfl; rfl)
    | (apply qB (ty := 4); rfl; rfl; rfl)
    | (apply g0; rfl; rfl; rfl; exact IsV.n)
    | (apply g1; rfl; rfl; rfl; exact IsV.n; exact IsH.mkN)
    | apply DrwQ.nil
    | (apply dK; rfl; rfl)
    | (apply dBs; rfl; rfl; rfl; rfl; exact IsLL.n; (first | rfl | (simp only [frzLL, frzL, frz1_slV]; rfl)); rfl)
    | (apply dAq; rfl; rfl; rfl; rfl; rfl; rfl; (first | assumption | solve_by_elim))
    | (apply dAp; rfl; rfl; rfl; rfl; rfl; (first | assumption | solve_by_elim); rfl)
    | (apply dBi; rfl; rfl; rfl; rfl; assumption; exact IsV.any _; rfl)
    | (apply dIa; rfl; rfl; rfl; rfl; assumption; exact IsV.any _)
    | (apply dLn; rfl; rfl; rfl; rfl; rfl)
    | (apply dIx; rfl; rfl; rfl; rfl; rfl; rfl; rfl; rfl; assumption)
    | (apply dT (ty := 4); rfl; rfl; rfl; rfl)
    | (apply dF (ty := 4); rfl; rfl; rfl; rfl)
    | (apply dB (ty := 4); rfl; rfl; rfl; rfl)
    | (apply h0; rfl; rfl; rfl; exact IsV.n; rfl)
    | (apply h1; rfl; rfl; rfl; exact IsV.n; exact IsH.mkN; rfl)
    | intro hb
    | apply Wp.seq
    | apply SeqQ.go
    | apply Wp.region
    | (apply Wp.draw tOk follows; kernel_rfl)
    | (apply Wp.condT; rfl)
    | (apply Wp.condF; rfl)
    | apply Wp.skip
    | apply Wp.ret
    | apply Wp.exit
    | apply Wp.block
    | apply SeqQ.ret
    | apply SeqQ.exit
    | apply BlockQ.go
    | apply BlockQ.ret
    | (apply BlockQ.hit; rfl)
    | (apply BlockQ.miss; rfl)
    | apply LoopI.ret
    | apply LoopI.exit
    | apply DropQ.ret
    | apply DropQ.exit
    | (apply rInt; rfl; rfl)
    | (apply rBool; rfl; rfl)
    | (apply rFin; rfl; exact IsL.n)
    | (apply mFin; rfl; exact IsL.n)
  refine Wp.while (fun m tm H => ∃ (i : Nat) (base : TM) (out : PV) (lv : List Nat) (nt : Nat), i + m = l.length ∧ ApV true 6 (moC (kindsF ks (l.take i))) out lv nt ∧
      tm = ovr base [(0, slV b 6 (moC l)), (1, slV b' 1 (intC ks)), (5, out), (6, .int .i64 (i : Int))] ∧ H = ⟨[], 0, lv, nt⟩)
    (fun m tm H hI => ?_) l.length _ _ ⟨0, _, _, _, _, by omega, .nil _ _ rfl, ovr_mk ⟨rfl, rfl, rfl, rfl, trivial⟩, rfl⟩
  obtain ⟨i, base, out, lv, nt, hi, hA, rfl, rfl⟩ := hI
  by_cases hlt : i < l.length
  · obtain ⟨x, hx⟩ : ∃ x, l[i]? = some x := ⟨l[i], by simp⟩
    have hs := kinds_snoc (ks := ks) hx
    have hsl := kinds_len ks (l.take i)
    rw [List.length_take] at hsl
    obtain ⟨out', lv', nt', hap, hA', -⟩ := hA.app apT_mo (.sl .full 6 (moC [x])) (moC_ok _) (fits_of (by simp only [moC_len, List.length_cons, List.length_nil]; omega) (by decide)) (noB_moC _)
    rw [← moC_append] at hA'
    have hj := moC_get hx
    obtain ⟨kd, nu, ro, an, ag, go, tn, te⟩ := x
    simp only [Mo.cells] at hj hs
    rw [moC_one] at hap
    repeat' first
      | apply RegQ.nil
      | (apply qK; rfl; rfl)
      | (apply qBs; rfl; rfl; rfl; rfl; exact IsLL.n; (first | rfl | (simp only [frzLL, frzL, frz1_slV]; rfl)))
      | (apply qAp; rfl; rfl; rfl; rfl; rfl; (first | assumption | solve_by_elim))
      | (apply qBi; rfl; rfl; rfl; rfl; assumption; exact IsV.any _)
      | (apply qIa; rfl; rfl; rfl; rfl; assumption; exact IsV.any _)
      | (apply qLn; rfl; rfl; rfl; rfl; rfl)
      | (apply qIx; rfl; rfl; rfl; rfl; rfl; rfl; rfl; rfl; assumption)
      | (apply qT (ty := 4); rfl; rfl; rfl)
      | (apply qF (ty := 4); rfl; rfl; rfl)
      | (apply qB (ty := 4); rfl; rfl; rfl)
      | (apply g0; rfl; rfl; rfl; exact IsV.n)
      | (apply g1; rfl; rfl; rfl; exact IsV.n; exact IsH.mkN)
      | apply DrwQ.nil
      | (apply dK; rfl; rfl)
      | (apply dBs; rfl; rfl; rfl; rfl; exact IsLL.n; (first | rfl | (simp only [frzLL, frzL, frz1_slV]; rfl)); rfl)
      | (apply dAq; rfl; rfl; rfl; rfl; rfl; rfl; (first | assumption | solve_by_elim))
      | (apply dAp; rfl; rfl; rfl; rfl; rfl; (first | assumption | solve_by_elim); rfl)
      | (apply dBi; rfl; rfl; rfl; rfl; assumption; exact IsV.any _; rfl)
      | (apply dIa; rfl; rfl; rfl; rfl; assumption; exact IsV.any _)
      | (apply dLn; rfl; rfl; rfl; rfl; rfl)
      | (apply dIx; rfl; rfl; rfl; rfl; rfl; rfl; rfl; rfl; assumption)
      | (apply dT (ty := 4); rfl; rfl; rfl; rfl)
      | (apply dF (ty := 4); rfl; rfl; rfl; rfl)
      | (apply dB (ty := 4); rfl; rfl; rfl; rfl)
      | (apply h0; rfl; rfl; rfl; exact IsV.n; rfl)
      | (apply h1; rfl; rfl; rfl; exact IsV.n; exact IsH.mkN; rfl)
      | intro hb
      | apply Wp.seq
      | apply SeqQ.go
      | apply Wp.region
      | (apply Wp.draw tOk follows; kernel_rfl)
      | (apply Wp.condT; rfl)
      | (apply Wp.condF; rfl)
      | apply Wp.skip
      | apply Wp.ret
      | apply Wp.exit
      | apply Wp.block
      | apply SeqQ.ret
      | apply SeqQ.exit
      | apply BlockQ.go
      | apply BlockQ.ret
      | (apply BlockQ.hit; rfl)
      | (apply BlockQ.miss; rfl)
      | apply LoopI.ret
      | apply LoopI.exit
      | apply DropQ.ret
      | apply DropQ.exit
      | (apply rInt; rfl; rfl)
      | (apply rBool; rfl; rfl)
      | (apply rFin; rfl; exact IsL.n)
      | (apply mFin; rfl; exact IsL.n)
    · refine Wp.while (fun m2 tm H => ∃ (k : Nat) (base : TM), k + m2 = ks.length ∧
          tm = ovr base [(0, slV b 6 (moC l)), (1, slV b' 1 (intC ks)), (5, out), (6, .int .i64 (i : Int)), (7, .bool ((ks.take k).any (fun k => decide (k = kd)))), (8, .int .i64 (k : Int))] ∧ H = ⟨[], 0, lv, nt⟩)
        (fun m2 tm H hI => ?_) ks.length _ _ ⟨0, _, by omega, ovr_mk ⟨rfl, rfl, rfl, rfl, rfl, rfl, trivial⟩, rfl⟩
      obtain ⟨k, base, hk2, rfl, rfl⟩ := hI
      by_cases hlk : k < ks.length
      · obtain ⟨y, hy⟩ : ∃ y, ks[k]? = some y := ⟨ks[k], by simp⟩
        have hj2 := intC_get hy
        have ht : (ks.take (k + 1)).any (fun k => decide (k = kd)) = ((ks.take k).any (fun k => decide (k = kd)) || decide (y = kd)) := by
          rw [List.take_add_one, hy]; simp
        obtain ⟨S, hS⟩ : ∃ S, S = (ks.take k).any (fun k => decide (k = kd)) := ⟨_, rfl⟩
        rw [← hS] at ht ⊢
        cases S with
        | true =>
          repeat' first
            | apply RegQ.nil
            | (apply qK; rfl; rfl)
            | (apply qBs; rfl; rfl; rfl; rfl; exact IsLL.n; (first | rfl | (simp only [frzLL, frzL, frz1_slV]; rfl)))
            | (apply qAp; rfl; rfl; rfl; rfl; rfl; (first | assumption | solve_by_elim))
            | (apply qBi; rfl; rfl; rfl; rfl; assumption; exact IsV.any _)
            | (apply qIa; rfl; rfl; rfl; rfl; assumption; exact IsV.any _)
            | (apply qLn; rfl; rfl; rfl; rfl; rfl)
            | (apply qIx; rfl; rfl; rfl; rfl; rfl; rfl; rfl; rfl; assumption)
            | (apply qT (ty := 4); rfl; rfl; rfl)
            | (apply qF (ty := 4); rfl; rfl; rfl)
            | (apply qB (ty := 4); rfl; rfl; rfl)
            | (apply g0; rfl; rfl; rfl; exact IsV.n)
            | (apply g1; rfl; rfl; rfl; exact IsV.n; exact IsH.mkN)
            | apply DrwQ.nil
            | (apply dK; rfl; rfl)
            | (apply dBs; rfl; rfl; rfl; rfl; exact IsLL.n; (first | rfl | (simp only [frzLL, frzL, frz1_slV]; rfl)); rfl)
            | (apply dAq; rfl; rfl; rfl; rfl; rfl; rfl; (first | assumption | solve_by_elim))
            | (apply dAp; rfl; rfl; rfl; rfl; rfl; (first | assumption | solve_by_elim); rfl)
            | (apply dBi; rfl; rfl; rfl; rfl; assumption; exact IsV.any _; rfl)
            | (apply dIa; rfl; rfl; rfl; rfl; assumption; exact IsV.any _)
            | (apply dLn; rfl; rfl; rfl; rfl; rfl)
            | (apply dIx; rfl; rfl; rfl; rfl; rfl; rfl; rfl; rfl; assumption)
            | (apply dT (ty := 4); rfl; rfl; rfl; rfl)
            | (apply dF (ty := 4); rfl; rfl; rfl; rfl)
            | (apply dB (ty := 4); rfl; rfl; rfl; rfl)
            | (apply h0; rfl; rfl; rfl; exact IsV.n; rfl)
            | (apply h1; rfl; rfl; rfl; exact IsV.n; exact IsH.mkN; rfl)
            | intro hb
            | apply Wp.seq
            | apply SeqQ.go
            | apply Wp.region
            | (apply Wp.draw tOk follows; kernel_rfl)
            | (apply Wp.condT; rfl)
            | (apply Wp.condF; rfl)
            | apply Wp.skip
            | apply Wp.ret
            | apply Wp.exit
            | apply Wp.block
            | apply SeqQ.ret
            | apply SeqQ.exit
            | apply BlockQ.go
            | apply BlockQ.ret
            | (apply BlockQ.hit; rfl)
            | (apply BlockQ.miss; rfl)
            | apply LoopI.ret
            | apply LoopI.exit
            | apply DropQ.ret
            | apply DropQ.exit
            | (apply rInt; rfl; rfl)
            | (apply rBool; rfl; rfl)
            | (apply rFin; rfl; exact IsL.n)
            | (apply mFin; rfl; exact IsL.n)
          · refine LoopI.go (m2 - 1) (by omega) ⟨k + 1, _, by omega, ovr_mk ⟨rfl, rfl, rfl, rfl, ?_, int_eq (wrap_nat (n := k + 1) (by omega)), trivial⟩, rfl⟩
            rw [ht]; rfl
          · exfalso; rw [intC_len] at hb; simp at hb <;> omega
        | false =>
          repeat' first
            | apply RegQ.nil
            | (apply qK; rfl; rfl)
            | (apply qBs; rfl; rfl; rfl; rfl; exact IsLL.n; (first | rfl | (simp only [frzLL, frzL, frz1_slV]; rfl)))
            | (apply qAp; rfl; rfl; rfl; rfl; rfl; (first | assumption | solve_by_elim))
            | (apply qBi; rfl; rfl; rfl; rfl; assumption; exact IsV.any _)
            | (apply qIa; rfl; rfl; rfl; rfl; assumption; exact IsV.any _)
            | (apply qLn; rfl; rfl; rfl; rfl; rfl)
            | (apply qIx; rfl; rfl; rfl; rfl; rfl; rfl; rfl; rfl; assumption)
            | (apply qT (ty := 4); rfl; rfl; rfl)
            | (apply qF (ty := 4); rfl; rfl; rfl)
            | (apply qB (ty := 4); rfl; rfl; rfl)
            | (apply g0; rfl; rfl; rfl; exact IsV.n)
            | (apply g1; rfl; rfl; rfl; exact IsV.n; exact IsH.mkN)
            | apply DrwQ.nil
            | (apply dK; rfl; rfl)
            | (apply dBs; rfl; rfl; rfl; rfl; exact IsLL.n; (first | rfl | (simp only [frzLL, frzL, frz1_slV]; rfl)); rfl)
            | (apply dAq; rfl; rfl; rfl; rfl; rfl; rfl; (first | assumption | solve_by_elim))
            | (apply dAp; rfl; rfl; rfl; rfl; rfl; (first | assumption | solve_by_elim); rfl)
            | (apply dBi; rfl; rfl; rfl; rfl; assumption; exact IsV.any _; rfl)
            | (apply dIa; rfl; rfl; rfl; rfl; assumption; exact IsV.any _)
            | (apply dLn; rfl; rfl; rfl; rfl; rfl)
            | (apply dIx; rfl; rfl; rfl; rfl; rfl; rfl; rfl; rfl; assumption)
            | (apply dT (ty := 4); rfl; rfl; rfl; rfl)
            | (apply dF (ty := 4); rfl; rfl; rfl; rfl)
            | (apply dB (ty := 4); rfl; rfl; rfl; rfl)
            | (apply h0; rfl; rfl; rfl; exact IsV.n; rfl)
            | (apply h1; rfl; rfl; rfl; exact IsV.n; exact IsH.mkN; rfl)
            | intro hb
            | apply Wp.seq
            | apply SeqQ.go
            | apply Wp.region
            | (apply Wp.draw tOk follows; kernel_rfl)
            | (apply Wp.condT; rfl)
            | (apply Wp.condF; rfl)
            | apply Wp.skip
            | apply Wp.ret
            | apply Wp.exit
            | apply Wp.block
            | apply SeqQ.ret
            | apply SeqQ.exit
            | apply BlockQ.go
            | apply BlockQ.ret
            | (apply BlockQ.hit; rfl)
            | (apply BlockQ.miss; rfl)
            | apply LoopI.ret
            | apply LoopI.exit
            | apply DropQ.ret
            | apply DropQ.exit
            | (apply rInt; rfl; rfl)
            | (apply rBool; rfl; rfl)
            | (apply rFin; rfl; exact IsL.n)
            | (apply mFin; rfl; exact IsL.n)
          all_goals first
            | (have e : decide (y = kd) = true := by simpa using hb
               refine LoopI.go (m2 - 1) (by omega) ⟨k + 1, _, by omega, ovr_mk ⟨rfl, rfl, rfl, rfl, ?_, int_eq (wrap_nat (n := k + 1) (by omega)), trivial⟩, rfl⟩
               rw [ht, e]; rfl)
            | (have e : decide (y = kd) = false := by simpa using hb
               refine LoopI.go (m2 - 1) (by omega) ⟨k + 1, _, by omega, ovr_mk ⟨rfl, rfl, rfl, rfl, ?_, int_eq (wrap_nat (n := k + 1) (by omega)), trivial⟩, rfl⟩
               rw [ht, e]; rfl)
            | (exfalso; rw [intC_len] at hb; simp at hb <;> omega)
      · have e : k = ks.length := by omega
        subst e
        rw [List.take_length]
        obtain ⟨S, hS⟩ : ∃ S, S = ks.any (fun k => decide (k = kd)) := ⟨_, rfl⟩
        rw [← hS] at hs ⊢
        cases S with
        | true =>
          repeat' first
            | apply RegQ.nil
            | (apply qK; rfl; rfl)
            | (apply qBs; rfl; rfl; rfl; rfl; exact IsLL.n; (first | rfl | (simp only [frzLL, frzL, frz1_slV]; rfl)))
            | (apply qAp; rfl; rfl; rfl; rfl; rfl; (first | assumption | solve_by_elim))
            | (apply qBi; rfl; rfl; rfl; rfl; assumption; exact IsV.any _)
            | (apply qIa; rfl; rfl; rfl; rfl; assumption; exact IsV.any _)
            | (apply qLn; rfl; rfl; rfl; rfl; rfl)
            | (apply qIx; rfl; rfl; rfl; rfl; rfl; rfl; rfl; rfl; assumption)
            | (apply qT (ty := 4); rfl; rfl; rfl)
            | (apply qF (ty := 4); rfl; rfl; rfl)
            | (apply qB (ty := 4); rfl; rfl; rfl)
            | (apply g0; rfl; rfl; rfl; exact IsV.n)
            | (apply g1; rfl; rfl; rfl; exact IsV.n; exact IsH.mkN)
            | apply DrwQ.nil
            | (apply dK; rfl; rfl)
            | (apply dBs; rfl; rfl; rfl; rfl; exact IsLL.n; (first | rfl | (simp only [frzLL, frzL, frz1_slV]; rfl)); rfl)
            | (apply dAq; rfl; rfl; rfl; rfl; rfl; rfl; (first | assumption | solve_by_elim))
            | (apply dAp; rfl; rfl; rfl; rfl; rfl; (first | assumption | solve_by_elim); rfl)
            | (apply dBi; rfl; rfl; rfl; rfl; assumption; exact IsV.any _; rfl)
            | (apply dIa; rfl; rfl; rfl; rfl; assumption; exact IsV.any _)
            | (apply dLn; rfl; rfl; rfl; rfl; rfl)
            | (apply dIx; rfl; rfl; rfl; rfl; rfl; rfl; rfl; rfl; assumption)
            | (apply dT (ty := 4); rfl; rfl; rfl; rfl)
            | (apply dF (ty := 4); rfl; rfl; rfl; rfl)
            | (apply dB (ty := 4); rfl; rfl; rfl; rfl)
            | (apply h0; rfl; rfl; rfl; exact IsV.n; rfl)
            | (apply h1; rfl; rfl; rfl; exact IsV.n; exact IsH.mkN; rfl)
            | intro hb
            | apply Wp.seq
            | apply SeqQ.go
            | apply Wp.region
            | (apply Wp.draw tOk follows; kernel_rfl)
            | (apply Wp.condT; rfl)
            | (apply Wp.condF; rfl)
            | apply Wp.skip
            | apply Wp.ret
            | apply Wp.exit
            | apply Wp.block
            | apply SeqQ.ret
            | apply SeqQ.exit
            | apply BlockQ.go
            | apply BlockQ.ret
            | (apply BlockQ.hit; rfl)
            | (apply BlockQ.miss; rfl)
            | apply LoopI.ret
            | apply LoopI.exit
            | apply DropQ.ret
            | apply DropQ.exit
            | (apply rInt; rfl; rfl)
            | (apply rBool; rfl; rfl)
            | (apply rFin; rfl; exact IsL.n)
            | (apply mFin; rfl; exact IsL.n)
          · exfalso; rw [intC_len] at hb; simp at hb
          · rw [if_pos rfl] at hs
            exact LoopI.go (m - 1) (by omega) ⟨i + 1, _, out', lv', nt', by omega, by rw [hs]; exact hA', ovr_mk ⟨rfl, rfl, rfl, int_eq (wrap_nat (n := i + 1) (by omega)), trivial⟩, rfl⟩
        | false =>
          repeat' first
            | apply RegQ.nil
            | (apply qK; rfl; rfl)
            | (apply qBs; rfl; rfl; rfl; rfl; exact IsLL.n; (first | rfl | (simp only [frzLL, frzL, frz1_slV]; rfl)))
            | (apply qAp; rfl; rfl; rfl; rfl; rfl; (first | assumption | solve_by_elim))
            | (apply qBi; rfl; rfl; rfl; rfl; assumption; exact IsV.any _)
            | (apply qIa; rfl; rfl; rfl; rfl; assumption; exact IsV.any _)
            | (apply qLn; rfl; rfl; rfl; rfl; rfl)
            | (apply qIx; rfl; rfl; rfl; rfl; rfl; rfl; rfl; rfl; assumption)
            | (apply qT (ty := 4); rfl; rfl; rfl)
            | (apply qF (ty := 4); rfl; rfl; rfl)
            | (apply qB (ty := 4); rfl; rfl; rfl)
            | (apply g0; rfl; rfl; rfl; exact IsV.n)
            | (apply g1; rfl; rfl; rfl; exact IsV.n; exact IsH.mkN)
            | apply DrwQ.nil
            | (apply dK; rfl; rfl)
            | (apply dBs; rfl; rfl; rfl; rfl; exact IsLL.n; (first | rfl | (simp only [frzLL, frzL, frz1_slV]; rfl)); rfl)
            | (apply dAq; rfl; rfl; rfl; rfl; rfl; rfl; (first | assumption | solve_by_elim))
            | (apply dAp; rfl; rfl; rfl; rfl; rfl; (first | assumption | solve_by_elim); rfl)
            | (apply dBi; rfl; rfl; rfl; rfl; assumption; exact IsV.any _; rfl)
            | (apply dIa; rfl; rfl; rfl; rfl; assumption; exact IsV.any _)
            | (apply dLn; rfl; rfl; rfl; rfl; rfl)
            | (apply dIx; rfl; rfl; rfl; rfl; rfl; rfl; rfl; rfl; assumption)
            | (apply dT (ty := 4); rfl; rfl; rfl; rfl)
            | (apply dF (ty := 4); rfl; rfl; rfl; rfl)
            | (apply dB (ty := 4); rfl; rfl; rfl; rfl)
            | (apply h0; rfl; rfl; rfl; exact IsV.n; rfl)
            | (apply h1; rfl; rfl; rfl; exact IsV.n; exact IsH.mkN; rfl)
            | intro hb
            | apply Wp.seq
            | apply SeqQ.go
            | apply Wp.region
            | (apply Wp.draw tOk follows; kernel_rfl)
            | (apply Wp.condT; rfl)
            | (apply Wp.condF; rfl)
            | apply Wp.skip
            | apply Wp.ret
            | apply Wp.exit
            | apply Wp.block
            | apply SeqQ.ret
            | apply SeqQ.exit
            | apply BlockQ.go
            | apply BlockQ.ret
            | (apply BlockQ.hit; rfl)
            | (apply BlockQ.miss; rfl)
            | apply LoopI.ret
            | apply LoopI.exit
            | apply DropQ.ret
            | apply DropQ.exit
            | (apply rInt; rfl; rfl)
            | (apply rBool; rfl; rfl)
            | (apply rFin; rfl; exact IsL.n)
            | (apply mFin; rfl; exact IsL.n)
          · exfalso; rw [intC_len] at hb; simp at hb
          · rw [if_neg (by simp), List.append_nil] at hs
            exact LoopI.go (m - 1) (by omega) ⟨i + 1, _, out, lv, nt, by omega, by rw [hs]; exact hA, ovr_mk ⟨rfl, rfl, rfl, int_eq (wrap_nat (n := i + 1) (by omega)), trivial⟩, rfl⟩
    · exfalso; rw [moC_len] at hb; simp at hb <;> omega
  · have e : i = l.length := by omega
    subst e
    rw [List.take_length] at hA
    repeat' first
      | apply RegQ.nil
      | (apply qK; rfl; rfl)
      | (apply qBs; rfl; rfl; rfl; rfl; exact IsLL.n; (first | rfl | (simp only [frzLL, frzL, frz1_slV]; rfl)))
      | (apply qAp; rfl; rfl; rfl; rfl; rfl; (first | assumption | solve_by_elim))
      | (apply qBi; rfl; rfl; rfl; rfl; assumption; exact IsV.any _)
      | (apply qIa; rfl; rfl; rfl; rfl; assumption; exact IsV.any _)
      | (apply qLn; rfl; rfl; rfl; rfl; rfl)
      | (apply qIx; rfl; rfl; rfl; rfl; rfl; rfl; rfl; rfl; assumption)
      | (apply qT (ty := 4); rfl; rfl; rfl)
      | (apply qF (ty := 4); rfl; rfl; rfl)
      | (apply qB (ty := 4); rfl; rfl; rfl)
      | (apply g0; rfl; rfl; rfl; exact IsV.n)
      | (apply g1; rfl; rfl; rfl; exact IsV.n; exact IsH.mkN)
      | apply DrwQ.nil
      | (apply dK; rfl; rfl)
      | (apply dBs; rfl; rfl; rfl; rfl; exact IsLL.n; (first | rfl | (simp only [frzLL, frzL, frz1_slV]; rfl)); rfl)
      | (apply dAq; rfl; rfl; rfl; rfl; rfl; rfl; (first | assumption | solve_by_elim))
      | (apply dAp; rfl; rfl; rfl; rfl; rfl; (first | assumption | solve_by_elim); rfl)
      | (apply dBi; rfl; rfl; rfl; rfl; assumption; exact IsV.any _; rfl)
      | (apply dIa; rfl; rfl; rfl; rfl; assumption; exact IsV.any _)
      | (apply dLn; rfl; rfl; rfl; rfl; rfl)
      | (apply dIx; rfl; rfl; rfl; rfl; rfl; rfl; rfl; rfl; assumption)
      | (apply dT (ty := 4); rfl; rfl; rfl; rfl)
      | (apply dF (ty := 4); rfl; rfl; rfl; rfl)
      | (apply dB (ty := 4); rfl; rfl; rfl; rfl)
      | (apply h0; rfl; rfl; rfl; exact IsV.n; rfl)
      | (apply h1; rfl; rfl; rfl; exact IsV.n; exact IsH.mkN; rfl)
      | intro hb
      | apply Wp.seq
      | apply SeqQ.go
      | apply Wp.region
      | (apply Wp.draw tOk follows; kernel_rfl)
      | (apply Wp.condT; rfl)
      | (apply Wp.condF; rfl)
      | apply Wp.skip
      | apply Wp.ret
      | apply Wp.exit
      | apply Wp.block
      | apply SeqQ.ret
      | apply SeqQ.exit
      | apply BlockQ.go
      | apply BlockQ.ret
      | (apply BlockQ.hit; rfl)
      | (apply BlockQ.miss; rfl)
      | apply LoopI.ret
      | apply LoopI.exit
      | apply DropQ.ret
      | apply DropQ.exit
      | (apply rInt; rfl; rfl)
      | (apply rBool; rfl; rfl)
      | (apply rFin; rfl; exact IsL.n)
      | (apply mFin; rfl; exact IsL.n)
    · rw [moC_len] at hb; simp at hb
    · exact hA.frz3 _ _

set_option maxHeartbeats 4000000 in
theorem c15s {l : List Mo} (hl : l.length ≤ 420) (hok : ∀ m, m ∈ l → m.Ok) (hsz : ∀ m, m ∈ l → ∀ t, t ∈ m.terms → t.size < 4611686018427387904) (b b' : Bool) :
    ∀ H, CallOk E0 Tryz.prog 15 [slV b 6 (moC l), slV b' 6 (moC l)] H (.bool true) H := by
  refine callOk_wp (own := fun _ => false) tOk fe15.ok (by simp only [frzGL, frzG_slV]) rfl ?_
  refine Wp.seq ?_
  repeat' first
    | apply RegQ.nil
    | (apply qK; rfl; rfl)
    | (apply qBi; rfl; rfl; rfl; rfl; assumption; exact IsV.any _)
    | (apply qIa; rfl; rfl; rfl; rfl; assumption; exact IsV.any _)
    | (apply qLn; rfl; rfl; rfl; rfl; rfl)
    | (apply qIx; rfl; rfl; rfl; rfl; rfl; rfl; rfl; rfl; assumption)
    | (apply qT (ty := 4); rfl; rfl; rfl)
    | (apply qF (ty := 4); rfl; rfl; rfl)
    | (apply qB (ty := 4); rfl; rfl; rfl)
    | (apply g0; rfl; rfl; rfl; exact IsV.n)
    | (apply g1; rfl; rfl; rfl; exact IsV.n; exact IsH.mkN)
    | (apply qSt; rfl; rfl; rfl; exact IsL.n; rfl; (first | rfl | assumption | (simp only [List.all_cons, List.all_nil, cellOk_slV, Bool.and_true]; rfl)); (first | rfl | assumption); exact IsH.mkN)
    | apply DrwQ.nil
    | (apply dK; rfl; rfl)
    | (apply dBi; rfl; rfl; rfl; rfl; assumption; exact IsV.any _; rfl)
    | (apply dIa; rfl; rfl; rfl; rfl; assumption; exact IsV.any _)
    | (apply dLn; rfl; rfl; rfl; rfl; rfl)
    | (apply dIx; rfl; rfl; rfl; rfl; rfl; rfl; rfl; rfl; assumption)
    | (apply dT (ty := 4); rfl; rfl; rfl; rfl)
    | (apply dF (ty := 4); rfl; rfl; rfl; rfl)
    | (apply dB (ty := 4); rfl; rfl; rfl; rfl)
    | (apply h0; rfl; rfl; rfl; exact IsV.n; rfl)
    | (apply h1; rfl; rfl; rfl; exact IsV.n; exact IsH.mkN; rfl)
    | intro hb
    | apply Wp.seq
    | apply SeqQ.go
    | apply Wp.region
    | (apply Wp.draw tOk follows; kernel_rfl)
    | (apply Wp.condT; rfl)
    | (apply Wp.condF; rfl)
    | apply Wp.skip
    | apply Wp.ret
    | apply Wp.exit
    | apply Wp.block
    | apply SeqQ.ret
    | apply SeqQ.exit
    | apply BlockQ.go
    | apply BlockQ.ret
    | (apply BlockQ.hit; rfl)
    | (apply BlockQ.miss; rfl)
    | apply LoopI.ret
    | apply LoopI.exit
    | apply DropQ.ret
    | apply DropQ.exit
    | (apply rInt; rfl; rfl)
    | (apply rBool; rfl; rfl)
    | (apply rFin; rfl; exact IsL.n)
    | (apply mFin; rfl; exact IsL.n)
  · exfalso; simp at hb
  refine Wp.while (fun m tm H => ∃ (i : Nat) (base : TM), i + m = l.length ∧
      tm = ovr base [(0, slV b 6 (moC l)), (1, slV b' 6 (moC l)), (5, .int .i64 (i : Int))] ∧ H = hNil)
    (fun m tm H hI => Wp.drop ?_) l.length _ _ ⟨0, _, by omega, ovr_mk ⟨rfl, rfl, rfl, trivial⟩, rfl⟩
  obtain ⟨i, base, hi, rfl, rfl⟩ := hI
  by_cases hlt : i < l.length
  · obtain ⟨x, hx⟩ : ∃ x, l[i]? = some x := ⟨l[i], by simp⟩
    have hm : x ∈ l := List.mem_of_getElem? hx
    have ho := hok x hm
    have hz := hsz x hm
    have hj := moC_get hx
    have hc := c12s ho.ts hz ho.tl x.tn x.tn
    have hag := ho.al
    unfold maxLen at hag
    obtain ⟨kd, nu, ro, an, ag, go, tn, te⟩ := x
    simp only [Mo.cells] at hj hc hag
    repeat' first
      | apply RegQ.nil
      | (apply qK; rfl; rfl)
      | (apply qCl; rfl; rfl; rfl; rfl; exact hc _)
      | (apply qBi; rfl; rfl; rfl; rfl; assumption; exact IsV.any _)
      | (apply qIa; rfl; rfl; rfl; rfl; assumption; exact IsV.any _)
      | (apply qLn; rfl; rfl; rfl; rfl; rfl)
      | (apply qIx; rfl; rfl; rfl; rfl; rfl; rfl; rfl; rfl; assumption)
      | (apply qT (ty := 4); rfl; rfl; rfl)
      | (apply qF (ty := 4); rfl; rfl; rfl)
      | (apply qB (ty := 4); rfl; rfl; rfl)
      | (apply g0; rfl; rfl; rfl; exact IsV.n)
      | (apply g1; rfl; rfl; rfl; exact IsV.n; exact IsH.mkN)
      | (apply qSt; rfl; rfl; rfl; exact IsL.n; rfl; (first | rfl | assumption | (simp only [List.all_cons, List.all_nil, cellOk_slV, Bool.and_true]; rfl)); (first | rfl | assumption); exact IsH.mkN)
      | apply DrwQ.nil
      | (apply dK; rfl; rfl)
      | (apply dCl; rfl; rfl; rfl; rfl; rfl; exact hc _)
      | (apply dBi; rfl; rfl; rfl; rfl; assumption; exact IsV.any _; rfl)
      | (apply dIa; rfl; rfl; rfl; rfl; assumption; exact IsV.any _)
      | (apply dLn; rfl; rfl; rfl; rfl; rfl)
      | (apply dIx; rfl; rfl; rfl; rfl; rfl; rfl; rfl; rfl; assumption)
      | (apply dT (ty := 4); rfl; rfl; rfl; rfl)
      | (apply dF (ty := 4); rfl; rfl; rfl; rfl)
      | (apply dB (ty := 4); rfl; rfl; rfl; rfl)
      | (apply h0; rfl; rfl; rfl; exact IsV.n; rfl)
      | (apply h1; rfl; rfl; rfl; exact IsV.n; exact IsH.mkN; rfl)
      | intro hb
      | apply Wp.seq
      | apply SeqQ.go
      | apply Wp.region
      | (apply Wp.draw tOk follows; kernel_rfl)
      | (apply Wp.condT; rfl)
      | (apply Wp.condF; rfl)
      | apply Wp.skip
      | apply Wp.ret
      | apply Wp.exit
      | apply Wp.block
      | apply SeqQ.ret
      | apply SeqQ.exit
      | apply BlockQ.go
      | apply BlockQ.ret
      | (apply BlockQ.hit; rfl)
      | (apply BlockQ.miss; rfl)
      | apply LoopI.ret
      | apply LoopI.exit
      | apply DropQ.ret
      | apply DropQ.exit
      | (apply rInt; rfl; rfl)
      | (apply rBool; rfl; rfl)
      | (apply rFin; rfl; exact IsL.n)
      | (apply mFin; rfl; exact IsL.n)
    all_goals first
      | (exfalso; simp at hb; done)
      | skip
    · refine Wp.while (fun m2 tm H => ∃ (k : Nat) (base : TM), k + m2 = ag.length ∧
          tm = ovr base [(0, slV b 6 (moC l)), (1, slV b' 6 (moC l)), (5, .int .i64 (i : Int)), (6, .ptr 0 6 0 0), (7, .ptr 1 6 0 0), (8, .int .i64 (k : Int))] ∧
          H = ⟨[.cells 6 [[.int .i64 kd, .int .i64 nu, .int .i64 ro, slV an 1 (strC ag), .int .i64 go, slV tn 4 (cellsL te)]], .cells 6 [[.int .i64 kd, .int .i64 nu, .int .i64 ro, slV an 1 (strC ag), .int .i64 go, slV tn 4 (cellsL te)]]], 0, [], 0⟩)
        (fun m2 tm H hI => ?_) ag.length _ _ ⟨0, _, by omega, ovr_mk ⟨rfl, rfl, rfl, rfl, rfl, rfl, trivial⟩, rfl⟩
      obtain ⟨k, base, hk2, rfl, rfl⟩ := hI
      by_cases hlk : k < ag.length
      · obtain ⟨y, hy⟩ : ∃ y, ag[k]? = some y := ⟨ag[k], by simp⟩
        have hj2 := strC_get hy
        repeat' first
          | apply RegQ.nil
          | (apply qK; rfl; rfl)
          | (apply qBi; rfl; rfl; rfl; rfl; assumption; exact IsV.any _)
          | (apply qIa; rfl; rfl; rfl; rfl; assumption; exact IsV.any _)
          | (apply qLn; rfl; rfl; rfl; rfl; rfl)
          | (apply qIx; rfl; rfl; rfl; rfl; rfl; rfl; rfl; rfl; assumption)
          | (apply qT (ty := 4); rfl; rfl; rfl)
          | (apply qF (ty := 4); rfl; rfl; rfl)
          | (apply qB (ty := 4); rfl; rfl; rfl)
          | (apply g0; rfl; rfl; rfl; exact IsV.n)
          | (apply g1; rfl; rfl; rfl; exact IsV.n; exact IsH.mkN)
          | (apply qSt; rfl; rfl; rfl; exact IsL.n; rfl; (first | rfl | assumption | (simp only [List.all_cons, List.all_nil, cellOk_slV, Bool.and_true]; rfl)); (first | rfl | assumption); exact IsH.mkN)
          | apply DrwQ.nil
          | (apply dK; rfl; rfl)
          | (apply dBi; rfl; rfl; rfl; rfl; assumption; exact IsV.any _; rfl)
          | (apply dIa; rfl; rfl; rfl; rfl; assumption; exact IsV.any _)
          | (apply dLn; rfl; rfl; rfl; rfl; rfl)
          | (apply dIx; rfl; rfl; rfl; rfl; rfl; rfl; rfl; rfl; assumption)
          | (apply dT (ty := 4); rfl; rfl; rfl; rfl)
          | (apply dF (ty := 4); rfl; rfl; rfl; rfl)
          | (apply dB (ty := 4); rfl; rfl; rfl; rfl)
          | (apply h0; rfl; rfl; rfl; exact IsV.n; rfl)
          | (apply h1; rfl; rfl; rfl; exact IsV.n; exact IsH.mkN; rfl)
          | intro hb
          | apply Wp.seq
          | apply SeqQ.go
          | apply Wp.region
          | (apply Wp.draw tOk follows; kernel_rfl)
          | (apply Wp.condT; rfl)
          | (apply Wp.condF; rfl)
          | apply Wp.skip
          | apply Wp.ret
          | apply Wp.exit
          | apply Wp.block
          | apply SeqQ.ret
          | apply SeqQ.exit
          | apply BlockQ.go
          | apply BlockQ.ret
          | (apply BlockQ.hit; rfl)
          | (apply BlockQ.miss; rfl)
          | apply LoopI.ret
          | apply LoopI.exit
          | apply DropQ.ret
          | apply DropQ.exit
          | (apply rInt; rfl; rfl)
          | (apply rBool; rfl; rfl)
          | (apply rFin; rfl; exact IsL.n)
          | (apply mFin; rfl; exact IsL.n)
        all_goals first
          | exact LoopI.go (m2 - 1) (by omega) ⟨k + 1, _, by omega, ovr_mk ⟨rfl, rfl, rfl, rfl, rfl, int_eq (wrap_nat (n := k + 1) (by omega)), trivial⟩, rfl⟩
          | (exfalso; rw [strC_len] at hb; simp at hb <;> omega)
          | (exfalso; simp at hb; done)
      · have e : k = ag.length := by omega
        subst e
        repeat' first
          | apply RegQ.nil
          | (apply qK; rfl; rfl)
          | (apply qBi; rfl; rfl; rfl; rfl; assumption; exact IsV.any _)
          | (apply qIa; rfl; rfl; rfl; rfl; assumption; exact IsV.any _)
          | (apply qLn; rfl; rfl; rfl; rfl; rfl)
          | (apply qIx; rfl; rfl; rfl; rfl; rfl; rfl; rfl; rfl; assumption)
          | (apply qT (ty := 4); rfl; rfl; rfl)
          | (apply qF (ty := 4); rfl; rfl; rfl)
          | (apply qB (ty := 4); rfl; rfl; rfl)
          | (apply g0; rfl; rfl; rfl; exact IsV.n)
          | (apply g1; rfl; rfl; rfl; exact IsV.n; exact IsH.mkN)
          | (apply qSt; rfl; rfl; rfl; exact IsL.n; rfl; (first | rfl | assumption | (simp only [List.all_cons, List.all_nil, cellOk_slV, Bool.and_true]; rfl)); (first | rfl | assumption); exact IsH.mkN)
          | apply DrwQ.nil
          | (apply dK; rfl; rfl)
          | (apply dBi; rfl; rfl; rfl; rfl; assumption; exact IsV.any _; rfl)
          | (apply dIa; rfl; rfl; rfl; rfl; assumption; exact IsV.any _)
          | (apply dLn; rfl; rfl; rfl; rfl; rfl)
          | (apply dIx; rfl; rfl; rfl; rfl; rfl; rfl; rfl; rfl; assumption)
          | (apply dT (ty := 4); rfl; rfl; rfl; rfl)
          | (apply dF (ty := 4); rfl; rfl; rfl; rfl)
          | (apply dB (ty := 4); rfl; rfl; rfl; rfl)
          | (apply h0; rfl; rfl; rfl; exact IsV.n; rfl)
          | (apply h1; rfl; rfl; rfl; exact IsV.n; exact IsH.mkN; rfl)
          | intro hb
          | apply Wp.seq
          | apply SeqQ.go
          | apply Wp.region
          | (apply Wp.draw tOk follows; kernel_rfl)
          | (apply Wp.condT; rfl)
          | (apply Wp.condF; rfl)
          | apply Wp.skip
          | apply Wp.ret
          | apply Wp.exit
          | apply Wp.block
          | apply SeqQ.ret
          | apply SeqQ.exit
          | apply BlockQ.go
          | apply BlockQ.ret
          | (apply BlockQ.hit; rfl)
          | (apply BlockQ.miss; rfl)
          | apply LoopI.ret
          | apply LoopI.exit
          | apply DropQ.ret
          | apply DropQ.exit
          | (apply rInt; rfl; rfl)
          | (apply rBool; rfl; rfl)
          | (apply rFin; rfl; exact IsL.n)
          | (apply mFin; rfl; exact IsL.n)
        · exfalso; rw [strC_len] at hb; simp at hb
        · exact DropQ.go [(0, slV b 6 (moC l)), (1, slV b' 6 (moC l)), (5, .int .i64 ((i + 1 : Nat) : Int))] ⟨rfl, rfl, int_eq (wrap_nat (n := i + 1) (by omega)), trivial⟩
            (by simp [under_slV, under]) rfl rfl (LoopI.go (m - 1) (by omega) ⟨i + 1, _, by omega, rfl, rfl⟩)
    · exfalso; rw [moC_len] at hb; simp at hb <;> omega
  · have e : i = l.length := by omega
    subst e
    repeat' first
      | apply RegQ.nil
      | (apply qK; rfl; rfl)
      | (apply qBi; rfl; rfl; rfl; rfl; assumption; exact IsV.any _)
      | (apply qIa; rfl; rfl; rfl; rfl; assumption; exact IsV.any _)
      | (apply qLn; rfl; rfl; rfl; rfl; rfl)
      | (apply qIx; rfl; rfl; rfl; rfl; rfl; rfl; rfl; rfl; assumption)
      | (apply qT (ty := 4); rfl; rfl; rfl)
      | (apply qF (ty := 4); rfl; rfl; rfl)
      | (apply qB (ty := 4); rfl; rfl; rfl)
      | (apply g0; rfl; rfl; rfl; exact IsV.n)
      | (apply g1; rfl; rfl; rfl; exact IsV.n; exact IsH.mkN)
      | (apply qSt; rfl; rfl; rfl; exact IsL.n; rfl; (first | rfl | assumption | (simp only [List.all_cons, List.all_nil, cellOk_slV, Bool.and_true]; rfl)); (first | rfl | assumption); exact IsH.mkN)
      | apply DrwQ.nil
      | (apply dK; rfl; rfl)
      | (apply dBi; rfl; rfl; rfl; rfl; assumption; exact IsV.any _; rfl)
      | (apply dIa; rfl; rfl; rfl; rfl; assumption; exact IsV.any _)
      | (apply dLn; rfl; rfl; rfl; rfl; rfl)
      | (apply dIx; rfl; rfl; rfl; rfl; rfl; rfl; rfl; rfl; assumption)
      | (apply dT (ty := 4); rfl; rfl; rfl; rfl)
      | (apply dF (ty := 4); rfl; rfl; rfl; rfl)
      | (apply dB (ty := 4); rfl; rfl; rfl; rfl)
      | (apply h0; rfl; rfl; rfl; exact IsV.n; rfl)
      | (apply h1; rfl; rfl; rfl; exact IsV.n; exact IsH.mkN; rfl)
      | intro hb
      | apply Wp.seq
      | apply SeqQ.go
      | apply Wp.region
      | (apply Wp.draw tOk follows; kernel_rfl)
      | (apply Wp.condT; rfl)
      | (apply Wp.condF; rfl)
      | apply Wp.skip
      | apply Wp.ret
      | apply Wp.exit
      | apply Wp.block
      | apply SeqQ.ret
      | apply SeqQ.exit
      | apply BlockQ.go
      | apply BlockQ.ret
      | (apply BlockQ.hit; rfl)
      | (apply BlockQ.miss; rfl)
      | apply LoopI.ret
      | apply LoopI.exit
      | apply DropQ.ret
      | apply DropQ.exit
      | (apply rInt; rfl; rfl)
      | (apply rBool; rfl; rfl)
      | (apply rFin; rfl; exact IsL.n)
      | (apply mFin; rfl; exact IsL.n)
    · rw [moC_len] at hb; simp at hb
    · rfl

theorem fewM_lens {m : Mo} : fewM m = true ↔ m.agents.length ≤ 8 ∧ m.terms.length ≤ 14 ∧ ∀ s, s ∈ m.agents → s.length ≤ 40 := by
  simp only [fewM, Bool.and_eq_true, Bool.not_eq_true', decide_eq_false_iff_not, List.all_eq_true, Nat.not_lt]

theorem terms_snoc {l : List Mo} {i : Nat} {x : Mo} (h : l[i]? = some x) : (l.take (i + 1)).flatMap (·.terms) = (l.take i).flatMap (·.terms) ++ x.terms := by
  simp only [List.take_add_one, h, Option.toList_some, List.flatMap_append, List.flatMap_cons, List.flatMap_nil, List.append_nil]
theorem terms_len {l : List Mo} (h : ∀ m, m ∈ l → fewM m = true) : (l.flatMap (·.terms)).length ≤ 14 * l.length := by
  induction l with
  | nil => simp
  | cons a r ih =>
    have h1 := (fewM_lens.1 (h a List.mem_cons_self)).2.1
    have h2 := ih fun m hm => h m (List.mem_cons_of_mem _ hm)
    simp only [List.flatMap_cons, List.length_append, List.length_cons] at h2 ⊢
    omega
theorem fewMo_not {l : List Mo} {m : Mo} (hm : m ∈ l) (h : fewM m = false) : fewMo l = false := by
  unfold fewMo
  split
  · rfl
  · rw [if_neg]
    intro ha
    rw [List.all_eq_true] at ha
    have := ha m hm
    rw [h] at this
    cases this

set_option maxHeartbeats 4000000 in
theorem c7 {l : List Mo} (hok : ∀ m, m ∈ l → m.Ok) (b : Bool) :
    ∀ H, CallOk E0 Tryz.prog 7 [slV b 6 (moC l)] H (.bool (fewMo l)) H := by
  refine callOk_wp (own := fun _ => false) tOk fe7.ok (by simp only [frzGL, frzG_slV]) rfl ?_
  refine Wp.seq ?_
  repeat' first
    | apply RegQ.nil
    | (apply qK; rfl; rfl)
    | (apply qAp; rfl; rfl; rfl; rfl; rfl; (first | assumption | solve_by_elim))
    | (apply qBi; rfl; rfl; rfl; rfl; assumption; exact IsV.any _)
    | (apply qIa; rfl; rfl; rfl; rfl; assumption; exact IsV.any _)
    | (apply qLn; rfl; rfl; rfl; rfl; rfl)
    | (apply qIx; rfl; rfl; rfl; rfl; rfl; rfl; rfl; rfl; assumption)
    | (apply qT (ty := 4); rfl; rfl; rfl)
    | (apply qF (ty := 4); rfl; rfl; rfl)
    | (apply qB (ty := 4); rfl; rfl; rfl)
    | (apply g0; rfl; rfl; rfl; exact IsV.n)
    | (apply g1; rfl; rfl; rfl; exact IsV.n; exact IsH.mkN)
    | intro hb
    | apply Wp.seq
    | apply SeqQ.go
    | apply Wp.region
    | (apply Wp.condT; rfl)
    | (apply Wp.condF; rfl)
    | apply Wp.skip
    | apply Wp.ret
    | apply Wp.exit
    | apply Wp.block
    | apply SeqQ.ret
    | apply SeqQ.exit
    | apply BlockQ.go
    | apply BlockQ.ret
    | (apply BlockQ.hit; rfl)
    | (apply BlockQ.miss; rfl)
    | apply LoopI.ret
    | apply LoopI.exit
    | apply DropQ.ret
    | apply DropQ.exit
    | (apply rInt; rfl; rfl)
    | (apply rBool; rfl; rfl)
    | (apply rFin; rfl; exact IsL.n)
    | (apply mFin; rfl; exact IsL.n)
  · rw [moC_len] at hb
    have : 420 < l.length := by simp at hb <;> omega
    simp only [fewMo, if_pos this]
  rw [moC_len] at hb
  have hl : l.length ≤ 420 := by simp at hb <;> omega
  clear hb
  refine Wp.while (fun m tm H => ∃ (i : Nat) (base : TM) (out : PV) (lv : List Nat) (nt : Nat), i + m = l.length ∧ (∀ m, m ∈ l.take i → fewM m = true) ∧ ApV true 4 (cellsL ((l.take i).flatMap (·.terms))) out lv nt ∧
      tm = ovr base [(0, slV b 6 (moC l)), (3, out), (4, .int .i64 (i : Int))] ∧ H = ⟨[], 0, lv, nt⟩)
    (fun m tm H hI => ?_) l.length _ _ ⟨0, _, _, _, _, by omega, by simp, .nil _ _ rfl, ovr_mk ⟨rfl, rfl, rfl, trivial⟩, rfl⟩
  obtain ⟨i, base, out, lv, nt, hi, hF, hA, rfl, rfl⟩ := hI
  by_cases hlt : i < l.length
  · obtain ⟨x, hx⟩ : ∃ x, l[i]? = some x := ⟨l[i], by simp⟩
    have hm : x ∈ l := List.mem_of_getElem? hx
    have ho := hok x hm
    have hs := terms_snoc hx
    have hsl := terms_len hF
    rw [List.length_take] at hsl
    have hnot := fun h => fewMo_not hm h
    have hj := moC_get hx
    have hfw := @fewM_lens x
    have htk : ∀ (h : fewM x = true) m, m ∈ l.take (i + 1) → fewM m = true := fun h m hm => by
      rw [List.take_add_one, hx] at hm
      rcases List.mem_append.1 hm with hm | hm
      · exact hF m hm
      · simp at hm; rw [hm]; exact h
    by_cases h8 : x.agents.length ≤ 8 ∧ x.terms.length ≤ 14
    · obtain ⟨out', lv', nt', hap, hA', -⟩ := hA.app apT_tm (.slV x.tn 4 (cellsL x.terms)) (cellsL_cellOk _) (fits_of (by simp only [cellsL_length]; omega) (by decide)) (noB_cellsL _)
      rw [← cellsL_append] at hA'
      obtain ⟨kd, nu, ro, an, ag, go, tn, te⟩ := x
      simp only [Mo.cells] at hj hs hap hA' hfw h8
      repeat' first
        | apply RegQ.nil
        | (apply qK; rfl; rfl)
        | (apply qAp; rfl; rfl; rfl; rfl; rfl; (first | assumption | solve_by_elim))
        | (apply qBi; rfl; rfl; rfl; rfl; assumption; exact IsV.any _)
        | (apply qIa; rfl; rfl; rfl; rfl; assumption; exact IsV.any _)
        | (apply qLn; rfl; rfl; rfl; rfl; rfl)
        | (apply qIx; rfl; rfl; rfl; rfl; rfl; rfl; rfl; rfl; assumption)
        | (apply qT (ty := 4); rfl; rfl; rfl)
        | (apply qF (ty := 4); rfl; rfl; rfl)
        | (apply qB (ty := 4); rfl; rfl; rfl)
        | (apply g0; rfl; rfl; rfl; exact IsV.n)
        | (apply g1; rfl; rfl; rfl; exact IsV.n; exact IsH.mkN)
        | intro hb
        | apply Wp.seq
        | apply SeqQ.go
        | apply Wp.region
        | (apply Wp.condT; rfl)
        | (apply Wp.condF; rfl)
        | apply Wp.skip
        | apply Wp.ret
        | apply Wp.exit
        | apply Wp.block
        | apply SeqQ.ret
        | apply SeqQ.exit
        | apply BlockQ.go
        | apply BlockQ.ret
        | (apply BlockQ.hit; rfl)
        | (apply BlockQ.miss; rfl)
        | apply LoopI.ret
        | apply LoopI.exit
        | apply DropQ.ret
        | apply DropQ.exit
        | (apply rInt; rfl; rfl)
        | (apply rBool; rfl; rfl)
        | (apply rFin; rfl; exact IsL.n)
        | (apply mFin; rfl; exact IsL.n)
      · exfalso; rw [strC_len] at hb; simp at hb <;> omega
      · exfalso; rw [cellsL_length] at hb; simp at hb <;> omega
      · refine Wp.while (fun m2 tm H => ∃ (k : Nat) (base : TM), k + m2 = ag.length ∧ (∀ s, s ∈ ag.take k → s.length ≤ 40) ∧
            tm = ovr base [(0, slV b 6 (moC l)), (3, out), (4, .int .i64 (i : Int)), (5, .int .i64 (k : Int))] ∧ H = ⟨[], 0, lv, nt⟩)
          (fun m2 tm H hI => ?_) ag.length _ _ ⟨0, _, by omega, by simp, ovr_mk ⟨rfl, rfl, rfl, rfl, trivial⟩, rfl⟩
        obtain ⟨k, base, hk2, hks, rfl, rfl⟩ := hI
        by_cases hlk : k < ag.length
        · obtain ⟨y, hy⟩ : ∃ y, ag[k]? = some y := ⟨ag[k], by simp⟩
          have hj2 := strC_get hy
          repeat' first
            | apply RegQ.nil
            | (apply qK; rfl; rfl)
            | (apply qAp; rfl; rfl; rfl; rfl; rfl; (first | assumption | solve_by_elim))
            | (apply qBi; rfl; rfl; rfl; rfl; assumption; exact IsV.any _)
            | (apply qIa; rfl; rfl; rfl; rfl; assumption; exact IsV.any _)
            | (apply qLn; rfl; rfl; rfl; rfl; rfl)
            | (apply qIx; rfl; rfl; rfl; rfl; rfl; rfl; rfl; rfl; assumption)
            | (apply qT (ty := 4); rfl; rfl; rfl)
            | (apply qF (ty := 4); rfl; rfl; rfl)
            | (apply qB (ty := 4); rfl; rfl; rfl)
            | (apply g0; rfl; rfl; rfl; exact IsV.n)
            | (apply g1; rfl; rfl; rfl; exact IsV.n; exact IsH.mkN)
            | intro hb
            | apply Wp.seq
            | apply SeqQ.go
            | apply Wp.region
            | (apply Wp.condT; rfl)
            | (apply Wp.condF; rfl)
            | apply Wp.skip
            | apply Wp.ret
            | apply Wp.exit
            | apply Wp.block
            | apply SeqQ.ret
            | apply SeqQ.exit
            | apply BlockQ.go
            | apply BlockQ.ret
            | (apply BlockQ.hit; rfl)
            | (apply BlockQ.miss; rfl)
            | apply LoopI.ret
            | apply LoopI.exit
            | apply DropQ.ret
            | apply DropQ.exit
            | (apply rInt; rfl; rfl)
            | (apply rBool; rfl; rfl)
            | (apply rFin; rfl; exact IsL.n)
            | (apply mFin; rfl; exact IsL.n)
          · have hb' : 40 < y.length := by simp at hb <;> omega
            rw [hnot (by
              rw [← Bool.not_eq_true, hfw]
              rintro ⟨-, -, h⟩
              have := h y (List.mem_of_getElem? hy)
              omega)]
          · have hb' : y.length ≤ 40 := by simp at hb <;> omega
            refine LoopI.go (m2 - 1) (by omega) ⟨k + 1, _, by omega, fun s hs => ?_, ovr_mk ⟨rfl, rfl, rfl, int_eq (wrap_nat (n := k + 1) (by omega)), trivial⟩, rfl⟩
            rw [List.take_add_one, hy] at hs
            rcases List.mem_append.1 hs with hs | hs
            · exact hks s hs
            · simp at hs; rw [hs]; exact hb'
          · exfalso; rw [strC_len] at hb; simp at hb <;> omega
        · have e : k = ag.length := by omega
          subst e
          rw [List.take_length] at hks
          repeat' first
            | apply RegQ.nil
            | (apply qK; rfl; rfl)
            | (apply qAp; rfl; rfl; rfl; rfl; rfl; (first | assumption | solve_by_elim))
            | (apply qBi; rfl; rfl; rfl; rfl; assumption; exact IsV.any _)
            | (apply qIa; rfl; rfl; rfl; rfl; assumption; exact IsV.any _)
            | (apply qLn; rfl; rfl; rfl; rfl; rfl)
            | (apply qIx; rfl; rfl; rfl; rfl; rfl; rfl; rfl; rfl; assumption)
            | (apply qT (ty := 4); rfl; rfl; rfl)
            | (apply qF (ty := 4); rfl; rfl; rfl)
            | (apply qB (ty := 4); rfl; rfl; rfl)
            | (apply g0; rfl; rfl; rfl; exact IsV.n)
            | (apply g1; rfl; rfl; rfl; exact IsV.n; exact IsH.mkN)
            | intro hb
            | apply Wp.seq
            | apply SeqQ.go
            | apply Wp.region
            | (apply Wp.condT; rfl)
            | (apply Wp.condF; rfl)
            | apply Wp.skip
            | apply Wp.ret
            | apply Wp.exit
            | apply Wp.block
            | apply SeqQ.ret
            | apply SeqQ.exit
            | apply BlockQ.go
            | apply BlockQ.ret
            | (apply BlockQ.hit; rfl)
            | (apply BlockQ.miss; rfl)
            | apply LoopI.ret
            | apply LoopI.exit
            | apply DropQ.ret
            | apply DropQ.exit
            | (apply rInt; rfl; rfl)
            | (apply rBool; rfl; rfl)
            | (apply rFin; rfl; exact IsL.n)
            | (apply mFin; rfl; exact IsL.n)
          · exfalso; rw [strC_len] at hb; simp at hb
          · exact LoopI.go (m - 1) (by omega) ⟨i + 1, _, out', lv', nt', by omega, htk (hfw.2 ⟨h8.1, h8.2, hks⟩), by rw [hs]; exact hA', ovr_mk ⟨rfl, rfl, int_eq (wrap_nat (n := i + 1) (by omega)), trivial⟩, rfl⟩
      · exfalso; rw [moC_len] at hb; simp at hb <;> omega
    · have hnf := hnot (by rw [← Bool.not_eq_true, hfw]; rintro ⟨h1, h2, -⟩; exact h8 ⟨h1, h2⟩)
      obtain ⟨kd, nu, ro, an, ag, go, tn, te⟩ := x
      simp only [Mo.cells] at hj h8
      rw [hnf]
      repeat' first
        | apply RegQ.nil
        | (apply qK; rfl; rfl)
        | (apply qAp; rfl; rfl; rfl; rfl; rfl; (first | assumption | solve_by_elim))
        | (apply qBi; rfl; rfl; rfl; rfl; assumption; exact IsV.any _)
        | (apply qIa; rfl; rfl; rfl; rfl; assumption; exact IsV.any _)
        | (apply qLn; rfl; rfl; rfl; rfl; rfl)
        | (apply qIx; rfl; rfl; rfl; rfl; rfl; rfl; rfl; rfl; assumption)
        | (apply qT (ty := 4); rfl; rfl; rfl)
        | (apply qF (ty := 4); rfl; rfl; rfl)
        | (apply qB (ty := 4); rfl; rfl; rfl)
        | (apply g0; rfl; rfl; rfl; exact IsV.n)
        | (apply g1; rfl; rfl; rfl; exact IsV.n; exact IsH.mkN)
        | intro hb
        | apply Wp.seq
        | apply SeqQ.go
        | apply Wp.region
        | (apply Wp.condT; rfl)
        | (apply Wp.condF; rfl)
        | apply Wp.skip
        | apply Wp.ret
        | apply Wp.exit
        | apply Wp.block
        | apply SeqQ.ret
        | apply SeqQ.exit
        | apply BlockQ.go
        | apply BlockQ.ret
        | (apply BlockQ.hit; rfl)
        | (apply BlockQ.miss; rfl)
        | apply LoopI.ret
        | apply LoopI.exit
        | apply DropQ.ret
        | apply DropQ.exit
        | (apply rInt; rfl; rfl)
        | (apply rBool; rfl; rfl)
        | (apply rFin; rfl; exact IsL.n)
        | (apply mFin; rfl; exact IsL.n)
      all_goals first
        | rfl
        | (exfalso; rw [moC_len] at hb; simp at hb <;> omega)
        | skip
      rename_i hb0 
      exfalso
      rw [strC_len] at hb0
      rw [cellsL_length] at hb
      simp at hb hb0
      omega
  · have e : i = l.length := by omega
    subst e
    rw [List.take_length] at hA hF
    have hsl := terms_len hF
    have hc : ∀ H, CallOk E0 Tryz.prog 24 [slV true 4 (cellsL (l.flatMap (·.terms))), .int .i64 1000, .int .i64 800] H (.bool (fewF (l.flatMap (·.terms)) 1000 800)) H :=
      c24 (fun t ht => by
        obtain ⟨m, hm, ht⟩ := List.mem_flatMap.1 ht
        exact (hok m hm).ts t ht) (by unfold maxLen; omega) true (by omega) (by omega)
    have hr : fewMo l = fewF (l.flatMap (·.terms)) 1000 800 := by
      unfold fewMo
      rw [if_neg (by omega), if_pos (List.all_eq_true.2 hF)]
    rw [hr]
    have hc2 : ∀ H, CallOk E0 Tryz.prog 24 [out, .int .i64 1000, .int .i64 800] H (.bool (fewF (l.flatMap (·.terms)) 1000 800)) H := fun H =>
      callOk_lift (hc hNil) (by simp only [frzGL, hA.frzG]; rfl) rfl H
    repeat' first
      | apply RegQ.nil
      | (apply qK; rfl; rfl)
      | (apply qCl; rfl; rfl; rfl; rfl; exact hc2 _)
      | (apply qAp; rfl; rfl; rfl; rfl; rfl; (first | assumption | solve_by_elim))
      | (apply qBi; rfl; rfl; rfl; rfl; assumption; exact IsV.any _)
      | (apply qIa; rfl; rfl; rfl; rfl; assumption; exact IsV.any _)
      | (apply qLn; rfl; rfl; rfl; rfl; rfl)
      | (apply qIx; rfl; rfl; rfl; rfl; rfl; rfl; rfl; rfl; assumption)
      | (apply qT (ty := 4); rfl; rfl; rfl)
      | (apply qF (ty := 4); rfl; rfl; rfl)
      | (apply qB (ty := 4); rfl; rfl; rfl)
      | (apply g0; rfl; rfl; rfl; exact IsV.n)
      | (apply g1; rfl; rfl; rfl; exact IsV.n; exact IsH.mkN)
      | intro hb
      | apply Wp.seq
      | apply SeqQ.go
      | apply Wp.region
      | (apply Wp.condT; rfl)
      | (apply Wp.condF; rfl)
      | apply Wp.skip
      | apply Wp.ret
      | apply Wp.exit
      | apply Wp.block
      | apply SeqQ.ret
      | apply SeqQ.exit
      | apply BlockQ.go
      | apply BlockQ.ret
      | (apply BlockQ.hit; rfl)
      | (apply BlockQ.miss; rfl)
      | apply LoopI.ret
      | apply LoopI.exit
      | apply DropQ.ret
      | apply DropQ.exit
      | (apply rInt; rfl; rfl)
      | (apply rBool; rfl; rfl)
      | (apply rFin; rfl; exact IsL.n)
      | (apply mFin; rfl; exact IsL.n)
    all_goals first
      | (exfalso; rw [moC_len] at hb; simp at hb; done)
      | (rw [hb]; done)

theorem few_sizes : ∀ (l : List Tm) (n : Int), fewL l n = true → ∀ t, t ∈ l → (t.size : Int) ≤ n
  | [], _, _, t, ht => absurd ht (by simp)
  | a :: r, n, h, t, ht => by
    simp only [fewL] at h
    split at h
    · cases h
    · rename_i hb
      have := a.budget_eq n (by omega)
      rcases List.mem_cons.1 ht with rfl | ht
      · omega
      · have := few_sizes r _ h t ht; omega
theorem fewMo_size {l : List Mo} (h : fewMo l = true) : l.length ≤ 420 ∧ (∀ m, m ∈ l → fewM m = true) ∧ ∀ m, m ∈ l → ∀ t, t ∈ m.terms → t.size < 4611686018427387904 := by
  unfold fewMo at h
  split at h
  · cases h
  · split at h
    · rename_i h1 h2
      refine ⟨by omega, List.all_eq_true.1 h2, fun m hm t ht => ?_⟩
      unfold fewF at h
      split at h
      · cases h
      · have := few_sizes _ _ h t (List.mem_flatMap.2 ⟨m, hm, ht⟩)
        omega
    · cases h

theorem sub_ok {l k : List Mo} (hk : ∀ m, m ∈ k → m ∈ l) {p : Mo → Prop} (h : ∀ m, m ∈ l → p m) : ∀ m, m ∈ k → p m := fun m hm => h m (hk m hm)
theorem sent_mem {l : List Mo} {t : Tm} (h : t ∈ sentF l) : ∃ m, m ∈ l ∧ t ∈ m.terms := by
  obtain ⟨m, hm, ht⟩ := List.mem_flatMap.1 h
  split at ht
  · exact ⟨m, hm, ht⟩
  · simp at ht

set_option maxHeartbeats 8000000 in
theorem c4 (awakeOk : ∀ H, CallOk E0 Tryz.prog 6 [] H (.bool true) H) {l : List Mo} (hok : ∀ m, m ∈ l → m.Ok) (n : Int) (ks : List Int) (b b' : Bool) :
    ∀ H, CallOk E0 Tryz.prog 4 [slV b 6 (moC l), .int .i64 n, slV b' 1 (intC ks)] H (.bool true) H := by
  have hfew := c7 hok b
  have hsz := @fewMo_size l
  obtain ⟨F, hF⟩ : ∃ F, F = fewMo l := ⟨_, rfl⟩
  rw [← hF] at hfew hsz
  refine callOk_wp (own := fun _ => false) tOk fe4.ok (by simp only [frzGL, frzG_slV]; rfl) rfl ?_
  refine Wp.seq ?_
  cases F with
  | false =>
    repeat' first
      | apply RegQ.nil
      | (apply qK; rfl; rfl)
      | (apply qCl; rfl; rfl; rfl; rfl; exact awakeOk _)
      | (apply qCl; rfl; rfl; rfl; rfl; exact hfew _)
      | (apply qLn; rfl; rfl; rfl; rfl; rfl)
      | (apply qT (ty := 4); rfl; rfl; rfl)
      | (apply qF (ty := 4); rfl; rfl; rfl)
      | (apply qB (ty := 4); rfl; rfl; rfl)
      | (apply g0; rfl; rfl; rfl; exact IsV.n)
      | (apply g1; rfl; rfl; rfl; exact IsV.n; exact IsH.mkN)
      | intro hb
      | apply Wp.seq
      | apply SeqQ.go
      | apply Wp.region
      | (apply Wp.condT; rfl)
      | (apply Wp.condF; rfl)
      | apply Wp.skip
      | apply Wp.ret
      | apply Wp.exit
      | apply Wp.block
      | apply SeqQ.ret
      | apply SeqQ.exit
      | apply BlockQ.go
      | apply BlockQ.ret
      | (apply BlockQ.hit; rfl)
      | (apply BlockQ.miss; rfl)
      | apply LoopI.ret
      | apply LoopI.exit
      | apply DropQ.ret
      | apply DropQ.exit
      | (apply rInt; rfl; rfl)
      | (apply rBool; rfl; rfl)
      | (apply rFin; rfl; exact IsL.n)
      | (apply mFin; rfl; exact IsL.n)
    all_goals rfl
  | true =>
    obtain ⟨hl, hfm, hts⟩ := hsz rfl
    have h14 : ∀ m, m ∈ l → m.terms.length ≤ 14 := fun m hm => (fewM_lens.1 (hfm m hm)).2.1
    have hlen := sent_len h14
    have hlo := of_len n l
    have hlk := kinds_len ks l
    have hk1000 : ks.length ≤ 10 → ks.length ≤ 1000 := fun h => by omega
    have k10 := c10 (l := l) (by omega) b
    have k13 := c13 hl h14 b
    have k14 := c14 hl h14 b
    have k12 := c12s (l := sentF l) (fun t ht => by obtain ⟨m, hm, ht⟩ := sent_mem ht; exact (hok m hm).ts t ht) (fun t ht => by obtain ⟨m, hm, ht⟩ := sent_mem ht; exact hts m hm t ht) (by unfold maxLen; omega) true true
    have k16 := c16 hl n b
    have k17 := c17 hl n b
    have of_mem : ∀ m, m ∈ ofF n l → m ∈ l := fun m hm => (List.mem_filter.1 hm).1
    have k_mem : ∀ m, m ∈ kindsF ks l → m ∈ l := fun m hm => (List.mem_filter.1 hm).1
    have k15 := c15s (l := ofF n l) (by omega) (sub_ok of_mem hok) (sub_ok of_mem hts) true true
    have k15' := c15s (l := kindsF ks l) (by omega) (sub_ok k_mem hok) (sub_ok k_mem hts) true true
    by_cases h10 : ks.length ≤ 10
    · have k18 := c18 hl (hk1000 h10) b b'
      have k19 := c19 hl (hk1000 h10) b b'
      repeat' first
        | apply RegQ.nil
        | (apply qK; rfl; rfl)
        | (apply qCl; rfl; rfl; rfl; rfl; exact awakeOk _)
        | (apply qCl; rfl; rfl; rfl; rfl; exact hfew _)
        | (apply qCl; rfl; rfl; rfl; rfl; exact k10 _)
        | (apply qCl; rfl; rfl; rfl; rfl; exact k13 _)
        | (apply qCl; rfl; rfl; rfl; rfl; exact k14 _)
        | (apply qCl; rfl; rfl; rfl; rfl; exact k12 _)
        | (apply qCl; rfl; rfl; rfl; rfl; exact k16 _)
        | (apply qCl; rfl; rfl; rfl; rfl; exact k17 _)
        | (apply qCl; rfl; rfl; rfl; rfl; exact k15 _)
        | (apply qCl; rfl; rfl; rfl; rfl; exact k15' _)
        | (apply qCl; rfl; rfl; rfl; rfl; exact k18 _)
        | (apply qCl; rfl; rfl; rfl; rfl; exact k19 _)
        | (apply qLn; rfl; rfl; rfl; rfl; rfl)
        | (apply qT (ty := 4); rfl; rfl; rfl)
        | (apply qF (ty := 4); rfl; rfl; rfl)
        | (apply qB (ty := 4); rfl; rfl; rfl)
        | (apply g0; rfl; rfl; rfl; exact IsV.n)
        | (apply g1; rfl; rfl; rfl; exact IsV.n; exact IsH.mkN)
        | intro hb
        | apply Wp.seq
        | apply SeqQ.go
        | apply Wp.region
        | (apply Wp.condT; rfl)
        | (apply Wp.condF; rfl)
        | apply Wp.skip
        | apply Wp.ret
        | apply Wp.exit
        | apply Wp.block
        | apply SeqQ.ret
        | apply SeqQ.exit
        | apply BlockQ.go
        | apply BlockQ.ret
        | (apply BlockQ.hit; rfl)
        | (apply BlockQ.miss; rfl)
        | apply LoopI.ret
        | apply LoopI.exit
        | apply DropQ.ret
        | apply DropQ.exit
        | (apply rInt; rfl; rfl)
        | (apply rBool; rfl; rfl)
        | (apply rFin; rfl; exact IsL.n)
        | (apply mFin; rfl; exact IsL.n)
      all_goals first
        | rfl
        | (exfalso; rw [intC_len] at hb; simp at hb <;> omega)
    ·
      repeat' first
        | apply RegQ.nil
        | (apply qK; rfl; rfl)
        | (apply qCl; rfl; rfl; rfl; rfl; exact awakeOk _)
        | (apply qCl; rfl; rfl; rfl; rfl; exact hfew _)
        | (apply qCl; rfl; rfl; rfl; rfl; exact k10 _)
        | (apply qLn; rfl; rfl; rfl; rfl; rfl)
        | (apply qT (ty := 4); rfl; rfl; rfl)
        | (apply qF (ty := 4); rfl; rfl; rfl)
        | (apply qB (ty := 4); rfl; rfl; rfl)
        | (apply g0; rfl; rfl; rfl; exact IsV.n)
        | (apply g1; rfl; rfl; rfl; exact IsV.n; exact IsH.mkN)
        | intro hb
        | apply Wp.seq
        | apply SeqQ.go
        | apply Wp.region
        | (apply Wp.condT; rfl)
        | (apply Wp.condF; rfl)
        | apply Wp.skip
        | apply Wp.ret
        | apply Wp.exit
        | apply Wp.block
        | apply SeqQ.ret
        | apply SeqQ.exit
        | apply BlockQ.go
        | apply BlockQ.ret
        | (apply BlockQ.hit; rfl)
        | (apply BlockQ.miss; rfl)
        | apply LoopI.ret
        | apply LoopI.exit
        | apply DropQ.ret
        | apply DropQ.exit
        | (apply rInt; rfl; rfl)
        | (apply rBool; rfl; rfl)
        | (apply rFin; rfl; exact IsL.n)
        | (apply mFin; rfl; exact IsL.n)
      all_goals first
        | rfl
        | (exfalso; rw [intC_len] at hb; simp at hb <;> omega)
end Go.Vm.Seat
