/-
  What is sent in a trace, the moments of a session, those of some kinds: both texts compute the same.
-/
import Derived.Test.YtgmafijeepapbaaGreatDoorStCmp
import Derived.Test.YtgmafijeepapbaaGreatDoorVf
namespace Go.Vm.Seat
open Go.Proofs
set_option maxRecDepth 100000

theorem fits_of {n m by_ : Nat} (h : n + m ≤ 10000000) (hb : by_ ≤ 1000000) : apFits n m by_ = true := by
  simp only [apFits, Bool.and_eq_true, Nat.ble_eq]
  have := Nat.mul_le_mul (show n + m + 96 ≤ 10000096 by omega) hb
  omega
theorem apT_tm : ApT E0 29 29 4 56 := ⟨_, _, _, _, _, rfl, rfl, rfl, rfl, rfl, rfl, rfl, by decide, rfl⟩
theorem apT_mo : ApT E0 25 25 6 80 := ⟨_, _, _, _, _, rfl, rfl, rfl, rfl, rfl, rfl, rfl, by decide, rfl⟩
theorem noB_cellsL (l : List Tm) : noB (cellsL l) = true := by
  simp only [cellsL_eq, noB, List.all_map, List.all_eq_true]
  rintro ⟨k, nm, s, b, kids⟩ _
  rfl
theorem noB_moC (l : List Mo) : noB (moC l) = true := by
  simp only [moC, noB, List.all_map, List.all_eq_true]
  rintro ⟨⟩ _
  rfl
theorem moC_ok (l : List Mo) : (moC l).all (fun c => c.all cellOk) = true := by
  simp only [moC, List.all_map, List.all_eq_true]
  intro m _
  exact m.cells_ok
set_option maxHeartbeats 2000000 in
theorem c12s {l : List Tm} (hok : ∀ t, t ∈ l → t.Ok) (hsz : ∀ t, t ∈ l → t.size < 4611686018427387904) (hl : l.length ≤ maxLen) (b b' : Bool) :
    ∀ H, CallOk E0 Tryz.prog 12 [slV b 4 (cellsL l), slV b' 4 (cellsL l)] H (.bool true) H := by
  refine callOk_wp (own := fun _ => false) tOk fe12.ok (by simp only [frzGL, frzG_slV]) rfl ?_
  refine Wp.seq ?_
  repeat' first
    | apply RegQ.nil
    | (apply qBi; rfl; rfl; rfl; rfl; assumption; exact IsV.any _)
    | (apply qIa; rfl; rfl; rfl; rfl; assumption; exact IsV.any _)
    | (apply qLn; rfl; rfl; rfl; rfl; rfl)
    | (apply qIx; rfl; rfl; rfl; rfl; rfl; rfl; rfl; rfl; assumption)
    | (apply qT (ty := 4); rfl; rfl; rfl)
    | (apply qF (ty := 4); rfl; rfl; rfl)
    | (apply qB (ty := 4); rfl; rfl; rfl)
    | (apply g0; rfl; rfl; rfl; exact IsV.n)
    | (apply g1; rfl; rfl; rfl; exact IsV.n; exact IsH.mkN)
    | apply DrwQ.nil
    | (apply dBi; rfl; rfl; rfl; rfl; assumption; exact IsV.any _; rfl)
    | (apply dIa; rfl; rfl; rfl; rfl; assumption; exact IsV.any _)
    | (apply dLn; rfl; rfl; rfl; rfl; rfl)
    | (apply dIx; rfl; rfl; rfl; rfl; rfl; rfl; rfl; rfl; assumption)
    | (apply dT (ty := 4); rfl; rfl; rfl; rfl)
    | (apply dF (ty := 4); rfl; rfl; rfl; rfl)
    | (apply dB (ty := 4); rfl; rfl; rfl; rfl)
    | (apply h0; rfl; rfl; rfl; exact IsV.n; rfl)
    | (apply h1; rfl; rfl; rfl; exact IsV.n; exact IsH.mkN; rfl)
    | intro hb
    | apply Wp.seq
    | apply SeqQ.go
    | apply Wp.region
    | (apply Wp.draw tOk follows; kernel_rfl)
    | (apply Wp.condT; rfl)
    | (apply Wp.condF; rfl)
    | apply Wp.skip
    | apply Wp.ret
    | apply Wp.exit
    | apply Wp.block
    | apply SeqQ.ret
    | apply SeqQ.exit
    | apply BlockQ.go
    | apply BlockQ.ret
    | (apply BlockQ.hit; rfl)
    | (apply BlockQ.miss; rfl)
    | apply LoopI.ret
    | apply LoopI.exit
    | apply DropQ.ret
    | apply DropQ.exit
    | (apply rInt; rfl; rfl)
    | (apply rBool; rfl; rfl)
    | (apply rFin; rfl; exact IsL.n)
    | (apply mFin; rfl; exact IsL.n)
  · exfalso; simp at hb
  refine Wp.while (fun m tm H => ∃ (i : Nat) (base : TM), i + m = l.length ∧ tm = ovr base [(0, slV b 4 (cellsL l)), (1, slV b' 4 (cellsL l)), (5, .int .i64 (i : Int))] ∧ H = hNil)
    (fun m tm H hI => ?_) l.length _ _ ⟨0, _, by omega, ovr_mk ⟨rfl, rfl, rfl, trivial⟩, rfl⟩
  obtain ⟨i, base, hi, rfl, rfl⟩ := hI
  unfold maxLen at hl
  by_cases hlt : i < l.length
  · obtain ⟨t', ht'⟩ : ∃ t', l[i]? = some t' := ⟨l[i], by simp⟩
    have hm : t' ∈ l := List.mem_of_getElem? ht'
    have hc := c39s (hok t' hm) (hsz t' hm)
    obtain ⟨k', nm', s', b2, kids'⟩ := t'
    have hj := cellsL_get ht'
    repeat' first
      | apply RegQ.nil
      | (apply qCl; rfl; rfl; rfl; rfl; exact hc _)
      | (apply qBi; rfl; rfl; rfl; rfl; assumption; exact IsV.any _)
      | (apply qIa; rfl; rfl; rfl; rfl; assumption; exact IsV.any _)
      | (apply qLn; rfl; rfl; rfl; rfl; rfl)
      | (apply qIx; rfl; rfl; rfl; rfl; rfl; rfl; rfl; rfl; assumption)
      | (apply qT (ty := 4); rfl; rfl; rfl)
      | (apply qF (ty := 4); rfl; rfl; rfl)
      | (apply qB (ty := 4); rfl; rfl; rfl)
      | (apply g0; rfl; rfl; rfl; exact IsV.n)
      | (apply g1; rfl; rfl; rfl; exact IsV.n; exact IsH.mkN)
      | apply DrwQ.nil
      | (apply dCl; rfl; rfl; rfl; rfl; rfl; exact hc _)
      | (apply dBi; rfl; rfl; rfl; rfl; assumption; exact IsV.any _; rfl)
      | (apply dIa; rfl; rfl; rfl; rfl; assumption; exact IsV.any _)
      | (apply dLn; rfl; rfl; rfl; rfl; rfl)
      | (apply dIx; rfl; rfl; rfl; rfl; rfl; rfl; rfl; rfl; assumption)
      | (apply dT (ty := 4); rfl; rfl; rfl; rfl)
      | (apply dF (ty := 4); rfl; rfl; rfl; rfl)
      | (apply dB (ty := 4); rfl; rfl; rfl; rfl)
      | (apply h0; rfl; rfl; rfl; exact IsV.n; rfl)
      | (apply h1; rfl; rfl; rfl; exact IsV.n; exact IsH.mkN; rfl)
      | intro hb
      | apply Wp.seq
      | apply SeqQ.go
      | apply Wp.region
      | (apply Wp.draw tOk follows; kernel_rfl)
      | (apply Wp.condT; rfl)
      | (apply Wp.condF; rfl)
      | apply Wp.skip
      | apply Wp.ret
      | apply Wp.exit
      | apply Wp.block
      | apply SeqQ.ret
      | apply SeqQ.exit
      | apply BlockQ.go
      | apply BlockQ.ret
      | (apply BlockQ.hit; rfl)
      | (apply BlockQ.miss; rfl)
      | apply LoopI.ret
      | apply LoopI.exit
      | apply DropQ.ret
      | apply DropQ.exit
      | (apply rInt; rfl; rfl)
      | (apply rBool; rfl; rfl)
      | (apply rFin; rfl; exact IsL.n)
      | (apply mFin; rfl; exact IsL.n)
    · refine LoopI.go (m - 1) (by omega) ⟨i + 1, _, by omega, ovr_mk ⟨rfl, rfl, int_eq (wrap_nat (n := i + 1) (by omega)), trivial⟩, rfl⟩
    · exfalso; rw [cellsL_length] at hb; simp at hb <;> omega
  · have e : i = l.length := by omega
    subst e
    repeat' first
      | apply RegQ.nil
      | (apply qBi; rfl; rfl; rfl; rfl; assumption; exact IsV.any _)
      | (apply qIa; rfl; rfl; rfl; rfl; assumption; exact IsV.any _)
      | (apply qLn; rfl; rfl; rfl; rfl; rfl)
      | (apply qIx; rfl; rfl; rfl; rfl; rfl; rfl; rfl; rfl; assumption)
      | (apply qT (ty := 4); rfl; rfl; rfl)
      | (apply qF (ty := 4); rfl; rfl; rfl)
      | (apply qB (ty := 4); rfl; rfl; rfl)
      | (apply g0; rfl; rfl; rfl; exact IsV.n)
      | (apply g1; rfl; rfl; rfl; exact IsV.n; exact IsH.mkN)
      | apply DrwQ.nil
      | (apply dBi; rfl; rfl; rfl; rfl; assumption; exact IsV.any _; rfl)
      | (apply dIa; rfl; rfl; rfl; rfl; assumption; exact IsV.any _)
      | (apply dLn; rfl; rfl; rfl; rfl; rfl)
      | (apply dIx; rfl; rfl; rfl; rfl; rfl; rfl; rfl; rfl; assumption)
      | (apply dT (ty := 4); rfl; rfl; rfl; rfl)
      | (apply dF (ty := 4); rfl; rfl; rfl; rfl)
      | (apply dB (ty := 4); rfl; rfl; rfl; rfl)
      | (apply h0; rfl; rfl; rfl; exact IsV.n; rfl)
      | (apply h1; rfl; rfl; rfl; exact IsV.n; exact IsH.mkN; rfl)
      | intro hb
      | apply Wp.seq
      | apply SeqQ.go
      | apply Wp.region
      | (apply Wp.draw tOk follows; kernel_rfl)
      | (apply Wp.condT; rfl)
      | (apply Wp.condF; rfl)
      | apply Wp.skip
      | apply Wp.ret
      | apply Wp.exit
      | apply Wp.block
      | apply SeqQ.ret
      | apply SeqQ.exit
      | apply BlockQ.go
      | apply BlockQ.ret
      | (apply BlockQ.hit; rfl)
      | (apply BlockQ.miss; rfl)
      | apply LoopI.ret
      | apply LoopI.exit
      | apply DropQ.ret
      | apply DropQ.exit
      | (apply rInt; rfl; rfl)
      | (apply rBool; rfl; rfl)
      | (apply rFin; rfl; exact IsL.n)
      | (apply mFin; rfl; exact IsL.n)
    · rw [cellsL_length] at hb; simp at hb
    · rfl

theorem c10 {l : List Mo} (hl : l.length ≤ 1000) (b : Bool) :
    ∀ H, CallOk E0 Tryz.prog 10 [slV b 6 (moC l)] H (slV b 6 (moC l)) H := by
  refine callOk_wp (own := fun _ => false) tOk fe10.ok (by simp only [frzGL, frzG_slV]) (frz3_slV _ _ _ _ _) ?_
  refine Wp.seq ?_
  obtain ⟨out', lv', nt', hap, hA, -⟩ := (ApV.full (es := 6) [] [] 0 (rfl : false = false) rfl).app apT_mo (.slV b 6 (moC l)) (moC_ok l) (fits_of (by simp [moC_len]; omega) (by decide)) (noB_moC l)
  cases hL : moC l with
  | nil =>
    rw [hL] at hap hA
    cases b with
    | true =>
      rw [slV_nil_true] at hap ⊢
      repeat' first
        | apply RegQ.nil
        | (apply qBs; rfl; rfl; rfl; rfl; exact IsLL.n; (first | rfl | (simp only [frzLL, frzL, frz1_slV]; rfl)))
        | (apply qAp; rfl; rfl; rfl; rfl; rfl; (first | assumption | solve_by_elim))
        | (apply qT (ty := 4); rfl; rfl; rfl)
        | (apply qF (ty := 4); rfl; rfl; rfl)
        | (apply qB (ty := 4); rfl; rfl; rfl)
        | (apply g0; rfl; rfl; rfl; exact IsV.n)
        | (apply g1; rfl; rfl; rfl; exact IsV.n; exact IsH.mkN)
        | intro hb
        | apply Wp.seq
        | apply SeqQ.go
        | apply Wp.region
        | (apply Wp.condT; rfl)
        | (apply Wp.condF; rfl)
        | apply Wp.skip
        | apply Wp.ret
        | apply Wp.exit
        | apply Wp.block
        | apply SeqQ.ret
        | apply SeqQ.exit
        | apply BlockQ.go
        | apply BlockQ.ret
        | (apply BlockQ.hit; rfl)
        | (apply BlockQ.miss; rfl)
        | apply LoopI.ret
        | apply LoopI.exit
        | apply DropQ.ret
        | apply DropQ.exit
        | (apply rInt; rfl; rfl)
        | (apply rBool; rfl; rfl)
        | (apply rFin; rfl; exact IsL.n)
        | (apply mFin; rfl; exact IsL.n)
      all_goals rfl
    | false =>
      rw [slV_nil_false] at hap ⊢
      repeat' first
        | apply RegQ.nil
        | (apply qBs; rfl; rfl; rfl; rfl; exact IsLL.n; (first | rfl | (simp only [frzLL, frzL, frz1_slV]; rfl)))
        | (apply qAp; rfl; rfl; rfl; rfl; rfl; (first | assumption | solve_by_elim))
        | (apply qT (ty := 4); rfl; rfl; rfl)
        | (apply qF (ty := 4); rfl; rfl; rfl)
        | (apply qB (ty := 4); rfl; rfl; rfl)
        | (apply g0; rfl; rfl; rfl; exact IsV.n)
        | (apply g1; rfl; rfl; rfl; exact IsV.n; exact IsH.mkN)
        | intro hb
        | apply Wp.seq
        | apply SeqQ.go
        | apply Wp.region
        | (apply Wp.condT; rfl)
        | (apply Wp.condF; rfl)
        | apply Wp.skip
        | apply Wp.ret
        | apply Wp.exit
        | apply Wp.block
        | apply SeqQ.ret
        | apply SeqQ.exit
        | apply BlockQ.go
        | apply BlockQ.ret
        | (apply BlockQ.hit; rfl)
        | (apply BlockQ.miss; rfl)
        | apply LoopI.ret
        | apply LoopI.exit
        | apply DropQ.ret
        | apply DropQ.exit
        | (apply rInt; rfl; rfl)
        | (apply rBool; rfl; rfl)
        | (apply rFin; rfl; exact IsL.n)
        | (apply mFin; rfl; exact IsL.n)
      first
        | exact hA.frz3 _ _
        | exact (hA.frz3 _ _).trans (by rw [List.append_nil, slV_nil_false])
  | cons c r =>
    rw [hL, slV_cons] at hap
    rw [hL] at hA
    rw [slV_cons]
    repeat' first
      | apply RegQ.nil
      | (apply qBs; rfl; rfl; rfl; rfl; exact IsLL.n; (first | rfl | (simp only [frzLL, frzL, frz1_slV]; rfl)))
      | (apply qAp; rfl; rfl; rfl; rfl; rfl; (first | assumption | solve_by_elim))
      | (apply qT (ty := 4); rfl; rfl; rfl)
      | (apply qF (ty := 4); rfl; rfl; rfl)
      | (apply qB (ty := 4); rfl; rfl; rfl)
      | (apply g0; rfl; rfl; rfl; exact IsV.n)
      | (apply g1; rfl; rfl; rfl; exact IsV.n; exact IsH.mkN)
      | intro hb
      | apply Wp.seq
      | apply SeqQ.go
      | apply Wp.region
      | (apply Wp.condT; rfl)
      | (apply Wp.condF; rfl)
      | apply Wp.skip
      | apply Wp.ret
      | apply Wp.exit
      | apply Wp.block
      | apply SeqQ.ret
      | apply SeqQ.exit
      | apply BlockQ.go
      | apply BlockQ.ret
      | (apply BlockQ.hit; rfl)
      | (apply BlockQ.miss; rfl)
      | apply LoopI.ret
      | apply LoopI.exit
      | apply DropQ.ret
      | apply DropQ.exit
      | (apply rInt; rfl; rfl)
      | (apply rBool; rfl; rfl)
      | (apply rFin; rfl; exact IsL.n)
      | (apply mFin; rfl; exact IsL.n)
    rw [← slV_cons false]
    exact hA.frz3 _ _

theorem sent_snoc {l : List Mo} {i : Nat} {x : Mo} (h : l[i]? = some x) : sentF (l.take (i + 1)) = sentF (l.take i) ++ (if x.kind = 3 then x.terms else []) := by
  simp only [sentF, List.take_add_one, h, Option.toList_some, List.flatMap_append, List.flatMap_cons, List.flatMap_nil, List.append_nil]
theorem sent_len {l : List Mo} (h : ∀ m, m ∈ l → m.terms.length ≤ 14) : (sentF l).length ≤ 14 * l.length := by
  induction l with
  | nil => simp [sentF]
  | cons a r ih =>
    have h1 := h a List.mem_cons_self
    have h2 := ih fun m hm => h m (List.mem_cons_of_mem _ hm)
    have e : sentF (a :: r) = (if a.kind = 3 then a.terms else []) ++ sentF r := by simp only [sentF, List.flatMap_cons]
    have h3 : (if a.kind = 3 then a.terms else []).length ≤ 14 := by split <;> simp [h1]
    rw [e, List.length_append, List.length_cons]
    omega

set_option maxHeartbeats 2000000 in
theorem c13 {l : List Mo} (hl : l.length ≤ 420) (ht : ∀ m, m ∈ l → m.terms.length ≤ 14) (b : Bool) :
    ∀ H, CallOk E0 Tryz.prog 13 [slV b 6 (moC l)] H (slV true 4 (cellsL (sentF l))) H := by
  refine callOk_wp (own := fun _ => false) tOk fe13.ok (by simp only [frzGL, frzG_slV]) (frz3_slV _ _ _ _ _) ?_
  refine Wp.seq ?_
  repeat' first
    | apply RegQ.nil
    | (apply qAp; rfl; rfl; rfl; rfl; rfl; (first | assumption | solve_by_elim))
    | (apply qBi; rfl; rfl; rfl; rfl; assumption; exact IsV.any _)
    | (apply qIa; rfl; rfl; rfl; rfl; assumption; exact IsV.any _)
    | (apply qLn; rfl; rfl; rfl; rfl; rfl)
    | (apply qIx; rfl; rfl; rfl; rfl; rfl; rfl; rfl; rfl; assumption)
    | (apply qT (ty := 4); rfl; rfl; rfl)
    | (apply qF (ty := 4); rfl; rfl; rfl)
    | (apply qB (ty := 4); rfl; rfl; rfl)
    | (apply qT (ty := 0); rfl; rfl; rfl)
    | (apply qF (ty := 0); rfl; rfl; rfl)
    | (apply qB (ty := 0); rfl; rfl; rfl)
    | (apply g0; rfl; rfl; rfl; exact IsV.n)
    | (apply g1; rfl; rfl; rfl; exact IsV.n; exact IsH.mkN)
    | (apply qSt; rfl; rfl; rfl; exact IsL.n; rfl; (first | rfl | assumption | (simp only [List.all_cons, List.all_nil, cellOk_slV, Bool.and_true]; rfl)); (first | rfl | assumption); exact IsH.mkN)
    | intro hb
    | apply Wp.seq
    | apply SeqQ.go
    | apply Wp.region
    | (apply Wp.condT; rfl)
    | (apply Wp.condF; rfl)
    | apply Wp.skip
    | apply Wp.ret
    | apply Wp.exit
    | apply Wp.block
    | apply SeqQ.ret
    | apply SeqQ.exit
    | apply BlockQ.go
    | apply BlockQ.ret
    | (apply BlockQ.hit; rfl)
    | (apply BlockQ.miss; rfl)
    | apply LoopI.ret
    | apply LoopI.exit
    | apply DropQ.ret
    | apply DropQ.exit
    | (apply rInt; rfl; rfl)
    | (apply rBool; rfl; rfl)
    | (apply rFin; rfl; exact IsL.n)
    | (apply mFin; rfl; exact IsL.n)
  refine Wp.while (fun m tm H => ∃ (i : Nat) (base : TM) (out : PV) (lv : List Nat) (nt : Nat), i + m = l.length ∧ ApV true 4 (cellsL (sentF (l.take i))) out lv nt ∧
      tm = ovr base [(3, out), (6, slV b 6 (moC l)), (7, .int .i64 (l.length : Int)), (8, .int .i64 (i : Int))] ∧ H = ⟨[], 0, lv, nt⟩)
    (fun m tm H hI => Wp.drop ?_) l.length _ _ ⟨0, _, _, _, _, by omega, .nil _ _ rfl, ovr_mk ⟨rfl, rfl, int_eq (by rw [moC_len]), rfl, trivial⟩, rfl⟩
  obtain ⟨i, base, out, lv, nt, hi, hA, rfl, rfl⟩ := hI
  by_cases hlt : i < l.length
  · obtain ⟨x, hx⟩ : ∃ x, l[i]? = some x := ⟨l[i], by simp⟩
    have hm : x ∈ l := List.mem_of_getElem? hx
    have hs := sent_snoc hx
    have h14 := ht x hm
    have hsl := sent_len (l := l.take i) fun m hm => ht m (List.mem_of_mem_take hm)
    rw [List.length_take] at hsl
    obtain ⟨out', lv', nt', hap, hA', -⟩ := hA.app apT_tm (.slV x.tn 4 (cellsL x.terms)) (cellsL_cellOk _) (fits_of (by simp only [cellsL_length]; omega) (by decide)) (noB_cellsL _)
    rw [← cellsL_append] at hA'
    have hj := moC_get hx
    obtain ⟨kd, nu, ro, an, ag, go, tn, te⟩ := x
    simp only [Mo.cells] at hj hs hap hA'
    repeat' first
      | apply RegQ.nil
      | (apply qAp; rfl; rfl; rfl; rfl; rfl; (first | assumption | solve_by_elim))
      | (apply qBi; rfl; rfl; rfl; rfl; assumption; exact IsV.any _)
      | (apply qIa; rfl; rfl; rfl; rfl; assumption; exact IsV.any _)
      | (apply qLn; rfl; rfl; rfl; rfl; rfl)
      | (apply qIx; rfl; rfl; rfl; rfl; rfl; rfl; rfl; rfl; assumption)
      | (apply qT (ty := 4); rfl; rfl; rfl)
      | (apply qF (ty := 4); rfl; rfl; rfl)
      | (apply qB (ty := 4); rfl; rfl; rfl)
      | (apply qT (ty := 0); rfl; rfl; rfl)
      | (apply qF (ty := 0); rfl; rfl; rfl)
      | (apply qB (ty := 0); rfl; rfl; rfl)
      | (apply g0; rfl; rfl; rfl; exact IsV.n)
      | (apply g1; rfl; rfl; rfl; exact IsV.n; exact IsH.mkN)
      | (apply qSt; rfl; rfl; rfl; exact IsL.n; rfl; (first | rfl | assumption | (simp only [List.all_cons, List.all_nil, cellOk_slV, Bool.and_true]; rfl)); (first | rfl | assumption); exact IsH.mkN)
      | intro hb
      | apply Wp.seq
      | apply SeqQ.go
      | apply Wp.region
      | (apply Wp.condT; rfl)
      | (apply Wp.condF; rfl)
      | apply Wp.skip
      | apply Wp.ret
      | apply Wp.exit
      | apply Wp.block
      | apply SeqQ.ret
      | apply SeqQ.exit
      | apply BlockQ.go
      | apply BlockQ.ret
      | (apply BlockQ.hit; rfl)
      | (apply BlockQ.miss; rfl)
      | apply LoopI.ret
      | apply LoopI.exit
      | apply DropQ.ret
      | apply DropQ.exit
      | (apply rInt; rfl; rfl)
      | (apply rBool; rfl; rfl)
      | (apply rFin; rfl; exact IsL.n)
      | (apply mFin; rfl; exact IsL.n)
    · have e : kd = 3 := by simpa using hb
      rw [if_pos e] at hs
      exact DropQ.go [(3, out'), (6, slV b 6 (moC l)), (7, .int .i64 (l.length : Int)), (8, .int .i64 ((i + 1 : Nat) : Int))] ⟨rfl, rfl, rfl, int_eq (wrap_nat (n := i + 1) (by omega)), trivial⟩
        (by simp [hA'.under, under_slV, under]) rfl rfl (LoopI.go (m - 1) (by omega) ⟨i + 1, _, out', lv', nt', by omega, by rw [hs]; exact hA', rfl, rfl⟩)
    · have e : ¬ kd = 3 := by simpa using hb
      rw [if_neg e, List.append_nil] at hs
      exact DropQ.go [(3, out), (6, slV b 6 (moC l)), (7, .int .i64 (l.length : Int)), (8, .int .i64 ((i + 1 : Nat) : Int))] ⟨rfl, rfl, rfl, int_eq (wrap_nat (n := i + 1) (by omega)), trivial⟩
        (by simp [hA.under, under_slV, under]) rfl rfl (LoopI.go (m - 1) (by omega) ⟨i + 1, _, out, lv, nt, by omega, by rw [hs]; exact hA, rfl, rfl⟩)
    · simp at hb <;> omega
  · have e : i = l.length := by omega
    subst e
    rw [List.take_length] at hA
    repeat' first
      | apply RegQ.nil
      | (apply qAp; rfl; rfl; rfl; rfl; rfl; (first | assumption | solve_by_elim))
      | (apply qBi; rfl; rfl; rfl; rfl; assumption; exact IsV.any _)
      | (apply qIa; rfl; rfl; rfl; rfl; assumption; exact IsV.any _)
      | (apply qLn; rfl; rfl; rfl; rfl; rfl)
      | (apply qIx; rfl; rfl; rfl; rfl; rfl; rfl; rfl; rfl; assumption)
      | (apply qT (ty := 4); rfl; rfl; rfl)
      | (apply qF (ty := 4); rfl; rfl; rfl)
      | (apply qB (ty := 4); rfl; rfl; rfl)
      | (apply qT (ty := 0); rfl; rfl; rfl)
      | (apply qF (ty := 0); rfl; rfl; rfl)
      | (apply qB (ty := 0); rfl; rfl; rfl)
      | (apply g0; rfl; rfl; rfl; exact IsV.n)
      | (apply g1; rfl; rfl; rfl; exact IsV.n; exact IsH.mkN)
      | (apply qSt; rfl; rfl; rfl; exact IsL.n; rfl; (first | rfl | assumption | (simp only [List.all_cons, List.all_nil, cellOk_slV, Bool.and_true]; rfl)); (first | rfl | assumption); exact IsH.mkN)
      | intro hb
      | apply Wp.seq
      | apply SeqQ.go
      | apply Wp.region
      | (apply Wp.condT; rfl)
      | (apply Wp.condF; rfl)
      | apply Wp.skip
      | apply Wp.ret
      | apply Wp.exit
      | apply Wp.block
      | apply SeqQ.ret
      | apply SeqQ.exit
      | apply BlockQ.go
      | apply BlockQ.ret
      | (apply BlockQ.hit; rfl)
      | (apply BlockQ.miss; rfl)
      | apply LoopI.ret
      | apply LoopI.exit
      | apply DropQ.ret
      | apply DropQ.exit
      | (apply rInt; rfl; rfl)
      | (apply rBool; rfl; rfl)
      | (apply rFin; rfl; exact IsL.n)
      | (apply mFin; rfl; exact IsL.n)
    · simp at hb
    · exact hA.frz3 _ _

set_option maxHeartbeats 2000000 in
theorem c14 {l : List Mo} (hl : l.length ≤ 420) (ht : ∀ m, m ∈ l → m.terms.length ≤ 14) (b : Bool) :
    ∀ H, CallOk E0 Tryz.prog 14 [slV b 6 (moC l)] H (slV true 4 (cellsL (sentF l))) H := by
  refine callOk_wp (own := fun _ => false) tOk fe14.ok (by simp only [frzGL, frzG_slV]) (frz3_slV _ _ _ _ _) ?_
  refine Wp.seq ?_
  repeat' first
    | apply RegQ.nil
    | (apply qAp; rfl; rfl; rfl; rfl; rfl; (first | assumption | solve_by_elim))
    | (apply qBi; rfl; rfl; rfl; rfl; assumption; exact IsV.any _)
    | (apply qIa; rfl; rfl; rfl; rfl; assumption; exact IsV.any _)
    | (apply qLn; rfl; rfl; rfl; rfl; rfl)
    | (apply qIx; rfl; rfl; rfl; rfl; rfl; rfl; rfl; rfl; assumption)
    | (apply qT (ty := 4); rfl; rfl; rfl)
    | (apply qF (ty := 4); rfl; rfl; rfl)
    | (apply qB (ty := 4); rfl; rfl; rfl)
    | (apply g0; rfl; rfl; rfl; exact IsV.n)
    | (apply g1; rfl; rfl; rfl; exact IsV.n; exact IsH.mkN)
    | intro hb
    | apply Wp.seq
    | apply SeqQ.go
    | apply Wp.region
    | (apply Wp.condT; rfl)
    | (apply Wp.condF; rfl)
    | apply Wp.skip
    | apply Wp.ret
    | apply Wp.exit
    | apply Wp.block
    | apply SeqQ.ret
    | apply SeqQ.exit
    | apply BlockQ.go
    | apply BlockQ.ret
    | (apply BlockQ.hit; rfl)
    | (apply BlockQ.miss; rfl)
    | apply LoopI.ret
    | apply LoopI.exit
    | apply DropQ.ret
    | apply DropQ.exit
    | (apply rInt; rfl; rfl)
    | (apply rBool; rfl; rfl)
    | (apply rFin; rfl; exact IsL.n)
    | (apply mFin; rfl; exact IsL.n)
  refine Wp.while (fun m tm H => ∃ (i : Nat) (base : TM) (out : PV) (lv : List Nat) (nt : Nat), i + m = l.length ∧ ApV true 4 (cellsL (sentF (l.take i))) out lv nt ∧
      tm = ovr base [(3, out), (0, slV b 6 (moC l)), (4, .int .i64 (i : Int))] ∧ H = ⟨[], 0, lv, nt⟩)
    (fun m tm H hI => ?_) l.length _ _ ⟨0, _, _, _, _, by omega, .nil _ _ rfl, ovr_mk ⟨rfl, rfl, rfl, trivial⟩, rfl⟩
  obtain ⟨i, base, out, lv, nt, hi, hA, rfl, rfl⟩ := hI
  by_cases hlt : i < l.length
  · obtain ⟨x, hx⟩ : ∃ x, l[i]? = some x := ⟨l[i], by simp⟩
    have hm : x ∈ l := List.mem_of_getElem? hx
    have hs := sent_snoc hx
    have h14 := ht x hm
    have hsl := sent_len (l := l.take i) fun m hm => ht m (List.mem_of_mem_take hm)
    rw [List.length_take] at hsl
    obtain ⟨out', lv', nt', hap, hA', -⟩ := hA.app apT_tm (.slV x.tn 4 (cellsL x.terms)) (cellsL_cellOk _) (fits_of (by simp only [cellsL_length]; omega) (by decide)) (noB_cellsL _)
    rw [← cellsL_append] at hA'
    have hj := moC_get hx
    obtain ⟨kd, nu, ro, an, ag, go, tn, te⟩ := x
    simp only [Mo.cells] at hj hs hap hA'
    repeat' first
      | apply RegQ.nil
      | (apply qAp; rfl; rfl; rfl; rfl; rfl; (first | assumption | solve_by_elim))
      | (apply qBi; rfl; rfl; rfl; rfl; assumption; exact IsV.any _)
      | (apply qIa; rfl; rfl; rfl; rfl; assumption; exact IsV.any _)
      | (apply qLn; rfl; rfl; rfl; rfl; rfl)
      | (apply qIx; rfl; rfl; rfl; rfl; rfl; rfl; rfl; rfl; assumption)
      | (apply qT (ty := 4); rfl; rfl; rfl)
      | (apply qF (ty := 4); rfl; rfl; rfl)
      | (apply qB (ty := 4); rfl; rfl; rfl)
      | (apply g0; rfl; rfl; rfl; exact IsV.n)
      | (apply g1; rfl; rfl; rfl; exact IsV.n; exact IsH.mkN)
      | intro hb
      | apply Wp.seq
      | apply SeqQ.go
      | apply Wp.region
      | (apply Wp.condT; rfl)
      | (apply Wp.condF; rfl)
      | apply Wp.skip
      | apply Wp.ret
      | apply Wp.exit
      | apply Wp.block
      | apply SeqQ.ret
      | apply SeqQ.exit
      | apply BlockQ.go
      | apply BlockQ.ret
      | (apply BlockQ.hit; rfl)
      | (apply BlockQ.miss; rfl)
      | apply LoopI.ret
      | apply LoopI.exit
      | apply DropQ.ret
      | apply DropQ.exit
      | (apply rInt; rfl; rfl)
      | (apply rBool; rfl; rfl)
      | (apply rFin; rfl; exact IsL.n)
      | (apply mFin; rfl; exact IsL.n)
    · have e : kd = 3 := by simpa using hb
      rw [if_pos e] at hs
      exact LoopI.go (m - 1) (by omega) ⟨i + 1, _, out', lv', nt', by omega, by rw [hs]; exact hA', ovr_mk ⟨rfl, rfl, int_eq (wrap_nat (n := i + 1) (by omega)), trivial⟩, rfl⟩
    · have e : ¬ kd = 3 := by simpa using hb
      rw [if_neg e, List.append_nil] at hs
      exact LoopI.go (m - 1) (by omega) ⟨i + 1, _, out, lv, nt, by omega, by rw [hs]; exact hA, ovr_mk ⟨rfl, rfl, int_eq (wrap_nat (n := i + 1) (by omega)), trivial⟩, rfl⟩
    · rw [moC_len] at hb; simp at hb <;> omega
  · have e : i = l.length := by omega
    subst e
    rw [List.take_length] at hA
    repeat' first
      | apply RegQ.nil
      | (apply qAp; rfl; rfl; rfl; rfl; rfl; (first | assumption | solve_by_elim))
      | (apply qBi; rfl; rfl; rfl; rfl; assumption; exact IsV.any _)
      | (apply qIa; rfl; rfl; rfl; rfl; assumption; exact IsV.any _)
      | (apply qLn; rfl; rfl; rfl; rfl; rfl)
      | (apply qIx; rfl; rfl; rfl; rfl; rfl; rfl; rfl; rfl; assumption)
      | (apply qT (ty := 4); rfl; rfl; rfl)
      | (apply qF (ty := 4); rfl; rfl; rfl)
      | (apply qB (ty := 4); rfl; rfl; rfl)
      | (apply g0; rfl; rfl; rfl; exact IsV.n)
      | (apply g1; rfl; rfl; rfl; exact IsV.n; exact IsH.mkN)
      | intro hb
      | apply Wp.seq
      | apply SeqQ.go
      | apply Wp.region
      | (apply Wp.condT; rfl)
      | (apply Wp.condF; rfl)
      | apply Wp.skip
      | apply Wp.ret
      | apply Wp.exit
      | apply Wp.block
      | apply SeqQ.ret
      | apply SeqQ.exit
      | apply BlockQ.go
      | apply BlockQ.ret
      | (apply BlockQ.hit; rfl)
      | (apply BlockQ.miss; rfl)
      | apply LoopI.ret
      | apply LoopI.exit
      | apply DropQ.ret
      | apply DropQ.exit
      | (apply rInt; rfl; rfl)
      | (apply rBool; rfl; rfl)
      | (apply rFin; rfl; exact IsL.n)
      | (apply mFin; rfl; exact IsL.n)
    · rw [moC_len] at hb; simp at hb
    · exact hA.frz3 _ _

theorem of_snoc {n : Int} {l : List Mo} {i : Nat} {x : Mo} (h : l[i]? = some x) : ofF n (l.take (i + 1)) = ofF n (l.take i) ++ (if x.kind ≠ 6 ∧ x.num = n then [x] else []) := by
  simp only [ofF, List.take_add_one, h, Option.toList_some, List.filter_append]
  congr 1
  by_cases c : x.kind ≠ 6 ∧ x.num = n
  · rw [if_pos c]; simp [c.1, c.2]
  · rw [if_neg c]
    simp only [List.filter_cons, List.filter_nil]
    rw [if_neg (by simpa [Bool.and_eq_true] using c)]
theorem of_len (n : Int) (l : List Mo) : (ofF n l).length ≤ l.length := List.length_filter_le _ _
theorem moC_one (kd nu ro : Int) (an : Bool) (ag : List Byts) (go : Int) (tn : Bool) (te : List Tm) : moC [⟨kd, nu, ro, an, ag, go, tn, te⟩] = [[.int .i64 kd, .int .i64 nu, .int .i64 ro, slV an 1 (strC ag), .int .i64 go, slV tn 4 (cellsL te)]] := rfl

set_option maxHeartbeats 2000000 in
theorem c16 {l : List Mo} (hl : l.length ≤ 420) (n : Int) (b : Bool) :
    ∀ H, CallOk E0 Tryz.prog 16 [slV b 6 (moC l), .int .i64 n] H (slV true 6 (moC (ofF n l))) H := by
  refine callOk_wp (own := fun _ => false) tOk fe16.ok (by simp only [frzGL, frzG_slV]; rfl) (frz3_slV _ _ _ _ _) ?_
  refine Wp.seq ?_
  repeat' first
    | apply RegQ.nil
    | (apply qK; rfl; rfl)
    | (apply qBs; rfl; rfl; rfl; rfl; exact IsLL.n; (first | rfl | (simp only [frzLL, frzL, frz1_slV]; rfl)))
    | (apply qAp; rfl; rfl; rfl; rfl; rfl; (first | assumption | solve_by_elim))
    | (apply qBi; rfl; rfl; rfl; rfl; assumption; exact IsV.any _)
    | (apply qIa; rfl; rfl; rfl; rfl; assumption; exact IsV.any _)
    | (apply qLn; rfl; rfl; rfl; rfl; rfl)
    | (apply qIx; rfl; rfl; rfl; rfl; rfl; rfl; rfl; rfl; assumption)
    | (apply qT (ty := 4); rfl; rfl; rfl)
    | (apply qF (ty := 4); rfl; rfl; rfl)
    | (apply qB (ty := 4); rfl; rfl; rfl)
    | (apply qT (ty := 0); rfl; rfl; rfl)
    | (apply qF (ty := 0); rfl; rfl; rfl)
    | (apply qB (ty := 0); rfl; rfl; rfl)
    | (apply g0; rfl; rfl; rfl; exact IsV.n)
    | (apply g1; rfl; rfl; rfl; exact IsV.n; exact IsH.mkN)
    | (apply qSt; rfl; rfl; rfl; exact IsL.n; rfl; (first | rfl | assumption | (simp only [List.all_cons, List.all_nil, cellOk_slV, Bool.and_true]; rfl)); (first | rfl | assumption); exact IsH.mkN)
    | intro hb
    | apply Wp.seq
    | apply SeqQ.go
    | apply Wp.region
    | (apply Wp.condT; rfl)
    | (apply Wp.condF; rfl)
    | apply Wp.skip
    | apply Wp.ret
    | apply Wp.exit
    | apply Wp.block
    | apply SeqQ.ret
    | apply SeqQ.exit
    | apply BlockQ.go
    | apply BlockQ.ret
    | (apply BlockQ.hit; rfl)
    | (apply BlockQ.miss; rfl)
    | apply LoopI.ret
    | apply LoopI.exit
    | apply DropQ.ret
    | apply DropQ.exit
    | (apply rInt; rfl; rfl)
    | (apply rBool; rfl; rfl)
    | (apply rFin; rfl; exact IsL.n)
    | (apply mFin; rfl; exact IsL.n)
  refine Wp.while (fun m tm H => ∃ (i : Nat) (base : TM) (out : PV) (lv : List Nat) (nt : Nat), i + m = l.length ∧ ApV true 6 (moC (ofF n (l.take i))) out lv nt ∧
      tm = ovr base [(1, .int .i64 n), (5, out), (8, slV b 6 (moC l)), (9, .int .i64 (l.length : Int)), (10, .int .i64 (i : Int))] ∧ H = ⟨[], 0, lv, nt⟩)
    (fun m tm H hI => Wp.drop ?_) l.length _ _ ⟨0, _, _, _, _, by omega, .nil _ _ rfl, ovr_mk ⟨rfl, rfl, rfl, int_eq (by rw [moC_len]), rfl, trivial⟩, rfl⟩
  obtain ⟨i, base, out, lv, nt, hi, hA, rfl, rfl⟩ := hI
  by_cases hlt : i < l.length
  · obtain ⟨x, hx⟩ : ∃ x, l[i]? = some x := ⟨l[i], by simp⟩
    have hs := of_snoc (n := n) hx
    have hsl := of_len n (l.take i)
    rw [List.length_take] at hsl
    obtain ⟨out', lv', nt', hap, hA', -⟩ := hA.app apT_mo (.sl .full 6 (moC [x])) (moC_ok _) (fits_of (by simp only [moC_len, List.length_cons, List.length_nil]; omega) (by decide)) (noB_moC _)
    rw [← moC_append] at hA'
    have hj := moC_get hx
    obtain ⟨kd, nu, ro, an, ag, go, tn, te⟩ := x
    simp only [Mo.cells] at hj hs
    rw [moC_one] at hap
    repeat' first
      | apply RegQ.nil
      | (apply qK; rfl; rfl)
      | (apply qBs; rfl; rfl; rfl; rfl; exact IsLL.n; (first | rfl | (simp only [frzLL, frzL, frz1_slV]; rfl)))
      | (apply qAp; rfl; rfl; rfl; rfl; rfl; (first | assumption | solve_by_elim))
      | (apply qBi; rfl; rfl; rfl; rfl; assumption; exact IsV.any _)
      | (apply qIa; rfl; rfl; rfl; rfl; assumption; exact IsV.any _)
      | (apply qLn; rfl; rfl; rfl; rfl; rfl)
      | (apply qIx; rfl; rfl; rfl; rfl; rfl; rfl; rfl; rfl; assumption)
      | (apply qT (ty := 4); rfl; rfl; rfl)
      | (apply qF (ty := 4); rfl; rfl; rfl)
      | (apply qB (ty := 4); rfl; rfl; rfl)
      | (apply qT (ty := 0); rfl; rfl; rfl)
      | (apply qF (ty := 0); rfl; rfl; rfl)
      | (apply qB (ty := 0); rfl; rfl; rfl)
      | (apply g0; rfl; rfl; rfl; exact IsV.n)
      | (apply g1; rfl; rfl; rfl; exact IsV.n; exact IsH.mkN)
      | (apply qSt; rfl; rfl; rfl; exact IsL.n; rfl; (first | rfl | assumption | (simp only [List.all_cons, List.all_nil, cellOk_slV, Bool.and_true]; rfl)); (first | rfl | assumption); exact IsH.mkN)
      | intro hb
      | apply Wp.seq
      | apply SeqQ.go
      | apply Wp.region
      | (apply Wp.condT; rfl)
      | (apply Wp.condF; rfl)
      | apply Wp.skip
      | apply Wp.ret
      | apply Wp.exit
      | apply Wp.block
      | apply SeqQ.ret
      | apply SeqQ.exit
      | apply BlockQ.go
      | apply BlockQ.ret
      | (apply BlockQ.hit; rfl)
      | (apply BlockQ.miss; rfl)
      | apply LoopI.ret
      | apply LoopI.exit
      | apply DropQ.ret
      | apply DropQ.exit
      | (apply rInt; rfl; rfl)
      | (apply rBool; rfl; rfl)
      | (apply rFin; rfl; exact IsL.n)
      | (apply mFin; rfl; exact IsL.n)
    all_goals first
      | (have e : kd ≠ 6 ∧ nu = n := by simp_all
         rw [if_pos e] at hs
         exact DropQ.go [(1, .int .i64 n), (5, out'), (8, slV b 6 (moC l)), (9, .int .i64 (l.length : Int)), (10, .int .i64 ((i + 1 : Nat) : Int))] ⟨rfl, rfl, rfl, rfl, int_eq (wrap_nat (n := i + 1) (by omega)), trivial⟩
           (by simp [hA'.under, under_slV, under]) rfl rfl (LoopI.go (m - 1) (by omega) ⟨i + 1, _, out', lv', nt', by omega, by rw [hs]; exact hA', rfl, rfl⟩))
      | (have e : ¬ (kd ≠ 6 ∧ nu = n) := by simp_all
         rw [if_neg e, List.append_nil] at hs
         exact DropQ.go [(1, .int .i64 n), (5, out), (8, slV b 6 (moC l)), (9, .int .i64 (l.length : Int)), (10, .int .i64 ((i + 1 : Nat) : Int))] ⟨rfl, rfl, rfl, rfl, int_eq (wrap_nat (n := i + 1) (by omega)), trivial⟩
           (by simp [hA.under, under_slV, under]) rfl rfl (LoopI.go (m - 1) (by omega) ⟨i + 1, _, out, lv, nt, by omega, by rw [hs]; exact hA, rfl, rfl⟩))
      | (exfalso; simp at hb <;> omega)
  · have e : i = l.length := by omega
    subst e
    rw [List.take_length] at hA
    repeat' first
      | apply RegQ.nil
      | (apply qK; rfl; rfl)
      | (apply qBs; rfl; rfl; rfl; rfl; exact IsLL.n; (first | rfl | (simp only [frzLL, frzL, frz1_slV]; rfl)))
      | (apply qAp; rfl; rfl; rfl; rfl; rfl; (first | assumption | solve_by_elim))
      | (apply qBi; rfl; rfl; rfl; rfl; assumption; exact IsV.any _)
      | (apply qIa; rfl; rfl; rfl; rfl; assumption; exact IsV.any _)
      | (apply qLn; rfl; rfl; rfl; rfl; rfl)
      | (apply qIx; rfl; rfl; rfl; rfl; rfl; rfl; rfl; rfl; assumption)
      | (apply qT (ty := 4); rfl; rfl; rfl)
      | (apply qF (ty := 4); rfl; rfl; rfl)
      | (apply qB (ty := 4); rfl; rfl; rfl)
      | (apply qT (ty := 0); rfl; rfl; rfl)
      | (apply qF (ty := 0); rfl; rfl; rfl)
      | (apply qB (ty := 0); rfl; rfl; rfl)
      | (apply g0; rfl; rfl; rfl; exact IsV.n)
      | (apply g1; rfl; rfl; rfl; exact IsV.n; exact IsH.mkN)
      | (apply qSt; rfl; rfl; rfl; exact IsL.n; rfl; (first | rfl | assumption | (simp only [List.all_cons, List.all_nil, cellOk_slV, Bool.and_true]; rfl)); (first | rfl | assumption); exact IsH.mkN)
      | intro hb
      | apply Wp.seq
      | apply SeqQ.go
      | apply Wp.region
      | (apply Wp.condT; rfl)
      | (apply Wp.condF; rfl)
      | apply Wp.skip
      | apply Wp.ret
      | apply Wp.exit
      | apply Wp.block
      | apply SeqQ.ret
      | apply SeqQ.exit
      | apply BlockQ.go
      | apply BlockQ.ret
      | (apply BlockQ.hit; rfl)
      | (apply BlockQ.miss; rfl)
      | apply LoopI.ret
      | apply LoopI.exit
      | apply DropQ.ret
      | apply DropQ.exit
      | (apply rInt; rfl; rfl)
      | (apply rBool; rfl; rfl)
      | (apply rFin; rfl; exact IsL.n)
      | (apply mFin; rfl; exact IsL.n)
    · simp at hb
    · exact hA.frz3 _ _

set_option maxHeartbeats 2000000 in
theorem c17 {l : List Mo} (hl : l.length ≤ 420) (n : Int) (b : Bool) :
    ∀ H, CallOk E0 Tryz.prog 17 [slV b 6 (moC l), .int .i64 n] H (slV true 6 (moC (ofF n l))) H := by
  refine callOk_wp (own := fun _ => false) tOk fe17.ok (by simp only [frzGL, frzG_slV]; rfl) (frz3_slV _ _ _ _ _) ?_
  refine Wp.seq ?_
  repeat' first
    | apply RegQ.nil
    | (apply qK; rfl; rfl)
    | (apply qBs; rfl; rfl; rfl; rfl; exact IsLL.n; (first | rfl | (simp only [frzLL, frzL, frz1_slV]; rfl)))
    | (apply qAp; rfl; rfl; rfl; rfl; rfl; (first | assumption | solve_by_elim))
    | (apply qBi; rfl; rfl; rfl; rfl; assumption; exact IsV.any _)
    | (apply qIa; rfl; rfl; rfl; rfl; assumption; exact IsV.any _)
    | (apply qLn; rfl; rfl; rfl; rfl; rfl)
    | (apply qIx; rfl; rfl; rfl; rfl; rfl; rfl; rfl; rfl; assumption)
    | (apply qT (ty := 4); rfl; rfl; rfl)
    | (apply qF (ty := 4); rfl; rfl; rfl)
    | (apply qB (ty := 4); rfl; rfl; rfl)
    | (apply g0; rfl; rfl; rfl; exact IsV.n)
    | (apply g1; rfl; rfl; rfl; exact IsV.n; exact IsH.mkN)
    | intro hb
    | apply Wp.seq
    | apply SeqQ.go
    | apply Wp.region
    | (apply Wp.condT; rfl)
    | (apply Wp.condF; rfl)
    | apply Wp.skip
    | apply Wp.ret
    | apply Wp.exit
    | apply Wp.block
    | apply SeqQ.ret
    | apply SeqQ.exit
    | apply BlockQ.go
    | apply BlockQ.ret
    | (apply BlockQ.hit; rfl)
    | (apply BlockQ.miss; rfl)
    | apply LoopI.ret
    | apply LoopI.exit
    | apply DropQ.ret
    | apply DropQ.exit
    | (apply rInt; rfl; rfl)
    | (apply rBool; rfl; rfl)
    | (apply rFin; rfl; exact IsL.n)
    | (apply mFin; rfl; exact IsL.n)
  refine Wp.while (fun m tm H => ∃ (i : Nat) (base : TM) (out : PV) (lv : List Nat) (nt : Nat), i + m = l.length ∧ ApV true 6 (moC (ofF n (l.take i))) out lv nt ∧
      tm = ovr base [(0, slV b 6 (moC l)), (1, .int .i64 n), (5, out), (6, .int .i64 (i : Int))] ∧ H = ⟨[], 0, lv, nt⟩)
    (fun m tm H hI => ?_) l.length _ _ ⟨0, _, _, _, _, by omega, .nil _ _ rfl, ovr_mk ⟨rfl, rfl, rfl, rfl, trivial⟩, rfl⟩
  obtain ⟨i, base, out, lv, nt, hi, hA, rfl, rfl⟩ := hI
  by_cases hlt : i < l.length
  · obtain ⟨x, hx⟩ : ∃ x, l[i]? = some x := ⟨l[i], by simp⟩
    have hs := of_snoc (n := n) hx
    have hsl := of_len n (l.take i)
    rw [List.length_take] at hsl
    obtain ⟨out', lv', nt', hap, hA', -⟩ := hA.app apT_mo (.sl .full 6 (moC [x])) (moC_ok _) (fits_of (by simp only [moC_len, List.length_cons, List.length_nil]; omega) (by decide)) (noB_moC _)
    rw [← moC_append] at hA'
    have hj := moC_get hx
    obtain ⟨kd, nu, ro, an, ag, go, tn, te⟩ := x
    simp only [Mo.cells] at hj hs
    rw [moC_one] at hap
    repeat' first
      | apply RegQ.nil
      | (apply qK; rfl; rfl)
      | (apply qBs; rfl; rfl; rfl; rfl; exact IsLL.n; (first | rfl | (simp only [frzLL, frzL, frz1_slV]; rfl)))
      | (apply qAp; rfl; rfl; rfl; rfl; rfl; (first | assumption | solve_by_elim))
      | (apply qBi; rfl; rfl; rfl; rfl; assumption; exact IsV.any _)
      | (apply qIa; rfl; rfl; rfl; rfl; assumption; exact IsV.any _)
      | (apply qLn; rfl; rfl; rfl; rfl; rfl)
      | (apply qIx; rfl; rfl; rfl; rfl; rfl; rfl; rfl; rfl; assumption)
      | (apply qT (ty := 4); rfl; rfl; rfl)
      | (apply qF (ty := 4); rfl; rfl; rfl)
      | (apply qB (ty := 4); rfl; rfl; rfl)
      | (apply g0; rfl; rfl; rfl; exact IsV.n)
      | (apply g1; rfl; rfl; rfl; exact IsV.n; exact IsH.mkN)
      | intro hb
      | apply Wp.seq
      | apply SeqQ.go
      | apply Wp.region
      | (apply Wp.condT; rfl)
      | (apply Wp.condF; rfl)
      | apply Wp.skip
      | apply Wp.ret
      | apply Wp.exit
      | apply Wp.block
      | apply SeqQ.ret
      | apply SeqQ.exit
      | apply BlockQ.go
      | apply BlockQ.ret
      | (apply BlockQ.hit; rfl)
      | (apply BlockQ.miss; rfl)
      | apply LoopI.ret
      | apply LoopI.exit
      | apply DropQ.ret
      | apply DropQ.exit
      | (apply rInt; rfl; rfl)
      | (apply rBool; rfl; rfl)
      | (apply rFin; rfl; exact IsL.n)
      | (apply mFin; rfl; exact IsL.n)
    all_goals first
      | (have e : kd ≠ 6 ∧ nu = n := by simp_all
         rw [if_pos e] at hs
         exact LoopI.go (m - 1) (by omega) ⟨i + 1, _, out', lv', nt', by omega, by rw [hs]; exact hA', ovr_mk ⟨rfl, rfl, rfl, int_eq (wrap_nat (n := i + 1) (by omega)), trivial⟩, rfl⟩)
      | (have e : ¬ (kd ≠ 6 ∧ nu = n) := by simp_all
         rw [if_neg e, List.append_nil] at hs
         exact LoopI.go (m - 1) (by omega) ⟨i + 1, _, out, lv, nt, by omega, by rw [hs]; exact hA, ovr_mk ⟨rfl, rfl, rfl, int_eq (wrap_nat (n := i + 1) (by omega)), trivial⟩, rfl⟩)
      | (exfalso; rw [moC_len] at hb; simp at hb <;> omega)
  · have e : i = l.length := by omega
    subst e
    rw [List.take_length] at hA
    repeat' first
      | apply RegQ.nil
      | (apply qK; rfl; rfl)
      | (apply qBs; rfl; rfl; rfl; rfl; exact IsLL.n; (first | rfl | (simp only [frzLL, frzL, frz1_slV]; rfl)))
      | (apply qAp; rfl; rfl; rfl; rfl; rfl; (first | assumption | solve_by_elim))
      | (apply qBi; rfl; rfl; rfl; rfl; assumption; exact IsV.any _)
      | (apply qIa; rfl; rfl; rfl; rfl; assumption; exact IsV.any _)
      | (apply qLn; rfl; rfl; rfl; rfl; rfl)
      | (apply qIx; rfl; rfl; rfl; rfl; rfl; rfl; rfl; rfl; assumption)
      | (apply qT (ty := 4); rfl; rfl; rfl)
      | (apply qF (ty := 4); rfl; rfl; rfl)
      | (apply qB (ty := 4); rfl; rfl; rfl)
      | (apply g0; rfl; rfl; rfl; exact IsV.n)
      | (apply g1; rfl; rfl; rfl; exact IsV.n; exact IsH.mkN)
      | intro hb
      | apply Wp.seq
      | apply SeqQ.go
      | apply Wp.region
      | (apply Wp.condT; rfl)
      | (apply Wp.condF; rfl)
      | apply Wp.skip
      | apply Wp.ret
      | apply Wp.exit
      | apply Wp.block
      | apply SeqQ.ret
      | apply SeqQ.exit
      | apply BlockQ.go
      | apply BlockQ.ret
      | (apply BlockQ.hit; rfl)
      | (apply BlockQ.miss; rfl)
      | apply LoopI.ret
      | apply LoopI.exit
      | apply DropQ.ret
      | apply DropQ.exit
      | (apply rInt; rfl; rfl)
      | (apply rBool; rfl; rfl)
      | (apply rFin; rfl; exact IsL.n)
      | (apply mFin; rfl; exact IsL.n)
    · rw [moC_len] at hb; simp at hb
    · exact hA.frz3 _ _
end Go.Vm.Seat
