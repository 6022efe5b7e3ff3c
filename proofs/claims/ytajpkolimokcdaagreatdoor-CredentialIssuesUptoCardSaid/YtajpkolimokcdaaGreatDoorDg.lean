/-
  CredentialIssues: the law's function returns true at any credential and any key.
-/
import Derived.Test.YtajpkolimokcdaaGreatDoorLd55
namespace Go.Vm.Seat
open Go.Proofs
set_option maxRecDepth 100000
def fewB (l : List Bs) : Bool := l.all (fun x => decide (x.length ≤ 100)) && decide (l.length ≤ 60)
structure Lst (L : PV) (l : List Bs) : Prop where
  len : ∀ H, aLen E0 25 L H = some (.int .i64 (l.length : Int))
  get : ∀ (i : Nat) (x : Bs), l[i]? = some x → aIndexAddr E0 25 L (.int .i64 (i : Int)) = some (.fptr [.str x] 0)
theorem lst_sl (tl : Tail) (l : List Bs) : Lst (.sl tl 1 (strC l)) l where
  len H := by
    simp only [aLen, e22, strC_len]
    rfl
  get i x h := by
    have en : nat? (.int .i64 (i : Int)) = some i := rfl
    have hn : nth (strC l) i = some [.str x] := by rw [nth_eq]; exact strC_get h
    simp only [aIndexAddr, e22, en, e9s, if_true, hn]
theorem lst_ap {L : PV} {l : List Bs} {lv : List Nat} {nt : Nat} (h : ApV false 1 (strC l) L lv nt) : Lst L l := by
  generalize hX : strC l = X at h
  cases h with
  | nil _ _ h => cases h
  | full => subst hX; exact lst_sl .full l
  | tok _ k => subst hX; exact lst_sl (.tok k) l
theorem app2 (b b' : Bool) (P X : List Bs) (hl : P.length + X.length ≤ 3000000) (bx : List Box) : ∃ L1 lv1 n1 L2 lv2 n2,
    (∀ ro, aAppend E0 25 25 (.sl .full 1 []) (slV b 1 (strC P)) ⟨bx, ro, [], 0⟩ = some (L1, ⟨bx, ro, lv1, n1⟩)) ∧
    (∀ ro, aAppend E0 25 25 L1 (slV b' 1 (strC X)) ⟨bx, ro, lv1, n1⟩ = some (L2, ⟨bx, ro, lv2, n2⟩)) ∧ Lst L2 (P ++ X) := by
  have h0 : ApV false 1 (strC []) (.sl .full 1 []) [] 0 := .full [] _ _ rfl rfl
  obtain ⟨L1, lv1, n1, ha1, hA1, -⟩ := h0.app apT_str (.slV b 1 (strC P)) (strC_ok _) (fits_of (by simp only [strC_len, List.length_nil]; omega) (by decide)) (noB_strC _)
  rw [← strC_append] at hA1
  obtain ⟨L2, lv2, n2, ha2, hA2, -⟩ := hA1.app apT_str (.slV b' 1 (strC X)) (strC_ok _) (fits_of (by simp only [strC_len, List.nil_append]; omega) (by decide)) (noB_strC _)
  rw [← strC_append] at hA2
  exact ⟨L1, lv1, n1, L2, lv2, n2, fun ro => ha1 bx ro, fun ro => ha2 bx ro, lst_ap hA2⟩
set_option maxHeartbeats 4000000 in
theorem c41 {P X : List Bs} (hl : P.length + X.length ≤ 3000000) (b b' : Bool) :
    ∀ H, CallOk E0 Tryz.prog 41 [.agg [slV b 1 (strC P), slV b' 1 (strC X)]] H (.bool (fewB (P ++ X))) H := by
  refine callOk_wp (own := fun d => Nat.beq d 5008 || Nat.beq d 5011) tOk fe41.ok (by simp only [frzGL, frzG, frzL, frz1_slV]) rfl ?_
  obtain ⟨L1, lv1, n1, L2, lv2, n2, ha1, ha2, hL⟩ := app2 b b' P X hl [.cells 2 [[slV b 1 (strC P), slV b' 1 (strC X)]]]
  have hle := hL.len
  refine Wp.seq ?_
  repeat' first | apply RegQ.nil | (apply qF (ty := 4); rfl; rfl; rfl) | (apply g0; rfl; rfl; rfl; exact IsV.n) | (apply g1; rfl; rfl; rfl; exact IsV.n; exact IsH.mkN) | apply DrwQ.nil | (apply dBs; rfl; rfl; rfl; rfl; exact IsLL.n; (first | rfl | (simp only [frzLL, frzL, frz1_slV]; rfl)); rfl) | (apply dAq; rfl; rfl; rfl; rfl; rfl; rfl; (first | assumption | solve_by_elim)) | (apply h0; rfl; rfl; rfl; exact IsV.n; rfl) | apply Wp.seq | apply SeqQ.go | apply Wp.region | (apply Wp.draw tOk follows; kernel_rfl) | apply Wp.block
  obtain ⟨l, el⟩ : ∃ l, l = P ++ X := ⟨_, rfl⟩
  have hll : l.length ≤ 3000000 := by rw [el, List.length_append]; exact hl
  rw [← el] at hL hle ⊢
  clear el ha1 ha2
  obtain ⟨bx, hbx⟩ : ∃ bx, bx = [Box.cells 2 [[slV b 1 (strC P), slV b' 1 (strC X)]]] := ⟨_, rfl⟩
  rw [← hbx]
  clear hbx
  refine Wp.while (fun m tm H => ∃ (i : Nat) (base : TM), i + m = l.length ∧ l.all (fun x => decide (x.length ≤ 100)) = (l.drop i).all (fun x => decide (x.length ≤ 100)) ∧
      tm = ovr base [(3, L2), (4, .int .i64 (i : Int))] ∧ H = ⟨bx, 0, lv2, n2⟩)
    (fun m tm H hI => ?_) l.length _ _ ⟨0, _, by omega, by simp, ovr_mk ⟨rfl, rfl, trivial⟩, rfl⟩
  obtain ⟨i, base, hi, hf, rfl, rfl⟩ := hI
  by_cases hlt : i < l.length
  · obtain ⟨x, hx⟩ : ∃ x, l[i]? = some x := ⟨l[i], by simp⟩
    have hg := hL.get i x hx
    rw [drop_cons hx, List.all_cons] at hf
    repeat' first | apply RegQ.nil | (apply qIa; rfl; rfl; rfl; rfl; assumption; exact IsV.any _) | (apply qLe; rfl; rfl; rfl; assumption; exact IsV.any _) | (apply qT (ty := 4); rfl; rfl; rfl) | (apply qF (ty := 4); rfl; rfl; rfl) | (apply qB (ty := 4); rfl; rfl; rfl) | (apply g0; rfl; rfl; rfl; exact IsV.n) | intro hb | apply Wp.seq | apply SeqQ.go | apply Wp.region | (apply Wp.condT; rfl) | (apply Wp.condF; rfl) | apply Wp.skip | apply Wp.ret | apply Wp.exit | apply SeqQ.exit | apply Wp.block | apply BlockQ.go | apply BlockQ.ret | apply SeqQ.ret | (apply BlockQ.hit; rfl) | apply LoopI.ret | apply LoopI.exit | (apply rBool; rfl; rfl)
    · have hx0 : decide (x.length ≤ 100) = false := by simp at hb ⊢; omega
      rw [hx0] at hf
      simp only [fewB, hf]; rfl
    · have hx0 : decide (x.length ≤ 100) = true := by simp at hb ⊢; omega
      rw [hx0] at hf
      refine LoopI.go (m - 1) (by omega) ⟨i + 1, _, by omega, by rw [hf]; rfl, ovr_mk ⟨rfl, int_eq (wrap_nat (n := i + 1) (by omega)), trivial⟩, rfl⟩
    all_goals (exfalso; rename_i hq; simp at hq; omega)
  · have e : i = l.length := by omega
    subst e
    rw [List.drop_length] at hf
    have hfe : fewB l = decide ((l.length : Int) ≤ 60) := by
      simp only [fewB, hf]
      rw [Bool.eq_iff_iff]; simp; omega
    repeat' first | apply RegQ.nil | (apply qLe; rfl; rfl; rfl; assumption; exact IsV.any _) | (apply qT (ty := 4); rfl; rfl; rfl) | (apply qF (ty := 4); rfl; rfl; rfl) | (apply qB (ty := 4); rfl; rfl; rfl) | (apply g0; rfl; rfl; rfl; exact IsV.n) | intro hb | apply Wp.seq | apply SeqQ.go | apply Wp.region | (apply Wp.condT; rfl) | (apply Wp.condF; rfl) | apply Wp.skip | apply Wp.ret | apply Wp.exit | apply SeqQ.exit | apply Wp.block | (apply BlockQ.hit; rfl) | apply LoopI.exit | (apply rBool; rfl; rfl)
    · exfalso; simp at hb
    · rw [hfe, hb]
    · rw [hfe, hb]
def Cred.few (x : Cred) : Bool := decide ((x.sub.length : Int) ≤ 100) && (fewB (x.per ++ x.exc) && fewF [x.key] 1 450)
set_option maxHeartbeats 8000000 in
theorem c9 (x : Cred) (hk : x.key.Ok) (hl : x.per.length + x.exc.length ≤ 3000000) : ∀ H, CallOk E0 Tryz.prog 9 [.agg x.cells] H (.bool (Cred.few x)) H := by
  have c1 := c41 hl x.pn x.en
  have c2 := c10 hk
  obtain ⟨sub, ⟨k, nm, s, b, kids⟩, iss, pn, per, en, exc, ser, fr, till⟩ := x
  simp only [Cred.cells, Tm.cells, List.cons_append, List.nil_append, Cred.few] at c1 c2 ⊢
  generalize fewB (per ++ exc) = A at c1 ⊢
  generalize fewF [.mk k nm s b kids] 1 450 = B at c2 ⊢
  refine callOk_wp (own := fun _ => false) tOk fe9.ok (by simp only [frzGL, frzG, frzL, frz1_slV]; rfl) rfl ?_
  refine Wp.seq ?_
  have hb1 : aBin E0 .leq 3 (.int .i64 (sub.length : Int)) (.int .i64 100) = some (.bool (decide ((sub.length : Int) ≤ 100))) := rfl
  generalize decide ((sub.length : Int) ≤ 100) = C at hb1 ⊢
  cases C with
  | false =>
    repeat' first | apply RegQ.nil | (apply qK; rfl; rfl) | (apply qBi; rfl; rfl; rfl; rfl; assumption; exact IsV.any _) | (apply qF (ty := 4); rfl; rfl; rfl) | (apply g0; rfl; rfl; rfl; exact IsV.n) | (apply g1; rfl; rfl; rfl; exact IsV.n; exact IsH.mkN) | apply Wp.seq | apply SeqQ.go | apply Wp.region | apply Wp.ret | (apply rBool; rfl; rfl)
    all_goals rfl
  | true =>
    cases A with
    | false =>
      repeat' first | apply RegQ.nil | (apply qK; rfl; rfl) | (apply qCl; rfl; rfl; rfl; rfl; exact c1 _) | (apply qBi; rfl; rfl; rfl; rfl; assumption; exact IsV.any _) | (apply qT (ty := 4); rfl; rfl; rfl) | (apply qF (ty := 4); rfl; rfl; rfl) | (apply g0; rfl; rfl; rfl; exact IsV.n) | (apply g1; rfl; rfl; rfl; exact IsV.n; exact IsH.mkN) | apply Wp.seq | apply SeqQ.go | apply Wp.region | apply Wp.ret | (apply rBool; rfl; rfl)
      all_goals rfl
    | true =>
      repeat' first | apply RegQ.nil | (apply qCl; rfl; rfl; rfl; rfl; first | exact c1 _ | exact c2 _) | (apply qBi; rfl; rfl; rfl; rfl; assumption; exact IsV.any _) | (apply qT (ty := 4); rfl; rfl; rfl) | (apply qF (ty := 4); rfl; rfl; rfl) | (apply g0; rfl; rfl; rfl; exact IsV.n) | (apply g1; rfl; rfl; rfl; exact IsV.n; exact IsH.mkN) | apply Wp.seq | apply SeqQ.go | apply Wp.region | apply Wp.ret | (apply rBool; rfl; rfl)
      all_goals rfl
set_option maxHeartbeats 16000000 in
theorem c3 (x : Cred) {key : Tm} (hx : x.key.Ok) (hl : x.per.length + x.exc.length ≤ 3000000) (hkey : key.Ok) : ∀ H, CallOk E0 Tryz.prog 3 [.agg x.cells, .agg key.cells] H (.bool true) H := by
  have haw : ∀ H, CallOk E0 Tryz.prog 8 [] H (.bool true) H := awakeOk5
  have c1 := c9 x hx hl
  have c2 := c10 hkey
  cases hF : Cred.few x with
  | false =>
    rw [hF] at c1
    obtain ⟨k, nm, s, b, kids⟩ := key
    obtain ⟨sub, ⟨k4, m4, s4, b4, q4⟩, iss, pn, per, en, exc, ser, fr, till⟩ := x
    simp only [Cred.cells, Tm.cells, List.cons_append, List.nil_append] at c1 c2 ⊢
    have hco : [slV b4 4 (cellsL q4), slV pn 1 (strC per), slV en 1 (strC exc)].all cellOk = true := by simp only [List.all_cons, List.all_nil, cellOk_slV, Bool.and_self]
    refine callOk_wp (own := fun _ => false) tOk fe3.ok (by simp only [frzGL, frzG, frzL, frz1_slV]; rfl) rfl ?_
    refine Wp.seq ?_
    repeat' first | apply RegQ.nil | (apply qK; rfl; rfl) | (apply qCl; rfl; rfl; rfl; rfl; first | exact haw _ | exact c1 _) | (apply qT (ty := 4); rfl; rfl; rfl) | (apply qF (ty := 4); rfl; rfl; rfl) | (apply g0; rfl; rfl; rfl; exact IsV.n) | (apply g1; rfl; rfl; rfl; exact IsV.n; exact IsH.mkN) | apply Wp.seq | apply SeqQ.go | apply Wp.region | (apply Wp.condT; rfl) | apply Wp.ret | apply SeqQ.ret | (apply rBool; rfl; rfl)
    all_goals rfl
  | true =>
    rw [hF] at c1
    cases hG : fewF [key] 1 450 with
    | false =>
      rw [hG] at c2
      obtain ⟨k, nm, s, b, kids⟩ := key
      obtain ⟨sub, ⟨k4, m4, s4, b4, q4⟩, iss, pn, per, en, exc, ser, fr, till⟩ := x
      simp only [Cred.cells, Tm.cells, List.cons_append, List.nil_append] at c1 c2 ⊢
      have hco : [slV b4 4 (cellsL q4), slV pn 1 (strC per), slV en 1 (strC exc)].all cellOk = true := by simp only [List.all_cons, List.all_nil, cellOk_slV, Bool.and_self]
      refine callOk_wp (own := fun _ => false) tOk fe3.ok (by simp only [frzGL, frzG, frzL, frz1_slV]; rfl) rfl ?_
      refine Wp.seq ?_
      repeat' first | apply RegQ.nil | (apply qCl; rfl; rfl; rfl; rfl; first | exact haw _ | exact c1 _ | exact c2 _) | (apply qT (ty := 4); rfl; rfl; rfl) | (apply qF (ty := 4); rfl; rfl; rfl) | (apply g0; rfl; rfl; rfl; exact IsV.n) | (apply g1; rfl; rfl; rfl; exact IsV.n; exact IsH.mkN) | apply Wp.seq | apply SeqQ.go | apply Wp.region | (apply Wp.condT; rfl) | apply Wp.ret | apply SeqQ.ret | (apply rBool; rfl; rfl)
      all_goals rfl
    | true =>
      rw [hG] at c2
      have hks := few_size hG
      have hks : key.size ≤ 450 := by omega
      simp only [Cred.few, fewB, Bool.and_eq_true, decide_eq_true_eq, List.all_eq_true, List.mem_append, List.length_append] at hF
      obtain ⟨f1, ⟨f2, f3⟩, f4⟩ := hF
      have hxs := few_size f4
      have hxs : x.key.size ≤ 450 := by omega
      have c3 := c11 x (key := key) (by omega) (fun s hs => by have := f2 s (.inl hs); omega) (fun s hs => by have := f2 s (.inr hs); omega) (by omega) (by omega) hx (by omega) hkey (by omega)
      have c4 := c12 x (key := key) (by omega) (fun s hs => by have := f2 s (.inl hs); omega) (fun s hs => by have := f2 s (.inr hs); omega) (by omega) (by omega) hx (by omega) hkey (by omega)
      have hsm := issue_small (x := x) (key := key) hx hkey
      have c5 := c13 hsm.1 hsm.1 (by omega) (by omega)
      rw [decide_eq_true (cmp_of_cl _ _ rfl)] at c5
      have c6 := c14 x (by omega) hx (by omega) (fun s hs => by have := f2 s (.inl hs); omega) (fun s hs => by have := f2 s (.inr hs); omega) (by omega) (by omega)
      have c7 := c15 x (by omega) hx (by omega) (fun s hs => by have := f2 s (.inl hs); omega) (fun s hs => by have := f2 s (.inr hs); omega) (by omega) (by omega)
      have c8 := c16 hsm.1 (by omega)
      have c9 := cred_same x (k' := x.key) true true hx hx (by omega) (by omega) (cmp_of_cl _ _ rfl) (by omega) (by omega)
      have b4 : aBin E0 .neq 33 (.int .i64 x.valid) (.int .i64 x.valid) = some (.bool false) := by
        show some (PV.bool (x.valid != x.valid)) = _
        simp
      by_cases he : (x.issue key).2 = 0
      · rw [read_issue he] at c8
        rw [he] at c3 c4
        generalize (x.issue key).1 = I at c3 c4 c5 c8
        generalize x.valid = v at c6 c7 b4
        clear hsm he f1 f2 f3 f4 hxs hks hG
        obtain ⟨k1, m1, s1, t1, q1⟩ := key
        obtain ⟨k2, m2, s2, t2, q2⟩ := I
        obtain ⟨sub, ⟨k4, m4, s4, t4, q4⟩, iss, pn, per, en, exc, ser, fr, till⟩ := x
        simp only [Cred.cells, Tm.cells, List.cons_append, List.nil_append] at c1 c2 c3 c4 c5 c6 c7 c8 c9 ⊢
        have hco : [slV t4 4 (cellsL q4), slV pn 1 (strC per), slV en 1 (strC exc)].all cellOk = true := by simp only [List.all_cons, List.all_nil, cellOk_slV, Bool.and_self]
        refine callOk_wp (own := fun _ => false) tOk fe3.ok (by simp only [frzGL, frzG, frzL, frz1_slV]; rfl) rfl ?_
        refine Wp.seq ?_
        repeat' first | apply RegQ.nil | (apply qCl; rfl; rfl; rfl; rfl; first | exact haw _ | exact c1 _ | exact c2 _ | exact c3 _ | exact c4 _ | exact c8 _ | exact c9 _) | (apply qT (ty := 4); rfl; rfl; rfl) | (apply qF (ty := 4); rfl; rfl; rfl) | (apply g0; rfl; rfl; rfl; exact IsV.n) | (apply g1; rfl; rfl; rfl; exact IsV.n; exact IsH.mkN) | (apply qSt; rfl; rfl; rfl; exact IsL.n; (first | rfl | assumption); (first | rfl | assumption | (simp only [List.all_cons, List.all_nil, cellOk_slV, Bool.and_true]; rfl)); (first | rfl | assumption); exact IsH.mkN) | apply DrwQ.nil | (apply dCl; rfl; rfl; rfl; rfl; rfl; first | exact c5 _ | exact c6 _ | exact c7 _) | (apply dBi; rfl; rfl; rfl; rfl; assumption; exact IsV.any _; rfl) | (apply dT (ty := 4); rfl; rfl; rfl; rfl) | (apply dF (ty := 4); rfl; rfl; rfl; rfl) | (apply h0; rfl; rfl; rfl; exact IsV.n; rfl) | apply Wp.seq | apply SeqQ.go | apply Wp.region | (apply Wp.draw tOk follows; kernel_rfl) | (apply Wp.condF; rfl) | apply Wp.skip | apply Wp.ret | (apply rBool; rfl; rfl)
        all_goals rfl
      · have hz := issue_bad he
        rw [hz] at c3 c4 c5
        generalize (x.issue key).2 = e at c3 c4 he
        have b1 : aBin E0 .neq 33 (.int .i64 e) (.int .i64 e) = some (.bool false) := by
          show some (PV.bool (e != e)) = _
          simp
        have b2 : aBin E0 .neq 33 (.int .i64 e) (.int .i64 0) = some (.bool true) := by
          show some (PV.bool (e != 0)) = _
          simp [he]
        have b3 : aBin E0 .eql 33 (.int .i64 e) (.int .i64 0) = some (.bool false) := by
          show some (PV.bool (e == 0)) = _
          simp [he]
        generalize x.valid = v at c6 c7 b4
        clear hsm he f1 f2 f3 f4 hxs hks hG hz c8 c9
        obtain ⟨k1, m1, s1, t1, q1⟩ := key
        obtain ⟨sub, ⟨k4, m4, s4, t4, q4⟩, iss, pn, per, en, exc, ser, fr, till⟩ := x
        have hzc : Tm.zero.cells = [.int .i64 0, .str [], .int .i64 0, .nils] := by
          show [PV.int .i64 0, .str [], .int .i64 0, slV true 4 (cellsL [])] = _
          rw [show slV true 4 (cellsL []) = .nils from slV_nil_true 4]
        rw [hzc] at c3 c4 c5
        simp only [Cred.cells, Tm.cells, List.cons_append, List.nil_append] at c1 c2 c3 c4 c5 c6 c7 ⊢
        have hco : [slV t4 4 (cellsL q4), slV pn 1 (strC per), slV en 1 (strC exc)].all cellOk = true := by simp only [List.all_cons, List.all_nil, cellOk_slV, Bool.and_self]
        refine callOk_wp (own := fun _ => false) tOk fe3.ok (by simp only [frzGL, frzG, frzL, frz1_slV]; rfl) rfl ?_
        refine Wp.seq ?_
        repeat' first | apply RegQ.nil | (apply qCl; rfl; rfl; rfl; rfl; first | exact haw _ | exact c1 _ | exact c2 _ | exact c3 _ | exact c4 _) | (apply qBi; rfl; rfl; rfl; rfl; assumption; exact IsV.any _) | (apply qT (ty := 4); rfl; rfl; rfl) | (apply qF (ty := 4); rfl; rfl; rfl) | (apply g0; rfl; rfl; rfl; exact IsV.n) | (apply g1; rfl; rfl; rfl; exact IsV.n; exact IsH.mkN) | (apply qSt; rfl; rfl; rfl; exact IsL.n; (first | rfl | assumption); (first | rfl | assumption | (simp only [List.all_cons, List.all_nil, cellOk_slV, Bool.and_true]; rfl)); (first | rfl | assumption); exact IsH.mkN) | apply DrwQ.nil | (apply dK; rfl; rfl; rfl) | (apply dCl; rfl; rfl; rfl; rfl; rfl; first | exact c6 _ | exact c7 _) | (apply dBi; rfl; rfl; rfl; rfl; assumption; exact IsV.any _; rfl) | (apply dF (ty := 4); rfl; rfl; rfl; rfl) | (apply h0; rfl; rfl; rfl; exact IsV.n; rfl) | apply Wp.seq | apply SeqQ.go | apply Wp.region | (apply Wp.draw tOk follows; kernel_rfl) | (apply Wp.condT; rfl) | (apply Wp.condF; rfl) | apply Wp.skip | apply Wp.ret | apply SeqQ.ret | (apply rBool; rfl; rfl)
        all_goals rfl
end Go.Vm.Seat
