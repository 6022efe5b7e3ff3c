/-
  Credentials: names that the program reads out of a term. Credentials: read by the program's text.
-/
import Derived.Test.YtajpkolimokcdaaGreatDoorCy
namespace Go.Vm.Seat
open Go.Proofs
set_option maxRecDepth 100000
theorem apT_str : ApT E0 25 25 1 16 := ⟨_, _, _, _, _, rfl, rfl, rfl, rfl, rfl, rfl, rfl, by decide, rfl⟩
theorem noB_strC (l : List Bs) : noB (strC l) = true := by
 simp only [strC, noB, List.all_map, List.all_eq_true]
 intro x _
 rfl
theorem strC_ok (l : List Bs) : (strC l).all (fun c => c.all cellOk) = true := by
 simp only [strC, List.all_map, List.all_eq_true]
 intro x _
 rfl
theorem strC_append (a b : List Bs) : strC (a ++ b) = strC a ++ strC b := by simp [strC]
theorem apS {l : List Bs} {out : PV} {lv : List Nat} {nt : Nat} (h : ApV true 1 (strC l) out lv nt) (s : Bs) (hl : l.length ≤ 100000) :
  ∃ k lv' nt', (∀ bx ro, aAppend E0 25 25 out (.sl .full 1 [[.str s]]) ⟨bx, ro, lv, nt⟩ = some (.sl (.tok k) 1 (strC (l ++ [s])), ⟨bx, ro, lv', nt'⟩)) ∧ ApV true 1 (strC (l ++ [s])) (.sl (.tok k) 1 (strC (l ++ [s]))) lv' nt' := by
 obtain ⟨out', lv', nt', hap, hA', -⟩ := h.app apT_str (.sl .full 1 (strC [s])) (strC_ok _) (fits_of (by simp only [strC_len, List.length_cons, List.length_nil]; omega) (by decide)) (noB_strC _)
 rw [← strC_append] at hA'
 obtain ⟨k, rfl⟩ := apV_tok hA' (by simp [strC])
 exact ⟨k, lv', nt', hap, hA'⟩
theorem joinO {l : List Bs} {out : PV} {lv : List Nat} {nt : Nat} (hA : ApV true 1 (strC l) out lv nt) (h1 : l.length ≤ 1000000) (h2 : (joinB [46] l).length ≤ 1000000) (bx : List Box) : CallOk E0 Tryz.prog 128 [out, .str [46]] ⟨bx, 0, lv, nt⟩ (.str (joinB [46] l)) ⟨bx, 0, lv, nt⟩ := by
 refine (z128 [out, .str [46]] _ _ _ ?_).1
 have g1 : (Nat.ble l.length 1000000 && Nat.ble (joinB [46] l).length 1000000) = true := by
  rw [Nat.ble_eq_true_of_le h1, Nat.ble_eq_true_of_le h2]; rfl
 generalize hL : strC l = L at hA
 cases hA with
 | nil =>
   have : l = [] := by cases l with
    | nil => rfl
    | cons a r => simp [strC] at hL
   subst this
   rfl
 | full _ _ _ h => cases h
 | tok =>
   subst hL
   simp only [joinZ, strsL_C, g1]
theorem frz3_strb (m : Nat) (H : Heap) (s : Bs) (x : Bool) : frz3 m H (.tup [.str s, .bool x]) = some (.tup [.str s, .bool x]) := rfl
set_option maxHeartbeats 8000000 in
theorem c58 {t : Tm} (ht : t.Ok) (hs : Small t) : ∀ H, CallOk E0 Tryz.prog 58 [.agg t.cells] H (.tup [.str (rdName t).1, .bool (rdName t).2]) H := by
 have hc := c127 ht (by have := hs.1; omega)
 have hjl := rdName_len hs
 have hpl := parts_len t
 have hts := hs.1
 simp only [rdName] at hjl ⊢
 have hok : ∀ x, x ∈ t.parts.1 → x.Ok := fun x hx => ht.part (parts_mem hx)
 generalize t.parts.1 = l at hc hjl hpl hok ⊢
 generalize decide (t.parts.2.cmp endT = 0) = R at hc ⊢
 obtain ⟨k, nm, s, b, kids⟩ := t
 simp only [Tm.cells] at hc
 refine callOk_wp (own := fun _ => false) tOk fe58.ok (by simp [frzGL, frzG, Tm.cells, frz_tm]) (frz3_strb _ _ _ _) ?_
 refine Wp.seq ?_
 repeat' first | apply RegQ.nil | (apply qCl; rfl; rfl; rfl; rfl; exact hc _) | (apply qLn; rfl; rfl; rfl; rfl; rfl) | (apply qF (ty := 4); rfl; rfl; rfl) | (apply g0; rfl; rfl; rfl; exact IsV.n) | (apply g1; rfl; rfl; rfl; exact IsV.n; exact IsH.mkN) | apply Wp.seq | apply SeqQ.go | apply Wp.region | apply Wp.block
 refine Wp.while (fun m tm H => ∃ (i : Nat) (base : TM) (out : PV) (lv : List Nat) (nt : Nat), i + m = l.length ∧ ApV true 1 (strC ((l.take i).map Tm.nm)) out lv nt ∧
   tm = ovr base [(5, .bool R), (6, out), (14, slV true 4 (cellsL l)), (15, .int .i64 (l.length : Int)), (16, .int .i64 (i : Int))] ∧ H = ⟨[.cells 4 [[.int .i64 k, .str nm, .int .i64 s, slV b 4 (cellsL kids)]]], 0, lv, nt⟩)
  (fun m tm H hI => Wp.drop ?_) l.length _ _ ⟨0, _, _, _, _, by omega, .nil _ _ rfl, ovr_mk ⟨rfl, rfl, rfl, int_eq (by rw [cellsL_length]), rfl, trivial⟩, rfl⟩
 obtain ⟨i, base, out, lv, nt, hi, hA, rfl, rfl⟩ := hI
 by_cases hlt : i < l.length
 · obtain ⟨x, hx⟩ : ∃ x, l[i]? = some x := ⟨l[i], by simp⟩
   obtain ⟨kt, lv', nt', hap, hA'⟩ := apS hA x.nm (by simp; omega)
   have hs : (l.take i).map Tm.nm ++ [x.nm] = (l.take (i + 1)).map Tm.nm := by simp [List.take_add_one, hx]
   rw [hs] at hA' hap
   obtain ⟨k', nm', s', b', kids'⟩ := x
   have hj := cellsL_get hx
   simp only [Tm.nm] at hap
   repeat' first | apply RegQ.nil | (apply qBs; rfl; rfl; rfl; rfl; exact IsLL.n; (first | rfl | (simp only [frzLL, frzL, frz1_slV]; rfl))) | (apply qAp; rfl; rfl; rfl; rfl; rfl; (first | assumption | solve_by_elim)) | (apply qIx; rfl; rfl; rfl; rfl; rfl; rfl; rfl; rfl; assumption) | (apply g0; rfl; rfl; rfl; exact IsV.n) | (apply g1; rfl; rfl; rfl; exact IsV.n; exact IsH.mkN) | (apply qSt; rfl; rfl; rfl; exact IsL.n; (first | rfl | assumption); (first | rfl | assumption | (simp only [List.all_cons, List.all_nil, cellOk_slV, Bool.and_true]; rfl)); (first | rfl | assumption); exact IsH.mkN) | intro hb | apply Wp.seq | apply SeqQ.go | apply Wp.region | (apply Wp.cond; rfl) | apply Wp.skip | apply Wp.exit | apply SeqQ.exit | apply Wp.block | apply BlockQ.go | (apply BlockQ.hit; rfl) | apply LoopI.exit | apply DropQ.exit
   all_goals first
    | (exfalso; simp at hb; omega)
    | skip
   exact DropQ.go [(5, .bool R), (6, .sl (.tok kt) 1 (strC ((l.take (i + 1)).map Tm.nm))), (14, slV true 4 (cellsL l)), (15, .int .i64 (l.length : Int)), (16, .int .i64 ((i + 1 : Nat) : Int))] ⟨rfl, rfl, rfl, rfl, int_eq (wrap_nat (n := i + 1) (by omega)), trivial⟩
     (by simp [under_slV, under]) rfl (by simp [boxU, underL, under, under_slV]) (LoopI.go (m - 1) (by omega) ⟨i + 1, _, _, lv', nt', by omega, hA', rfl, rfl⟩)
 · have e : i = l.length := by omega
   subst e
   rw [List.take_length] at hA
   have hz := joinO hA (by simp; omega) (by omega)
   repeat' first | apply RegQ.nil | (apply qCl; rfl; rfl; rfl; rfl; exact hz _) | (apply g0; rfl; rfl; rfl; exact IsV.n) | intro hb | apply Wp.seq | apply SeqQ.go | apply Wp.region | (apply Wp.cond; rfl) | apply Wp.skip | apply Wp.ret | apply Wp.exit | apply SeqQ.exit | apply Wp.block | (apply BlockQ.hit; rfl) | apply LoopI.exit | apply DropQ.exit | (apply rFin; rfl; exact IsL.n)
   all_goals first
    | (exfalso; simp at hb; done)
    | rfl
set_option maxHeartbeats 8000000 in
theorem c59 {t : Tm} (ht : t.Ok) (hs : Small t) : ∀ H, CallOk E0 Tryz.prog 59 [.agg t.cells] H (.tup [slV true 1 (strC (rdNames t).1), .bool (rdNames t).2]) H := by
 have hc := c127 ht (by have := hs.1; omega)
 have hpl := parts_len t
 have hts := hs.1
 simp only [rdNames]
 have hok : ∀ x, x ∈ t.parts.1 → x.Ok ∧ Small x := fun x hx => ⟨ht.part (parts_mem hx), hs.part (parts_mem hx)⟩
 generalize t.parts.1 = l at hc hpl hok ⊢
 generalize decide (t.parts.2.cmp endT = 0) = R at hc ⊢
 obtain ⟨k, nm, s, b, kids⟩ := t
 simp only [Tm.cells] at hc
 refine callOk_wp (own := fun _ => false) tOk fe59.ok (by simp [frzGL, frzG, Tm.cells, frz_tm]) (frz3_svb _ _ _ _ _ _) ?_
 refine Wp.seq ?_
 repeat' first | apply RegQ.nil | (apply qCl; rfl; rfl; rfl; rfl; exact hc _) | (apply qLn; rfl; rfl; rfl; rfl; rfl) | (apply qF (ty := 4); rfl; rfl; rfl) | (apply g0; rfl; rfl; rfl; exact IsV.n) | (apply g1; rfl; rfl; rfl; exact IsV.n; exact IsH.mkN) | apply Wp.seq | apply SeqQ.go | apply Wp.region | apply Wp.block
 refine Wp.while (fun m tm H => ∃ (i : Nat) (base : TM) (out : PV) (lv : List Nat) (nt : Nat), i + m = l.length ∧ ApV true 1 (strC ((l.take i).map fun x => (rdName x).1)) out lv nt ∧
   tm = ovr base [(5, .bool (R && (l.take i).all fun x => (rdName x).2)), (6, out), (16, slV true 4 (cellsL l)), (17, .int .i64 (l.length : Int)), (18, .int .i64 (i : Int))] ∧ H = ⟨[.cells 4 [[.int .i64 k, .str nm, .int .i64 s, slV b 4 (cellsL kids)]]], 0, lv, nt⟩)
  (fun m tm H hI => Wp.drop ?_) l.length _ _ ⟨0, _, _, _, _, by omega, .nil _ _ rfl, ovr_mk ⟨by simp; rfl, rfl, rfl, int_eq (by rw [cellsL_length]), rfl, trivial⟩, rfl⟩
 obtain ⟨i, base, out, lv, nt, hi, hA, rfl, rfl⟩ := hI
 by_cases hlt : i < l.length
 · obtain ⟨x, hx⟩ : ∃ x, l[i]? = some x := ⟨l[i], by simp⟩
   obtain ⟨kt, lv', nt', hap, hA'⟩ := apS hA (rdName x).1 (by simp; omega)
   have hs : ((l.take i).map fun x => (rdName x).1) ++ [(rdName x).1] = (l.take (i + 1)).map fun x => (rdName x).1 := by simp [List.take_add_one, hx]
   have hs2 : (R && (l.take (i + 1)).all fun x => (rdName x).2) = ((R && (l.take i).all fun x => (rdName x).2) && (rdName x).2) := by simp [List.take_add_one, hx, Bool.and_assoc]
   rw [hs] at hA' hap
   have hok1 := hok x (List.mem_of_getElem? hx)
   have hcn := c58 hok1.1 hok1.2
   generalize hG : (R && (l.take i).all fun x => (rdName x).2) = A at hs2 ⊢
   generalize (rdName x).1 = N at hcn hap
   generalize (rdName x).2 = B at hcn hs2
   obtain ⟨k', nm', s', b', kids'⟩ := x
   have hj := cellsL_get hx
   simp only [Tm.cells] at hcn
   clear hG
   cases A <;> cases B
   all_goals
    repeat' first | apply RegQ.nil | (apply qK; rfl; rfl) | (apply qCl; rfl; rfl; rfl; rfl; exact hcn _) | (apply qBs; rfl; rfl; rfl; rfl; exact IsLL.n; (first | rfl | (simp only [frzLL, frzL, frz1_slV]; rfl))) | (apply qAp; rfl; rfl; rfl; rfl; rfl; (first | assumption | solve_by_elim)) | (apply qIx; rfl; rfl; rfl; rfl; rfl; rfl; rfl; rfl; assumption) | (apply qT (ty := 4); rfl; rfl; rfl) | (apply qF (ty := 4); rfl; rfl; rfl) | (apply qB (ty := 0); rfl; rfl; rfl) | (apply g0; rfl; rfl; rfl; exact IsV.n) | (apply g1; rfl; rfl; rfl; exact IsV.n; exact IsH.mkN) | (apply qSt; rfl; rfl; rfl; exact IsL.n; (first | rfl | assumption); (first | rfl | assumption | (simp only [List.all_cons, List.all_nil, cellOk_slV, Bool.and_true]; rfl)); (first | rfl | assumption); exact IsH.mkN) | intro hb | apply Wp.seq | apply SeqQ.go | apply Wp.region | (apply Wp.condT; rfl) | (apply Wp.condF; rfl) | apply Wp.skip | apply Wp.ret | apply Wp.exit | apply SeqQ.exit | apply Wp.block | apply BlockQ.go | (apply BlockQ.hit; rfl) | apply LoopI.exit | apply DropQ.exit | (apply rFin; rfl; exact IsL.n)
    all_goals first
     | (exfalso; simp at hb; omega)
     | skip
    exact DropQ.go [(5, .bool (R && (l.take (i + 1)).all fun x => (rdName x).2)), (6, .sl (.tok kt) 1 (strC ((l.take (i + 1)).map fun x => (rdName x).1))), (16, slV true 4 (cellsL l)), (17, .int .i64 (l.length : Int)), (18, .int .i64 ((i + 1 : Nat) : Int))] ⟨by rw [hs2]; rfl, rfl, rfl, rfl, int_eq (wrap_nat (n := i + 1) (by omega)), trivial⟩
      (by simp [under_slV, under]) rfl (by simp [boxU, underL, under, under_slV]) (LoopI.go (m - 1) (by omega) ⟨i + 1, _, _, lv', nt', by omega, hA', rfl, rfl⟩)
 · have e : i = l.length := by omega
   subst e
   rw [List.take_length] at hA ⊢
   repeat' first | apply RegQ.nil | (apply g0; rfl; rfl; rfl; exact IsV.n) | intro hb | apply Wp.seq | apply SeqQ.go | apply Wp.region | (apply Wp.cond; rfl) | apply Wp.skip | apply Wp.ret | apply Wp.exit | apply SeqQ.exit | apply Wp.block | (apply BlockQ.hit; rfl) | apply LoopI.exit | apply DropQ.exit | (apply rFin; rfl; exact IsL.n)
   all_goals first
    | (exfalso; simp at hb; done)
    | exact frz3_sb hA _ _ _
end Go.Vm.Seat
namespace Go.Vm.Seat
open Go.Proofs
set_option maxRecDepth 100000
theorem cz_cells : Cred.zero.cells = [.str [], .int .i64 0, .str [], .int .i64 0, .nils, .bool false, .nils, .nils, .int .i64 0, .int .i64 0, .int .i64 0] := by
 show .str [] :: (Tm.zero.cells ++ [.bool false, slV true 1 (strC []), slV true 1 (strC []), .int .i64 0, .int .i64 0, .int .i64 0]) = _
 rw [zero_cells, show slV true 1 (strC []) = .nils from slV_nil_true 1]
 rfl
theorem frz2_cred (m : Nat) (H : Heap) (x : Cred) : frz2 m H (.agg x.cells) = some (.agg x.cells) := by
 obtain ⟨sub, ⟨k, nm, s, b, kids⟩, iss, pn, per, en, exc, ser, fr, till⟩ := x
 have h0 := frz3_agg m H (Cred.mk sub (.mk k nm s b kids) iss pn per en exc ser fr till).cells
 have h1 : frz3 m H (.agg (Cred.mk sub (.mk k nm s b kids) iss pn per en exc ser fr till).cells) = frz2 m H (.agg (Cred.mk sub (.mk k nm s b kids) iss pn per en exc ser fr till).cells) := rfl
 rw [← h1, h0]
 simp only [Cred.cells, Tm.cells, List.cons_append, List.nil_append, frzCL, frzC_slV]
 rfl
theorem frz3_cred (m : Nat) (H : Heap) (x : Cred) (e : Int) : frz3 m H (.tup [.agg x.cells, .int .i64 e]) = some (.tup [.agg x.cells, .int .i64 e]) := by
 show (match frz2L m H [.agg x.cells, .int .i64 e] with | some vs' => some (PV.tup vs') | none => none) = _
 simp only [frz2L, frz2_cred]
 rfl
theorem idxK {tl : Tail} {l : List Tm} {i : Nat} {a : Tm} (h : l[i]? = some a) : aIndexAddr E0 22 (.sl tl 4 (cellsL l)) (.int .i64 (i : Int)) = some (.fptr a.cells 0) := by
 have en : nat? (.int .i64 (i : Int)) = some i := rfl
 have e : E0.T 22 = some ⟨.slice 24, 1, 24, .nils⟩ := by kernel_rfl
 have et : E0.T 24 = some ⟨.struct [(0, 3), (1, 9), (2, 3), (3, 22)], 4, 56, .agg [.int .i64 0, .str [], .int .i64 0, .nils]⟩ := by kernel_rfl
 obtain ⟨k, nm, s, b, kids⟩ := a
 have hn : nth (cellsL l) i = some (Tm.mk k nm s b kids).cells := by rw [nth_eq]; exact cellsL_get h
 simp only [aIndexAddr, e, en, et, if_true, hn]
set_option maxHeartbeats 16000000 in
theorem read_bad {t : Tm} (ht : t.Ok) (hsz : t.size ≤ 40000) (h : t.valid ≠ 0 ∨ t.isB [115, 105, 103, 110] 2 = false) : ∀ H, CallOk E0 Tryz.prog 16 [.agg t.cells] H (.tup [.agg (readP t).1.cells, .int .i64 (readP t).2]) H := by
 have c1 := c44 ht (by omega)
 have c2 := c52 t [115, 105, 103, 110] 2
 unfold readP
 rw [readF_A _ _ _ h]
 have hfr := frz3_cred 0 hNil Cred.zero 2
 generalize t.valid = e at c1 h
 generalize t.isB [115, 105, 103, 110] 2 = B at c2 h
 obtain ⟨k, nm, s, b, kids⟩ := t
 simp only [Tm.cells] at c1 c2
 refine callOk_wp (own := fun _ => false) tOk fe16.ok (by simp [frzGL, frzG, Tm.cells, frz_tm]) hfr ?_
 refine Wp.seq ?_
 by_cases h1 : e = 0
 · subst h1
   have hB : B = false := by simpa using h
   subst hB
   repeat' first | apply RegQ.nil | (apply qCl; rfl; rfl; rfl; rfl; first | exact c1 _ | exact c2 _) | (apply qT (ty := 4); rfl; rfl; rfl) | (apply qF (ty := 4); rfl; rfl; rfl) | (apply g0; rfl; rfl; rfl; exact IsV.n) | (apply g1; rfl; rfl; rfl; exact IsV.n; exact IsH.mkN) | (apply qSt; rfl; rfl; rfl; exact IsL.n; (first | rfl | assumption); (first | rfl | assumption | (simp only [List.all_cons, List.all_nil, cellOk_slV, Bool.and_true]; rfl)); (first | rfl | assumption); exact IsH.mkN) | apply Wp.seq | apply SeqQ.go | apply Wp.region | (apply Wp.condT; rfl) | apply Wp.ret | apply SeqQ.ret | (apply rFin; rfl; exact IsL.n)
   all_goals (rw [cz_cells]; rfl)
 · clear h
   repeat' first | apply RegQ.nil | (apply qK; rfl; rfl) | (apply qCl; rfl; rfl; rfl; rfl; first | exact c1 _ | exact c2 _) | (apply qT (ty := 4); rfl; rfl; rfl) | (apply qF (ty := 4); rfl; rfl; rfl) | (apply qB (ty := 4); rfl; rfl; rfl) | (apply g0; rfl; rfl; rfl; exact IsV.n) | (apply g1; rfl; rfl; rfl; exact IsV.n; exact IsH.mkN) | (apply qSt; rfl; rfl; rfl; exact IsL.n; (first | rfl | assumption); (first | rfl | assumption | (simp only [List.all_cons, List.all_nil, cellOk_slV, Bool.and_true]; rfl)); (first | rfl | assumption); exact IsH.mkN) | intro hb | apply Wp.seq | apply SeqQ.go | apply Wp.region | (apply Wp.condT; rfl) | (apply Wp.condF; rfl) | apply Wp.skip | apply Wp.ret | apply SeqQ.ret | (apply rFin; rfl; exact IsL.n)
   all_goals first
    | (rw [cz_cells]; rfl)
    | (exfalso; have h9 := ‹(e != 0) = false›; simp at h9; exact h1 h9)
end Go.Vm.Seat
