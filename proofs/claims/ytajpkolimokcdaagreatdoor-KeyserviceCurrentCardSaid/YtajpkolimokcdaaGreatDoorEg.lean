/-
  The key of a name in a log: keyservice.Current, and the reference's. The ledger of the program: copies, heads, the reading of proofs.
-/
import Derived.Test.YtajpkolimokcdaaGreatDoorDf
import Derived.Test.YtajpkolimokcdaaGreatDoorFh
namespace Go.Vm.Seat
open Go.Proofs
set_option maxRecDepth 100000
def lookR (name : Bs) : List Tm → Option (Tm × Int)
 | [] => none
 | t :: r => if (readP t).2 = 0 ∧ (readP t).1.sub = name then some ((readP t).1.key, (readP t).1.till) else lookR name r
def curP (l : List Tm) (name : Bs) : Tm × Int :=
 if 32 < l.length then (.zero, 3) else if dottedB name = false then (.zero, 2) else match lookR name l.reverse with
  | none => (.zero, 4)
  | some (k, e) => if e = 0 then (.zero, 4) else (k, 0)
def curC (l : List Tm) (name : Bs) : Tm × Int := ((curP l name).1.cl, (curP l name).2)
theorem within_same {s : Bs} (hs : s.length ≤ 100000) : ∀ H, CallOk E0 Tryz.prog 39 [.str s, .str s] H (.bool (dottedB s)) H := by
 have hc := c50 hs
 have hb1 : aBin E0 .eql 9 (.str s) (.str s) = some (.bool true) := by
  show some (PV.bool (s == s)) = _
  simp
 generalize dottedB s = d at hc ⊢
 refine callOk_wp (own := fun _ => false) tOk fe39.ok rfl rfl ?_
 refine Wp.seq ?_
 cases d with
 | false =>
   repeat' first | apply RegQ.nil | (apply qK; rfl; rfl) | (apply qCl; rfl; rfl; rfl; rfl; exact hc _) | (apply qF (ty := 4); rfl; rfl; rfl) | (apply g0; rfl; rfl; rfl; exact IsV.n) | apply Wp.seq | apply SeqQ.go | apply Wp.region | apply Wp.ret | (apply rBool; rfl; rfl)
   all_goals rfl
 | true =>
   repeat' first | apply RegQ.nil | (apply qK; rfl; rfl) | (apply qCl; rfl; rfl; rfl; rfl; exact hc _) | (apply qBi; rfl; rfl; rfl; rfl; assumption; exact IsV.any _) | (apply qT (ty := 4); rfl; rfl; rfl) | (apply qF (ty := 4); rfl; rfl; rfl) | (apply g0; rfl; rfl; rfl; exact IsV.n) | apply Wp.seq | apply SeqQ.go | apply Wp.region | apply Wp.ret | (apply rBool; rfl; rfl)
   all_goals rfl
theorem c139 {t : Tm} (ht : t.Ok) (hs : t.size ≤ 100000) : ∀ H, CallOk E0 Tryz.prog 139 [.agg t.cells, .nils] H (.tup [.agg t.cl.cells, .int .i64 0]) H := by
 have hc := c199 ht hs
 have hfr := frz3_te 0 hNil t.cl 0
 generalize t.cl = u at hc hfr ⊢
 obtain ⟨k, nm, s, b, kids⟩ := t
 obtain ⟨k', nm', s', b', kids'⟩ := u
 simp only [Tm.cells] at hc hfr ⊢
 refine callOk_wp (own := fun _ => false) tOk fe139.ok (by simp only [frzGL, frzG, frzL, frz1_slV]; rfl) hfr ?_
 refine Wp.seq ?_
 repeat' first | apply RegQ.nil | (apply g0; rfl; rfl; rfl; exact IsV.n) | (apply g1; rfl; rfl; rfl; exact IsV.n; exact IsH.mkN) | apply Wp.seq | apply SeqQ.go | apply Wp.region | apply Wp.block
 refine Wp.while (fun m tm H => ∃ base : TM, tm = ovr base [(2, .ptr 0 4 0 0), (4, .ptr 1 4 0 0), (9, .int .i64 0), (10, .int .i64 0)] ∧ H = ⟨[.cells 4 [[.int .i64 k, .str nm, .int .i64 s, slV b 4 (cellsL kids)]], .cells 4 [[.int .i64 0, .str [], .int .i64 0, .nils]]], 0, [], 0⟩)
  (fun m tm H hI => ?_) 0 _ _ ⟨_, ovr_mk ⟨rfl, rfl, rfl, rfl, trivial⟩, rfl⟩
 obtain ⟨base, rfl, rfl⟩ := hI
 repeat' first | apply RegQ.nil | (apply qCl; rfl; rfl; rfl; rfl; exact hc _) | (apply qF (ty := 0); rfl; rfl; rfl) | (apply g0; rfl; rfl; rfl; exact IsV.n) | (apply qSt; rfl; rfl; rfl; exact IsL.n; (first | rfl | assumption); (first | rfl | assumption | (simp only [List.all_cons, List.all_nil, cellOk_slV, Bool.and_true]; rfl)); (first | rfl | assumption); exact IsH.mkN) | apply Wp.seq | apply SeqQ.go | apply Wp.region | (apply Wp.condF; rfl) | apply Wp.ret | apply Wp.exit | apply SeqQ.exit | (apply BlockQ.hit; rfl) | apply LoopI.exit | (apply rFin; rfl; exact IsL.n)
 all_goals exact frz3_te _ _ (.mk k' nm' s' b' kids') 0
theorem c71 {t : Tm} (ht : t.Ok) (hs : t.size ≤ 100000) : ∀ H, CallOk E0 Tryz.prog 71 [.agg t.cells] H (.agg t.cl.cells) H := by
 have hc := c139 ht hs
 generalize t.cl = u at hc ⊢
 obtain ⟨k, nm, s, b, kids⟩ := t
 obtain ⟨k', nm', s', b', kids'⟩ := u
 simp only [Tm.cells] at hc ⊢
 refine callOk_wp (own := fun _ => false) tOk fe71.ok (by simp only [frzGL, frzG, frzL, frz1_slV]; rfl) (frz3_tm _ _ _ _ _ _ _) ?_
 refine Wp.seq ?_
 repeat' first | apply RegQ.nil | (apply qCl; rfl; rfl; rfl; rfl; exact hc _) | (apply g0; rfl; rfl; rfl; exact IsV.n) | (apply g1; rfl; rfl; rfl; exact IsV.n; exact IsH.mkN) | (apply qSt; rfl; rfl; rfl; exact IsL.n; (first | rfl | assumption); (first | rfl | assumption | (simp only [List.all_cons, List.all_nil, cellOk_slV, Bool.and_true]; rfl)); (first | rfl | assumption); exact IsH.mkN) | apply Wp.seq | apply SeqQ.go | apply Wp.region | apply Wp.ret | (apply rFin; rfl; exact IsL.n)
 all_goals exact frz3_tm _ _ _ _ _ _ _
end Go.Vm.Seat
namespace Go.Vm.Seat
open Go.Proofs
set_option maxRecDepth 100000
set_option maxHeartbeats 8000000 in
theorem c144 {t : Tm} (ht : t.Ok) : t.size ≤ 100000 → ∀ H, CallOk E0 Tryz.prog 144 [.agg t.cells] H (.agg t.cl.cells) H := by
 induction ht with
 | @mk k nm s b kids hk hs hn hl hok ih =>
 intro hsz
 simp only [Tm.size] at hsz
 have hkl : kids.length ≤ sizeL kids := by
  rw [← allL_len]
  have : ∀ l : List Tm, l.length ≤ (allL l).length := by
   intro l
   induction l with
   | nil => simp
   | cons a r ih =>
     have := a.all_len
     have := size_pos a
     simp only [allL, List.length_append, List.length_cons]
     omega
  exact this kids
 simp only [Tm.cl, Tm.cells]
 refine callOk_wp (own := fun _ => false) tOk fe144.ok (by simp [frzGL, frzG, frz_tm]) (frz3_tm _ _ _ _ _ _ _) ?_
 refine Wp.seq ?_
 repeat' first | apply RegQ.nil | (apply qLn; rfl; rfl; rfl; rfl; rfl) | (apply g0; rfl; rfl; rfl; exact IsV.n) | (apply g1; rfl; rfl; rfl; exact IsV.n; exact IsH.mkN) | (apply qSt; rfl; rfl; rfl; exact IsL.n; (first | rfl | assumption); (first | rfl | assumption | (simp only [List.all_cons, List.all_nil, cellOk_slV, Bool.and_true]; rfl)); (first | rfl | assumption); exact IsH.mkN) | apply Wp.seq | apply SeqQ.go | apply Wp.region | apply Wp.block
 refine Wp.while (fun m tm H => ∃ (i : Nat) (base : TM) (out : PV) (lv : List Nat) (nt : Nat), i + m = kids.length ∧ ApV true 4 (cellsL (clL (kids.take i))) out lv nt ∧
   tm = ovr base [(2, .ptr 1 4 0 0), (3, .ptr 2 4 0 0), (9, slV b 4 (cellsL kids)), (10, .int .i64 (kids.length : Int)), (11, .int .i64 (i : Int))] ∧ H = ⟨[.cells 4 [[.int .i64 k, .str nm, .int .i64 s, slV b 4 (cellsL kids)]], .cells 4 [[.int .i64 0, .str [], .int .i64 0, .nils]], .cells 4 [[.int .i64 k, .str nm, .int .i64 s, out]]], 0, lv, nt⟩)
  (fun m tm H hI => Wp.drop ?_) kids.length _ _ ⟨0, _, _, _, _, by omega, .nil _ _ rfl, ovr_mk ⟨rfl, rfl, rfl, int_eq (by rw [cellsL_length]), rfl, trivial⟩, rfl⟩
 obtain ⟨i, base, out, lv, nt, hi, hA, rfl, rfl⟩ := hI
 by_cases hlt : i < kids.length
 · obtain ⟨t', ht'⟩ : ∃ t', kids[i]? = some t' := ⟨kids[i], by simp⟩
   have hm : t' ∈ kids := List.mem_of_getElem? ht'
   have hle := size_le hm
   have hs := clL_snoc ht'
   have hc := ih t' hm (by omega)
   have hlen1 : (clL (kids.take i)).length ≤ kids.length := by
    rw [cl_len, List.length_take]; omega
   obtain ⟨out', lv', nt', hap, hA', -⟩ := hA.app apT_tm (.sl .full 4 (cellsL [t'.cl])) (cellsL_cellOk _) (fits_of (by simp only [cellsL_length, List.length_cons, List.length_nil]; omega) (by decide)) (noB_cellsL _)
   rw [← cellsL_append, ← hs] at hA'
   obtain ⟨kc, nc, sc, bc, lc, ec⟩ : ∃ kc nc sc bc lc, t'.cl = .mk kc nc sc bc lc := by
    obtain ⟨k', nm', s', b', kids'⟩ := t'
    exact ⟨_, _, _, _, _, rfl⟩
   rw [ec] at hc hap
   rw [cells_one] at hap
   obtain ⟨kt, rfl⟩ := apV_tok hA' (by rw [hs, cellsL_append, cellsL_mk1]; simp)
   obtain ⟨k', nm', s', b', kids'⟩ := t'
   have hj := cellsL_get ht'
   repeat' first | apply RegQ.nil | (apply qIx; rfl; rfl; rfl; rfl; rfl; rfl; rfl; rfl; assumption) | (apply qB (ty := 0); rfl; rfl; rfl) | (apply g0; rfl; rfl; rfl; exact IsV.n) | (apply g1; rfl; rfl; rfl; exact IsV.n; exact IsH.mkN) | (apply qSt; rfl; rfl; rfl; exact IsL.n; (first | rfl | assumption); (first | rfl | assumption | (simp only [List.all_cons, List.all_nil, cellOk_slV, Bool.and_true]; rfl)); (first | rfl | assumption); exact IsH.mkN) | apply DrwQ.nil | (apply dCl; rfl; rfl; rfl; rfl; rfl; exact hc _) | (apply dBs; rfl; rfl; rfl; rfl; exact IsLL.n; (first | rfl | (simp only [frzLL, frzL, frz1_slV]; rfl)); rfl) | (apply dAp; rfl; rfl; rfl; rfl; rfl; (first | assumption | solve_by_elim); rfl) | (apply dSt; rfl; rfl; rfl; rfl; exact IsL.n; rfl; (first | rfl | assumption | (simp only [List.all_cons, List.all_nil, cellOk_slV, Bool.and_true]; rfl)); (first | rfl | assumption); exact IsH.mkN; (first | rfl | (simp [nth_eq]; done)); (first | rfl | (simp; done)); rfl) | (apply h0; rfl; rfl; rfl; exact IsV.n; rfl) | intro hb | apply Wp.seq | apply SeqQ.go | apply Wp.region | (apply Wp.drawS tOk follows; kernel_rfl; rfl) | (apply Wp.condT; rfl) | (apply Wp.condF; rfl) | apply Wp.skip | apply Wp.exit | apply SeqQ.exit | apply Wp.block | apply BlockQ.go | (apply BlockQ.hit; rfl) | apply LoopI.exit | apply DropQ.exit
   · exact DropQ.go [(2, .ptr 1 4 0 0), (3, .ptr 2 4 0 0), (9, slV b 4 (cellsL kids)), (10, .int .i64 (kids.length : Int)), (11, .int .i64 ((i + 1 : Nat) : Int))] ⟨rfl, rfl, rfl, rfl, int_eq (wrap_nat (n := i + 1) (by omega)), trivial⟩
       (by simp [under_slV, under]) rfl (by simp [boxU, underL, under, under_slV]) (LoopI.go (m - 1) (by omega) ⟨i + 1, _, _, lv', nt', by omega, hA', rfl, rfl⟩)
   · exfalso; simp at hb; omega
 · have e : i = kids.length := by omega
   subst e
   rw [List.take_length] at hA
   have hco := apV_cells hA k nm s
   repeat' first | apply RegQ.nil | (apply qB (ty := 0); rfl; rfl; rfl) | (apply g0; rfl; rfl; rfl; exact IsV.n) | (apply qSt; rfl; rfl; rfl; exact IsL.n; (first | rfl | assumption); (first | rfl | assumption | (simp only [List.all_cons, List.all_nil, cellOk_slV, Bool.and_true]; rfl)); (first | rfl | assumption); exact IsH.mkN) | intro hb | apply Wp.seq | apply SeqQ.go | apply Wp.region | (apply Wp.condT; rfl) | (apply Wp.condF; rfl) | apply Wp.skip | apply Wp.ret | apply Wp.exit | apply SeqQ.exit | apply Wp.block | (apply BlockQ.hit; rfl) | apply LoopI.exit | apply DropQ.exit | (apply rFin; rfl; exact IsL.n)
   · exfalso; simp at hb
   · exact apV_tm hA _ _ _ _ _
end Go.Vm.Seat
