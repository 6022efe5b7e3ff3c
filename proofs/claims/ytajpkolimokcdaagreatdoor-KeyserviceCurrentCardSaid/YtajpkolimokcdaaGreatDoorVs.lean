/-
  The variables of a term: the program's text.
-/
import Derived.Test.YtajpkolimokcdaaGreatDoorRv
import Derived.Test.YtajpkolimokcdaaGreatDoorFh
import Derived.Test.YtajpkolimokcdaaGreatDoorFg
namespace Go.Vm.Seat
open Go.Proofs
set_option maxRecDepth 100000
theorem cellsL_mk1 (t : Tm) : cellsL [t] = [t.cells] := by obtain ⟨k, nm, s, b, kids⟩ := t; rfl
theorem apV_cells {b : Bool} {es : Nat} {L : List (List PV)} {out : PV} {lv : List Nat} {nt : Nat} (h : ApV b es L out lv nt) (k : Int) (nm : List UInt8) (s : Int) : [PV.int .i64 k, .str nm, .int .i64 s, out].all cellOk = true := by cases h <;> rfl
theorem apV_tok {es : Nat} {L : List (List PV)} {out : PV} {lv : List Nat} {nt : Nat} (h : ApV true es L out lv nt) (hL : L ≠ []) : ∃ k, out = .sl (.tok k) es L := by
 cases h with
 | nil => exact absurd rfl hL
 | full _ _ _ h => cases h
 | tok L k => exact ⟨k, rfl⟩
theorem frz3_tm (m : Nat) (H : Heap) (k : Int) (nm : List UInt8) (s : Int) (b : Bool) (l : List (List PV)) : frz3 m H (.agg [.int .i64 k, .str nm, .int .i64 s, slV b 4 l]) = some (.agg [.int .i64 k, .str nm, .int .i64 s, slV b 4 l]) := by
 rw [frz3_agg]
 simp only [frzCL, frzC_slV]
 rfl
theorem apV_tm {b : Bool} {L : List (List PV)} {out : PV} {lv : List Nat} {nt : Nat} (h : ApV b 4 L out lv nt) (m : Nat) (H : Heap) (k : Int) (nm : List UInt8) (s : Int) : frz3 m H (.agg [.int .i64 k, .str nm, .int .i64 s, out]) = some (.agg [.int .i64 k, .str nm, .int .i64 s, slV b 4 L]) := by
 rw [frz3_agg]
 simp only [frzCL, h.frzC]
 rfl
set_option maxHeartbeats 8000000 in
theorem c199 {t : Tm} (ht : t.Ok) : t.size ≤ 100000 → ∀ H, CallOk E0 Tryz.prog 199 [.agg t.cells] H (.agg t.cl.cells) H := by
 induction ht with
 | @mk k nm s b kids hk hs hn hl hok ih =>
 intro hsz
 simp only [Tm.size] at hsz
 have hkl : kids.length ≤ sizeL kids := by
  rw [← allL_len]
  have : ∀ l : List Tm, l.length ≤ (allL l).length := by
   intro l
   induction l with
   | nil => simp
   | cons a r ih =>
     have := a.all_len
     have := size_pos a
     simp only [allL, List.length_append, List.length_cons]
     omega
  exact this kids
 simp only [Tm.cl, Tm.cells]
 refine callOk_wp (own := fun _ => false) tOk fe199.ok (by simp [frzGL, frzG, frz_tm]) (frz3_tm _ _ _ _ _ _ _) ?_
 refine Wp.seq ?_
 repeat' first | apply RegQ.nil | (apply qLn; rfl; rfl; rfl; rfl; rfl) | (apply g0; rfl; rfl; rfl; exact IsV.n) | (apply g1; rfl; rfl; rfl; exact IsV.n; exact IsH.mkN) | (apply qSt; rfl; rfl; rfl; exact IsL.n; (first | rfl | assumption); (first | rfl | assumption | (simp only [List.all_cons, List.all_nil, cellOk_slV, Bool.and_true]; rfl)); (first | rfl | assumption); exact IsH.mkN) | apply Wp.seq | apply SeqQ.go | apply Wp.region | apply Wp.block
 refine Wp.while (fun m tm H => ∃ (i : Nat) (base : TM) (out : PV) (lv : List Nat) (nt : Nat), i + m = kids.length ∧ ApV true 4 (cellsL (clL (kids.take i))) out lv nt ∧
   tm = ovr base [(1, .ptr 0 4 0 0), (2, .ptr 1 4 0 0), (9, slV b 4 (cellsL kids)), (10, .int .i64 (kids.length : Int)), (11, .int .i64 (i : Int))] ∧ H = ⟨[.cells 4 [[.int .i64 k, .str nm, .int .i64 s, out]], .cells 4 [[.int .i64 0, .str [], .int .i64 0, .nils]]], 0, lv, nt⟩)
  (fun m tm H hI => Wp.drop ?_) kids.length _ _ ⟨0, _, _, _, _, by omega, .nil _ _ rfl, ovr_mk ⟨rfl, rfl, rfl, int_eq (by rw [cellsL_length]), rfl, trivial⟩, rfl⟩
 obtain ⟨i, base, out, lv, nt, hi, hA, rfl, rfl⟩ := hI
 by_cases hlt : i < kids.length
 · obtain ⟨t', ht'⟩ : ∃ t', kids[i]? = some t' := ⟨kids[i], by simp⟩
   have hm : t' ∈ kids := List.mem_of_getElem? ht'
   have hle := size_le hm
   have hs := clL_snoc ht'
   have hc := ih t' hm (by omega)
   have hlen1 : (clL (kids.take i)).length ≤ kids.length := by
    rw [cl_len, List.length_take]; omega
   obtain ⟨out', lv', nt', hap, hA', -⟩ := hA.app apT_tm (.sl .full 4 (cellsL [t'.cl])) (cellsL_cellOk _) (fits_of (by simp only [cellsL_length, List.length_cons, List.length_nil]; omega) (by decide)) (noB_cellsL _)
   rw [← cellsL_append, ← hs] at hA'
   obtain ⟨kc, nc, sc, bc, lc, ec⟩ : ∃ kc nc sc bc lc, t'.cl = .mk kc nc sc bc lc := by
    obtain ⟨k', nm', s', b', kids'⟩ := t'
    exact ⟨_, _, _, _, _, rfl⟩
   rw [ec] at hc hap
   rw [cells_one] at hap
   obtain ⟨kt, rfl⟩ := apV_tok hA' (by rw [hs, cellsL_append, cellsL_mk1]; simp)
   obtain ⟨k', nm', s', b', kids'⟩ := t'
   have hj := cellsL_get ht'
   repeat' first | apply RegQ.nil | (apply qIx; rfl; rfl; rfl; rfl; rfl; rfl; rfl; rfl; assumption) | (apply qB (ty := 0); rfl; rfl; rfl) | (apply g0; rfl; rfl; rfl; exact IsV.n) | (apply g1; rfl; rfl; rfl; exact IsV.n; exact IsH.mkN) | (apply qSt; rfl; rfl; rfl; exact IsL.n; (first | rfl | assumption); (first | rfl | assumption | (simp only [List.all_cons, List.all_nil, cellOk_slV, Bool.and_true]; rfl)); (first | rfl | assumption); exact IsH.mkN) | apply DrwQ.nil | (apply dCl; rfl; rfl; rfl; rfl; rfl; exact hc _) | (apply dBs; rfl; rfl; rfl; rfl; exact IsLL.n; (first | rfl | (simp only [frzLL, frzL, frz1_slV]; rfl)); rfl) | (apply dAp; rfl; rfl; rfl; rfl; rfl; (first | assumption | solve_by_elim); rfl) | (apply dSt; rfl; rfl; rfl; rfl; exact IsL.n; rfl; (first | rfl | assumption | (simp only [List.all_cons, List.all_nil, cellOk_slV, Bool.and_true]; rfl)); (first | rfl | assumption); exact IsH.mkN; (first | rfl | (simp [nth_eq]; done)); (first | rfl | (simp; done)); rfl) | (apply h0; rfl; rfl; rfl; exact IsV.n; rfl) | intro hb | apply Wp.seq | apply SeqQ.go | apply Wp.region | (apply Wp.drawS tOk follows; kernel_rfl; rfl) | (apply Wp.condT; rfl) | (apply Wp.condF; rfl) | apply Wp.skip | apply Wp.exit | apply SeqQ.exit | apply Wp.block | apply BlockQ.go | (apply BlockQ.hit; rfl) | apply LoopI.exit | apply DropQ.exit
   · exact DropQ.go [(1, .ptr 0 4 0 0), (2, .ptr 1 4 0 0), (9, slV b 4 (cellsL kids)), (10, .int .i64 (kids.length : Int)), (11, .int .i64 ((i + 1 : Nat) : Int))] ⟨rfl, rfl, rfl, rfl, int_eq (wrap_nat (n := i + 1) (by omega)), trivial⟩
       (by simp [under_slV, under]) rfl (by simp [boxU, underL, under]) (LoopI.go (m - 1) (by omega) ⟨i + 1, _, _, lv', nt', by omega, hA', rfl, rfl⟩)
   · exfalso; simp at hb; omega
 · have e : i = kids.length := by omega
   subst e
   rw [List.take_length] at hA
   have hco := apV_cells hA k nm s
   repeat' first | apply RegQ.nil | (apply qB (ty := 0); rfl; rfl; rfl) | (apply g0; rfl; rfl; rfl; exact IsV.n) | (apply qSt; rfl; rfl; rfl; exact IsL.n; (first | rfl | assumption); (first | rfl | assumption | (simp only [List.all_cons, List.all_nil, cellOk_slV, Bool.and_true]; rfl)); (first | rfl | assumption); exact IsH.mkN) | intro hb | apply Wp.seq | apply SeqQ.go | apply Wp.region | (apply Wp.condT; rfl) | (apply Wp.condF; rfl) | apply Wp.skip | apply Wp.ret | apply Wp.exit | apply SeqQ.exit | apply Wp.block | (apply BlockQ.hit; rfl) | apply LoopI.exit | apply DropQ.exit | (apply rFin; rfl; exact IsL.n)
   · exfalso; simp at hb
   · exact apV_tm hA _ _ _ _ _
end Go.Vm.Seat
