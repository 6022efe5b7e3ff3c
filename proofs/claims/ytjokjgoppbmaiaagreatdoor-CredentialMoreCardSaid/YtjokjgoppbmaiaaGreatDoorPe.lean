/-
  CredentialMore: the law's function returns true at any terms and question.
-/
import Derived.Test.YtjokjgoppbmaiaaGreatDoorEe
set_option maxHeartbeats 64000000
set_option maxRecDepth 100000
namespace Go.Vm.Seat
open Go.Proofs
theorem geqI (a b : Int) : aBin E9 .geq 3 (.int .i64 a) (.int .i64 b) = some (.bool (decide (b ≤ a))) := rfl
theorem less_add (q : Qn) (t : Tm) : Less q (q.add t) :=
 ⟨fun i u h => by
   have hi := get_lt h
   show (q.terms ++ [t])[i]? = some u
   rw [List.getElem?_append_left hi]
   exact h, by simp [Qn.add], rfl, rfl, fun s h => h⟩
theorem less_cut (q : Qn) (i : Nat) : Less q (q.cut i) :=
 ⟨fun _ _ h => h, Nat.le_refl _, rfl, rfl, fun s h => by
   have h : s ∈ q.rev.take i ++ q.rev.drop (i + 1) := h
   rcases List.mem_append.1 h with h | h
   · exact List.mem_of_mem_take h
   · exact List.mem_of_mem_drop h⟩
theorem frzMo (q : Qn) (name : Bs) (more : Tm) (qb rb : Bool) : frzGL [slV qb 4 (cellsL q.terms), .agg (quC q name (slV rb 1 (intC q.rev))), .agg more.cells] = some [slV qb 4 (cellsL q.terms), .agg (quC q name (slV rb 1 (intC q.rev))), .agg more.cells] := by
 obtain ⟨terms, ⟨k, nm, s, b, kids⟩, now, rev⟩ := q
 simp only [quC, Tm.cells, List.cons_append, List.nil_append, frzGL, frzG_slV, frzG_tmP]
 simp only [frzG, frzL, frz1_slV]
 rfl
theorem fewQ_ok {q : Qn} {name : Bs} (h : fewQ q.terms q name = true) (ht : ∀ t, t ∈ q.terms → t.Ok) (ha : q.anchor.Ok) : QnOk q ∧ name.length ≤ 100 := by
 simp only [fewQ, Bool.and_eq_true, decide_eq_true_eq] at h
 obtain ⟨hz1, h2, h3, h4⟩ := h
 have hs : ∀ t, t ∈ q.terms → t.size ≤ 2000 := fun t hm => by
  unfold fewF at hz1
  split at hz1
  · cases hz1
  · have := few_sizes5 _ _ hz1 t hm
    omega
 have hl : q.terms.length ≤ 1000 := by
  unfold fewF at hz1
  split at hz1
  · cases hz1
  · rename_i hn
    omega
 have := few_size h2
 exact ⟨⟨ht, hs, hl, ha, by omega, by omega⟩, h3⟩
theorem add_ok {q : Qn} (h : QnOk q) {t : Tm} (ht : t.Ok) (hs : t.size ≤ 450) (hl : q.terms.length < 8) : QnOk (q.add t) :=
 ⟨fun u hu => by
   have hu : u ∈ q.terms ++ [t] := hu
   simp only [List.mem_append, List.mem_singleton] at hu
   rcases hu with hu | rfl
   · exact h.t u hu
   · exact ht, fun u hu => by
   have hu : u ∈ q.terms ++ [t] := hu
   simp only [List.mem_append, List.mem_singleton] at hu
   rcases hu with hu | rfl
   · exact h.ts u hu
   · omega, by simp [Qn.add]; omega, h.a, h.az, h.rl⟩
theorem cut_ok {q : Qn} (h : QnOk q) (i : Nat) : QnOk (q.cut i) :=
 ⟨h.t, h.ts, h.tl, h.a, h.az, by
   have := h.rl
   simp only [Qn.cut, List.length_append, List.length_take, List.length_drop]
   omega⟩
theorem c3 {q : Qn} (ht : ∀ t, t ∈ q.terms → t.Ok) (htl : q.terms.length ≤ maxLen) (ha : q.anchor.Ok) {name : Bs} {more : Tm} (hm : more.Ok) (qb rb : Bool) :
  ∀ H, CallOk E0 Tryz.prog 3 [slV qb 4 (cellsL q.terms), .agg (quC q name (slV rb 1 (intC q.rev))), .agg more.cells] H (.bool true) H := by
 have haw : ∀ H, CallOk E9 Tryz.prog 5 [] H (.bool true) H := fun H => to09 (awakeOk5 H)
 have c1 := fun H => to09 (c6 (name := name) ht htl ha qb rb H)
 have c2 := fun H => to09 (c7 hm H)
 have htl8 := cellsL_length q.terms
 have hfz := frzMo q name more qb rb
 have g := geqI ((cellsL q.terms).length : Int) 8
 refine fun H => to90 ?_
 revert H
 by_cases hF : fewQ q.terms q name = true ∧ q.terms.length < 8 ∧ fewF [more] 1 450 = true
 · obtain ⟨hF, h8, hM⟩ := hF
   rw [hF] at c1
   rw [hM] at c2
   obtain ⟨hq, hn⟩ := fewQ_ok hF ht ha
   have hms := few_size hM
   rw [decide_eq_false (by omega)] at g
   have pA := pathA hq (name := name) (by omega) qb rb
   by_cases he : (pathQ q name).2 = 0
   · have l1 := path_less (less_add q more) (by simp [Qn.add]; omega) he
     have l2 := fun i => path_less (less_cut q i) (show q.terms.length ≤ 8 by omega) he
     have hq1 := add_ok hq hm (by omega) h8
     obtain ⟨b2, o1, lv1, nt1, A1, k1⟩ := cloneT (cellsL_cellOk q.terms) (noB_cellsL _) (by rw [htl8]; omega) qb [] 0
     obtain ⟨o2, lv2, nt2, a2, A2, -⟩ := A1.app apT_t9 (.sl .full 4 (cellsL [more])) (cellsL_cellOk _) (fits_of (by simp [cellsL_length]; omega) (by decide)) (noB_cellsL _)
     rw [← cellsL_append] at A2
     have pC0 := fun H => pathA hq1 (name := name) (by omega) b2 rb H
     rw [l1] at pC0
     have pC : ∀ H, CallOk E9 Tryz.prog 8 [o2, .agg (quC q name (slV rb 1 (intC q.rev)))] H (.tup [optV (pathQ (q.add more) name).1, .int .i64 0]) H := fun H => by
      refine callOk_frz (pC0 H) ?_
      have hz0 : frzGL [slV qb 4 (cellsL q.terms), .agg (quC q name (slV rb 1 (intC q.rev)))] = some [slV qb 4 (cellsL q.terms), .agg (quC q name (slV rb 1 (intC q.rev)))] := by
       obtain ⟨terms, ⟨k, nm, s, b, kids⟩, now, rev⟩ := q
       simp only [quC, Tm.cells, List.cons_append, List.nil_append, frzGL, frzG_slV]
       simp only [frzG, frzL, frz1_slV]
       rfl
      simp only [frzGL, frzG_slV, A2.frzG] at hz0 ⊢
      revert hz0
      generalize frzG (.agg (quC q name (slV rb 1 (intC q.rev)))) = F
      cases F <;> simp
      rintro rfl
      exact ⟨rfl, rfl⟩
     rw [cellsL_mk1] at a2
     have pB := fun i A B C lv nt => pathB (cut_ok hq i) (name := name) (by omega) qb A B C [0] lv nt
     have hdel : ∀ i, i < q.rev.length → delI q.rev i = (q.cut i).rev ++ [0] := fun i _ => by
      unfold delI Qn.cut
      rw [show i + 1 - i = 1 by omega]
      rfl
     have hdl : ∀ i, i < q.rev.length → (q.cut i).rev.length = q.rev.length - 1 := fun i hi => by
      simp only [Qn.cut, List.length_append, List.length_take, List.length_drop]
      omega
     have hrl := hq.rl
     rw [he] at pA
     generalize hr0 : optV (pathQ q name).1 = V at pA
     generalize optV (pathQ (q.add more) name).1 = W at pC
     clear pC0 A1 A2 hr0 hF hM ht htl ha hm hn hms h8 he l1 hq1
     refine callOk_wp (own := (fun d => [5044, 5047].any (Nat.beq d))) tOk9 fe3.ok hfz rfl ?_
     refine Wp.seq ?_
     have hqc : ∃ ak anm aks ab akids, q.anchor = .mk ak anm aks ab akids := by obtain ⟨k, nm, s, b, kids⟩ := q.anchor; exact ⟨_, _, _, _, _, rfl⟩
     obtain ⟨ak, anm, aks, ab, akids, hqa⟩ := hqc
     have hqe : ∀ rv, quC q name rv = [.int .i64 ak, .str anm, .int .i64 aks, slV ab 4 (cellsL akids), .str name, .int .i64 q.now, rv] := fun rv => by
      unfold quC
      rw [hqa]
      rfl
     have hqi : ∀ i rv, quC (q.cut i) name rv = [.int .i64 ak, .str anm, .int .i64 aks, slV ab 4 (cellsL akids), .str name, .int .i64 q.now, rv] := fun i rv => hqe rv
     have htc : ∀ i, (q.cut i).terms = q.terms := fun _ => rfl
     simp only [hqe] at c1 pA pC hfz ⊢
     simp only [hqi, htc] at pB
     obtain ⟨mk, mnm, ms, mb, mkids⟩ := more
     simp only [Tm.cells] at c2 a2 hfz ⊢
     have hTL : ((cellsL q.terms).length : Int) = (cellsL q.terms).length := rfl
     generalize cellsL q.terms = TL at c1 g pA k1 a2 pB ⊢
     clear hTL htl8 hfz
     repeat' first | refine κn ?_ | (apply qCl; rfl; rfl; rfl; rfl; first | exact haw _ | exact c1 _ | exact c2 _ | exact pA _) | refine κi ?_ | refine κl ?_ | refine κt ?_ | refine κg ?_ | (apply dCt; rfl; rfl; rfl; rfl; rfl; exact (k1 _)) | refine κd (pC _) ?_ | refine κB ?_ | (apply dAq; rfl; rfl; rfl; rfl; rfl; rfl; (first | assumption | solve_by_elim)) | refine κh ?_ | refine κa ?_ | (apply Wp.draw tOk9 follows; kernel_rfl) | fail
     refine Wp.while (fun m tm H => ∃ (i : Nat) (base : TM) (lv : List Nat) (nt : Nat), i + m = q.rev.length ∧ tm = ovr base [(0, slV qb 4 TL), (4, .ptr 0 7 0 0), (56, .int .i64 (q.rev.length : Int)), (57, .int .i64 (i : Int))] ∧
       H = ⟨[.cells 7 [[.int .i64 ak, .str anm, .int .i64 aks, slV ab 4 (cellsL akids), .str name, .int .i64 q.now, slV rb 1 (intC q.rev)]], .cells 4 [[.int .i64 mk, .str mnm, .int .i64 ms, slV mb 4 (cellsL mkids)]]], 0, lv, nt⟩)
      (fun m tm H hI => Wp.drop ?_) q.rev.length _ _ ⟨0, _, _, _, by omega, ovr_mk ⟨rfl, rfl, int_eq (by rw [intC_len]), rfl, trivial⟩, rfl⟩
     obtain ⟨i, base, lv, nt, hi, rfl, rfl⟩ := hI
     by_cases hlt : i < q.rev.length
     · have hlx : aBin E9 .lss 3 (.int .i64 (i : Int)) (.int .i64 (q.rev.length : Int)) = some (.bool true) := lss_t (by omega)
       have hne : q.rev ≠ [] := fun e => by rw [e] at hlt; simp at hlt
       have hadd : aBin E9 .add 3 (.int .i64 (i : Int)) (.int .i64 1) = some (.int .i64 ((i + 1 : Nat) : Int)) := by
        show some (PV.int .i64 (IntKind.i64.wrap ((i : Int) + 1))) = _
        rw [IntWalk.i64_in _ (by omega)]
        rfl
       have kW := fun A B C => cloneW (A := A) (B := B) (C := C) hne (by omega) rb lv nt
       have kD := fun A B C => delW (A := A) (B := B) (C := C) hlt lv nt
       have pB := fun A B C => pB i A B C lv nt
       rw [l2 i, hdl i hlt] at pB
       rw [hdel i hlt] at kD
       clear l2 hdel hdl haw c1 c2 pA pC k1 a2
       generalize optV (pathQ (q.cut i) name).1 = U at pB
       generalize intC ((q.cut i).rev ++ [0]) = RD at kD pB
       generalize hnn : q.rev.length - 1 = n1 at kD pB
       generalize intC q.rev = RL at kW kD ⊢
       repeat' first | refine κn ?_ | (apply qCl; rfl; rfl; rfl; rfl; first | exact kW _ _ _ | exact kD _ _ _ | exact pB _ _ _) | refine κi ?_ | refine κt ?_ | refine κg ?_ | refine κa ?_ | fail
       exact DropQ.go [(0, slV qb 4 TL), (4, .ptr 0 7 0 0), (56, .int .i64 (q.rev.length : Int)), (57, .int .i64 ((i + 1 : Nat) : Int))] ⟨rfl, rfl, rfl, rfl, trivial⟩
        (by simp [under_slV, under]) rfl (by simp [boxU, underL, under, under_slV]) (LoopI.go (m - 1) (by omega) ⟨i + 1, _, _, _, by omega, rfl, rfl⟩)
     · have e : i = q.rev.length := by omega
       have hlx : aBin E9 .lss 3 (.int .i64 (i : Int)) (.int .i64 (q.rev.length : Int)) = some (.bool false) := lss_f (by omega)
       repeat' first | refine κn ?_ | refine κi ?_ | refine κt ?_ | refine κa ?_ | refine κf ?_ | fail
       all_goals rfl
   · have be := err_eq (pathQ q name).2
     rw [decide_eq_true he] at be
     have be : aBin E9 .neq 31 (.int .i64 (pathQ q name).2) (.int .i64 0) = some (.bool true) := be
     generalize optV (pathQ q name).1 = V at pA
     generalize (pathQ q name).2 = e at pA be
     clear he hF hM ht htl ha hm hn hms h8 hq
     obtain ⟨terms, ⟨k, nm, s, b, kids⟩, now, rev⟩ := q
     obtain ⟨mk, mnm, ms, mb, mkids⟩ := more
     simp only [quC, Tm.cells, List.cons_append, List.nil_append] at c1 c2 g pA hfz ⊢
     generalize cellsL terms = TL at c1 g pA hfz ⊢
     refine callOk_wp (own := (fun d => [5044, 5047].any (Nat.beq d))) tOk9 fe3.ok hfz rfl ?_
     refine Wp.seq ?_
     repeat' first | refine κn ?_ | (apply qCl; rfl; rfl; rfl; rfl; first | exact haw _ | exact c1 _ | exact c2 _ | exact pA _) | refine κi ?_ | refine κl ?_ | refine κt ?_ | refine κg ?_ | refine κa ?_ | refine κf ?_ | fail
     all_goals rfl
 · obtain ⟨G, hG⟩ : ∃ G, G = decide ((8 : Int) ≤ ((cellsL q.terms).length : Int)) := ⟨_, rfl⟩
   rw [← hG] at g
   have hF : ¬ (fewQ q.terms q name = true ∧ G = false ∧ fewF [more] 1 450 = true) := fun h => hF ⟨h.1, by
    have hz1 := h.2.1
    rw [hG, decide_eq_false_iff_not] at hz1
    omega, h.2.2⟩
   clear hG ht htl ha hm htl8
   generalize fewQ q.terms q name = F at c1 hF
   generalize fewF [more] 1 450 = M at c2 hF
   obtain ⟨terms, ⟨k, nm, s, b, kids⟩, now, rev⟩ := q
   obtain ⟨mk, mnm, ms, mb, mkids⟩ := more
   simp only [quC, Tm.cells, List.cons_append, List.nil_append] at c1 c2 g hfz ⊢
   generalize cellsL terms = TL at c1 g hfz ⊢
   have hO : F = false ∨ (F = true ∧ G = true) ∨ (F = true ∧ G = false ∧ M = false) := by cases F <;> cases G <;> cases M <;> simp at hF ⊢
   rcases hO with rfl | ⟨rfl, rfl⟩ | ⟨rfl, rfl, rfl⟩
   all_goals
    refine callOk_wp (own := (fun d => [5044, 5047].any (Nat.beq d))) tOk9 fe3.ok hfz rfl ?_
    refine Wp.seq ?_
    repeat' first | refine κn ?_ | refine κk ?_ | (apply qCl; rfl; rfl; rfl; rfl; first | exact haw _ | exact c1 _ | exact c2 _) | refine κi ?_ | refine κl ?_ | refine κt ?_ | refine κg ?_ | refine κa ?_ | refine κf ?_ | fail
   all_goals rfl
end Go.Vm.Seat
