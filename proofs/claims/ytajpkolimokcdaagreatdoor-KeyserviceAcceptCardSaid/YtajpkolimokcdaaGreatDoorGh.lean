/-
  Readers of a service: the key that the document's reader trusts.
-/
import Derived.Test.YtajpkolimokcdaaGreatDoorGg
set_option maxHeartbeats 64000000
set_option maxRecDepth 100000
namespace Go.Vm.Seat
open Go.Proofs
theorem pk_isF (k : Int) (nm : Bs) (s : Int) (b : Bool) (kids : List Tm) : pkB (.mk k nm s b kids) = isF k nm [112, 107] := rfl
theorem c90 {c : Rd} (hc : RdOk 20000 c) : ∃ x : Tm, (keyB id c = true → x = kid0 c.svc) ∧ ∀ H, CallOk E0 Tryz.prog 90 [.agg c.cells] H (.tup [.agg x.cells, .bool (keyB id c)]) H := by
 obtain ⟨svc, n, h, sg⟩ := c
 obtain ⟨⟨o1, z1⟩, ⟨o2, z2⟩, o3, z3⟩ := hc
 simp only [] at o1 z1 o2 z2 o3 z3
 have hF := c113 o1 (by omega)
 have hG := c112 o1 (by omega)
 by_cases hb : svcB svc = true
 · simp only [svcB, Bool.and_eq_true, decide_eq_true_eq] at hb
   obtain ⟨⟨hb1, ⟨hb2, hb3⟩, hb4⟩, hb5⟩ := hb
   obtain ⟨s, b, x, rfl⟩ := svc_kid hb1 hb3
   have hx := kid_ok o1
   rw [size_kid] at z1
   have hsv : svcB (.mk 3 [112, 107] s b [x]) = true := by
    simp only [svcB, Bool.and_eq_true, decide_eq_true_eq]
    exact ⟨⟨hb1, ⟨hb2, hb3⟩, hb4⟩, hb5⟩
   have hFt : (decide ((Tm.mk 3 [112, 107] s b [x]).valid = 0 ∧ (Tm.mk 3 [112, 107] s b [x]).th = 0) && (Tm.mk 3 [112, 107] s b [x]).fre) = true := by rw [decide_eq_true ⟨hb2, hb3⟩, hb4]; rfl
   rw [hFt] at hF
   rw [hb5] at hG
   have hI : ∀ H, CallOk E0 Tryz.prog 56 [.agg (Tm.mk 3 [112, 107] s b [x]).cells, .str [112, 107]] H (.bool true) H := c56 3 [112, 107] s b [x] [112, 107]
   have hj : (cellsL [x])[0]? = some x.cells := rfl
   have hln : (cellsL [x]).length = 1 := rfl
   have hk0 : kid0 (.mk 3 [112, 107] s b [x]) = x := rfl
   have hft := fun m H b => frz3_tb m H x b
   clear hb1 hb2 hb3 hb4 hb5 hFt
   by_cases hn : n = 0
   · subst hn
     have q1 := zeroR h
     have q2 := zeroR sg
     have e : keyB id ⟨.mk 3 [112, 107] s b [x], 0, h, sg⟩ = (zeroB h && zeroB sg) := by
      simp only [keyB, hsv, Bool.true_and, if_true]
     refine ⟨x, fun _ => hk0.symm, ?_⟩
     rw [e]
     generalize zeroB h = B1 at q1 ⊢
     generalize zeroB sg = B2 at q2 ⊢
     have hfr := hft 0 hNil (B1 && B2)
     clear e hsv o1 o2 o3 z1 z2 z3 hx hk0
     simp only [Rd.cells, Tm.cells] at hF hG hI ⊢
     generalize cellsL [x] = L at hF hG hI hj hln ⊢
     obtain ⟨k1, nm1, s1, b1, kids1⟩ := x
     obtain ⟨k2, nm2, s2, b2, kids2⟩ := h
     obtain ⟨k3, nm3, s3, b3, kids3⟩ := sg
     simp only [Tm.cells, List.cons_append, List.nil_append] at q1 q2 hj hft hfr ⊢
     cases B1 <;> cases B2
     all_goals
      refine κw tOk fe90.ok hfr ?_
      repeat' first | refine κn ?_ | (apply qCl; rfl; rfl; rfl; rfl; first | exact hF _ | exact hG _ | exact hI _) | refine κx ?_ | refine κt ?_ | refine κg ?_ | (apply dK; rfl; rfl; rfl) | refine κd (q1 _) ?_ | refine κd (q2 _) ?_ | (apply dT (ty := 4); rfl; rfl; rfl; rfl) | (apply dF (ty := 4); rfl; rfl; rfl; rfl) | refine κh ?_ | refine κa ?_ | (apply Wp.drawS tOk follows; kernel_rfl; rfl) | refine κf ?_ | fail
     all_goals first
      | exact hft _ _ _
      | (exfalso; rw [hln] at hb; simp at hb; done)
   · have en := eql0_f hn
     by_cases hr : n < 1 ∨ 32 < n
     · have e : keyB id ⟨.mk 3 [112, 107] s b [x], n, h, sg⟩ = false := by
         simp only [keyB, hsv, Bool.true_and, if_neg hn, if_pos hr]
       refine ⟨x, fun _ => hk0.symm, ?_⟩
       rw [e]
       have hfr := hft 0 hNil false
       clear e hsv o1 o2 o3 z1 z2 z3 hx hk0
       simp only [Rd.cells, Tm.cells] at hF hG hI ⊢
       generalize cellsL [x] = L at hF hG hI hj hln ⊢
       obtain ⟨k1, nm1, s1, b1, kids1⟩ := x
       obtain ⟨k2, nm2, s2, b2, kids2⟩ := h
       obtain ⟨k3, nm3, s3, b3, kids3⟩ := sg
       simp only [Tm.cells, List.cons_append, List.nil_append] at hj hft hfr ⊢
       by_cases h1 : n < 1
       · have e1 := lss_t h1
         refine κw tOk fe90.ok hfr ?_
         repeat' first | refine κn ?_ | refine κk ?_ | (apply qCl; rfl; rfl; rfl; rfl; first | exact hF _ | exact hG _ | exact hI _) | refine κi ?_ | refine κx ?_ | refine κt ?_ | refine κg ?_ | refine κa ?_ | refine κf ?_ | fail
         all_goals first
          | exact hft _ _ _
          | (exfalso; rw [hln] at hb; simp at hb; done)
       · have e1 := lss_f h1
         have e2 := gtr_t (a := n) (b := 32) (by omega)
         refine κw tOk fe90.ok hfr ?_
         repeat' first | refine κn ?_ | (apply qCl; rfl; rfl; rfl; rfl; first | exact hF _ | exact hG _ | exact hI _) | refine κi ?_ | refine κx ?_ | refine κt ?_ | refine κg ?_ | refine κa ?_ | refine κf ?_ | fail
         all_goals first
          | exact hft _ _ _
          | (exfalso; rw [hln] at hb; simp at hb; done)
     · have e1 := lss_f (a := n) (b := 1) (by omega)
       have e2 := gtr_f (a := n) (b := 32) (by omega)
       have cs := c92 o2 (by omega) hx (by omega) n
       have hso := sign_ok id (fun t ht => ⟨ht, rfl⟩) n o2 hx
       have cq := c13 hso.1 o3 (by omega) (by omega)
       have e : keyB id ⟨.mk 3 [112, 107] s b [x], n, h, sg⟩ = (decide ((signG id h n x).2 = 0) && decide ((signG id h n x).1.cmp sg = 0)) := by
        simp only [keyB, hsv, Bool.true_and, if_neg hn, if_neg hr]
        rfl
       refine ⟨x, fun _ => hk0.symm, ?_⟩
       rw [e]
       clear e hsv hso
       generalize signG id h n x = S at cs cq ⊢
       obtain ⟨S, e'⟩ := S
       simp only [] at cs cq ⊢
       generalize decide (S.cmp sg = 0) = D at cq ⊢
       have hfr := hft 0 hNil (decide (e' = 0) && D)
       clear o1 o2 o3 z1 z2 z3 hx hk0
       simp only [Rd.cells, Tm.cells] at hF hG hI ⊢
       generalize cellsL [x] = L at hF hG hI hj hln ⊢
       obtain ⟨k1, nm1, s1, b1, kids1⟩ := x
       obtain ⟨k2, nm2, s2, b2, kids2⟩ := h
       obtain ⟨k3, nm3, s3, b3, kids3⟩ := sg
       obtain ⟨k4, nm4, s4, b4, kids4⟩ := S
       simp only [Tm.cells, List.cons_append, List.nil_append] at cs cq hj hft hfr ⊢
       by_cases he : e' = 0
       · have e3 := erq_t he
         rw [decide_eq_true he] at hfr ⊢
         refine κw tOk fe90.ok hfr ?_
         repeat' first | refine κn ?_ | (apply qCl; rfl; rfl; rfl; rfl; first | exact hF _ | exact hG _ | exact hI _ | exact cs _) | refine κi ?_ | refine κx ?_ | refine κt ?_ | refine κg ?_ | refine κd (cq _) ?_ | refine κD ?_ | (apply dT (ty := 4); rfl; rfl; rfl; rfl) | refine κh ?_ | refine κa ?_ | (apply Wp.drawS tOk follows; kernel_rfl; rfl) | refine κf ?_ | fail
         all_goals first
          | exact hft _ _ _
          | (exfalso; rw [hln] at hb; simp at hb; done)
       · have e3 := erq_f he
         rw [decide_eq_false he] at hfr ⊢
         refine κw tOk fe90.ok hfr ?_
         repeat' first | refine κn ?_ | (apply qCl; rfl; rfl; rfl; rfl; first | exact hF _ | exact hG _ | exact hI _ | exact cs _) | refine κi ?_ | refine κx ?_ | refine κt ?_ | refine κg ?_ | (apply dK; rfl; rfl; rfl) | refine κD ?_ | (apply dF (ty := 4); rfl; rfl; rfl; rfl) | refine κh ?_ | refine κa ?_ | (apply Wp.drawS tOk follows; kernel_rfl; rfl) | refine κf ?_ | fail
         all_goals first
          | exact hft _ _ _
          | (exfalso; rw [hln] at hb; simp at hb; done)
 · have hb : svcB svc = false := by simpa using hb
   have e := keyB_bad id (c := ⟨svc, n, h, sg⟩) hb
   refine ⟨.zero, (by intro hq; rw [e] at hq; cases hq), ?_⟩
   rw [e]
   clear e
   have hfr : frz3 0 hNil (.tup [.agg Tm.zero.cells, .bool false]) = some (.tup [.agg Tm.zero.cells, .bool false]) := frz3_tb 0 hNil _ _
   simp only [svcB] at hb
   generalize (decide (svc.valid = 0 ∧ svc.th = 0) && svc.fre) = F at hF hb
   generalize svc.ground = G at hG hb
   clear o1 o2 o3 z1 z2 z3
   obtain ⟨k, nm, s, b, kids⟩ := svc
   have hI := c56 k nm s b kids [112, 107]
   rw [pk_isF] at hb
   generalize isF k nm [112, 107] = I at hb hI
   obtain ⟨k2, nm2, s2, b2, kids2⟩ := h
   obtain ⟨k3, nm3, s3, b3, kids3⟩ := sg
   simp only [Rd.cells, Tm.cells, List.cons_append, List.nil_append] at hF hG ⊢
   cases F <;> cases G <;> cases I
   case true.true.true => cases hb
   all_goals
    clear hb
    refine κw tOk fe90.ok hfr ?_
    repeat' first | refine κn ?_ | refine κk ?_ | (apply qCl; rfl; rfl; rfl; rfl; first | exact hF _ | exact hG _ | exact hI _) | refine κt ?_ | refine κg ?_ | refine κa ?_ | refine κf ?_ | fail
   all_goals (rw [zero_cells]; rfl)
end Go.Vm.Seat
