/-
  KeyserviceCurrent: the law's function returns true at any log and name, if the examples hold. The examples of the service of keys hold in every world. KeyserviceAccept: the law's function returns true at any reader and answer.
-/
import Derived.Test.YtajpkolimokcdaaGreatDoorEc
import Derived.Test.YtajpkolimokcdaaGreatDoorFa57
import Derived.Test.YtajpkolimokcdaaGreatDoorGj
set_option maxHeartbeats 64000000
set_option maxRecDepth 100000
namespace Go.Vm.Seat
open Go.Proofs
theorem c35 {l : List Tm} (hok : ∀ t, t ∈ l → t.Ok) (hs : ∀ t, t ∈ l → t.size ≤ 900) (hll : l.length ≤ 40) {name : Bs} (hn : name.length ≤ 100) (b : Bool) : ∀ H, CallOk E0 Tryz.prog 35 [slV b 4 (cellsL l), .str name] H (.tup [.agg (curP l name).1.cells, .int .i64 (curP l name).2]) H := by
 have hw := c96 (s := name) (by omega)
 have hf := c97 hok hs hll (name := name) b
 have hfr := frz3_te 0 hNil (curP l name).1 (curP l name).2
 refine callOk_wp (own := fun _ => false) tOk fe35.ok (by simp only [frzGL, frzG_slV]; rfl) hfr ?_
 clear hfr
 refine Wp.seq ?_
 have b0 : aBin E0 .gtr 3 (.int .i64 ((cellsL l).length : Int)) (.int .i64 32) = some (.bool (decide (32 < l.length))) := by
  show some (PV.bool (decide ((32 : Int) < ((cellsL l).length : Int)))) = _
  rw [cellsL_length]
  simp
  omega
 by_cases h1 : 32 < l.length
 · rw [decide_eq_true h1] at b0
   have hr : curP l name = (Tm.zero, 3) := by unfold curP; rw [if_pos h1]
   rw [hr, zero_cells]
   repeat' first | refine κn ?_ | refine κi ?_ | refine κl ?_ | refine κg ?_ | refine κa ?_ | refine κf ?_ | fail
   all_goals rfl
 · rw [decide_eq_false h1] at b0
   have hdb : dottedB name = (decide ((splitD name).length ≤ 4) && (splitD name).all labelB) := rfl
   cases hd : dottedB name with
   | false =>
     have hr : curP l name = (Tm.zero, 2) := by unfold curP; rw [if_neg h1, if_pos hd]
     rw [hr, zero_cells]
     unfold labels71 at hw
     rw [hd] at hdb
     cases hL : (splitD name).all labelB with
     | false =>
       rw [hL] at hw
       have hw : ∀ H, CallOk E0 Tryz.prog 96 [.str name] H (.tup [.nils, .bool false]) H := hw
       repeat' first | refine κn ?_ | refine κc (hw _) ?_ | refine κi ?_ | refine κl ?_ | refine κt ?_ | refine κg ?_ | refine κa ?_ | refine κf ?_ | fail
       all_goals rfl
     | true =>
       rw [hL, Bool.and_true] at hdb
       rw [hL, ← hdb] at hw
       have hw : ∀ H, CallOk E0 Tryz.prog 96 [.str name] H (.tup [.sl .none 1 (partsC (splitD name)), .bool false]) H := hw
       repeat' first | refine κn ?_ | refine κc (hw _) ?_ | refine κi ?_ | refine κl ?_ | refine κt ?_ | refine κg ?_ | refine κa ?_ | refine κf ?_ | fail
       all_goals rfl
   | true =>
     have hr : curP l name = match lookR name l.reverse with
       | none => (Tm.zero, 4)
       | some (k, e) => if e = 0 then (Tm.zero, 4) else (k, 0) := by
      unfold curP
      rw [if_neg h1, if_neg (by rw [hd]; simp)]
      cases lookR name l.reverse <;> rfl
     unfold labels71 at hw
     rw [hd] at hdb
     have hL : (splitD name).all labelB = true := by
      cases hL : (splitD name).all labelB with
      | true => rfl
      | false => rw [hL, Bool.and_false] at hdb; cases hdb
     rw [hL, Bool.and_true] at hdb
     rw [hL, ← hdb] at hw
     have hw : ∀ H, CallOk E0 Tryz.prog 96 [.str name] H (.tup [.sl .none 1 (partsC (splitD name)), .bool true]) H := hw
     rcases look_FR name l.reverse with ⟨y1, y2⟩ | ⟨k, e, y1, y2, y3⟩
     · have hr : curP l name = (Tm.zero, 4) := by rw [hr, y1]
       rw [hr, zero_cells]
       rw [y2] at hf
       generalize (lookF name l.reverse).2.1 = at_ at hf
       generalize (lookF name l.reverse).1 = T at hf
       obtain ⟨k4, m4, s4, t4, q4⟩ := T
       simp only [Tm.cells] at hf
       repeat' first | refine κn ?_ | refine κc (hw _) ?_ | refine κc (hf _) ?_ | refine κi ?_ | refine κl ?_ | refine κt ?_ | refine κg ?_ | refine κa ?_ | refine κf ?_ | fail
       all_goals rfl
     · have hr : curP l name = if e = 0 then (Tm.zero, 4) else (k, 0) := by rw [hr, y1]
       rw [y3] at hf
       generalize (lookF name l.reverse).2.1 = at_ at hf
       generalize (lookF name l.reverse).1 = T at hf y2
       subst y2
       by_cases he : e = 0
       · have hr : curP l name = (Tm.zero, 4) := by rw [hr, if_pos he]
         rw [hr, zero_cells]
         rw [decide_eq_false (by simp [he])] at hf
         obtain ⟨k4, m4, s4, t4, q4⟩ := T
         simp only [Tm.cells] at hf
         repeat' first | refine κn ?_ | refine κc (hw _) ?_ | refine κc (hf _) ?_ | refine κi ?_ | refine κl ?_ | refine κt ?_ | refine κg ?_ | refine κa ?_ | refine κf ?_ | fail
         all_goals rfl
       · have hr : curP l name = (T, 0) := by rw [hr, if_neg he]
         rw [hr]
         rw [decide_eq_true he] at hf
         obtain ⟨k4, m4, s4, t4, q4⟩ := T
         simp only [Tm.cells] at hf ⊢
         repeat' first | refine κn ?_ | refine κc (hw _) ?_ | refine κc (hf _) ?_ | refine κi ?_ | refine κl ?_ | refine κt ?_ | refine κg ?_ | refine κa ?_ | refine κf ?_ | fail
         all_goals exact frz3_te _ _ (.mk k4 m4 s4 t4 q4) 0
end Go.Vm.Seat
namespace Go.Vm.Seat
open Go.Proofs
theorem few_sizes5 : ∀ (l : List Tm) (n : Int), fewL l n = true → ∀ t, t ∈ l → (t.size : Int) ≤ n
 | [], _, _, t, ht => absurd ht (by simp)
 | a :: r, n, h, t, ht => by
   simp only [fewL] at h
   split at h
   · cases h
   · rename_i hb
     have := a.budget_eq n (by omega)
     rcases List.mem_cons.1 ht with rfl | ht
     · omega
     · have := few_sizes5 r _ h t ht
       omega
theorem look_mem {name : Bs} : ∀ {l : List Tm} {k : Tm} {e : Int}, lookR name l = some (k, e) → ∃ t, t ∈ l ∧ k = (readP t).1.key
 | [], _, _, h => by simp [lookR] at h
 | t :: r, k, e, h => by
   simp only [lookR] at h
   split at h
   · simp only [Option.some.injEq, Prod.mk.injEq] at h
     exact ⟨t, by simp, h.1.symm⟩
   · obtain ⟨u, hu, e'⟩ := look_mem h
     exact ⟨u, by simp [hu], e'⟩
theorem clL_mem5 : ∀ {l : List Tm} {u : Tm}, u ∈ clL l → ∃ x, x ∈ l ∧ u = x.cl
 | [], u, h => by simp [clL] at h
 | a :: r, u, h => by
   simp only [clL, List.mem_cons] at h
   rcases h with rfl | h
   · exact ⟨a, by simp, rfl⟩
   · obtain ⟨x, hx, e⟩ := clL_mem5 h
     exact ⟨x, by simp [hx], e⟩
theorem clL_len5 : ∀ l : List Tm, (clL l).length = l.length
 | [] => rfl
 | a :: r => by simp only [clL, List.length_cons, clL_len5 r]
theorem ok_cl {t : Tm} (ht : t.Ok) : t.cl.Ok := by
 induction ht with
 | @mk k nm s b kids hk hs hn hl hok ih =>
   simp only [Tm.cl]
   refine .mk hk hs hn (by rw [clL_len5]; exact hl) fun u hu => ?_
   obtain ⟨x, hx, rfl⟩ := clL_mem5 hu
   exact ih x hx
theorem cur_small {l : List Tm} {name : Bs} (hok : ∀ t, t ∈ l → t.Ok) (hs : ∀ t, t ∈ l → t.size ≤ 900) : (curP l name).1.Ok ∧ (curP l name).1.size ≤ 900 := by
 have hz : Tm.zero.Ok ∧ Tm.zero.size ≤ 900 := ⟨Tm.ok_zero, by decide⟩
 unfold curP
 split
 · exact hz
 · split
   · exact hz
   · split
     · exact hz
     · rename_i k e h
       split
       · exact hz
       · obtain ⟨t, ht, rfl⟩ := look_mem h
         have ht := List.mem_reverse.1 ht
         rcases readP_case t with e | ⟨_, _, e, _⟩
         · rw [e]; exact hz
         · exact ⟨(hok t ht).part e, by have := e.1; have := hs t ht; show (readP t).1.key.size ≤ 900; omega⟩
theorem c7 (haw : ∀ H, CallOk E0 Tryz.prog 19 [] H (.bool true) H) {l : List Tm} (hok : ∀ t, t ∈ l → t.Ok) (hll : l.length ≤ maxLen) {name : Bs} (b : Bool) : ∀ H, CallOk E0 Tryz.prog 7 [slV b 4 (cellsL l), .str name] H (.bool true) H := by
 have c1 := c33 hok hll b (n := 40) (most := 900) (by decide) (by decide)
 cases hF : fewF l 40 900 with
 | false =>
   rw [hF] at c1
   refine κw tOk fe7.ok rfl ?_
   repeat' first | refine κn ?_ | refine κk ?_ | refine κc (haw _) ?_ | refine κc (c1 _) ?_ | refine κt ?_ | refine κg ?_ | refine κa ?_ | refine κf ?_ | fail
   all_goals rfl
 | true =>
   rw [hF] at c1
   have hl40 : l.length ≤ 40 := by
    unfold fewF at hF
    split at hF
    · cases hF
    · omega
   have hs : ∀ t, t ∈ l → t.size ≤ 900 := fun t ht => by
    unfold fewF at hF
    split at hF
    · cases hF
    · have := few_sizes5 l _ hF t ht
      omega
   by_cases hn : name.length ≤ 100
   · have b0 : aBin E0 .gtr 3 (.int .i64 (name.length : Int)) (.int .i64 100) = some (.bool false) := by
       show some (PV.bool (decide ((100 : Int) < (name.length : Int)))) = _
       rw [decide_eq_false (by omega)]
     have c2 := c34 hok hs hl40 hn b
     have c3 := c35 hok hs hl40 hn b
     have hsm := cur_small (name := name) hok hs
     have hcl : (curP l name).1.cl.Ok ∧ (curP l name).1.cl.size ≤ 900 := ⟨ok_cl hsm.1, by rw [cl_size]; exact hsm.2⟩
     have c4 := c13 hcl.1 hsm.1 (by omega) (by omega)
     rw [decide_eq_true (cmp_of_cl _ _ (cl_cl _))] at c4
     unfold curC at c2
     generalize (curP l name).2 = e at c2 c3
     generalize (curP l name).1.cl = T at c2 c4
     generalize (curP l name).1 = U at c3 c4
     have b1 : aBin E0 .eql 33 (.int .i64 e) (.int .i64 e) = some (.bool true) := by
      show some (PV.bool (e == e)) = _
      simp
     clear hsm hcl hF hl40 hs
     obtain ⟨k4, m4, s4, t4, q4⟩ := T
     obtain ⟨k5, m5, s5, t5, q5⟩ := U
     simp only [Tm.cells] at c2 c3 c4
     refine κw tOk fe7.ok rfl ?_
     repeat' first | refine κn ?_ | (apply qCl; rfl; rfl; rfl; rfl; first | exact haw _ | exact c1 _ | exact c2 _ | exact c3 _ | exact c4 _) | refine κi ?_ | refine κt ?_ | refine κg ?_ | refine κa ?_ | refine κf ?_ | fail
     all_goals rfl
   · have b0 : aBin E0 .gtr 3 (.int .i64 (name.length : Int)) (.int .i64 100) = some (.bool true) := by
       show some (PV.bool (decide ((100 : Int) < (name.length : Int)))) = _
       rw [decide_eq_true (by omega)]
     refine κw tOk fe7.ok rfl ?_
     repeat' first | refine κn ?_ | refine κc (haw _) ?_ | refine κc (c1 _) ?_ | refine κi ?_ | refine κt ?_ | refine κg ?_ | refine κa ?_ | refine κf ?_ | fail
     all_goals rfl
end Go.Vm.Seat
namespace Go.Vm.Seat
open Go.Proofs
theorem awakeFact57 : okFact (E7.knowsG facts57) 100 60 ⟨19, [], .bool true⟩ = true := by kernel_rfl
theorem facts7_ok : ∀ x ∈ facts57, FactOk E7 Tryz.prog x := fun x hx => (facts57_ok x hx).env rfl
theorem fOk7 : FOk E7 Tryz.prog := fun f fn c h hb => fOk f fn c h hb
theorem zOk7 : CallsOk E7 Tryz.prog E7.Z := calls_more (E := E0) (E' := E7) rfl rfl rfl (fun h => h) (fun f h => by
 simp only [E7, Bool.or_eq_false_iff] at h
 exact h.1) zOk
theorem awakeOk57 : ∀ H, CallOk E0 Tryz.prog 19 [] H (.bool true) H := fun H => by
 have h : FactOk (E7.knowsG facts57) Tryz.prog ⟨19, [], .bool true⟩ := okFact_ok (E := E7.knowsG facts57) ⟨tOk7.1⟩ follows (knowsG_F fOk7) (knowsG_calls facts7_ok zOk7) awakeFact57
 exact to70 ((h H).env rfl)
end Go.Vm.Seat
namespace Go.Vm.Seat
open Go.Proofs
theorem zero_ok {S : Nat} (h1 : 1 ≤ S) : RdOk S .zero ∧ Tm.zero.Ok ∧ Tm.zero.size ≤ S := by
 have hz : Tm.zero.Ok ∧ Tm.zero.size ≤ S := ⟨Tm.ok_zero, by simpa [Tm.zero, Tm.size, sizeL] using h1⟩
 exact ⟨⟨hz, hz, hz⟩, hz⟩
theorem accP_ok {c : Rd} {a : An} (hc : RdOk 2000 c) (ha : AnSm a 2000) : RdOk 2000 (accP c a).1 ∧ (accP c a).2.1.Ok ∧ (accP c a).2.1.size ≤ 2000 := by
 have hz := zero_ok (S := 2000) (by omega)
 obtain ⟨r1, r2, -⟩ := read_key ha.ok.e ha.e (by omega)
 unfold accP
 split; · exact hz
 split; · exact hz
 split; · exact hz
 split; · exact hz
 split; · exact hz
 have k : ∀ {t : Tm}, t.Ok → t.size ≤ 2000 → t.cl.Ok ∧ t.cl.size ≤ 2000 := fun h1 h2 => ⟨ok_clT h1, by rw [cl_size]; exact h2⟩
 exact ⟨⟨k hc.1.1 hc.1.2, k ha.ok.h ha.h, k ha.ok.s ha.s⟩, k r1 r2⟩
theorem accR_ok {c : Rd} {a : An} (hc : RdOk 2000 c) (ha : AnSm a 2000) : RdOk 2000 (accR c a).1 ∧ (accR c a).2.1.Ok ∧ (accR c a).2.1.size ≤ 2000 := by
 have hz := zero_ok (S := 2000) (by omega)
 obtain ⟨r1, r2, -⟩ := read_key ha.ok.e ha.e (by omega)
 unfold accR
 split; · exact hz
 split; · exact hz
 split; · exact hz
 split; · exact hz
 split; · exact hz
 split; · exact hz
 exact ⟨⟨hc.1, ⟨ha.ok.h, ha.h⟩, ha.ok.s, ha.s⟩, r1, r2⟩
theorem rd_more {S T : Nat} {c : Rd} (h : RdOk S c) (hST : S ≤ T) : RdOk T c := ⟨⟨h.1.1, Nat.le_trans h.1.2 hST⟩, ⟨h.2.1.1, Nat.le_trans h.2.1.2 hST⟩, h.2.2.1, Nat.le_trans h.2.2.2 hST⟩
theorem few_of {l : List Tm} {n : Int} (h : fewF l n 900 = true) : ∀ t, t ∈ l → t.size ≤ 2000 := fun t ht => by
 unfold fewF at h
 split at h
 · cases h
 · have := few_sizes5 l 900 h t ht
   omega
theorem lis3 {x y z x' y' z' : Tm} (h1 : x.cl = x'.cl) (h2 : y.cl = y'.cl) (h3 : z.cl = z'.cl) : lisB [x, y, z] [x', y', z'] = true := by
 simp only [lisB]
 rw [decide_eq_true (cmp_iff.2 h1), decide_eq_true (cmp_iff.2 h2), decide_eq_true (cmp_iff.2 h3)]
 rfl
theorem erq_tt {a b : Int} (h : a = b) : aBin E0 .eql 33 (.int .i64 a) (.int .i64 b) = some (.bool true) := by
 show some (PV.bool (a == b)) = _
 rw [h, beq_self_eq_true]
theorem c6 {c : Rd} (h1 : c.svc.Ok) (h2 : c.head.Ok) (h3 : c.signed.Ok) (wc : (Lit.int .i64 c.size).wf = true) {a : An} (ha : AnOk a) (wi : (Lit.int .i64 a.idx).wf = true) (ws : (Lit.int .i64 a.size).wf = true) : ∀ H, CallOk E0 Tryz.prog 6 [.agg c.cells, .agg a.cells] H (.bool true) H := by
 have haw := awakeOk57
 have c1 := c29 h1 h2 h3
 have c2 := c30 ha
 cases hF : fewF [c.svc, c.head, c.signed] 3 900 with
 | false =>
   rw [hF] at c1
   clear hF h1 h2 h3 ha wc wi ws
   obtain ⟨⟨k1, nm1, s1, b1, kids1⟩, n, ⟨k2, nm2, s2, b2, kids2⟩, k3, nm3, s3, b3, kids3⟩ := c
   obtain ⟨name, ⟨k4, nm4, s4, b4, kids4⟩, ai, n', ⟨k5, nm5, s5, b5, kids5⟩, ⟨k6, nm6, s6, b6, kids6⟩, ib, incl, eb, ext⟩ := a
   simp only [Rd.cells, An.cells, Tm.cells, List.cons_append, List.nil_append] at c1 c2 ⊢
   refine κw tOk fe6.ok rfl ?_
   repeat' first | refine κn ?_ | refine κk ?_ | refine κc (haw _) ?_ | refine κc (c1 _) ?_ | refine κt ?_ | refine κg ?_ | refine κa ?_ | refine κf ?_ | fail
   all_goals rfl
 | true =>
   rw [hF] at c1
   cases hA : fewAn a with
   | false =>
     rw [hA] at c2
     clear hF hA h1 h2 h3 ha wc wi ws
     obtain ⟨⟨k1, nm1, s1, b1, kids1⟩, n, ⟨k2, nm2, s2, b2, kids2⟩, k3, nm3, s3, b3, kids3⟩ := c
     obtain ⟨name, ⟨k4, nm4, s4, b4, kids4⟩, ai, n', ⟨k5, nm5, s5, b5, kids5⟩, ⟨k6, nm6, s6, b6, kids6⟩, ib, incl, eb, ext⟩ := a
     simp only [Rd.cells, An.cells, Tm.cells, List.cons_append, List.nil_append] at c1 c2 ⊢
     refine κw tOk fe6.ok rfl ?_
     repeat' first | refine κn ?_ | (apply qCl; rfl; rfl; rfl; rfl; first | exact haw _ | exact c1 _ | exact c2 _) | refine κt ?_ | refine κg ?_ | refine κa ?_ | refine κf ?_ | fail
     all_goals rfl
   | true =>
     rw [hA] at c2
     have hf := few_of hF
     have hc : RdOk 2000 c := ⟨⟨h1, hf _ (by simp)⟩, ⟨h2, hf _ (by simp)⟩, h3, hf _ (by simp)⟩
     simp only [fewAn, Bool.and_eq_true, decide_eq_true_eq] at hA
     have hf2 := few_of hA.2.1
     have hs : AnSm a 2000 := ⟨ha, hA.1, hf2 _ (by simp), hf2 _ (by simp), hf2 _ (by simp), few_of hA.2.2.1, few_of hA.2.2.2, wi, ws⟩
     have c3 := c31 hc wc hs
     have c4 := c32 hc wc hs
     have k1 := accP_ok hc hs
     have k2 := accR_ok hc hs
     have c5 := c27 (rd_more k1.1 (T := 1000000) (by omega)) (rd_more k2.1 (T := 1000000) (by omega))
     have c6 := c13 k1.2.1 k2.2.1 (by omega) (by omega)
     obtain ⟨q1, q2, q3, q4, q5, q6⟩ := acc_same c a
     have e := erq_tt q1
     rw [show sameRd (accP c a).1 (accR c a).1 = true by simp only [sameRd, decide_eq_true q2, lis3 q3 q4 q5, Bool.and_self]] at c5
     rw [decide_eq_true (cmp_iff.2 q6)] at c6
     clear q1 q2 q3 q4 q5 q6 k1 k2 hc hs hf hf2 hF hA h1 h2 h3 ha wc wi ws
     simp only [rspV] at c3 c4
     generalize accP c a = P at c3 c5 c6 e
     generalize accR c a = R at c4 c5 c6 e
     obtain ⟨⟨⟨k7, nm7, s7, b7, kids7⟩, n1, ⟨k8, nm8, s8, b8, kids8⟩, k9, nm9, s9, b9, kids9⟩, ⟨ka, nma, sa, ba, kidsa⟩, e1⟩ := P
     obtain ⟨⟨⟨kb, nmb, sb, bb, kidsb⟩, n2, ⟨kc, nmc, sc, bc, kidsc⟩, kd, nmd, sd, bd, kidsd⟩, ⟨ke, nme, se, be, kidse⟩, e2⟩ := R
     obtain ⟨⟨k1, nm1, s1, b1, kids1⟩, n, ⟨k2, nm2, s2, b2, kids2⟩, k3, nm3, s3, b3, kids3⟩ := c
     obtain ⟨name, ⟨k4, nm4, s4, b4, kids4⟩, ai, n', ⟨k5, nm5, s5, b5, kids5⟩, ⟨k6, nm6, s6, b6, kids6⟩, ib, incl, eb, ext⟩ := a
     simp only [Rd.cells, An.cells, Tm.cells, List.cons_append, List.nil_append] at c1 c2 c3 c4 c5 c6 e ⊢
     refine κw tOk fe6.ok rfl ?_
     repeat' first | refine κn ?_ | (apply qCl; rfl; rfl; rfl; rfl; first | exact haw _ | exact c1 _ | exact c2 _ | exact c3 _ | exact c4 _ | exact c5 _ | exact c6 _) | refine κi ?_ | refine κt ?_ | refine κg ?_ | refine κa ?_ | refine κf ?_ | fail
     all_goals rfl
end Go.Vm.Seat
