/-
  Credentials: issued by the program's text.
-/
import Derived.Test.YtjokjgoppbmaiaaGreatDoorCu
import Derived.Test.YtjokjgoppbmaiaaGreatDoorAwIt
import Derived.Test.YtjokjgoppbmaiaaGreatDoorFh
set_option maxHeartbeats 64000000
set_option maxRecDepth 100000
namespace Go.Vm.Seat
open Go.Proofs
theorem c201 {n : Int} (h0 : 0 ≤ n) (h1 : n ≤ 9999) : ∀ H, CallOk E0 Tryz.prog 201 [.int .i64 n] H (.str (Lib.itoa n)) H := by
 have hc := c247 h0 h1
 refine κw tOk fe201.ok rfl ?_
 repeat' first | refine κn ?_ | refine κc (hc _) ?_ | refine κg ?_ | refine κa ?_ | refine κf ?_ | fail
 all_goals rfl
theorem c130 {n : Int} (h0 : 0 ≤ n) (h1 : n ≤ 9999) : ∀ H, CallOk E0 Tryz.prog 130 [.int .i64 n] H (.str (Lib.itoa n)) H := by
 have hc := c201 h0 h1
 refine κw tOk fe130.ok rfl ?_
 repeat' first | refine κn ?_ | refine κc (hc _) ?_ | refine κg ?_ | refine κa ?_ | refine κf ?_ | fail
 all_goals rfl
theorem c106 {n : Int} (h0 : 0 ≤ n) (h1 : n ≤ 9999) : ∀ H, CallOk E0 Tryz.prog 106 [.int .i64 n] H (.agg (numT n).cells) H := by
 have hc := c130 h0 h1
 have hl := itoa_len h0 h1
 have hat := c103 (110 :: Lib.itoa n) 4
 unfold numT
 generalize Lib.itoa n = s at hc hat hl ⊢
 have had : aBin E0 .add 9 (.str [110]) (.str s) = some (.str (110 :: s)) := by
  show aStr .add [110] s = _
  simp only [aStr]
  rw [if_pos (by simp; omega)]
  rfl
 rw [atomT_cells] at hat ⊢
 refine κw tOk fe106.ok rfl ?_
 repeat' first | refine κn ?_ | refine κc (hc _) ?_ | refine κc (hat _) ?_ | refine κi ?_ | refine κg ?_ | refine κa ?_ | refine κf ?_ | fail
 all_goals rfl
theorem c47 {x : Cred} (h : CredOk x) (h1 : x.sub.length ≤ 100000) (hp : ∀ s, s ∈ x.per → s.length ≤ 100000) (he : ∀ s, s ∈ x.exc → s.length ≤ 100000) : ∀ H, CallOk E0 Tryz.prog 47 [.agg x.cells] H (.agg x.body.cells) H := by
 have ct : ∀ H, CallOk E0 Tryz.prog 102 [.sl .full 4 (cellsL x.bodyL)] H (.agg x.body.cells) H := fun H => callOk_lift (c102 (l := x.bodyL) (by simp [Cred.bodyL]) (by simp [Cred.bodyL]) true hNil) (by
  simp only [Cred.bodyL, cellsL]
  rw [slV_cons]
  rfl) (frz3_cells _ _ _) H
 obtain ⟨sub, key, iss, pn, per, en, exc, ser, fr, till⟩ := x
 obtain ⟨d1, d2, d3, l1, l2, ⟨n1, n2⟩, ⟨n3, n4⟩, n5, n6⟩ := h
 simp only at h1 hp he d1 d2 d3 l1 l2 n1 n2 n3 n4 n5 n6
 have c1 := c104 h1 d1
 have c2 := c105 hp d2 (by omega) pn
 have c3 := c105 he d3 (by omega) en
 have c4 := c106 n1 n2
 have c5 := c106 n3 n4
 have c6 := c106 n5 n6
 have ca := c103 [99, 101, 114, 116] 5
 have cf := c103 (flagN iss) 4
 generalize hB : Cred.body ⟨sub, key, iss, pn, per, en, exc, ser, fr, till⟩ = B at ct ⊢
 clear hB
 simp only [Cred.bodyL, cellsL, numT] at ct
 simp only [numT] at c4 c5 c6
 simp only [atomT_cells] at ct c4 c5 c6 ca cf
 generalize nameT sub = t1 at ct c1
 generalize namesT per = t2 at ct c2
 generalize namesT exc = t3 at ct c3
 generalize Lib.itoa ser = s1 at ct c4
 generalize Lib.itoa fr = s2 at ct c5
 generalize Lib.itoa till = s3 at ct c6
 obtain ⟨k1, m1, s1', b1, q1⟩ := t1
 obtain ⟨k2, m2, s2', b2, q2⟩ := t2
 obtain ⟨k3, m3, s3', b3, q3⟩ := t3
 obtain ⟨k4, m4, s4', b4, q4⟩ := key
 obtain ⟨k5, m5, s5', b5, q5⟩ := B
 simp only [Tm.cells] at ct c1 c2 c3
 simp only [Cred.cells, Tm.cells, List.cons_append, List.nil_append]
 have hco : [slV pn 1 (strC per), slV en 1 (strC exc)].all cellOk = true := by simp only [List.all_cons, List.all_nil, cellOk_slV, Bool.and_self]
 cases iss
 all_goals
  simp only [flagN, Bool.false_eq_true, if_false, if_true] at ct cf
  refine κw tOk fe47.ok (frz3_tm _ _ _ _ _ _ _) ?_
  repeat' first | refine κn ?_ | refine κt ?_ | refine κg ?_ | (apply dCl; rfl; rfl; rfl; rfl; rfl; first | exact ca _ | exact c1 _ | exact cf _ | exact c2 _ | exact c3 _ | exact c4 _ | exact c5 _ | exact c6 _ | exact ct _) | refine κB ?_ | refine κh ?_ | refine κa ?_ | (apply Wp.drawS tOk follows; kernel_rfl; rfl) | refine κf ?_ | fail
  all_goals exact frz3_tm _ _ _ _ _ _ _
theorem zero_cells : Tm.zero.cells = [.int .i64 0, .str [], .int .i64 0, .nils] := by
 show [PV.int .i64 0, .str [], .int .i64 0, slV true 4 (cellsL [])] = _
 rw [show slV true 4 (cellsL []) = .nils from slV_nil_true 4]
theorem frz3_te (m : Nat) (H : Heap) (t : Tm) (e : Int) : frz3 m H (.tup [.agg t.cells, .int .i64 e]) = some (.tup [.agg t.cells, .int .i64 e]) := by
 have h : frz2 m H (.agg t.cells) = some (.agg t.cells) := frz3_cells m H t
 show (match frz2L m H [.agg t.cells, .int .i64 e] with | some vs' => some (PV.tup vs') | none => none) = _
 simp only [frz2L, h]
 rfl
theorem frz3_new (m : Nat) (H : Heap) (k : Int) (nm : Bs) (s : Int) (a b : Tm) (e : Int) : frz3 m H (.tup [.agg [.int .i64 k, .str nm, .int .i64 s, .sl .full 4 [a.cells, b.cells]], .int .i64 e]) = some (.tup [.agg (Tm.mk k nm s true [a, b]).cells, .int .i64 e]) := by
 have h : frz2 m H (.agg [.int .i64 k, .str nm, .int .i64 s, .sl .full 4 [a.cells, b.cells]]) = some (.agg (Tm.mk k nm s true [a, b]).cells) := by
  have h0 := frz3_agg m H [.int .i64 k, .str nm, .int .i64 s, .sl .full 4 [a.cells, b.cells]]
  have h1 : frz3 m H (.agg [.int .i64 k, .str nm, .int .i64 s, .sl .full 4 [a.cells, b.cells]]) = frz2 m H (.agg [.int .i64 k, .str nm, .int .i64 s, .sl .full 4 [a.cells, b.cells]]) := rfl
  rw [← h1, h0]
  simp only [Tm.cells, cellsL]
  rw [slV_cons]
  rfl
 show (match frz2L m H [.agg [.int .i64 k, .str nm, .int .i64 s, .sl .full 4 [a.cells, b.cells]], .int .i64 e] with | some vs' => some (PV.tup vs') | none => none) = _
 simp only [frz2L, h]
 rfl
theorem c19 (x : Cred) {key : Tm} (h1 : x.sub.length ≤ 100000) (hp : ∀ s, s ∈ x.per → s.length ≤ 100000) (he : ∀ s, s ∈ x.exc → s.length ≤ 100000) (hpl : x.per.length ≤ 100000) (hel : x.exc.length ≤ 100000)
  (hk : x.key.Ok) (hks : x.key.size ≤ 40000) (hk2 : key.Ok) (hks2 : key.size ≤ 40000) : ∀ H, CallOk E0 Tryz.prog 19 [.agg x.cells, .agg key.cells] H (.tup [.agg (x.issue key).1.cells, .int .i64 (x.issue key).2]) H := by
 have c1 := c45 x h1 hk (by omega) hp he hpl hel
 have c2 := c46 hk2 (by omega)
 have hz := zero_cells
 have hfz := frz3_te 0 hNil Tm.zero
 unfold Cred.issue
 by_cases v1 : x.valid = 0
 · rw [if_neg (not_not_intro v1)]
   rw [v1] at c1
   by_cases v2 : key.key = 0
   · rw [if_neg (not_not_intro v2)]
     rw [v2] at c2
     have hok := cred_ok v1
     have c3 := c47 hok h1 hp he
     have c4 : ∀ H, CallOk E0 Tryz.prog 48 [.agg [.int .i64 3, .str [115, 105, 103, 110], .int .i64 0, .sl .full 4 [x.body.cells, key.cells]]] H (.int .i64 (x.term key).valid) H := fun H =>
      callOk_lift (c48 (term_ok hok hk hk2) (by have := term_size (key := key) hok; omega) hNil) (by
       simp only [Cred.term, Tm.cells, cellsL]
       rw [slV_cons]
       obtain ⟨k5, m5, s5, b5, q5⟩ := x.body
       obtain ⟨k6, m6, s6, b6, q6⟩ := key
       rfl) rfl H
     have hfn := fun m H => frz3_new m H 3 [115, 105, 103, 110] 0 x.body key 0
     have hfr : frz3 0 hNil (.tup [.agg (if (x.term key).valid ≠ 0 then (Tm.zero, (x.term key).valid) else (x.term key, 0)).1.cells, .int .i64 (if (x.term key).valid ≠ 0 then (Tm.zero, (x.term key).valid) else (x.term key, 0)).2]) = some (.tup [.agg (if (x.term key).valid ≠ 0 then (Tm.zero, (x.term key).valid) else (x.term key, 0)).1.cells, .int .i64 (if (x.term key).valid ≠ 0 then (Tm.zero, (x.term key).valid) else (x.term key, 0)).2]) := frz3_te _ _ _ _
     have hT : (Tm.mk 3 [115, 105, 103, 110] 0 true [x.body, key]) = x.term key := rfl
     rw [hT] at hfn
     clear hT
     generalize x.term key = T at c4 hfn hfr ⊢
     generalize T.valid = e at c4 hfr ⊢
     generalize x.body = B at c3 c4 hfn
     clear hp he hpl hel hks hks2 hk hk2 h1 v1 v2 hok hz
     obtain ⟨k5, m5, s5, b5, q5⟩ := B
     obtain ⟨k6, m6, s6, b6, q6⟩ := key
     obtain ⟨sub, ⟨k4, m4, s4, b4, q4⟩, iss, pn, per, en, exc, ser, fr, till⟩ := x
     simp only [Tm.cells] at c2 c3 c4 hfn
     simp only [Cred.cells, Tm.cells, List.cons_append, List.nil_append] at c1 c3 ⊢
     have hco : [slV b4 4 (cellsL q4), slV pn 1 (strC per), slV en 1 (strC exc)].all cellOk = true := by simp only [List.all_cons, List.all_nil, cellOk_slV, Bool.and_self]
     refine callOk_wp (own := fun d => Nat.beq d 30006) tOk fe19.ok (by simp only [frzGL, frzG, frzL, frz1_slV]; rfl) hfr ?_
     refine Wp.seq ?_
     repeat' first | refine κn ?_ | (apply qCl; rfl; rfl; rfl; rfl; first | exact c1 _ | exact c2 _ | exact c4 _) | refine κt ?_ | refine κb ?_ ?_ | refine κg ?_ | refine κd (c3 _) ?_ | (apply dAl; rfl; rfl; rfl; rfl; exact IsV.ptrM; exact IsH.mkN) | refine κB ?_ | refine κh ?_ | refine κa ?_ | (apply dWB tOk follows; rfl; kernel_rfl; rfl; exact IsH.mkN) | refine κf ?_ | intro hb
     · rw [if_pos (by simpa using hb), zero_cells]
       rfl
     · rw [if_neg (by simpa using hb)]
       exact hfn _ _
   · rw [if_pos v2]
     generalize key.key = e at c2 v2 ⊢
     clear hp he hpl hel hks hks2 hk hk2 h1 v1 hz
     have hfr := hfz e
     obtain ⟨k6, m6, s6, b6, q6⟩ := key
     obtain ⟨sub, ⟨k4, m4, s4, b4, q4⟩, iss, pn, per, en, exc, ser, fr, till⟩ := x
     simp only [Tm.cells] at c2
     simp only [Cred.cells, Tm.cells, List.cons_append, List.nil_append] at c1 ⊢
     refine κw tOk fe19.ok hfr ?_
     repeat' first | refine κn ?_ | refine κc (c1 _) ?_ | refine κc (c2 _) ?_ | refine κt ?_ | refine κb ?_ ?_ | refine κg ?_ | refine κh ?_ | refine κa ?_ | (apply dWB tOk follows; rfl; kernel_rfl; rfl; exact IsH.mkN) | refine κf ?_ | intro hb
     all_goals first
      | (exfalso; simp at hb; exact v2 hb)
      | (rw [zero_cells]; rfl)
 · rw [if_pos v1]
   generalize x.valid = e at c1 v1 ⊢
   clear hp he hpl hel hks hks2 hk hk2 h1 c2 hz
   have hfr := hfz e
   obtain ⟨k6, m6, s6, b6, q6⟩ := key
   obtain ⟨sub, ⟨k4, m4, s4, b4, q4⟩, iss, pn, per, en, exc, ser, fr, till⟩ := x
   simp only [Cred.cells, Tm.cells, List.cons_append, List.nil_append] at c1 ⊢
   refine κw tOk fe19.ok hfr ?_
   repeat' first | refine κn ?_ | refine κc (c1 _) ?_ | refine κb ?_ ?_ | refine κg ?_ | refine κa ?_ | refine κf ?_ | intro hb
   all_goals first
    | (exfalso; simp at hb; exact v1 hb)
    | (rw [zero_cells]; rfl)
end Go.Vm.Seat
