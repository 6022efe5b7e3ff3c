/-
  The examples of the credentials hold in every world. CredentialReads: the law's function returns true at any term.
-/
import Derived.Test.YtajpkolimokcdaaGreatDoorAw55a
import Derived.Test.YtajpkolimokcdaaGreatDoorTv
import Derived.Test.YtajpkolimokcdaaGreatDoorDd
import Derived.Test.YtajpkolimokcdaaGreatDoorFh
namespace Go.Vm.Seat
open Go.Proofs
set_option maxRecDepth 100000
mutual
def okTm : Tm → Bool
 | .mk k nm s _ kids => (Lit.int .i64 k).wf && ((Lit.int .i64 s).wf && (Nat.ble nm.length 1000 && (Nat.ble kids.length 1000 && okTmL kids)))
def okTmL : List Tm → Bool
 | [] => true
 | t :: r => okTm t && okTmL r
end
mutual
theorem okTm_ok : ∀ t : Tm, okTm t = true → t.Ok
 | .mk k nm s b kids, h => by
   simp only [okTm, Bool.and_eq_true, Nat.ble_eq] at h
   obtain ⟨h1, h2, h3, h4, h5⟩ := h
   exact .mk h1 h2 (by unfold maxLen; omega) (by unfold maxLen; omega) (okTmL_ok kids h5)
theorem okTmL_ok : ∀ l : List Tm, okTmL l = true → ∀ t, t ∈ l → t.Ok
 | [], _, t, h => absurd h (by simp)
 | a :: r, h, t, ht => by
   simp only [okTmL, Bool.and_eq_true] at h
   rcases List.mem_cons.1 ht with e | ht
   · rw [e]; exact okTm_ok a h.1
   · exact okTmL_ok r h.2 t ht
end
def exT : Tm := (.mk 3 [115, 105, 103, 110] 0 false [(.mk 3 [112, 97, 105, 114] 0 false [(.mk 2 [99, 101, 114, 116] 5 true []), (.mk 3 [112, 97, 105, 114] 0 false [(.mk 3 [112, 97, 105, 114] 0 false [(.mk 2 [97] 4 true []), (.mk 2 [101, 110, 100] 5 true [])]), (.mk 3 [112, 97, 105, 114] 0 false [(.mk 3 [112, 107] 0 false [(.mk 3 [115, 107] 0 false [(.mk 2 [97] 1 true [])])]), (.mk 3 [112, 97, 105, 114] 0 false [(.mk 2 [110, 111] 4 true []), (.mk 3 [112, 97, 105, 114] 0 false [(.mk 2 [101, 110, 100] 5 true []), (.mk 3 [112, 97, 105, 114] 0 false [(.mk 2 [101, 110, 100] 5 true []), (.mk 3 [112, 97, 105, 114] 0 false [(.mk 2 [110, 49] 4 true []), (.mk 3 [112, 97, 105, 114] 0 false [(.mk 2 [110, 48] 4 true []), (.mk 2 [110, 57] 4 true [])])])])])])])])]), (.mk 3 [115, 107] 0 false [(.mk 2 [114] 1 true [])])])
theorem exOk : exT.Ok := okTm_ok exT (by kernel_rfl)
theorem exSize : Nat.ble exT.size 1000 = true := by kernel_rfl
theorem exArgs : cfact4.args = [.agg exT.cells, .agg exT.cells] := by kernel_rfl
theorem cgood4 : FactOk E0 Tryz.prog cfact4 := fun H => by
 have h := c13s exOk (by have := Nat.le_of_ble_eq_true exSize; omega) H
 rw [← exArgs] at h
 exact h
theorem cgood {x : Fact} (h : okFact E0 100 60 x = true) : FactOk E0 Tryz.prog x := okFact_ok tOk follows fOk zOk h
theorem call_nil {p : Fact → Prop} : ∀ x ∈ ([] : List Fact), p x := fun _ h => absurd h (by simp)
theorem call_cons {p : Fact → Prop} {a : Fact} {l : List Fact} (h : p a) (hl : ∀ x ∈ l, p x) : ∀ x ∈ a :: l, p x := fun x hx => by
 rcases List.mem_cons.1 hx with rfl | hx
 · exact h
 · exact hl x hx
theorem cfact_all : ∀ x ∈ cfacts, FactOk E0 Tryz.prog x :=
 call_cons (cgood cok0) (call_cons (cgood cok1) (call_cons (cgood cok2) (call_cons (cgood cok3) (call_cons cgood4 call_nil))))
theorem awakeFact5 : okFact (E0.knows cfacts) 100 60 ⟨8, [], .bool true⟩ = true := by kernel_rfl
theorem awakeOk5 : FactOk E0 Tryz.prog ⟨8, [], .bool true⟩ := by
 have h : FactOk (E0.knows cfacts) Tryz.prog ⟨8, [], .bool true⟩ := okFact_ok (E := E0.knows cfacts) ⟨tOk.1⟩ follows (knows_F fOk) (knows_calls cfact_all zOk) awakeFact5
 exact h.env rfl
end Go.Vm.Seat
namespace Go.Vm.Seat
open Go.Proofs
set_option maxRecDepth 100000
theorem c16 {t : Tm} (ht : t.Ok) (hsz : t.size ≤ 40000) : ∀ H, CallOk E0 Tryz.prog 16 [.agg t.cells] H (.tup [.agg (readP t).1.cells, .int .i64 (readP t).2]) H := by
 by_cases h : t.valid ≠ 0 ∨ t.isB [115, 105, 103, 110] 2 = false
 · exact read_bad ht hsz h
 · have h1 : t.valid = 0 := by
     by_cases e : t.valid = 0
     · exact e
     · exact absurd (.inl e) h
   have h2 : t.isB [115, 105, 103, 110] 2 = true := by
    cases e : t.isB [115, 105, 103, 110] 2 with
    | true => rfl
    | false => exact absurd (.inr e) h
   obtain ⟨s, b, u, key, rfl⟩ := sign_isB h2
   exact read_good ht h1
theorem c18 {t : Tm} (ht : t.Ok) (hsz : t.size ≤ 40000) : ∀ H, CallOk E0 Tryz.prog 18 [.agg t.cells] H (.tup [.agg (readP t).1.cells, .int .i64 (readP t).2]) H := by
 rw [read_same]
 by_cases h : t.valid ≠ 0 ∨ t.isB [115, 105, 103, 110] 2 = false
 · exact readR_bad ht hsz h
 · have h1 : t.valid = 0 := by
     by_cases e : t.valid = 0
     · exact e
     · exact absurd (.inl e) h
   have h2 : t.isB [115, 105, 103, 110] 2 = true := by
    cases e : t.isB [115, 105, 103, 110] 2 with
    | true => rfl
    | false => exact absurd (.inr e) h
   obtain ⟨s, b, u, key, rfl⟩ := sign_isB h2
   exact readR_good ht h1
theorem cells11 (x : Cred) : ∃ a b c d e f g h i j k, x.cells = [a, b, c, d, e, f, g, h, i, j, k] := by
 obtain ⟨sub, ⟨k, nm, s, b, kids⟩, iss, pn, per, en, exc, ser, fr, till⟩ := x
 exact ⟨_, _, _, _, _, _, _, _, _, _, _, rfl⟩
set_option maxHeartbeats 16000000 in
theorem c4 {t : Tm} (ht : t.Ok) : ∀ H, CallOk E0 Tryz.prog 4 [.agg t.cells] H (.bool true) H := by
 have haw : ∀ H, CallOk E0 Tryz.prog 8 [] H (.bool true) H := awakeOk5
 have c1 := c10 ht
 cases hF : fewF [t] 1 450 with
 | false =>
   rw [hF] at c1
   obtain ⟨k, nm, s, b, kids⟩ := t
   simp only [Tm.cells] at c1
   refine callOk_wp (own := fun _ => false) tOk fe4.ok (by simp [frzGL, frzG, Tm.cells, frz_tm]) rfl ?_
   refine Wp.seq ?_
   repeat' first | apply RegQ.nil | (apply qCl; rfl; rfl; rfl; rfl; first | exact haw _ | exact c1 _) | (apply qT (ty := 4); rfl; rfl; rfl) | (apply qF (ty := 4); rfl; rfl; rfl) | (apply g0; rfl; rfl; rfl; exact IsV.n) | (apply g1; rfl; rfl; rfl; exact IsV.n; exact IsH.mkN) | apply Wp.seq | apply SeqQ.go | apply Wp.region | (apply Wp.condT; rfl) | apply Wp.ret | apply SeqQ.ret | (apply rBool; rfl; rfl)
   all_goals rfl
 | true =>
   rw [hF] at c1
   have hsz := few_size hF
   have hsz : t.size ≤ 450 := by omega
   have c2 := c16 ht (by omega)
   have c3 := c18 ht (by omega)
   have hx0 : (readP t).1 = .zero ∨ (readP t).1.valid = 0 := by
    rcases readP_case t with e | e
    · left; rw [e]
    · right; exact e.2.1
   obtain ⟨x1, x2, x3, x4, x5⟩ := cred_small hx0
   have hkey : (readP t).1.key.Ok ∧ (readP t).1.key.size ≤ 450 := by
    rcases readP_case t with e | ⟨_, _, e, _⟩
    · rw [e]; exact ⟨Tm.ok_zero, by decide⟩
    · exact ⟨ht.part e, by have := e.1; omega⟩
   have c4 := cred_same (readP t).1 (k' := (readP t).1.key) (readP t).1.pn (readP t).1.en hkey.1 hkey.1 (by omega) (by omega) (cmp_of_cl _ _ rfl) (by omega) (by omega)
   have c4 : ∀ H, CallOk E0 Tryz.prog 17 [.agg (readP t).1.cells, .agg (readP t).1.cells] H (.bool true) H := c4
   have hxf : ∃ a b c d e f g h i j k, (readP t).1.cells = [a, b, c, d, e, f, g, h, i, j, k] := cells11 _
   have hxc := fun (w : Bool) => frz2_cred 0 hNil (readP t).1
   by_cases he : (readP t).2 = 0
   · have hcase := readP_case t
     rcases hcase with e | ⟨_, hval, hkw, s, b, u, key, rfl, i1, i2⟩
     · rw [e] at he; exact absurd he (by decide)
     have c5 := c11 (readP (.mk 3 [115, 105, 103, 110] s b [u, key])).1 (key := key) (by omega) (fun s hs => by have := x2 s hs; omega) (fun s hs => by have := x3 s hs; omega) (by omega) (by omega) hkey.1 (by omega) (ht.kid (by simp)) (by have := (within_kid (k := 3) (nm := [115, 105, 103, 110]) (s := s) (b := b) (l := [u, key]) (x := key) (by simp)).1; omega)
     have hsm := issue_small (x := (readP (.mk 3 [115, 105, 103, 110] s b [u, key])).1) (key := key) hkey.1 (ht.kid (by simp))
     have c6 := c13 ht hsm.1 (by omega) (by have := (within_kid (k := 3) (nm := [115, 105, 103, 110]) (s := s) (b := b) (l := [u, key]) (x := key) (by simp)).1; omega)
     rw [decide_eq_true (cmp_symm.1 i2)] at c6
     rw [he] at c2 c3
     rw [i1] at c5
     have hj1 : (cellsL [u, key])[1]? = some key.cells := rfl
     generalize ((readP (.mk 3 [115, 105, 103, 110] s b [u, key])).1.issue key).1 = I at c5 c6
     generalize (readP (.mk 3 [115, 105, 103, 110] s b [u, key])).1 = X at c2 c3 c4 c5
     clear x1 x2 x3 x4 x5 hkey hx0 hxf hxc hval hkw i1 i2 hsm he hsz hF
     simp only [Tm.cells] at c1 c2 c3 c6 ⊢
     generalize cellsL [u, key] = L at c1 c2 c3 c6 hj1 ⊢
     obtain ⟨k1, m1, s1, t1, q1⟩ := key
     obtain ⟨k2, m2, s2, t2, q2⟩ := I
     obtain ⟨sub, ⟨k4, m4, s4, b4, q4⟩, iss, pn, per, en, exc, ser, fr, till⟩ := X
     simp only [Cred.cells, Tm.cells, List.cons_append, List.nil_append] at c2 c3 c4 c5 c6 hj1
     have hco : [slV b4 4 (cellsL q4), slV pn 1 (strC per), slV en 1 (strC exc)].all cellOk = true := by simp only [List.all_cons, List.all_nil, cellOk_slV, Bool.and_self]
     refine callOk_wp (own := (fun d => [30010].any (Nat.beq d))) tOk fe4.ok (by simp only [frzGL, frzG, frzL, frz1_slV]; rfl) rfl ?_
     refine Wp.seq ?_
     repeat' first | apply RegQ.nil | (apply qCl; rfl; rfl; rfl; rfl; first | exact haw _ | exact c1 _ | exact c2 _ | exact c3 _ | exact c4 _ | exact c6 _) | (apply qT (ty := 4); rfl; rfl; rfl) | (apply qF (ty := 4); rfl; rfl; rfl) | (apply g0; rfl; rfl; rfl; exact IsV.n) | (apply g1; rfl; rfl; rfl; exact IsV.n; exact IsH.mkN) | (apply qSt; rfl; rfl; rfl; exact IsL.n; (first | rfl | assumption); (first | rfl | assumption | (simp only [List.all_cons, List.all_nil, cellOk_slV, Bool.and_true]; rfl)); (first | rfl | assumption); exact IsH.mkN) | apply DrwQ.nil | (apply dCl; rfl; rfl; rfl; rfl; rfl; exact c5 _) | (apply dAl; rfl; rfl; rfl; rfl; exact IsV.ptrM; exact IsH.mkN) | (apply dIx; rfl; rfl; rfl; rfl; rfl; rfl; rfl; rfl; assumption) | (apply dSt; rfl; rfl; rfl; rfl; exact IsL.n; rfl; (first | rfl | assumption | (simp only [List.all_cons, List.all_nil, cellOk_slV, Bool.and_true]; rfl)); (first | rfl | assumption); exact IsH.mkN; (first | rfl | (simp [nth_eq]; done)); (first | rfl | (simp; done)); rfl) | (apply h0; rfl; rfl; rfl; exact IsV.n; rfl) | apply Wp.seq | apply SeqQ.go | apply Wp.region | (apply dWB tOk follows; rfl; kernel_rfl; rfl; exact IsH.mkN) | (apply Wp.condF; rfl) | apply Wp.skip | apply Wp.ret | (apply rBool; rfl; rfl)
     all_goals rfl
   · have he2 := he
     generalize (readP t).2 = e at c2 c3 he2
     generalize (readP t).1 = X at c2 c3 c4
     clear x1 x2 x3 x4 x5 hkey hx0 hxf hxc he hsz hF
     have b1 : aBin E0 .neq 33 (.int .i64 e) (.int .i64 e) = some (.bool false) := by
      show some (PV.bool (e != e)) = _
      simp
     have b2 : aBin E0 .neq 33 (.int .i64 e) (.int .i64 0) = some (.bool true) := by
      show some (PV.bool (e != 0)) = _
      simp [he2]
     have b3 : aBin E0 .eql 33 (.int .i64 e) (.int .i64 e) = some (.bool true) := by
      show some (PV.bool (e == e)) = _
      simp
     obtain ⟨k, nm, s, b, kids⟩ := t
     obtain ⟨sub, ⟨k4, m4, s4, b4, q4⟩, iss, pn, per, en, exc, ser, fr, till⟩ := X
     simp only [Cred.cells, Tm.cells, List.cons_append, List.nil_append] at c1 c2 c3 c4
     refine callOk_wp (own := fun _ => false) tOk fe4.ok (by simp [frzGL, frzG, Tm.cells, frz_tm]) rfl ?_
     refine Wp.seq ?_
     repeat' first | apply RegQ.nil | (apply qCl; rfl; rfl; rfl; rfl; first | exact haw _ | exact c1 _ | exact c2 _ | exact c3 _ | exact c4 _) | (apply qBi; rfl; rfl; rfl; rfl; assumption; exact IsV.any _) | (apply qT (ty := 4); rfl; rfl; rfl) | (apply qF (ty := 4); rfl; rfl; rfl) | (apply g0; rfl; rfl; rfl; exact IsV.n) | (apply g1; rfl; rfl; rfl; exact IsV.n; exact IsH.mkN) | (apply qSt; rfl; rfl; rfl; exact IsL.n; (first | rfl | assumption); (first | rfl | assumption | (simp only [List.all_cons, List.all_nil, cellOk_slV, Bool.and_true]; rfl)); (first | rfl | assumption); exact IsH.mkN) | apply Wp.seq | apply SeqQ.go | apply Wp.region | (apply Wp.condT; rfl) | (apply Wp.condF; rfl) | apply Wp.skip | apply Wp.ret | apply SeqQ.ret | (apply rBool; rfl; rfl)
     all_goals rfl
end Go.Vm.Seat
