/-
  Credentials: names, and what a credential must be, in the reference's text. Credentials: their terms.
-/
import Derived.Test.YtajpkolimokcdaaGreatDoorCv
import Derived.Test.YtajpkolimokcdaaGreatDoorFh
namespace Go.Vm.Seat
open Go.Proofs
set_option maxRecDepth 100000
theorem c55 {s : Bs} (hs : s.length ≤ 100000) : ∀ H, CallOk E0 Tryz.prog 55 [.str s] H (.bool (dottedB s)) H := by
 have hc := c96 hs
 unfold labels71 at hc
 unfold dottedB
 cases h : (splitD s).all labelB with
 | false =>
   rw [h] at hc
   rw [Bool.and_false]
   have hc : ∀ H, CallOk E0 Tryz.prog 96 [.str s] H (.tup [.nils, .bool false]) H := hc
   refine callOk_wp (own := fun _ => false) tOk fe55.ok rfl rfl ?_
   refine Wp.seq ?_
   repeat' first | apply RegQ.nil | (apply qCl; rfl; rfl; rfl; rfl; exact hc _) | (apply qF (ty := 4); rfl; rfl; rfl) | (apply g0; rfl; rfl; rfl; exact IsV.n) | apply Wp.seq | apply SeqQ.go | apply Wp.region | apply Wp.ret | (apply rBool; rfl; rfl)
   all_goals rfl
 | true =>
   rw [h] at hc
   rw [Bool.and_true]
   generalize decide ((splitD s).length ≤ 4) = B at hc
   have hc : ∀ H, CallOk E0 Tryz.prog 96 [.str s] H (.tup [.sl .none 1 (partsC (splitD s)), .bool B]) H := hc
   refine callOk_wp (own := fun _ => false) tOk fe55.ok rfl rfl ?_
   refine Wp.seq ?_
   repeat' first | apply RegQ.nil | (apply qCl; rfl; rfl; rfl; rfl; exact hc _) | (apply qT (ty := 4); rfl; rfl; rfl) | (apply qF (ty := 4); rfl; rfl; rfl) | (apply qB (ty := 4); rfl; rfl; rfl) | (apply g0; rfl; rfl; rfl; exact IsV.n) | intro hb | apply Wp.seq | apply SeqQ.go | apply Wp.region | apply Wp.ret | (apply rBool; rfl; rfl)
   all_goals first | rfl | (rw [hb]; rfl) | (cases B <;> first | rfl | cases hb)
theorem any_drop {l : List Bs} {i : Nat} {a : Bs} (h : l[i]? = some a) : wrongB (l.drop i) = (!dottedB a || wrongB (l.drop (i + 1))) := by
 rw [drop_cons h]; rfl
set_option maxHeartbeats 4000000 in
theorem c57 {l : List Bs} (hl : ∀ s, s ∈ l → s.length ≤ 100000) (hlen : l.length ≤ 100000) (b : Bool) : ∀ H, CallOk E0 Tryz.prog 57 [slV b 1 (strC l)] H (.bool (!wrongB l)) H := by
 refine callOk_wp (own := fun _ => false) tOk fe57.ok (by simp only [frzGL, frzG_slV]) rfl ?_
 refine Wp.seq ?_
 repeat' first | apply RegQ.nil | (apply qF (ty := 4); rfl; rfl; rfl) | (apply g0; rfl; rfl; rfl; exact IsV.n) | apply Wp.seq | apply SeqQ.go | apply Wp.region | apply Wp.block
 refine Wp.while (fun m tm H => ∃ (i : Nat) (base : TM), i + m = l.length ∧ wrongB l = wrongB (l.drop i) ∧ tm = ovr base [(0, slV b 1 (strC l)), (3, .int .i64 (i : Int))] ∧ H = ⟨[], 0, [], 0⟩)
  (fun m tm H hI => ?_) l.length _ _ ⟨0, _, by omega, by simp, ovr_mk ⟨rfl, rfl, trivial⟩, rfl⟩
 obtain ⟨i, base, hi, hgo, rfl, rfl⟩ := hI
 rw [hgo]
 by_cases hlt : i < l.length
 · obtain ⟨a, ha⟩ : ∃ a, l[i]? = some a := ⟨l[i], by simp⟩
   have hj := strC_get ha
   have hc := c55 (hl a (List.mem_of_getElem? ha))
   rw [any_drop ha]
   generalize dottedB a = d at hc
   repeat' first | apply RegQ.nil | (apply qCl; rfl; rfl; rfl; rfl; exact hc _) | (apply qLn; rfl; rfl; rfl; rfl; rfl) | (apply qIx; rfl; rfl; rfl; rfl; rfl; rfl; rfl; rfl; assumption) | (apply qT (ty := 4); rfl; rfl; rfl) | (apply qF (ty := 4); rfl; rfl; rfl) | (apply qB (ty := 4); rfl; rfl; rfl) | (apply g0; rfl; rfl; rfl; exact IsV.n) | intro hb | apply Wp.seq | apply SeqQ.go | apply Wp.region | (apply Wp.condT; rfl) | (apply Wp.condF; rfl) | apply Wp.skip | apply Wp.ret | apply Wp.exit | apply SeqQ.exit | apply Wp.block | apply BlockQ.go | apply BlockQ.ret | apply SeqQ.ret | (apply BlockQ.hit; rfl) | apply LoopI.ret | apply LoopI.exit | (apply rBool; rfl; rfl)
   · have h1 : d = false := by simpa using hb
     rw [h1]
     rfl
   · have h1 : d = true := by simpa using hb
     rw [h1]
     exact LoopI.go (m - 1) (by omega) ⟨i + 1, _, by omega, rfl, ovr_mk ⟨rfl, int_eq (wrap_nat (n := i + 1) (by omega)), trivial⟩, rfl⟩
   · exfalso; rw [strC_len] at hb; simp at hb; omega
 · have e : i = l.length := by omega
   subst e
   repeat' first | apply RegQ.nil | (apply qLn; rfl; rfl; rfl; rfl; rfl) | (apply qT (ty := 4); rfl; rfl; rfl) | (apply qB (ty := 4); rfl; rfl; rfl) | (apply g0; rfl; rfl; rfl; exact IsV.n) | intro hb | apply Wp.seq | apply SeqQ.go | apply Wp.region | (apply Wp.condT; rfl) | (apply Wp.condF; rfl) | apply Wp.skip | apply Wp.ret | apply Wp.exit | apply SeqQ.exit | apply Wp.block | (apply BlockQ.hit; rfl) | apply LoopI.exit | (apply rBool; rfl; rfl)
   · exfalso; rw [strC_len] at hb; simp at hb
   · rw [List.drop_length]; rfl
theorem key_pk {k : Int} {nm : List UInt8} {s : Int} {b : Bool} {kids : List Tm} (h : (Tm.mk k nm s b kids).key = 0) : isF k nm [112, 107] = (Tm.mk k nm s b kids).isB [112, 107] 1 := by
 show isF k nm [112, 107] = (decide (k = 3) && ((nm == [112, 107]) && decide (kids.length = 1)))
 by_cases c1 : k = 3
 · by_cases c2 : nm = [112, 107]
   · subst c1 c2
     have hth : (Tm.mk 3 [112, 107] s b kids).th = 0 := by
      unfold Tm.key at h
      by_cases d1 : (Tm.mk 3 [112, 107] s b kids).valid ≠ 0
      · rw [if_pos d1] at h; exact absurd h d1
      · rw [if_neg d1] at h
        by_cases d2 : (Tm.mk 3 [112, 107] s b kids).th ≠ 0
        · rw [if_pos d2] at h; exact absurd h d2
        · simpa using d2
     simp only [Tm.th] at hth
     have hsy : symF [112, 107] = ⟨[112, 107], 1, 1, 1⟩ := rfl
     rw [hsy] at hth
     simp only [ne_eq, not_true_eq_false, if_false, show ¬ ((1 : Int) = 0) by omega] at hth
     have hl : kids.length = 1 := by
      by_cases d3 : (kids.length : Int) < 1 ∨ 1 < (kids.length : Int)
      · rw [if_pos d3] at hth; exact absurd hth (by omega)
      · omega
     rw [hl]
     rfl
   · have c3 : (nm == [112, 107]) = false := by simpa using c2
     simp only [isF, c3, Bool.false_and, Bool.and_false]
 · simp [isF, c1]
set_option maxHeartbeats 16000000 in
theorem c15 (x : Cred) (h1 : x.sub.length ≤ 100000) (hk : x.key.Ok) (hks : x.key.size ≤ 90000) (hp : ∀ s, s ∈ x.per → s.length ≤ 100000) (he : ∀ s, s ∈ x.exc → s.length ≤ 100000) (hpl : x.per.length ≤ 100000) (hel : x.exc.length ≤ 100000) :
  ∀ H, CallOk E0 Tryz.prog 15 [.agg x.cells] H (.int .i64 x.valid) H := by
 obtain ⟨sub, key, iss, pn, per, en, exc, ser, fr, till⟩ := x
 simp only [] at h1 hk hks hp he hpl hel
 have c1 := c55 h1
 have c2 := c45 hk (by omega)
 have c4 := c57 hp hpl pn
 have c5 := c57 he hel en
 obtain ⟨V, hV⟩ : ∃ V, V = (Cred.mk sub key iss pn per en exc ser fr till).valid := ⟨_, rfl⟩
 rw [← hV]
 simp only [Cred.valid] at hV
 generalize dottedB sub = d at c1 hV
 generalize wrongB per = w1 at c4 hV
 generalize wrongB exc = w2 at c5 hV
 obtain ⟨l, hl⟩ : ∃ l, l = [ser, fr, till] := ⟨_, rfl⟩
 rw [← hl] at hV
 obtain ⟨k, nm, s, b, kids⟩ := key
 have hkey := key_pk (k := k) (nm := nm) (s := s) (b := b) (kids := kids)
 have c3 := c56 k nm s b kids [112, 107]
 generalize (Tm.mk k nm s b kids).key = e at c2 hV hkey
 generalize (Tm.mk k nm s b kids).isB [112, 107] 1 = i3 at hV hkey
 generalize isF k nm [112, 107] = i4 at c3 hkey
 simp only [Tm.cells] at c2 c3
 simp only [Cred.cells, Tm.cells, List.cons_append, List.nil_append]
 refine callOk_wp (own := fun _ => false) tOk fe15.ok (by simp only [frzGL, frzG, frzL, frz1_slV]; rfl) rfl ?_
 refine Wp.seq ?_
 repeat' first | apply RegQ.nil | (apply qK; rfl; rfl) | (apply qCl; rfl; rfl; rfl; rfl; first | exact c1 _ | exact c2 _ | exact c3 _ | exact c4 _ | exact c5 _) | (apply qBs; rfl; rfl; rfl; rfl; exact IsLL.n; (first | rfl | (simp only [frzLL, frzL, frz1_slV]; rfl))) | (apply qLn; rfl; rfl; rfl; rfl; rfl) | (apply qT (ty := 4); rfl; rfl; rfl) | (apply qF (ty := 4); rfl; rfl; rfl) | (apply qB (ty := 4); rfl; rfl; rfl) | (apply g0; rfl; rfl; rfl; exact IsV.n) | (apply g1; rfl; rfl; rfl; exact IsV.n; exact IsH.mkN) | apply DrwQ.nil | (apply h0; rfl; rfl; rfl; exact IsV.n; rfl) | intro hb | apply Wp.seq | apply SeqQ.go | apply Wp.region | (apply Wp.draw tOk follows; kernel_rfl) | (apply Wp.condT; rfl) | (apply Wp.condF; rfl) | apply Wp.skip | apply Wp.ret | apply Wp.block | apply SeqQ.ret | (apply rInt; rfl; rfl)
 all_goals
  have hwr : IntKind.i64.wrap ((per.length : Int) + (exc.length : Int)) = (per.length : Int) + (exc.length : Int) := IntWalk.i64_in _ (by omega)
  clear c1 c2 c3 c4 c5 h1 hp he hk hks
 all_goals first
  | (refine int_eq ?_
     simp only [strC_len, hwr, Bool.not_eq_true', Bool.not_eq_false', Bool.not_not, bne_iff_ne, bne_eq_false_iff_eq, decide_eq_true_eq, decide_eq_false_iff_not, ne_eq] at *
     subst hV
     (repeat' split) <;> first | rfl | omega | (exfalso; simp_all; done) | (simp_all; done) | (exfalso; simp_all; omega))
  | skip
 all_goals
  have hV : V = if l.any outB = true ∨ till < fr then 7 else 0 := by
   simp only [strC_len, hwr, Bool.not_eq_false', Bool.not_not, bne_eq_false_iff_eq, decide_eq_false_iff_not, ne_eq] at *
   rw [hV]
   (repeat' split) <;> first | rfl | omega | (exfalso; simp_all; done) | (simp_all; done) | (exfalso; simp_all; omega)
  subst hl
  clear hkey hwr
  rename_i hV0 _ _
  refine Wp.while (fun m tm H => ∃ (i : Nat) (base : TM), i + m = 3 ∧ [ser, fr, till].any outB = ([ser, fr, till].drop i).any outB ∧ tm = ovr base [(1, .ptr 0 11 0 0), (6, .sl .full 1 [[.int .i64 ser], [.int .i64 fr], [.int .i64 till]]), (7, .int .i64 (i : Int))] ∧
    H = ⟨[.cells 11 [[.str sub, .int .i64 k, .str nm, .int .i64 s, slV b 4 (cellsL kids), .bool iss, slV pn 1 (strC per), slV en 1 (strC exc), .int .i64 ser, .int .i64 fr, .int .i64 till]]], 0, [], 0⟩)
   (fun m tm H hI => ?_) 3 _ _ ⟨0, _, by omega, rfl, ovr_mk ⟨rfl, rfl, rfl, trivial⟩, rfl⟩
  obtain ⟨i, base, hi, hgo, rfl, rfl⟩ := hI
  rw [hgo] at hV
  clear hV0
  rcases (show i = 0 ∨ i = 1 ∨ i = 2 ∨ i = 3 by omega) with rfl | rfl | rfl | rfl
  all_goals
   repeat' first | apply RegQ.nil | (apply qK; rfl; rfl) | (apply qT (ty := 4); rfl; rfl; rfl) | (apply qF (ty := 4); rfl; rfl; rfl) | (apply qB (ty := 4); rfl; rfl; rfl) | (apply g0; rfl; rfl; rfl; exact IsV.n) | intro hb | apply Wp.seq | apply SeqQ.go | apply Wp.region | (apply Wp.condT; rfl) | (apply Wp.condF; rfl) | apply Wp.skip | apply Wp.ret | apply Wp.exit | apply SeqQ.exit | apply Wp.block | apply BlockQ.go | apply BlockQ.ret | apply SeqQ.ret | (apply BlockQ.hit; rfl) | apply LoopI.ret | apply LoopI.exit | (apply rInt; rfl; rfl)
  all_goals first
   | (exfalso; simp at hb; done)
   | (refine int_eq ?_
      rw [hV, if_pos]
      clear hV hgo
      simp [outB] at hb ⊢
      omega)
   | (refine int_eq ?_
      rw [hV, if_neg]
      clear hV hgo
      simp at hb ⊢
      omega)
   | (refine LoopI.go (m - 1) (by omega) ⟨1, _, by omega, ?_, ovr_mk ⟨rfl, rfl, rfl, trivial⟩, rfl⟩
      rw [hgo]
      have h7 : outB ser = false := by
       have h8 := ‹decide (ser < 0) = false›
       have h9 := ‹decide (9999 < ser) = false›
       simp only [outB, h8, h9, Bool.or_self]
      show (outB ser || _) = _
      rw [h7]
      rfl)
   | (refine LoopI.go (m - 1) (by omega) ⟨2, _, by omega, ?_, ovr_mk ⟨rfl, rfl, rfl, trivial⟩, rfl⟩
      rw [hgo]
      have h7 : outB fr = false := by
       have h8 := ‹decide (fr < 0) = false›
       have h9 := ‹decide (9999 < fr) = false›
       simp only [outB, h8, h9, Bool.or_self]
      show (outB fr || _) = _
      rw [h7]
      rfl)
   | (refine LoopI.go (m - 1) (by omega) ⟨3, _, by omega, ?_, ovr_mk ⟨rfl, rfl, rfl, trivial⟩, rfl⟩
      rw [hgo]
      have h7 : outB till = false := by
       have h8 := ‹decide (till < 0) = false›
       have h9 := ‹decide (9999 < till) = false›
       simp only [outB, h8, h9, Bool.or_self]
      show (outB till || _) = _
      rw [h7]
      rfl)
   | trace_state
end Go.Vm.Seat
namespace Go.Vm.Seat
open Go.Proofs
set_option maxRecDepth 100000
theorem c106 (nm : Bs) (s : Int) : ∀ H, CallOk E0 Tryz.prog 106 [.str nm, .int .i64 s] H (.agg (atomT nm s).cells) H := by
 rw [atomT_cells]
 refine callOk_wp (own := fun _ => false) tOk fe106.ok rfl rfl ?_
 refine Wp.seq ?_
 repeat' first | apply RegQ.nil | (apply g0; rfl; rfl; rfl; exact IsV.n) | (apply g1; rfl; rfl; rfl; exact IsV.n; exact IsH.mkN) | (apply qSt; rfl; rfl; rfl; exact IsL.n; (first | rfl | assumption); (first | rfl | assumption | (simp only [List.all_cons, List.all_nil, cellOk_slV, Bool.and_true]; rfl)); (first | rfl | assumption); exact IsH.mkN) | apply Wp.seq | apply SeqQ.go | apply Wp.region | apply Wp.ret | (apply rFin; rfl; exact IsL.n)
 all_goals rfl
theorem c98 (nm : Bs) (s : Int) : ∀ H, CallOk E0 Tryz.prog 98 [.str nm, .int .i64 s] H (.agg (atomT nm s).cells) H := by
 rw [atomT_cells]
 refine callOk_wp (own := fun _ => false) tOk fe98.ok rfl rfl ?_
 refine Wp.seq ?_
 repeat' first | apply RegQ.nil | (apply g0; rfl; rfl; rfl; exact IsV.n) | (apply g1; rfl; rfl; rfl; exact IsV.n; exact IsH.mkN) | (apply qSt; rfl; rfl; rfl; exact IsL.n; (first | rfl | assumption); (first | rfl | assumption | (simp only [List.all_cons, List.all_nil, cellOk_slV, Bool.and_true]; rfl)); (first | rfl | assumption); exact IsH.mkN) | apply Wp.seq | apply SeqQ.go | apply Wp.region | apply Wp.ret | (apply rFin; rfl; exact IsL.n)
 all_goals rfl
theorem c116 (nm : Bs) : ∀ H, CallOk E0 Tryz.prog 116 [.str nm] H (.agg (atomT nm 4).cells) H := by
 have hc := c98 nm 4
 rw [atomT_cells] at hc ⊢
 refine callOk_wp (own := fun _ => false) tOk fe116.ok rfl rfl ?_
 refine Wp.seq ?_
 repeat' first | apply RegQ.nil | (apply qCl; rfl; rfl; rfl; rfl; exact hc _) | (apply g0; rfl; rfl; rfl; exact IsV.n) | (apply g1; rfl; rfl; rfl; exact IsV.n; exact IsH.mkN) | (apply qSt; rfl; rfl; rfl; exact IsL.n; (first | rfl | assumption); (first | rfl | assumption | (simp only [List.all_cons, List.all_nil, cellOk_slV, Bool.and_true]; rfl)); (first | rfl | assumption); exact IsH.mkN) | apply Wp.seq | apply SeqQ.go | apply Wp.region | apply Wp.ret | (apply rFin; rfl; exact IsL.n)
 all_goals rfl
theorem c179 : ∀ H, CallOk E0 Tryz.prog 179 [] H (.agg (atomT [101, 110, 100] 5).cells) H := by
 have hc := c98 [101, 110, 100] 5
 rw [atomT_cells] at hc ⊢
 refine callOk_wp (own := fun _ => false) tOk fe179.ok rfl rfl ?_
 refine Wp.seq ?_
 repeat' first | apply RegQ.nil | (apply qCl; rfl; rfl; rfl; rfl; exact hc _) | (apply g1; rfl; rfl; rfl; exact IsV.n; exact IsH.mkN) | (apply qSt; rfl; rfl; rfl; exact IsL.n; (first | rfl | assumption); (first | rfl | assumption | (simp only [List.all_cons, List.all_nil, cellOk_slV, Bool.and_true]; rfl)); (first | rfl | assumption); exact IsH.mkN) | apply Wp.seq | apply SeqQ.go | apply Wp.region | apply Wp.ret | (apply rFin; rfl; exact IsL.n)
 all_goals rfl
end Go.Vm.Seat
