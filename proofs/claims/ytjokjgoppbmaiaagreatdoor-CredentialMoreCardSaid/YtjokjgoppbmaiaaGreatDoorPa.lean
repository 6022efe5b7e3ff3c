/-
  A path of credentials: what a further one must be.
-/
import Derived.Test.YtjokjgoppbmaiaaGreatDoorDf
import Derived.Test.YtjokjgoppbmaiaaGreatDoorPw
import Derived.Test.YtjokjgoppbmaiaaGreatDoorFi
import Derived.Test.YtjokjgoppbmaiaaGreatDoorGa
set_option maxHeartbeats 64000000
set_option maxRecDepth 100000
namespace Go.Vm.Seat
open Go.Proofs
def idxI (v : Int) : List Int → Nat → Int
 | [], _ => -1
 | k :: r, i => if v = k then (i : Int) else idxI v r (i + 1)
theorem idxI_iff (v : Int) : ∀ (l : List Int) (i : Nat), 0 ≤ idxI v l i ↔ l.any (fun k => decide (k = v)) = true
 | [], i => by simp [idxI]
 | k :: r, i => by
   simp only [idxI, List.any_cons, Bool.or_eq_true, decide_eq_true_eq]
   by_cases h : v = k
   · subst h; simp
   · have : ¬ k = v := fun e => h e.symm
     simp only [if_neg h, idxI_iff v r (i + 1), this, false_or]
theorem idxI_any (v : Int) (l : List Int) (i : Nat) : l.any (fun k => decide (k = v)) = decide (0 ≤ idxI v l i) := by
 rw [Bool.eq_iff_iff, ← idxI_iff v l i, decide_eq_true_eq]
theorem c244 {l : List Int} (hl : l.length ≤ 1000) (v : Int) (b : Bool) :
  ∀ H, CallOk E0 Tryz.prog 244 [slV b 1 (intC l), .int .i64 v] H (.int .i64 (idxI v l 0)) H := by
 refine κw tOk fe244.ok rfl ?_
 repeat' first | refine κn ?_ | refine κl ?_ | refine κg ?_ | refine κa ?_ | fail
 refine Wp.while (fun m tm H => ∃ (i : Nat) (base : TM), i + m = l.length ∧ idxI v l 0 = idxI v (l.drop i) i ∧
   tm = ovr base [(0, slV b 1 (intC l)), (1, .int .i64 v), (7, .int .i64 (l.length : Int)), (8, .int .i64 (i : Int))] ∧ H = hNil)
  (fun m tm H hI => ?_) l.length _ _ ⟨0, _, by omega, by simp, ovr_mk ⟨rfl, rfl, int_eq (by rw [intC_len]), rfl, trivial⟩, rfl⟩
 obtain ⟨i, base, hi, hx, rfl, rfl⟩ := hI
 by_cases hlt : i < l.length
 · obtain ⟨x, hk⟩ : ∃ x, l[i]? = some x := ⟨l[i], by simp⟩
   have hj := intC_get hk
   rw [drop_cons hk] at hx
   simp only [idxI] at hx
   repeat' first | refine κn ?_ | refine κx ?_ | refine κb ?_ ?_ | refine κz ?_ ?_ | refine κg ?_ | refine κa ?_ | refine κf ?_ | intro hb
   · simp at hb
     rw [if_pos hb] at hx
     exact int_eq hx.symm
   · simp at hb
     rw [if_neg hb] at hx
     exact LoopI.go (m - 1) (by omega) ⟨i + 1, _, by omega, hx, ovr_mk ⟨rfl, rfl, rfl, int_eq (wrap_nat (n := i + 1) (by omega)), trivial⟩, rfl⟩
   · simp at hb <;> omega
 · have e : i = l.length := by omega
   subst e
   repeat' first | refine κn ?_ | refine κz ?_ ?_ | refine κg ?_ | refine κa ?_ | refine κf ?_ | intro hb
   · simp at hb
   · rw [hx]; simp [idxI]
theorem c194 {l : List Int} (hl : l.length ≤ 1000) (v : Int) (b : Bool) :
  ∀ H, CallOk E0 Tryz.prog 194 [slV b 1 (intC l), .int .i64 v] H (.bool (l.any (fun k => decide (k = v)))) H := by
 have hc := c244 hl v b
 rw [idxI_any v l 0]
 refine κw tOk fe194.ok rfl ?_
 repeat' first | refine κn ?_ | refine κc (hc _) ?_ | refine κt ?_ | refine κb ?_ ?_ | refine κg ?_ | refine κa ?_ | refine κf ?_ | intro hb
 all_goals first
  | rfl
  | (rw [hb]; done)
  | (simp_all; done)
def crC (l : List Cred) : List (List PV) := l.map Cred.cells
theorem crC_len (l : List Cred) : (crC l).length = l.length := by simp [crC]
theorem crC_get {l : List Cred} {i : Nat} {x : Cred} (h : l[i]? = some x) : (crC l)[i]? = some x.cells := by simp [crC, h]
theorem frzG_cr (x : Cred) : frzG (.agg x.cells) = some (.agg x.cells) := by
 obtain ⟨sub, ⟨k, nm, s, b, kids⟩, iss, pn, per, en, exc, ser, fr, till⟩ := x
 simp only [Cred.cells, Tm.cells, List.cons_append, List.nil_append, frzG, frzL, frz1_slV]
 rfl
structure CrSm (x : Cred) : Prop where
 k : x.key.Ok
 ks : x.key.size ≤ 2000
 s : x.sub.length ≤ 1000
 p : ∀ s, s ∈ x.per → s.length ≤ 1000
 pl : x.per.length ≤ 1000
 e : ∀ s, s ∈ x.exc → s.length ≤ 1000
 el : x.exc.length ≤ 1000
theorem read_sm {t : Tm} (ht : t.Ok) (hs : t.size ≤ 2000) : CrSm (readP t).1 := by
 have hz : Tm.zero.size ≤ 2000 := by simp [Tm.zero, Tm.size, sizeL]
 rcases readP_case t with e | ⟨_, v, w, _⟩
 · rw [e]
   obtain ⟨a, b, c, d, f⟩ := cred_small (x := .zero) (.inl rfl)
   exact ⟨Tm.ok_zero, hz, a, b, d, c, f⟩
 · obtain ⟨a, b, c, d, f⟩ := cred_small (.inr v)
   exact ⟨ht.part w, by have := w.1; omega, a, b, d, c, f⟩
abbrev nxH (A B : Box) (x : Cred) (K : Box) (ro : Nat) (lv : List Nat) (nt : Nat) : Heap := ⟨[A, B, .cells 11 [x.cells], K], ro, lv, nt⟩
theorem c195 {x y : Cred} (hx : x.sub.length ≤ 1000) (hy : CrSm y) (A B K : Box) (ro : Nat) (lv : List Nat) (nt : Nat) :
  CallOk E0 Tryz.prog 195 [.agg y.cells, .ptr 2 11 0 0] (nxH A B x K ro lv nt) (.bool (refB x.sub y)) (nxH A B x K ro lv nt) := by
 have hp := c23 hy.p (by have := hy.pl; unfold maxLen; omega) hy.e (by have := hy.el; unfold maxLen; omega) hx y.pn y.en
 refine callOk_wpH (own := fun _ => false) tOk fe195.ok ?_
 have ea : [PV.agg y.cells, .ptr 2 11 0 0].map argV = [.agg y.cells, .ptr 2 11 0 0] := by
  rw [List.map_cons, argV_frz (frzG_cr y)]
  rfl
 rw [ea]
 clear ea hy hx
 unfold refB
 generalize permitsB y.per y.exc x.sub = D at hp ⊢
 obtain ⟨ysub, ⟨k, nm, s, b, kids⟩, iss, pn, per, en, exc, ser, fr, till⟩ := y
 obtain ⟨xsub, ⟨k', nm', s', b', kids'⟩, iss', pn', per', en', exc', ser', fr', till'⟩ := x
 simp only [nxH, Cred.cells, Tm.cells, List.cons_append, List.nil_append] at hp ⊢
 cases iss <;> cases D
 all_goals
  refine Wp.seq ?_
  repeat' first | refine κn ?_ | refine κk ?_ | refine κc (hp _) ?_ | refine κt ?_ | refine κg ?_ | refine κa ?_ | refine κf ?_ | fail
 all_goals rfl
def firstP {α : Type} (p : α → Bool) : List α → Nat → Int
 | [], _ => -1
 | x :: r, i => if p x = true then (i : Int) else firstP p r (i + 1)
theorem firstP_any {α : Type} (p : α → Bool) : ∀ (l : List α) (i : Nat), decide (0 ≤ firstP p l i) = l.any p
 | [], i => by simp [firstP]
 | x :: r, i => by
   simp only [firstP, List.any_cons]
   by_cases h : p x = true
   · simp [h]
   · simp [h, firstP_any p r (i + 1)]
theorem c245 {l : List Cred} {x : Cred} (hl : ∀ y, y ∈ l → CrSm y) (hll : l.length ≤ 1000) (hx : x.sub.length ≤ 1000) (b : Bool) (A B K : Box) (ro : Nat) (lv : List Nat) (nt : Nat) :
  CallOk E0 Tryz.prog 245 [slV b 11 (crC l), .fn 195 [.ptr 2 11 0 0]] (nxH A B x K ro lv nt) (.int .i64 (firstP (refB x.sub) l 0)) (nxH A B x K ro lv nt) := by
 refine callOk_wpH (own := fun _ => false) tOk fe245.ok ?_
 have ea : [slV b 11 (crC l), .fn 195 [.ptr 2 11 0 0]].map argV = [slV b 11 (crC l), .fn 195 [.ptr 2 11 0 0]] := by
  simp only [List.map_cons, List.map_nil, argV_slV]; rfl
 rw [ea]
 refine Wp.seq ?_
 repeat' first | refine κn ?_ | refine κl ?_ | refine κg ?_ | refine κa ?_ | fail
 refine Wp.while (fun m tm H => ∃ (i : Nat) (base : TM), i + m = l.length ∧ firstP (refB x.sub) l 0 = firstP (refB x.sub) (l.drop i) i ∧
   tm = ovr base [(0, slV b 11 (crC l)), (1, .fn 195 [.ptr 2 11 0 0]), (7, .int .i64 (l.length : Int)), (8, .int .i64 (i : Int))] ∧ H = nxH A B x K 4 [] nt)
  (fun m tm H hI => ?_) l.length _ _ ⟨0, _, by omega, by simp, ovr_mk ⟨rfl, rfl, int_eq (by rw [crC_len]), rfl, trivial⟩, rfl⟩
 obtain ⟨i, base, hi, hf, rfl, rfl⟩ := hI
 by_cases hlt : i < l.length
 · obtain ⟨y, hy⟩ : ∃ y, l[i]? = some y := ⟨l[i], by simp⟩
   have hj := crC_get hy
   have hc := c195 hx (hl y (List.mem_of_getElem? hy)) A B K 4 [] nt
   rw [drop_cons hy] at hf
   simp only [firstP] at hf
   generalize refB x.sub y = D at hc hf
   obtain ⟨ysub, ⟨k, nm, s, b', kids⟩, iss, pn, per, en, exc, ser, fr, till⟩ := y
   simp only [Cred.cells, Tm.cells, List.cons_append, List.nil_append] at hj hc
   cases D with
   | true =>
     repeat' first | refine κn ?_ | refine κc hc ?_ | refine κx ?_ | refine κz ?_ ?_ | refine κg ?_ | refine κa ?_ | refine κf ?_ | intro hb
     · rw [hf]; rfl
     · exfalso; simp at hb; omega
   | false =>
     repeat' first | refine κn ?_ | refine κc hc ?_ | refine κx ?_ | refine κz ?_ ?_ | refine κg ?_ | refine κa ?_ | refine κf ?_ | intro hb
     · refine LoopI.go (m - 1) (by omega) ⟨i + 1, _, by omega, by rw [hf]; rfl, ovr_mk ⟨rfl, rfl, rfl, int_eq (wrap_nat (n := i + 1) (by omega)), trivial⟩, rfl⟩
     · exfalso; simp at hb; omega
 · have e : i = l.length := by omega
   subst e
   rw [List.drop_length] at hf
   repeat' first | refine κn ?_ | refine κz ?_ ?_ | refine κg ?_ | refine κa ?_ | refine κf ?_ | intro hb
   · exfalso; simp at hb
   · rw [hf]; rfl
theorem c196 {l : List Cred} {x : Cred} (hl : ∀ y, y ∈ l → CrSm y) (hll : l.length ≤ 1000) (hx : x.sub.length ≤ 1000) (b : Bool) (A B K : Box) (ro : Nat) (lv : List Nat) (nt : Nat) :
  CallOk E0 Tryz.prog 196 [slV b 11 (crC l), .fn 195 [.ptr 2 11 0 0]] (nxH A B x K ro lv nt) (.bool (l.any (refB x.sub))) (nxH A B x K ro lv nt) := by
 refine callOk_wpH (own := fun _ => false) tOk fe196.ok ?_
 have ea : [slV b 11 (crC l), .fn 195 [.ptr 2 11 0 0]].map argV = [slV b 11 (crC l), .fn 195 [.ptr 2 11 0 0]] := by
  simp only [List.map_cons, List.map_nil, argV_slV]; rfl
 rw [ea]
 have hc := c245 hl hll hx b A B K 4 [] nt
 have hany := firstP_any (refB x.sub) l 0
 refine Wp.seq ?_
 repeat' first | refine κn ?_ | refine κc hc ?_ | refine κt ?_ | refine κb ?_ ?_ | refine κg ?_ | refine κa ?_ | refine κf ?_ | intro hb
 all_goals (rw [← hany, hb]; rfl)
structure QnOk (q : Qn) : Prop where
 t : ∀ t, t ∈ q.terms → t.Ok
 ts : ∀ t, t ∈ q.terms → t.size ≤ 2000
 tl : q.terms.length ≤ 1000
 a : q.anchor.Ok
 az : q.anchor.size ≤ 2000
 rl : q.rev.length ≤ 1000
def nextG (P1 P2 P3 P4 P5 P6 P7 : Bool) (R : Cred × Int) : Cred × Int := if P1 = true then (.zero, 5) else if P2 = true then R else if P3 = false then (R.1, 11) else if P4 = true ∨ P5 = true then (R.1, 20) else if P6 = true then (R.1, 9) else if P7 = true then (R.1, 22) else (R.1, 0)
theorem nxtF_eq {q : Qn} {p : List Int} {bef : List Cred} {i : Nat} {t : Tm} (h : q.terms[i]? = some t) : nxtF q p bef i = nextG (hasI p (i : Int)) (decide ((readP t).2 ≠ 0)) (decide ((keyQ q bef).cmp (pkQ t) = 0)) (decide (q.now < (readP t).1.fr)) (decide ((readP t).1.till < q.now)) (hasI q.rev (readP t).1.ser) (bef.any (refB (readP t).1.sub)) (readP t) := by
 unfold nxtF nextG
 rw [h]
 simp only [decide_eq_true_eq, decide_eq_false_iff_not, ne_eq]
theorem gtrI (a b : Int) : aBin E0 .gtr 3 (.int .i64 a) (.int .i64 b) = some (.bool (decide (b < a))) := rfl
theorem lssI (a b : Int) : aBin E0 .lss 3 (.int .i64 a) (.int .i64 b) = some (.bool (decide (a < b))) := rfl
theorem size_kidP {k : Int} {nm : Bs} {s : Int} {b : Bool} {x : Tm} : (Tm.mk k nm s b [x]).size = x.size + 1 := by simp only [Tm.size, sizeL]; omega
theorem pk_cells {s : Int} {b : Bool} {nm : Bs} {k : Int} {u key : Tm} : (pkQ (.mk k nm s b [u, key])).cells = [.int .i64 3, .str [112, 107], .int .i64 0, .sl .none 4 [key.cells]] := by
 simp only [pkQ, Tm.cells, cellsL, slV_cons]
theorem keyQ_ok {q : Qn} (hq : QnOk q) {bef : List Cred} (hb : ∀ y, y ∈ bef → CrSm y) : (keyQ q bef).Ok ∧ (keyQ q bef).size ≤ 2000 := by
 unfold keyQ lastC
 cases e : bef[bef.length - 1]? with
 | none => exact ⟨hq.a, hq.az⟩
 | some c => exact ⟨(hb c (List.mem_of_getElem? e)).k, (hb c (List.mem_of_getElem? e)).ks⟩
theorem nextO2 (P1 P3 P4 P5 P6 P7 : Bool) : P1 = true ∨ (P1 = false ∧ P3 = false) ∨ (P1 = false ∧ P3 = true ∧ P4 = true) ∨ (P1 = false ∧ P3 = true ∧ P4 = false ∧ P5 = true) ∨ (P1 = false ∧ P3 = true ∧ P4 = false ∧ P5 = false ∧ P6 = true)
  ∨ (P1 = false ∧ P3 = true ∧ P4 = false ∧ P5 = false ∧ P6 = false ∧ P7 = true) ∨ (P1 = false ∧ P3 = true ∧ P4 = false ∧ P5 = false ∧ P6 = false ∧ P7 = false) := by
 cases P1 <;> cases P3 <;> cases P4 <;> cases P5 <;> cases P6 <;> cases P7 <;> simp
theorem frzNx (q : Qn) (qb qb' pb bb : Bool) (p : List (List PV)) (c : List (List PV)) (i : Int) : frzGL [.agg (q.cells qb qb'), slV pb 1 p, slV bb 11 c, .int .i64 i] = some [.agg (q.cells qb qb'), slV pb 1 p, slV bb 11 c, .int .i64 i] := by
 obtain ⟨terms, ⟨k, nm, s, b, kids⟩, now, rev⟩ := q
 simp only [Qn.cells, Tm.cells, List.cons_append, List.nil_append, frzGL, frzG_slV]
 simp only [frzG, frzL, frz1_slV]
 rfl
theorem czf (m : Nat) (H : Heap) (e : Int) : frz3 m H (.tup [.agg [.str [], .int .i64 0, .str [], .int .i64 0, .nils, .bool false, .nils, .nils, .int .i64 0, .int .i64 0, .int .i64 0], .int .i64 e]) = some (.tup [.agg [.str [], .int .i64 0, .str [], .int .i64 0, .nils, .bool false, .nils, .nils, .int .i64 0, .int .i64 0, .int .i64 0], .int .i64 e]) := by
 have := frz3_cred m H .zero e
 rwa [cz_cells] at this
theorem c117 {q : Qn} (hq : QnOk q) {p : List Int} (hp : p.length ≤ 1000) {bef : List Cred} (hb : ∀ y, y ∈ bef → CrSm y) (hbl : bef.length ≤ 1000) {i : Nat} (hi : i < q.terms.length) (qb qb' pb bb : Bool) :
  ∀ H, CallOk E0 Tryz.prog 117 [.agg (q.cells qb qb'), slV pb 1 (intC p), slV bb 11 (crC bef), .int .i64 (i : Int)] H (.tup [.agg (nxtF q p bef i).1.cells, .int .i64 (nxtF q p bef i).2]) H := by
 obtain ⟨t, ht⟩ : ∃ t, q.terms[i]? = some t := ⟨q.terms[i], by simp⟩
 have htm := List.mem_of_getElem? ht
 have hj : (cellsL q.terms)[i]? = some t.cells := by
  obtain ⟨k, nm, s, b, kids⟩ := t
  exact cellsL_get ht
 have hln := cellsL_length q.terms
 have hil := hq.tl
 have f1 : aBin E0 .lss 3 (.int .i64 (i : Int)) (.int .i64 0) = some (.bool false) := lss_f (by omega)
 have f2 : aBin E0 .geq 3 (.int .i64 (i : Int)) (.int .i64 ((cellsL q.terms).length : Int)) = some (.bool false) := by
  show some (PV.bool (decide (((cellsL q.terms).length : Int) ≤ (i : Int)))) = _
  rw [decide_eq_false (by omega)]
 have c1 := c194 hp (i : Int) pb
 have cr := c66 (hq.t t htm) (by have := hq.ts t htm; omega)
 have hfz := frzNx q qb qb' pb bb (intC p) (crC bef) i
 rw [nxtF_eq ht]
 have c1 : ∀ H, CallOk E0 Tryz.prog 194 [slV pb 1 (intC p), .int .i64 (i : Int)] H (.bool (hasI p (i : Int))) H := c1
 generalize hasI p (i : Int) = P1 at c1 ⊢
 rcases readP_case t with hR | ⟨hR, hv, hw, s', b', u, key, rfl, -, -⟩
 · have er := err_eq 2
   have e : (decide ((readP t).2 ≠ 0)) = true := by rw [hR]; rfl
   rw [e]
   rw [hR] at cr ⊢
   simp only [cz_cells] at cr
   clear hb hbl hq htm ht hR e hln hi hil
   obtain ⟨terms, ⟨k, nm, s, b, kids⟩, now, rev⟩ := q
   obtain ⟨k1, nm1, s1, b1, kids1⟩ := t
   simp only [Qn.cells, Tm.cells, List.cons_append, List.nil_append] at hfz f2 cr hj ⊢
   generalize crC bef = L at hfz ⊢
   generalize intC p = M at hfz c1 ⊢
   cases P1
   all_goals simp only [nextG, Bool.false_eq_true, if_true, if_false, cz_cells]
   all_goals
    refine κw tOk fe117.ok (czf 0 hNil _) ?_ hfz
    repeat' first | refine κn ?_ | refine κc (c1 _) ?_ | refine κc (cr _) ?_ | refine κi ?_ | refine κl ?_ | refine κx ?_ | refine κt ?_ | refine κg ?_ | refine κa ?_ | refine κf ?_ | fail
   all_goals exact czf _ _ _
 · have hsm := read_sm (hq.t _ htm) (hq.ts _ htm)
   have er := err_eq 0
   have c2 := c194 hq.rl (readP (.mk 3 [115, 105, 103, 110] s' b' [u, key])).1.ser qb'
   have c2 : ∀ H, CallOk E0 Tryz.prog 194 [slV qb' 1 (intC q.rev), .int .i64 (readP (.mk 3 [115, 105, 103, 110] s' b' [u, key])).1.ser] H (.bool (hasI q.rev (readP (.mk 3 [115, 105, 103, 110] s' b' [u, key])).1.ser)) H := c2
   have cf := fun A B K lv nt => c196 hb hbl hsm.s bb A B K 0 lv nt
   have e4 := gtrI (readP (.mk 3 [115, 105, 103, 110] s' b' [u, key])).1.fr q.now
   have e5 := lssI (readP (.mk 3 [115, 105, 103, 110] s' b' [u, key])).1.till q.now
   have hpk : (pkQ (.mk 3 [115, 105, 103, 110] s' b' [u, key])).Ok ∧ (pkQ (.mk 3 [115, 105, 103, 110] s' b' [u, key])).size ≤ 1000000 := by
    have hz1 := hq.t _ htm
    have h2 := hq.ts _ htm
    cases hz1 with
    | mk _ _ _ _ hk =>
      have h3 : (pkQ (.mk 3 [115, 105, 103, 110] s' b' [u, key])).size = key.size + 1 := size_kidP
      simp only [Tm.size, sizeL] at h2
      exact ⟨ok1 (by decide) (hk key (by simp)), by omega⟩
   have hkq := keyQ_ok hq hb
   have c3 := c138 hkq.1 hpk.1 (by have := hkq.2; omega) hpk.2
   rw [pk_cells] at c3
   have e : (decide ((readP (.mk 3 [115, 105, 103, 110] s' b' [u, key])).2 ≠ 0)) = false := by rw [hR]; rfl
   rw [e]
   have hfr := fun m H e => frz3_cred m H (readP (.mk 3 [115, 105, 103, 110] s' b' [u, key])).1 e
   generalize hRR : readP (.mk 3 [115, 105, 103, 110] s' b' [u, key]) = R at hR cr c2 cf e4 e5 hfr ⊢
   obtain ⟨X, Xe⟩ := R
   simp only [] at hR cr c2 cf e4 e5 hfr ⊢
   subst hR
   generalize decide ((keyQ q bef).cmp (pkQ (.mk 3 [115, 105, 103, 110] s' b' [u, key])) = 0) = P3 at c3 ⊢
   generalize decide (q.now < X.fr) = P4 at e4 ⊢
   generalize decide (X.till < q.now) = P5 at e5 ⊢
   generalize hasI q.rev X.ser = P6 at c2 ⊢
   have cf : ∀ A B K lv nt, CallOk E0 Tryz.prog 196 [slV bb 11 (crC bef), .fn 195 [.ptr 2 11 0 0]] ⟨[A, B, .cells 11 [X.cells], K], 0, lv, nt⟩ (.bool (bef.any (refB X.sub))) ⟨[A, B, .cells 11 [X.cells], K], 0, lv, nt⟩ := cf
   generalize bef.any (refB X.sub) = P7 at cf ⊢
   have hcl := crC_len bef
   cases hbe : lastC bef with
   | none =>
     have hz0 : bef.length = 0 := by
      have := List.getElem?_eq_none_iff.1 hbe
      omega
     have gz1 : aBin E0 .gtr 3 (.int .i64 ((crC bef).length : Int)) (.int .i64 0) = some (.bool false) := gtr_f (by omega)
     have ek : keyQ q bef = q.anchor := by unfold keyQ; rw [hbe]
     rw [ek] at c3
     clear hb hbl hq htm ht e hln hi hil hsm hv hw hRR hkq hpk hbe hz0 ek hcl
     obtain ⟨terms, ⟨k, nm, s, b, kids⟩, now, rev⟩ := q
     obtain ⟨k1, nm1, s1, b1, kids1⟩ := u
     obtain ⟨k2, nm2, s2, b2, kids2⟩ := key
     obtain ⟨xsub, ⟨k3, nm3, s3, b3, kids3⟩, iss', pn', per', en', exc', ser', fr', till'⟩ := X
     simp only [Qn.cells, Cred.cells, Tm.cells, cellsL, slV_cons, List.cons_append, List.nil_append] at hfz f2 cr c2 c3 cf e4 e5 hj hfr
     simp only [Qn.cells, Tm.cells, List.cons_append, List.nil_append]
     generalize crC bef = L at hfz gz1 cf ⊢
     generalize intC p = M at hfz c1 ⊢
     rcases nextO2 P1 P3 P4 P5 P6 P7 with rfl | ⟨rfl, rfl⟩ | ⟨rfl, rfl, rfl⟩ | ⟨rfl, rfl, rfl, rfl⟩ | ⟨rfl, rfl, rfl, rfl, rfl⟩ | ⟨rfl, rfl, rfl, rfl, rfl, rfl⟩ | ⟨rfl, rfl, rfl, rfl, rfl, rfl⟩
     all_goals simp only [nextG, Bool.false_eq_true, Bool.true_eq_false, if_true, if_false, or_true, true_or, or_self, cz_cells]
     all_goals try simp only [Cred.cells, Tm.cells, List.cons_append, List.nil_append]
     all_goals
      first
       | refine callOk_wp (own := fun _ => false) tOk fe117.ok hfz (czf 0 hNil _) ?_
       | refine κw tOk fe117.ok (hfr 0 hNil _) ?_ hfz
      repeat' first | refine κn ?_ | refine κk ?_ | (apply qCl; rfl; rfl; rfl; rfl; first | exact c1 _ | exact cr _ | exact c2 _ | exact cf _ _ _ _ _) | refine κi ?_ | refine κl ?_ | refine κx ?_ | refine κt ?_ | refine κg ?_ | refine κd (c3 _) ?_ | refine κI ?_ | (apply dT (ty := 4); rfl; rfl; rfl; rfl) | (apply dF (ty := 4); rfl; rfl; rfl; rfl) | refine κh ?_ | refine κa ?_ | (apply Wp.draw tOk follows; kernel_rfl) | refine κf ?_ | fail
     all_goals first
      | exact czf _ _ _
      | exact hfr _ _ _
   | some c =>
     have hj2 := crC_get hbe
     have hz0 : 0 < bef.length := by
      obtain ⟨h, -⟩ := List.getElem?_eq_some_iff.1 hbe
      omega
     have gz1 : aBin E0 .gtr 3 (.int .i64 ((crC bef).length : Int)) (.int .i64 0) = some (.bool true) := gtr_t (by omega)
     have g2 : aBin E0 .sub 3 (.int .i64 ((crC bef).length : Int)) (.int .i64 1) = some (.int .i64 ((bef.length - 1 : Nat) : Int)) := by
      show some (PV.int .i64 (IntKind.i64.wrap (((crC bef).length : Int) - 1))) = _
      rw [IntWalk.i64_in _ (by omega)]
      congr 2
      omega
     have ek : keyQ q bef = c.key := by unfold keyQ; rw [hbe]
     rw [ek] at c3
     generalize bef.length - 1 = j at g2 hj2
     clear hb hbl hq htm ht e hln hi hil hsm hv hw hRR hkq hpk hbe hz0 ek hcl
     obtain ⟨terms, ⟨k, nm, s, b, kids⟩, now, rev⟩ := q
     obtain ⟨k1, nm1, s1, b1, kids1⟩ := u
     obtain ⟨k2, nm2, s2, b2, kids2⟩ := key
     obtain ⟨csub, ⟨k4, nm4, s4, b4, kids4⟩, ciss, cpn, cper, cen, cexc, cser, cfr, ctill⟩ := c
     obtain ⟨xsub, ⟨k3, nm3, s3, b3, kids3⟩, iss', pn', per', en', exc', ser', fr', till'⟩ := X
     simp only [Qn.cells, Cred.cells, Tm.cells, cellsL, slV_cons, List.cons_append, List.nil_append] at hfz f2 cr c2 c3 cf e4 e5 hj hj2 hfr
     simp only [Qn.cells, Tm.cells, List.cons_append, List.nil_append]
     generalize crC bef = L at hfz gz1 g2 cf hj2 ⊢
     generalize intC p = M at hfz c1 ⊢
     rcases nextO2 P1 P3 P4 P5 P6 P7 with rfl | ⟨rfl, rfl⟩ | ⟨rfl, rfl, rfl⟩ | ⟨rfl, rfl, rfl, rfl⟩ | ⟨rfl, rfl, rfl, rfl, rfl⟩ | ⟨rfl, rfl, rfl, rfl, rfl, rfl⟩ | ⟨rfl, rfl, rfl, rfl, rfl, rfl⟩
     all_goals simp only [nextG, Bool.false_eq_true, Bool.true_eq_false, if_true, if_false, or_true, true_or, or_self, cz_cells]
     all_goals try simp only [Cred.cells, Tm.cells, List.cons_append, List.nil_append]
     all_goals
      first
       | refine callOk_wp (own := fun _ => false) tOk fe117.ok hfz (czf 0 hNil _) ?_
       | refine κw tOk fe117.ok (hfr 0 hNil _) ?_ hfz
      repeat' first | refine κn ?_ | refine κk ?_ | (apply qCl; rfl; rfl; rfl; rfl; first | exact c1 _ | exact cr _ | exact c2 _ | exact cf _ _ _ _ _) | refine κi ?_ | refine κl ?_ | refine κx ?_ | refine κt ?_ | refine κg ?_ | refine κd (c3 _) ?_ | refine κI ?_ | (apply dT (ty := 4); rfl; rfl; rfl; rfl) | (apply dF (ty := 4); rfl; rfl; rfl; rfl) | refine κh ?_ | refine κa ?_ | (apply Wp.draw tOk follows; kernel_rfl) | refine κf ?_ | fail
     all_goals first
      | exact czf _ _ _
      | exact hfr _ _ _
end Go.Vm.Seat
