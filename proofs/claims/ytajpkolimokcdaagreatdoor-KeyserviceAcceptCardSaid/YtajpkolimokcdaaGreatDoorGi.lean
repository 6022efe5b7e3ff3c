/-
  What a reader answers to an answer, in the program and in the document.
-/
import Derived.Test.YtajpkolimokcdaaGreatDoorGh
set_option maxHeartbeats 64000000
set_option maxRecDepth 100000
namespace Go.Vm.Seat
open Go.Proofs
abbrev AccT := Rd × Tm × Int
def rspV (R : AccT) : PV := .tup [.agg R.1.cells, .agg R.2.1.cells, .int .i64 R.2.2]
theorem rdz_cells : Rd.zero.cells = [.int .i64 0, .str [], .int .i64 0, .nils, .int .i64 0, .int .i64 0, .str [], .int .i64 0, .nils, .int .i64 0, .str [], .int .i64 0, .nils] := by
 simp only [Rd.zero, Rd.cells, zero_cells]
 rfl
theorem rspV_zero (e : Int) : rspV (.zero, .zero, e) = .tup [.agg [.int .i64 0, .str [], .int .i64 0, .nils, .int .i64 0, .int .i64 0, .str [], .int .i64 0, .nils, .int .i64 0, .str [], .int .i64 0, .nils], .agg [.int .i64 0, .str [], .int .i64 0, .nils], .int .i64 e] := by
 simp only [rspV, rdz_cells, zero_cells]
theorem frz3_rd (m : Nat) (H : Heap) (x : Rd) : frz2 m H (.agg x.cells) = some (.agg x.cells) := by
 obtain ⟨⟨k1, nm1, s1, b1, kids1⟩, n, ⟨k2, nm2, s2, b2, kids2⟩, k3, nm3, s3, b3, kids3⟩ := x
 have h1 : ∀ cs, frz3 m H (.agg cs) = frz2 m H (.agg cs) := fun _ => rfl
 rw [← h1, frz3_agg]
 simp only [Rd.cells, Tm.cells, List.cons_append, List.nil_append, frzCL, frzC_slV]
 rfl
theorem frz3_rspV (m : Nat) (H : Heap) (R : AccT) : frz3 m H (rspV R) = some (rspV R) := by
 have h1 : frz2 m H (.agg R.2.1.cells) = some (.agg R.2.1.cells) := frz3_cells m H R.2.1
 have h2 := frz3_rd m H R.1
 show (match frz2L m H [.agg R.1.cells, .agg R.2.1.cells, .int .i64 R.2.2] with | some vs' => some (PV.tup vs') | none => none) = _
 simp only [frz2L, h1, h2]
 rfl
theorem buildRd (x y z : Tm) (n : Int) : aBuild E0 47 [(0, .agg x.cells), (1, .int .i64 n), (2, .agg y.cells), (3, .agg z.cells)] = some (.agg (Rd.mk x n y z).cells) := by
 obtain ⟨k1, nm1, s1, b1, kids1⟩ := x
 obtain ⟨k2, nm2, s2, b2, kids2⟩ := y
 obtain ⟨k3, nm3, s3, b3, kids3⟩ := z
 rfl
structure AnSm (a : An) (S : Nat) : Prop where
 ok : AnOk a
 n : a.name.length ≤ 100
 e : a.entry.size ≤ S
 h : a.head.size ≤ S
 s : a.signed.size ≤ S
 i : ∀ t, t ∈ a.incl → t.size ≤ S
 x : ∀ t, t ∈ a.ext → t.size ≤ S
 wi : (Lit.int .i64 a.idx).wf = true
 ws : (Lit.int .i64 a.size).wf = true
theorem kid0_ok {t : Tm} (ht : t.Ok) {S : Nat} (hs : t.size ≤ S) (h1 : 1 ≤ S) : (kid0 t).Ok ∧ (kid0 t).size ≤ S := by
 obtain ⟨k, nm, s, b, kids⟩ := t
 cases kids with
 | nil => exact ⟨Tm.ok_zero, by simpa [kid0, Tm.zero, Tm.size, sizeL] using h1⟩
 | cons x r =>
   refine ⟨?_, ?_⟩
   · cases ht with
     | mk _ _ _ _ hk => exact hk x (by simp)
   · simp only [Tm.size, sizeL] at hs
     show x.size ≤ S
     omega
theorem read_key {t : Tm} (ht : t.Ok) {S : Nat} (hs : t.size ≤ S) (h1 : 1 ≤ S) : (readP t).1.key.Ok ∧ (readP t).1.key.size ≤ S ∧ (readP t).1.sub.length ≤ 1000 := by
 have hz : Tm.zero.size ≤ S := by simpa [Tm.zero, Tm.size, sizeL] using h1
 rcases readP_case t with e | ⟨_, v, w, _⟩
 · rw [e]
   exact ⟨Tm.ok_zero, hz, by simp [Cred.zero]⟩
 · exact ⟨ht.part w, by have := w.1; omega, (cred_small (.inr v)).1⟩
def accF (B1 B2 B3 B4 B5 B6 B7 B8 B9 B10 : Bool) (R : AccT) : AccT :=
 if B1 = false then (.zero, .zero, 1) else if B2 = true then (.zero, .zero, 2) else if B3 = true ∨ B4 = false then (.zero, .zero, 2) else if B5 = true then (.zero, .zero, 9) else
 if B6 = true ∨ B7 = false ∨ B8 = false ∨ B9 = true ∧ B10 = false then (.zero, .zero, 18) else R
theorem accP_eq (c : Rd) (a : An) : accP c a = accF (keyB Tm.cl c) (decide ((readP a.entry).2 ≠ 0)) (decide (((credN a.name (readP a.entry).1.key a.idx 9999).issue (kid0 c.svc)).2 ≠ 0)) (decide (((credN a.name (readP a.entry).1.key a.idx 9999).issue (kid0 c.svc)).1.cmp a.entry = 0)) (decide (a.size < c.size))
  (decide ((signG Tm.cl a.head a.size (kid0 c.svc)).2 ≠ 0)) (decide ((signG Tm.cl a.head a.size (kid0 c.svc)).1.cmp a.signed = 0)) (ckIncT a.head a.size a.idx a.entry a.incl) (decide (0 < c.size)) (ckExtT c.head c.size a.head a.size a.ext) (⟨c.svc.cl, a.size, a.head.cl, a.signed.cl⟩, (readP a.entry).1.key.cl, 0) := by
 unfold accP accF
 simp only [decide_eq_true_eq, decide_eq_false_iff_not]
theorem outs (B2 B3 B4 B5 B6 B7 B8 B9 B10 : Bool) : (B2 = true) ∨ (B2 = false ∧ B3 = true) ∨ (B2 = false ∧ B3 = false ∧ B4 = false) ∨ (B2 = false ∧ B3 = false ∧ B4 = true ∧ B5 = true) ∨ (B2 = false ∧ B3 = false ∧ B4 = true ∧ B5 = false ∧ B6 = true) ∨ (B2 = false ∧ B3 = false ∧ B4 = true ∧ B5 = false ∧ B6 = false ∧ B7 = false)
  ∨ (B2 = false ∧ B3 = false ∧ B4 = true ∧ B5 = false ∧ B6 = false ∧ B7 = true ∧ B8 = false) ∨ (B2 = false ∧ B3 = false ∧ B4 = true ∧ B5 = false ∧ B6 = false ∧ B7 = true ∧ B8 = true ∧ B9 = true ∧ B10 = false) ∨ (B2 = false ∧ B3 = false ∧ B4 = true ∧ B5 = false ∧ B6 = false ∧ B7 = true ∧ B8 = true ∧ B9 = false)
  ∨ (B2 = false ∧ B3 = false ∧ B4 = true ∧ B5 = false ∧ B6 = false ∧ B7 = true ∧ B8 = true ∧ B9 = true ∧ B10 = true) := by
 cases B2 <;> simp
 cases B3 <;> simp
 cases B4 <;> simp
 cases B5 <;> simp
 cases B6 <;> simp
 cases B7 <;> simp
 cases B8 <;> simp
 cases B9 <;> simp
theorem lss_d (a b : Int) : aBin E0 .lss 3 (.int .i64 a) (.int .i64 b) = some (.bool (decide (a < b))) := rfl
theorem gtr_d (a : Int) : aBin E0 .gtr 3 (.int .i64 a) (.int .i64 0) = some (.bool (decide (0 < a))) := rfl
theorem c31 {c : Rd} (hc : RdOk 2000 c) (wc : (Lit.int .i64 c.size).wf = true) {a : An} (ha : AnSm a 2000) : ∀ H, CallOk E0 Tryz.prog 31 [.agg c.cells, .agg a.cells] H (rspV (accP c a)) H := by
 obtain ⟨x, hx, ck⟩ := c86 (c := c) ⟨⟨hc.1.1, by have := hc.1.2; omega⟩, ⟨hc.2.1.1, by have := hc.2.1.2; omega⟩, hc.2.2.1, by have := hc.2.2.2; omega⟩
 rw [accP_eq]
 generalize hK : keyB Tm.cl c = K at hx ck ⊢
 have hfv := frz3_rspV 0 hNil
 cases K with
 | false =>
   have hfr := hfv (.zero, .zero, 1)
   show ∀ H, CallOk E0 Tryz.prog _ _ H (rspV (.zero, .zero, 1)) H
   rw [rspV_zero] at hfr ⊢
   clear hx hK ha hc
   obtain ⟨⟨k1, nm1, s1, b1, kids1⟩, n, ⟨k2, nm2, s2, b2, kids2⟩, k3, nm3, s3, b3, kids3⟩ := c
   obtain ⟨name, ⟨k4, nm4, s4, b4, kids4⟩, ai, n', ⟨k5, nm5, s5, b5, kids5⟩, ⟨k6, nm6, s6, b6, kids6⟩, ib, incl, eb, ext⟩ := a
   obtain ⟨k7, nm7, s7, b7, kids7⟩ := x
   simp only [Rd.cells, An.cells, Tm.cells, List.cons_append, List.nil_append] at ck ⊢
   refine κw tOk fe31.ok hfr ?_
   repeat' first | refine κn ?_ | refine κc (ck _) ?_ | refine κt ?_ | refine κg ?_ | refine κa ?_ | refine κf ?_ | fail
   all_goals rfl
 | true =>
   have hx := hx rfl
   subst hx
   have hkid := kid0_ok hc.1.1 hc.1.2 (by omega)
   obtain ⟨r1, r2, r3⟩ := read_key ha.ok.e ha.e (by omega)
   have cr := c16 ha.ok.e (by have := ha.e; omega)
   have ci := c87 (name := a.name) (by have := ha.n; omega) hkid.1 (by have := hkid.2; omega) r1 (by omega) a.idx 9999
   have hio : ((credN a.name (readP a.entry).1.key a.idx 9999).issue (kid0 c.svc)).1.Ok ∧ ((credN a.name (readP a.entry).1.key a.idx 9999).issue (kid0 c.svc)).1.size ≤ 1000000 := by
    have h := issue_small (x := credN a.name (readP a.entry).1.key a.idx 9999) (key := kid0 c.svc) r1 hkid.1
    exact ⟨h.1, by have := h.2; have := hkid.2; simp only [credN] at this h ⊢; omega⟩
   have cq1 := c76 hio.1 ha.ok.e hio.2 (by have := ha.e; omega)
   have cs := c78 ha.ok.h (by have := ha.h; omega) hkid.1 (by have := hkid.2; omega) a.size
   have hso := sign_ok Tm.cl (fun t ht => ⟨ok_clT ht, cl_size t⟩) a.size ha.ok.h hkid.1
   have cq2 := c76 hso.1 ha.ok.s (by have := hso.2; have := ha.h; have := hkid.2; omega) (by have := ha.s; omega)
   have c8 := c88 ha.ok.h (by have := ha.h; omega) ha.ok.e (by have := ha.e; omega) (fun t ht => ⟨ha.ok.i t ht, by have := ha.i t ht; omega⟩) a.ib ha.ws ha.wi
   have c10 := c89 hc.2.1.1 (by have := hc.2.1.2; omega) ha.ok.h (by have := ha.h; omega) (fun t ht => ⟨ha.ok.x t ht, by have := ha.x t ht; omega⟩) a.eb wc ha.ws
   have p1 := c71 hc.1.1 (by have := hc.1.2; omega)
   have p2 := c71 ha.ok.h (by have := ha.h; omega)
   have p3 := c71 ha.ok.s (by have := ha.s; omega)
   have p4 := c71 r1 (by omega)
   have hbd := buildRd c.svc.cl a.head.cl a.signed.cl a.size
   have e5 := lss_d a.size c.size
   have e9 := gtr_d c.size
   have e2 := err_eq (readP a.entry).2
   have e3 := err_eq ((credN a.name (readP a.entry).1.key a.idx 9999).issue (kid0 c.svc)).2
   have e6 := err_eq (signG Tm.cl a.head a.size (kid0 c.svc)).2
   clear hio hso r1 r2 r3 hkid hK hc ha wc
   generalize (credN a.name (readP a.entry).1.key a.idx 9999).issue (kid0 c.svc) = I at ci cq1 e3 ⊢
   generalize signG Tm.cl a.head a.size (kid0 c.svc) = S at cs cq2 e6 ⊢
   generalize ckIncT a.head a.size a.idx a.entry a.incl = B8 at c8 ⊢
   generalize ckExtT c.head c.size a.head a.size a.ext = B10 at c10 ⊢
   generalize readP a.entry = R at cr ci p4 e2 ⊢
   obtain ⟨I, I2⟩ := I
   obtain ⟨S, S2⟩ := S
   obtain ⟨⟨sub, ⟨k8, nm8, s8, b8, kids8⟩, iss, pn, per, en, exc, ser, fr, till⟩, R2⟩ := R
   simp only [] at cr ci p4 e2 cq1 e3 cs cq2 e6 ⊢
   generalize decide (R2 ≠ 0) = B2 at e2 ⊢
   generalize decide (I2 ≠ 0) = B3 at e3 ⊢
   generalize decide (I.cmp a.entry = 0) = B4 at cq1 ⊢
   generalize decide (a.size < c.size) = B5 at e5 ⊢
   generalize decide (S2 ≠ 0) = B6 at e6 ⊢
   generalize decide (S.cmp a.signed = 0) = B7 at cq2 ⊢
   generalize decide (0 < c.size) = B9 at e9 ⊢
   generalize (Tm.mk k8 nm8 s8 b8 kids8).cl = P4 at p4 ⊢
   have hok := hfv (⟨c.svc.cl, a.size, a.head.cl, a.signed.cl⟩, P4, 0)
   have hokt := fun m H => frz3_rspV m H (⟨c.svc.cl, a.size, a.head.cl, a.signed.cl⟩, P4, 0)
   unfold rspV at hok hokt
   simp only [] at hok hokt
   have hz : ∀ e, rspV (.zero, .zero, e) = _ := rspV_zero
   have hzf := fun e => hfv (.zero, .zero, e)
   have hO : rspV (⟨c.svc.cl, a.size, a.head.cl, a.signed.cl⟩, P4, 0) = .tup [.agg (Rd.mk c.svc.cl a.size a.head.cl a.signed.cl).cells, .agg P4.cells, .int .i64 0] := rfl
   rcases outs B2 B3 B4 B5 B6 B7 B8 B9 B10 with rfl | ⟨rfl, rfl⟩ | ⟨rfl, rfl, rfl⟩ | ⟨rfl, rfl, rfl, rfl⟩ | ⟨rfl, rfl, rfl, rfl, rfl⟩ | ⟨rfl, rfl, rfl, rfl, rfl, rfl⟩ | ⟨rfl, rfl, rfl, rfl, rfl, rfl, rfl⟩ | ⟨rfl, rfl, rfl, rfl, rfl, rfl, rfl, rfl, rfl⟩ | ⟨rfl, rfl, rfl, rfl, rfl, rfl, rfl, rfl⟩ | ⟨rfl, rfl, rfl, rfl, rfl, rfl, rfl, rfl, rfl⟩
   all_goals simp only [accF, Bool.true_eq_false, Bool.false_eq_true, if_false, if_true, or_true, true_or, or_self, and_false, false_and, and_self, hz, hO] at hzf ⊢
   all_goals
    generalize c.svc.cl = Q1 at p1 hbd hok hokt hO ⊢
    generalize a.head.cl = Q2 at p2 hbd hok hokt hO ⊢
    generalize a.signed.cl = Q3 at p3 hbd hok hokt hO ⊢
    generalize kid0 c.svc = kx at ck ci cs
    clear hz hO hfv
    obtain ⟨⟨k1, nm1, s1, b1, kids1⟩, n, ⟨k2, nm2, s2, b2, kids2⟩, k3, nm3, s3, b3, kids3⟩ := c
    obtain ⟨name, ⟨k4, nm4, s4, b4, kids4⟩, ai, n', ⟨k5, nm5, s5, b5, kids5⟩, ⟨k6, nm6, s6, b6, kids6⟩, ib, incl, eb, ext⟩ := a
    obtain ⟨k7, nm7, s7, b7, kids7⟩ := kx
    obtain ⟨k9, nm9, s9, b9, kids9⟩ := I
    obtain ⟨ka, nma, sa, ba, kidsa⟩ := S
    obtain ⟨kb, nmb, sb, bb, kidsb⟩ := Q1
    obtain ⟨kc, nmc, sc, bc, kidsc⟩ := Q2
    obtain ⟨kd, nmd, sd, bd, kidsd⟩ := Q3
    obtain ⟨ke, nme, se, be, kidse⟩ := P4
    simp only [Rd.cells, An.cells, Cred.cells, Tm.cells, List.cons_append, List.nil_append] at ck ci cs cr cq1 cq2 c8 c10 p1 p2 p3 p4 hbd hok hokt ⊢
    first
     | refine callOk_wp (own := fun _ => false) tOk fe31.ok (by simp only [frzGL, frzG, frzL, frz1_slV]; rfl) hok ?_
     | refine κw tOk fe31.ok (hzf _) ?_
    repeat' first | refine κn ?_ | refine κk ?_ | (apply qCl; rfl; rfl; rfl; rfl; first | exact ck _ | exact cr _ | exact ci _ | exact cq1 _ | exact cs _ | exact cq2 _ | exact c8 _ | exact c10 _) | refine κi ?_ | refine κt ?_ | refine κg ?_ | (apply dCl; rfl; rfl; rfl; rfl; rfl; first | exact p1 _ | exact p2 _ | exact p3 _ | exact p4 _) | (apply dBd; rfl; rfl; rfl; assumption; exact IsV.aggN; rfl) | refine κh ?_ | refine κa ?_ | (apply Wp.drawS tOk follows; kernel_rfl; rfl) | refine κf ?_ | fail
   all_goals first
    | exact hokt _ _
    | rfl
end Go.Vm.Seat
