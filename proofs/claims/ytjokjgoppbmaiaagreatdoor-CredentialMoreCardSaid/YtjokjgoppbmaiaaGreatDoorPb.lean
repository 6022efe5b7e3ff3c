/-
  A path of credentials: how it is found.
-/
import Derived.Test.YtjokjgoppbmaiaaGreatDoorPa
set_option maxHeartbeats 64000000
set_option maxRecDepth 100000
namespace Go.Vm.Seat
open Go.Proofs
noncomputable def E9 : Env := { E0 with eff := fun f => E0.eff f || (Nat.beq f 11 || (Nat.beq f 118 || Nat.beq f 9)) }
theorem tOk9 : TOk E9 Tryz.prog := ⟨fun _ _ h => getT_ok h⟩
theorem to09 {f : FuncId} {args : List PV} {H H' : Heap} {r : PV} (h : CallOk E0 Tryz.prog f args H r H') : CallOk E9 Tryz.prog f args H r H' := h.env rfl
theorem to90 {f : FuncId} {args : List PV} {H H' : Heap} {r : PV} (h : CallOk E9 Tryz.prog f args H r H') : CallOk E0 Tryz.prog f args H r H' := h.env rfl
theorem apT_i9 : ApT E9 25 25 1 8 := ⟨_, _, _, _, _, rfl, rfl, rfl, rfl, rfl, rfl, rfl, by decide, rfl⟩
theorem apT_c9 : ∃ by_, ApT E9 137 137 11 by_ ∧ by_ ≤ 1000 := ⟨_, ⟨_, _, _, _, _, rfl, rfl, rfl, rfl, rfl, rfl, rfl, by decide, rfl⟩, by decide⟩
theorem apT_t9 : ApT E9 22 22 4 56 := ⟨_, _, _, _, _, rfl, rfl, rfl, rfl, rfl, rfl, rfl, by decide, rfl⟩
theorem apI9 : ∃ by_, ApT E9 25 25 1 by_ ∧ by_ ≤ 1000 := ⟨8, apT_i9, by decide⟩
theorem apM9 : ∃ by_, ApT E9 22 22 4 by_ ∧ by_ ≤ 1000 := ⟨56, apT_t9, by decide⟩
theorem eqlT {a b : Int} (h : a = b) : aBin E9 .eql 3 (.int .i64 a) (.int .i64 b) = some (.bool true) := by
 show some (PV.bool (a == b)) = _
 simp [h]
theorem eqlF {a b : Int} (h : a ≠ b) : aBin E9 .eql 3 (.int .i64 a) (.int .i64 b) = some (.bool false) := by
 show some (PV.bool (a == b)) = _
 simp [h]
theorem intC_ok (l : List Int) : (intC l).all (fun c => c.all cellOk) = true := by
 simp only [intC, List.all_map, List.all_eq_true]
 intro _ _
 rfl
theorem noB_intC (l : List Int) : noB (intC l) = true := by
 simp only [intC, noB, List.all_map, List.all_eq_true]
 intro _ _
 rfl
theorem crC_ok (l : List Cred) : (crC l).all (fun c => c.all cellOk) = true := by
 simp only [crC, List.all_map, List.all_eq_true]
 rintro ⟨sub, ⟨k, nm, s, b, kids⟩, iss, pn, per, en, exc, ser, fr, till⟩ _
 simp only [Function.comp_apply, Cred.cells, Tm.cells, List.cons_append, List.nil_append, List.all_cons, List.all_nil, cellOk_slV, Bool.and_true]
 rfl
theorem noB_crC (l : List Cred) : noB (crC l) = true := by
 simp only [crC, noB, List.all_map, List.all_eq_true]
 rintro ⟨sub, ⟨k, nm, s, b, kids⟩, iss, pn, per, en, exc, ser, fr, till⟩ _
 rfl
theorem cloneI {L : List (List PV)} (hok : L.all (fun c => c.all cellOk) = true) (hnb : noB L = true) (hl : L.length ≤ 1000) (b : Bool) (lv : List Nat) (nt : Nat) : ∃ b2 out lv' nt', ApV b2 1 L out lv' nt' ∧
  ∀ bx : List Box, CallOk E9 Tryz.prog 11 [slV b 1 L] ⟨bx, bx.length, lv, nt⟩ out ⟨bx, bx.length, lv', nt'⟩ := by
 obtain ⟨by_, hT, hby⟩ := apI9
 obtain ⟨out, lv', nt', hap, hA, -⟩ := (ApV.full (es := 1) [] lv nt (rfl : false = false) rfl).app hT (.slV b 1 L) hok (fits_of (by simp; omega) (by omega)) hnb
 rw [List.nil_append] at hA
 cases L with
 | nil =>
   cases b with
   | true =>
     refine ⟨true, .nils, lv, nt, .nil _ _ rfl, fun bx => ?_⟩
     rw [slV_nil_true]
     clear hap hA
     refine callOk_wpE (own := fun _ => false) tOk9 fe11.ok ?_
     refine Wp.seq ?_
     repeat' first | refine κn ?_ | refine κt ?_ | refine κg ?_ | refine κa ?_ | fail
     all_goals exact RetE.ret rfl rfl rfl
   | false =>
     refine ⟨false, out, lv', nt', hA, fun bx => ?_⟩
     rw [slV_nil_false] at hap ⊢
     refine callOk_wpE (own := fun _ => false) tOk9 fe11.ok ?_
     refine Wp.seq ?_
     repeat' first | refine κn ?_ | refine κs ?_ | refine κA ?_ | refine κt ?_ | refine κg ?_ | refine κa ?_ | fail
     all_goals exact RetE.ret rfl rfl rfl
 | cons c r =>
   refine ⟨false, out, lv', nt', hA, fun bx => ?_⟩
   rw [slV_cons] at hap ⊢
   refine callOk_wpE (own := fun _ => false) tOk9 fe11.ok ?_
   refine Wp.seq ?_
   repeat' first | refine κn ?_ | refine κs ?_ | refine κA ?_ | refine κt ?_ | refine κg ?_ | refine κa ?_ | fail
   all_goals exact RetE.ret rfl rfl rfl
theorem cloneC {L : List (List PV)} (hok : L.all (fun c => c.all cellOk) = true) (hnb : noB L = true) (hl : L.length ≤ 1000) (b : Bool) (lv : List Nat) (nt : Nat) : ∃ b2 out lv' nt', ApV b2 11 L out lv' nt' ∧
  ∀ bx : List Box, CallOk E9 Tryz.prog 118 [slV b 11 L] ⟨bx, bx.length, lv, nt⟩ out ⟨bx, bx.length, lv', nt'⟩ := by
 obtain ⟨by_, hT, hby⟩ := apT_c9
 obtain ⟨out, lv', nt', hap, hA, -⟩ := (ApV.full (es := 11) [] lv nt (rfl : false = false) rfl).app hT (.slV b 11 L) hok (fits_of (by simp; omega) (by omega)) hnb
 rw [List.nil_append] at hA
 cases L with
 | nil =>
   cases b with
   | true =>
     refine ⟨true, .nils, lv, nt, .nil _ _ rfl, fun bx => ?_⟩
     rw [slV_nil_true]
     clear hap hA
     refine callOk_wpE (own := fun _ => false) tOk9 fe118.ok ?_
     refine Wp.seq ?_
     repeat' first | refine κn ?_ | refine κt ?_ | refine κg ?_ | refine κa ?_ | fail
     all_goals exact RetE.ret rfl rfl rfl
   | false =>
     refine ⟨false, out, lv', nt', hA, fun bx => ?_⟩
     rw [slV_nil_false] at hap ⊢
     refine callOk_wpE (own := fun _ => false) tOk9 fe118.ok ?_
     refine Wp.seq ?_
     repeat' first | refine κn ?_ | refine κs ?_ | refine κA ?_ | refine κt ?_ | refine κg ?_ | refine κa ?_ | fail
     all_goals exact RetE.ret rfl rfl rfl
 | cons c r =>
   refine ⟨false, out, lv', nt', hA, fun bx => ?_⟩
   rw [slV_cons] at hap ⊢
   refine callOk_wpE (own := fun _ => false) tOk9 fe118.ok ?_
   refine Wp.seq ?_
   repeat' first | refine κn ?_ | refine κs ?_ | refine κA ?_ | refine κt ?_ | refine κg ?_ | refine κa ?_ | fail
   all_goals exact RetE.ret rfl rfl rfl
theorem cloneT {L : List (List PV)} (hok : L.all (fun c => c.all cellOk) = true) (hnb : noB L = true) (hl : L.length ≤ 1000) (b : Bool) (lv : List Nat) (nt : Nat) : ∃ b2 out lv' nt', ApV b2 4 L out lv' nt' ∧
  ∀ bx : List Box, CallOk E9 Tryz.prog 9 [slV b 4 L] ⟨bx, bx.length, lv, nt⟩ out ⟨bx, bx.length, lv', nt'⟩ := by
 obtain ⟨by_, hT, hby⟩ := apM9
 obtain ⟨out, lv', nt', hap, hA, -⟩ := (ApV.full (es := 4) [] lv nt (rfl : false = false) rfl).app hT (.slV b 4 L) hok (fits_of (by simp; omega) (by omega)) hnb
 rw [List.nil_append] at hA
 cases L with
 | nil =>
   cases b with
   | true =>
     refine ⟨true, .nils, lv, nt, .nil _ _ rfl, fun bx => ?_⟩
     rw [slV_nil_true]
     clear hap hA
     refine callOk_wpE (own := fun _ => false) tOk9 fe9.ok ?_
     refine Wp.seq ?_
     repeat' first | refine κn ?_ | refine κt ?_ | refine κg ?_ | refine κa ?_ | fail
     all_goals exact RetE.ret rfl rfl rfl
   | false =>
     refine ⟨false, out, lv', nt', hA, fun bx => ?_⟩
     rw [slV_nil_false] at hap ⊢
     refine callOk_wpE (own := fun _ => false) tOk9 fe9.ok ?_
     refine Wp.seq ?_
     repeat' first | refine κn ?_ | refine κs ?_ | refine κA ?_ | refine κt ?_ | refine κg ?_ | refine κa ?_ | fail
     all_goals exact RetE.ret rfl rfl rfl
 | cons c r =>
   refine ⟨false, out, lv', nt', hA, fun bx => ?_⟩
   rw [slV_cons] at hap ⊢
   refine callOk_wpE (own := fun _ => false) tOk9 fe9.ok ?_
   refine Wp.seq ?_
   repeat' first | refine κn ?_ | refine κs ?_ | refine κA ?_ | refine κt ?_ | refine κg ?_ | refine κa ?_ | fail
   all_goals exact RetE.ret rfl rfl rfl
def optV : Option (List Int) → PV
 | none => .nils
 | some r => slV true 1 (intC r)
theorem find_len {q : Qn} {name : Bs} : ∀ {d : Nat} {p : List Int} {b : List Cred} {r : List Int}, gofF q name d p b = some r → r.length = p.length + d
 | 0, p, b, r, h => by
   simp only [gofF] at h
   split at h
   · cases h; rfl
   · cases h
 | d + 1, p, b, r, h => by
   simp only [gofF] at h
   have key : ∀ m i, tryQ q name d p b i m = some r → r.length = p.length + (d + 1) := by
    intro m
    induction m with
    | zero => intro i h; simp [tryQ] at h
    | succ m ih =>
      intro i h
      simp only [tryQ] at h
      split at h
      · exact ih _ h
      · split at h
        · rename_i e
          cases h
          have := find_len e
          simp only [List.length_append, List.length_singleton] at this
          omega
        · exact ih _ h
   exact key _ _ h
theorem optV_some {r : List Int} (h : 0 < r.length) : ∃ a l, optV (some r) = .sl .none 1 (a :: l) := by
 cases r with
 | nil => simp at h
 | cons a l => exact ⟨_, _, by simp only [optV, intC, List.map_cons, slV_cons]; rfl⟩
theorem frz3_opt (m : Nat) (H : Heap) (o : Option (List Int)) : frz3 m H (optV o) = some (optV o) := by
 cases o with
 | none => rfl
 | some r => exact frz3_slV _ _ _ _ _
theorem nxtF_sm {q : Qn} (hq : QnOk q) {p : List Int} {bef : List Cred} {i : Nat} (h : (nxtF q p bef i).2 = 0) : CrSm (nxtF q p bef i).1 := by
 unfold nxtF at h ⊢
 cases ht : q.terms[i]? with
 | none => rw [ht] at h; cases h
 | some t =>
   have hm := List.mem_of_getElem? ht
   have hs := read_sm (hq.t t hm) (hq.ts t hm)
   rw [ht] at h
   simp only [] at h ⊢
   split at h; · cases h
   split at h; · rename_i h2; exact absurd h h2
   split at h; · cases h
   split at h; · cases h
   split at h; · cases h
   split at h; · cases h
   rename_i hz1 h2 h3 h4 h5 h6
   rw [if_neg hz1, if_neg h2, if_neg h3, if_neg h4, if_neg h5, if_neg h6]
   exact hs
theorem frzFi (q : Qn) (qb qb' pb bb : Bool) (p c : List (List PV)) (name : Bs) (i : Int) : frzGL [.agg (q.cells qb qb'), slV pb 1 p, slV bb 11 c, .str name, .int .i64 i] = some [.agg (q.cells qb qb'), slV pb 1 p, slV bb 11 c, .str name, .int .i64 i] := by
 obtain ⟨terms, ⟨k, nm, s, b, kids⟩, now, rev⟩ := q
 simp only [Qn.cells, Tm.cells, List.cons_append, List.nil_append, frzGL, frzG_slV]
 simp only [frzG, frzL, frz1_slV]
 rfl
theorem neqF (r : List Int) (h : 0 < r.length) : aBin E9 .neq 25 (optV (some r)) .nils = some (.bool true) := by
 obtain ⟨a, l, e⟩ := optV_some h
 rw [e]
 rfl
theorem eqlS (a b : Bs) : aBin E0 .eql 9 (.str a) (.str b) = some (.bool (decide (a = b))) := by
 show some (PV.bool (a == b)) = _
 by_cases h : a = b <;> simp [h]
theorem c55 {q : Qn} (hq : QnOk q) (name : Bs) (qb qb' : Bool) : ∀ (d : Nat) {p : List Int} {bef : List Cred}, p.length = bef.length → p.length + d ≤ 4 → 1 ≤ p.length + d → (∀ y, y ∈ bef → CrSm y) → ∀ (pb bb : Bool) (H : Heap),
  CallOk E9 Tryz.prog 55 [.agg (q.cells qb qb'), slV pb 1 (intC p), slV bb 11 (crC bef), .str name, .int .i64 ((p.length + d : Nat) : Int)] H (optV (gofF q name d p bef)) H
 | 0, p, bef, hlen, h4, hz1, hb, pb, bb => by
   have hfz := frzFi q qb qb' pb bb (intC p) (crC bef) name ((p.length + 0 : Nat) : Int)
   have hfr := fun m H => frz3_opt m H (gofF q name 0 p bef)
   have hpl := intC_len p
   have gz1 : aBin E9 .eql 3 (.int .i64 ((intC p).length : Int)) (.int .i64 ((p.length + 0 : Nat) : Int)) = some (.bool true) := by
    rw [hpl]
    exact eqlT (by omega)
   have g2 : aBin E9 .sub 3 (.int .i64 ((p.length + 0 : Nat) : Int)) (.int .i64 1) = some (.int .i64 ((bef.length - 1 : Nat) : Int)) := by
    show some (PV.int .i64 (IntKind.i64.wrap (((p.length + 0 : Nat) : Int) - 1))) = _
    rw [IntWalk.i64_in _ (by omega)]
    congr 2
    omega
   obtain ⟨c, hc⟩ : ∃ c, bef[bef.length - 1]? = some c := ⟨bef[bef.length - 1]'(by omega), List.getElem?_eq_getElem (by omega)⟩
   have hj := crC_get hc
   have e1 : aBin E9 .eql 9 (.str c.sub) (.str name) = some (.bool (decide (c.sub = name))) := eqlS _ _
   have hs : subQ bef = c.sub := by unfold subQ lastC; rw [hc]
   simp only [gofF, hs] at hfr ⊢
   have hpv : ∀ (b : Bool), slV b 1 (intC p) = slV true 1 (intC p) := fun b => by
    cases p with
    | nil => simp at hz1
    | cons a l => simp only [intC, List.map_cons, slV_cons]
   rw [hpv pb] at hfz ⊢
   generalize bef.length - 1 = j at g2 hj
   generalize ((p.length + 0 : Nat) : Int) = N at hfz gz1 g2 ⊢
   generalize crC bef = L at hfz hj ⊢
   clear hb hlen h4 hz1 hq hpl hpv hs hc
   obtain ⟨terms, ⟨k, nm, s, b, kids⟩, now, rev⟩ := q
   obtain ⟨csub, ⟨k4, nm4, s4, b4, kids4⟩, ciss, cpn, cper, cen, cexc, cser, cfr, ctill⟩ := c
   simp only [Qn.cells, Cred.cells, Tm.cells, List.cons_append, List.nil_append] at hfz hj e1 hfr ⊢
   by_cases he : csub = name
   · rw [decide_eq_true he] at e1
     rw [if_pos he] at hfr ⊢
     simp only [optV] at hfr ⊢
     generalize intC p = M at hfz gz1 hfr ⊢
     refine callOk_wp (own := (fun d => [5046, 5049, 5051, 5054].any (Nat.beq d))) tOk9 fe55.ok hfz (hfr 0 hNil) ?_
     refine Wp.seq ?_
     repeat' first | refine κn ?_ | refine κi ?_ | refine κl ?_ | refine κx ?_ | refine κg ?_ | refine κa ?_ | refine κf ?_ | fail
     all_goals exact hfr _ _
   · rw [decide_eq_false he] at e1
     rw [if_neg he] at hfr ⊢
     simp only [optV] at hfr ⊢
     generalize intC p = M at hfz gz1 ⊢
     refine callOk_wp (own := (fun d => [5046, 5049, 5051, 5054].any (Nat.beq d))) tOk9 fe55.ok hfz (hfr 0 hNil) ?_
     refine Wp.seq ?_
     repeat' first | refine κn ?_ | refine κi ?_ | refine κl ?_ | refine κx ?_ | refine κg ?_ | refine κa ?_ | refine κf ?_ | fail
     all_goals exact hfr _ _
 | d + 1, p, bef, hlen, h4, hz1, hb, pb, bb => by
   have hfz := frzFi q qb qb' pb bb (intC p) (crC bef) name ((p.length + (d + 1) : Nat) : Int)
   have hfr := fun m H => frz3_opt m H (gofF q name (d + 1) p bef)
   have hpl := intC_len p
   have hcl := crC_len bef
   have htl := cellsL_length q.terms
   have hql := hq.tl
   have gz1 : aBin E9 .eql 3 (.int .i64 ((intC p).length : Int)) (.int .i64 ((p.length + (d + 1) : Nat) : Int)) = some (.bool false) := by
    rw [hpl]
    exact eqlF (by omega)
   simp only [gofF] at hfr ⊢
   refine callOk_wp (own := (fun d => [5046, 5049, 5051, 5054].any (Nat.beq d))) tOk9 fe55.ok hfz (hfr 0 hNil) ?_
   refine Wp.seq ?_
   obtain ⟨N, hN⟩ : ∃ N : Int, N = ((p.length + (d + 1) : Nat) : Int) := ⟨_, rfl⟩
   rw [← hN] at gz1 ⊢
   have hqc : ∃ ak anm aks ab akids, q.anchor = .mk ak anm aks ab akids := by obtain ⟨k, nm, s, b, kids⟩ := q.anchor; exact ⟨_, _, _, _, _, rfl⟩
   obtain ⟨ak, anm, aks, ab, akids, hqa⟩ := hqc
   have hqe : q.cells qb qb' = [slV qb 4 (cellsL q.terms), .int .i64 ak, .str anm, .int .i64 aks, slV ab 4 (cellsL akids), .int .i64 q.now, slV qb' 1 (intC q.rev)] := by
    unfold Qn.cells
    rw [hqa]
    rfl
   rw [hqe]
   repeat' first | refine κn ?_ | refine κi ?_ | refine κl ?_ | refine κg ?_ | refine κa ?_ | fail
   refine Wp.while (fun m tm H => ∃ (i : Nat) (base : TM) (lv : List Nat) (nt : Nat), i + m = q.terms.length ∧ tryQ q name d p bef 0 q.terms.length = tryQ q name d p bef i m ∧
     tm = ovr base [(1, slV pb 1 (intC p)), (2, slV bb 11 (crC bef)), (3, .str name), (4, .int .i64 N), (5, .ptr 0 7 0 0), (30, .int .i64 (q.terms.length : Int)), (31, .int .i64 (i : Int))] ∧
     H = ⟨[.cells 7 [q.cells qb qb']], 0, lv, nt⟩)
    (fun m tm H hI => Wp.drop ?_) q.terms.length _ _ ⟨0, _, [], 0, by omega, rfl, ovr_mk ⟨rfl, rfl, rfl, rfl, rfl, int_eq (by rw [htl]), rfl, trivial⟩, by rw [hqe]⟩
   obtain ⟨i, base, lv, nt, hi, hf, rfl, rfl⟩ := hI
   rw [hqe]
   by_cases hlt : i < q.terms.length
   · have hlx : aBin E9 .lss 3 (.int .i64 (i : Int)) (.int .i64 (q.terms.length : Int)) = some (.bool true) := lss_t (by omega)
     obtain ⟨m', rfl⟩ : ∃ m', m = m' + 1 := ⟨m - 1, by omega⟩
     have cn := fun H => to09 (c117 hq (p := p) (by omega) hb (by omega) hlt qb qb' pb bb H)
     have be := err_eq (nxtF q p bef i).2
     have hsm := nxtF_sm hq (p := p) (bef := bef) (i := i)
     simp only [tryQ] at hf
     rw [hqe] at cn
     by_cases he : (nxtF q p bef i).2 = 0
     · rw [decide_eq_false (not_not_intro he)] at be
       rw [if_neg (not_not_intro he)] at hf
       have hX := hsm he
       have cfd := c55 hq name qb qb' d (p := p ++ [(i : Int)]) (bef := bef ++ [(nxtF q p bef i).1]) (by simp; omega) (by simp; omega) (by simp; omega) (fun y hy => by
        simp only [List.mem_append, List.mem_singleton] at hy
        rcases hy with hy | rfl
        · exact hb y hy
        · exact hX)
       have hfl := fun r => find_len (q := q) (name := name) (d := d) (p := p ++ [(i : Int)]) (b := bef ++ [(nxtF q p bef i).1]) (r := r)
       have hNe : (((p ++ [(i : Int)]).length + d : Nat) : Int) = N := by rw [hN]; simp; omega
       rw [hNe, hqe] at cfd
       obtain ⟨by_, hT, hby⟩ := apT_c9
       obtain ⟨b2, o1, lv1, nt1, A1, k1⟩ := cloneI (intC_ok p) (noB_intC p) (by omega) pb lv nt
       obtain ⟨o2, lv2, nt2, a2, A2, -⟩ := A1.app apT_i9 (.sl .full 1 (intC [(i : Int)])) (intC_ok _) (fits_of (by simp [intC]; omega) (by decide)) (noB_intC _)
       obtain ⟨b3, o3, lv3, nt3, A3, k3⟩ := cloneC (crC_ok bef) (noB_crC bef) (by omega) bb lv2 nt2
       obtain ⟨o4, lv4, nt4, a4, A4, -⟩ := A3.app hT (.sl .full 11 (crC [(nxtF q p bef i).1])) (crC_ok _) (fits_of (by simp [crC]; omega) (by omega)) (noB_crC _)
       have ei : intC p ++ intC [(i : Int)] = intC (p ++ [(i : Int)]) := by simp [intC]
       have ec : crC bef ++ crC [(nxtF q p bef i).1] = crC (bef ++ [(nxtF q p bef i).1]) := by simp [crC]
       rw [ei] at A2
       rw [ec] at A4
       have cff : ∀ H, CallOk E9 Tryz.prog 55 [.agg [slV qb 4 (cellsL q.terms), .int .i64 ak, .str anm, .int .i64 aks, slV ab 4 (cellsL akids), .int .i64 q.now, slV qb' 1 (intC q.rev)], o2, o4, .str name, .int .i64 N] H (optV (gofF q name d (p ++ [(i : Int)]) (bef ++ [(nxtF q p bef i).1]))) H := fun H => by
        refine callOk_frz (cfd b2 b3 H) ?_
        simp only [frzGL, A2.frzG, A4.frzG]
        simp only [frzG, frzL, frz1_slV]
        rfl
       clear cfd
       have k1 := k1
       rw [show crC [(nxtF q p bef i).1] = [(nxtF q p bef i).1.cells] from rfl] at a4
       rw [show intC [(i : Int)] = [[.int .i64 (i : Int)]] from rfl] at a2
       generalize hRe : gofF q name d (p ++ [(i : Int)]) (bef ++ [(nxtF q p bef i).1]) = R at cff hf hfl
       clear A1 A2 A3 A4 ei ec hsm hX
       generalize hYe : nxtF q p bef i = Y at cn be a4 he
       clear hYe hRe
       obtain ⟨Y, Ye⟩ := Y
       simp only [] at cn be a4 he
       obtain ⟨ysub, ⟨k, nm, s, b, kids⟩, iss, pn, per, en, exc, ser, fr, till⟩ := Y
       simp only [Cred.cells, Tm.cells, List.cons_append, List.nil_append] at cn a4
       cases R with
       | some r =>
         have hr0 : 0 < r.length := by
          have := hfl r rfl
          simp only [List.length_append, List.length_singleton] at this
          omega
         have hne := neqF r hr0
         rw [hf] at hfr ⊢
         simp only [] at hfr ⊢
         generalize optV (some r) = V at cff hne hfr ⊢
         repeat' first | refine κn ?_ | refine κc (cn _) ?_ | refine κi ?_ | refine κg ?_ | refine κd (cff _) ?_ | (apply dCt; rfl; rfl; rfl; rfl; rfl; exact (k1 _)) | (apply dCt; rfl; rfl; rfl; rfl; rfl; exact (k3 _)) | refine κB ?_ | (apply dAq; rfl; rfl; rfl; rfl; rfl; rfl; (first | assumption | solve_by_elim)) | refine κh ?_ | refine κa ?_ | (apply Wp.draw tOk9 follows; kernel_rfl) | refine κf ?_ | fail
         all_goals exact hfr _ _
       | none =>
         simp only [] at hf
         have cff : ∀ H, CallOk E9 Tryz.prog 55 [.agg [slV qb 4 (cellsL q.terms), .int .i64 ak, .str anm, .int .i64 aks, slV ab 4 (cellsL akids), .int .i64 q.now, slV qb' 1 (intC q.rev)], o2, o4, .str name, .int .i64 N] H .nils H := cff
         repeat' first | refine κn ?_ | refine κc (cn _) ?_ | refine κi ?_ | refine κt ?_ | refine κg ?_ | refine κd (cff _) ?_ | (apply dCt; rfl; rfl; rfl; rfl; rfl; exact (k1 _)) | (apply dCt; rfl; rfl; rfl; rfl; rfl; exact (k3 _)) | refine κB ?_ | (apply dAq; rfl; rfl; rfl; rfl; rfl; rfl; (first | assumption | solve_by_elim)) | refine κh ?_ | refine κa ?_ | (apply Wp.draw tOk9 follows; kernel_rfl) | fail
         exact DropQ.go [(1, slV pb 1 (intC p)), (2, slV bb 11 (crC bef)), (3, .str name), (4, .int .i64 N), (5, .ptr 0 7 0 0), (30, .int .i64 (q.terms.length : Int)), (31, .int .i64 ((i + 1 : Nat) : Int))] ⟨rfl, rfl, rfl, rfl, rfl, rfl, int_eq (wrap_nat (n := i + 1) (by omega)), trivial⟩
          (by simp [under_slV, under]) rfl (by simp [boxU, underL, under, under_slV]) (LoopI.go m' (by omega) ⟨i + 1, _, _, _, by omega, hf, rfl, rfl⟩)
     · rw [decide_eq_true he] at be
       rw [if_pos he] at hf
       clear hsm
       generalize hYe : nxtF q p bef i = Y at cn be
       clear hYe he
       obtain ⟨Y, Ye⟩ := Y
       simp only [] at cn be
       obtain ⟨ysub, ⟨k, nm, s, b, kids⟩, iss, pn, per, en, exc, ser, fr, till⟩ := Y
       simp only [Cred.cells, Tm.cells, List.cons_append, List.nil_append] at cn
       repeat' first | refine κn ?_ | refine κc (cn _) ?_ | refine κi ?_ | refine κg ?_ | refine κa ?_ | fail
       exact DropQ.go [(1, slV pb 1 (intC p)), (2, slV bb 11 (crC bef)), (3, .str name), (4, .int .i64 N), (5, .ptr 0 7 0 0), (30, .int .i64 (q.terms.length : Int)), (31, .int .i64 ((i + 1 : Nat) : Int))] ⟨rfl, rfl, rfl, rfl, rfl, rfl, int_eq (wrap_nat (n := i + 1) (by omega)), trivial⟩
        (by simp [under_slV, under]) rfl (by simp [boxU, underL, under, under_slV]) (LoopI.go m' (by omega) ⟨i + 1, _, _, _, by omega, hf, rfl, rfl⟩)
   · have e : i = q.terms.length := by omega
     have hlx : aBin E9 .lss 3 (.int .i64 (i : Int)) (.int .i64 (q.terms.length : Int)) = some (.bool false) := lss_f (by omega)
     obtain rfl : m = 0 := by omega
     simp only [tryQ] at hf
     rw [hf] at hfr ⊢
     simp only [optV] at hfr ⊢
     repeat' first | refine κn ?_ | refine κi ?_ | refine κg ?_ | refine κa ?_ | refine κf ?_ | fail
     all_goals exact hfr _ _
end Go.Vm.Seat
