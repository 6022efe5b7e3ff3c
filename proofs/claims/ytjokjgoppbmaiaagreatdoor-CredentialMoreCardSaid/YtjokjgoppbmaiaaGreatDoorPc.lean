/-
  A path of credentials: the program's function, and the statement's calls of it.
-/
import Derived.Test.YtjokjgoppbmaiaaGreatDoorPb
import Derived.Test.YtjokjgoppbmaiaaGreatDoorFi
import Derived.Test.YtjokjgoppbmaiaaGreatDoorAw55a
import Derived.Test.YtjokjgoppbmaiaaGreatDoorDf
set_option maxHeartbeats 64000000
set_option maxRecDepth 100000
namespace Go.Vm.Seat
open Go.Proofs
theorem slV_orP (b : Bool) (n : Nat) (L : List (List PV)) : slV b n L = .nils ∨ slV b n L = .sl .none n L := by
 cases L with
 | nil =>
   cases b
   · exact .inr (slV_false _ _)
   · exact .inl (slV_nil_true _)
 | cons a r => exact .inr (slV_cons _ _ _ _)
theorem frz3_optI (m : Nat) (H : Heap) (o : Option (List Int)) (e : Int) : frz3 m H (.tup [optV o, .int .i64 e]) = some (.tup [optV o, .int .i64 e]) := by
 cases o with
 | none => rfl
 | some r =>
   simp only [optV]
   rcases slV_orP true 1 (intC r) with h | h <;> rw [h] <;> rfl
theorem buildQ (q : Qn) (b b' : Bool) : aBuild E9 92 [(0, slV b 4 (cellsL q.terms)), (1, .agg q.anchor.cells), (2, .int .i64 q.now), (3, slV b' 1 (intC q.rev))] = some (.agg (q.cells b b')) := by
 obtain ⟨terms, ⟨k, nm, s, tb, kids⟩, now, rev⟩ := q
 simp only [Qn.cells, Tm.cells, List.cons_append, List.nil_append]
 rcases slV_orP b 4 (cellsL terms) with h | h <;> rcases slV_orP b' 1 (intC rev) with h' | h' <;> rw [h, h'] <;> rfl
theorem frzG_tmP (t : Tm) : frzG (.agg t.cells) = some (.agg t.cells) := by
 obtain ⟨k, nm, s, b, kids⟩ := t
 simp only [Tm.cells, frzG, frzL, frz1_slV]
 rfl
theorem frzPt (q : Qn) (b b' : Bool) (name : Bs) : frzGL [slV b 4 (cellsL q.terms), .agg q.anchor.cells, .str name, .int .i64 q.now, slV b' 1 (intC q.rev)] = some [slV b 4 (cellsL q.terms), .agg q.anchor.cells, .str name, .int .i64 q.now, slV b' 1 (intC q.rev)] := by
 simp only [frzGL, frzG_slV, frzG_tmP]
 rfl
theorem c25 {q : Qn} (hq : QnOk q) {name : Bs} (hn : name.length ≤ 1000) (qb qb' : Bool) : ∀ H, CallOk E9 Tryz.prog 25 [slV qb 4 (cellsL q.terms), .agg q.anchor.cells, .str name, .int .i64 q.now, slV qb' 1 (intC q.rev)] H (.tup [optV (pathQ q name).1, .int .i64 (pathQ q name).2]) H := by
 have hfz := frzPt q qb qb' name
 have hfr := fun m H => frz3_optI m H (pathQ q name).1 (pathQ q name).2
 have htl := cellsL_length q.terms
 have cd := fun H => to09 (c51 (s := name) (by omega) H)
 have hbd := buildQ q qb qb'
 have cfd := fun (n : Nat) (hz1 : 1 ≤ n) (h4 : n ≤ 4) => c55 hq name qb qb' n (p := []) (bef := []) rfl (by simpa using h4) (by simpa using hz1) (fun y hy => absurd hy (by simp)) true true
 have hfl := fun (n : Nat) r => find_len (q := q) (name := name) (d := n) (p := []) (b := []) (r := r)
 have hqc : ∃ ak anm aks ab akids, q.anchor = .mk ak anm aks ab akids := by obtain ⟨k, nm, s, b, kids⟩ := q.anchor; exact ⟨_, _, _, _, _, rfl⟩
 obtain ⟨ak, anm, aks, ab, akids, hqa⟩ := hqc
 have hqe : q.cells qb qb' = [slV qb 4 (cellsL q.terms), .int .i64 ak, .str anm, .int .i64 aks, slV ab 4 (cellsL akids), .int .i64 q.now, slV qb' 1 (intC q.rev)] := by
  unfold Qn.cells
  rw [hqa]
  rfl
 have hac : q.anchor.cells = [.int .i64 ak, .str anm, .int .i64 aks, slV ab 4 (cellsL akids)] := by rw [hqa]; rfl
 rw [hqe, hac] at hbd
 rw [hac] at hfz ⊢
 unfold pathQ at hfr ⊢
 by_cases h8 : 8 < q.terms.length
 · have g : aBin E9 .gtr 3 (.int .i64 ((cellsL q.terms).length : Int)) (.int .i64 8) = some (.bool true) := gtr_t (by omega)
   rw [if_pos h8] at hfr ⊢
   clear hbd cfd hfl cd
   simp only [optV] at hfr ⊢
   refine κw tOk9 fe25.ok (hfr 0 hNil) ?_ hfz
   repeat' first | refine κn ?_ | refine κi ?_ | refine κl ?_ | refine κt ?_ | refine κg ?_ | refine κa ?_ | refine κf ?_ | fail
   all_goals exact hfr _ _
 · have g : aBin E9 .gtr 3 (.int .i64 ((cellsL q.terms).length : Int)) (.int .i64 8) = some (.bool false) := gtr_f (by omega)
   rw [if_neg h8] at hfr ⊢
   by_cases hd : dottedB name = false
   · rw [if_pos hd] at hfr ⊢
     rw [hd] at cd
     clear hbd cfd hfl
     simp only [optV] at hfr ⊢
     refine κw tOk9 fe25.ok (hfr 0 hNil) ?_ hfz
     repeat' first | refine κn ?_ | refine κc (cd _) ?_ | refine κi ?_ | refine κl ?_ | refine κt ?_ | refine κg ?_ | refine κa ?_ | refine κf ?_ | fail
     all_goals exact hfr _ _
   · rw [if_neg hd] at hfr ⊢
     rw [show dottedB name = true by simpa using hd] at cd
     obtain ⟨RES, hRES⟩ : ∃ RES, RES = lenQ q name 1 4 := ⟨_, rfl⟩
     rw [← hRES] at hfr ⊢
     refine κw tOk9 fe25.ok (hfr 0 hNil) ?_ hfz
     repeat' first | refine κn ?_ | refine κc (cd _) ?_ | refine κi ?_ | (apply qBd; rfl; rfl; rfl; assumption; exact IsV.aggN) | refine κl ?_ | refine κt ?_ | refine κg ?_ | refine κa ?_ | fail
     refine Wp.while (fun m tm H => ∃ (n : Nat) (base : TM), n + m = 5 ∧ 1 ≤ n ∧ RES = lenQ q name n m ∧ tm = ovr base [(2, .str name), (12, .ptr 1 7 0 0), (13, .int .i64 (n : Int))] ∧
       H = ⟨[.cells 4 [q.anchor.cells], .cells 7 [q.cells qb qb']], 0, [], 0⟩)
      (fun m tm H hI => ?_) 4 _ _ ⟨1, _, rfl, by omega, hRES, ovr_mk ⟨rfl, rfl, rfl, trivial⟩, by rw [hqe, hac]⟩
     obtain ⟨n, base, hi, hz1, hf, rfl, rfl⟩ := hI
     clear hRES
     rw [hqe, hac]
     by_cases hlt : n ≤ 4
     · have hlx : aBin E9 .leq 3 (.int .i64 (n : Int)) (.int .i64 4) = some (.bool true) := by
         show some (PV.bool (decide ((n : Int) ≤ 4))) = _
         rw [decide_eq_true (by omega)]
       obtain ⟨m', rfl⟩ : ∃ m', m = m' + 1 := ⟨m - 1, by omega⟩
       have cf := cfd n hz1 hlt
       have hfl := hfl n
       rw [show intC [] = [] from rfl, show crC [] = [] from rfl, slV_nil_true, slV_nil_true, hqe, show (([] : List Int).length + n : Nat) = n from Nat.zero_add n] at cf
       simp only [lenQ] at hf
       generalize hRe : gofF q name n [] [] = R at cf hf hfl
       cases R with
       | some r =>
         have hr0 : 0 < r.length := by
          have := hfl r rfl
          simp only [List.length_nil] at this
          omega
         have hne := neqF r hr0
         simp only [] at hf
         rw [hf] at hfr ⊢
         simp only [] at hfr ⊢
         generalize optV (some r) = V at cf hne hfr ⊢
         repeat' first | refine κn ?_ | refine κc (cf _) ?_ | refine κi ?_ | refine κg ?_ | refine κa ?_ | refine κf ?_ | fail
         all_goals exact hfr _ _
       | none =>
         simp only [] at hf
         have cf : ∀ H, CallOk E9 Tryz.prog 55 [.agg [slV qb 4 (cellsL q.terms), .int .i64 ak, .str anm, .int .i64 aks, slV ab 4 (cellsL akids), .int .i64 q.now, slV qb' 1 (intC q.rev)], .nils, .nils, .str name, .int .i64 (n : Int)] H .nils H := cf
         repeat' first | refine κn ?_ | refine κc (cf _) ?_ | refine κi ?_ | refine κt ?_ | refine κg ?_ | refine κa ?_ | fail
         exact LoopI.go m' (by omega) ⟨n + 1, _, by omega, by omega, hf, ovr_mk ⟨rfl, rfl, int_eq (wrap_nat (n := n + 1) (by omega)), trivial⟩, rfl⟩
     · have hlx : aBin E9 .leq 3 (.int .i64 (n : Int)) (.int .i64 4) = some (.bool false) := by
         show some (PV.bool (decide ((n : Int) ≤ 4))) = _
         rw [decide_eq_false (by omega)]
       obtain rfl : m = 0 := by omega
       simp only [lenQ] at hf
       rw [hf] at hfr ⊢
       simp only [optV] at hfr ⊢
       repeat' first | refine κn ?_ | refine κi ?_ | refine κg ?_ | refine κa ?_ | refine κf ?_ | fail
       all_goals exact hfr _ _
def quC (q : Qn) (name : Bs) (rv : PV) : List PV := q.anchor.cells ++ [.str name, .int .i64 q.now, rv]
theorem apElems_at {t u : TypeId} {es by_ : Nat} (hT : ApT E9 t u es by_) {s x : PV} {el : List (List PV)} {H : Heap} (hx : slElems H x = some el) (hz : slSize es x = es) (hok : el.all (fun c => c.all cellOk) = true) (hs : slSize es s = es) (ho : slOk s = true) :
  apElems E9 t u s x H = some (es, by_, el) := by
 obtain ⟨ti, ui, e, f, ei, hz1, h2, h3, h4, h5, h6, h7, h8, h9⟩ := hT.h
 simp only [apElems, hz1, h2, h3, h4, h5]
 subst h6 h7
 rw [if_pos ⟨h8, h9, hs, hz⟩, hx]
 simp only [hok, ho, and_self, if_true]
theorem frzLL_intC (l : List Int) : frzLL (intC l) = some (intC l) := by
 induction l with
 | nil => rfl
 | cons a r ih =>
   show frzLL ([.int .i64 a] :: intC r) = _
   simp only [frzLL, ih]
   rfl
theorem elems_own {bx : List Box} {ro nt : Nat} {lv : List Nat} {r D : List Int} (hb : nth bx 3 = some (.cells 1 (intC (r ++ D)))) : slElems ⟨bx, ro, lv, nt⟩ (.own 3 1 0 r.length) = some (intC r) := by
 simp only [slElems, hb]
 rw [if_pos ⟨trivial, by simp [intC]⟩, List.drop_zero, show (intC (r ++ D)).take r.length = intC r by simp [intC], frzLL_intC]
theorem cloneO (r : List Int) (hl : r.length ≤ 1000) (lv : List Nat) (nt : Nat) : ∃ b2 out lv' nt', ApV b2 1 (intC r) out lv' nt' ∧
  ∀ (bx : List Box) (D : List Int), nth bx 3 = some (.cells 1 (intC (r ++ D))) → CallOk E9 Tryz.prog 11 [.own 3 1 0 r.length] ⟨bx, bx.length, lv, nt⟩ out ⟨bx, bx.length, lv', nt'⟩ := by
 cases r with
 | nil =>
   refine ⟨false, .sl .full 1 [], lv, nt, .full [] _ _ rfl rfl, fun bx D hb => ?_⟩
   have he := fun ro => apElems_at (s := .sl .full 1 []) apT_i9 (elems_own (ro := ro) (lv := lv) (nt := nt) (r := []) hb) rfl (intC_ok _) rfl rfl
   have hap : ∀ ro, aAppend E9 25 25 (.sl .full 1 []) (.own 3 1 0 ([] : List Int).length) ⟨bx, ro, lv, nt⟩ = some (.sl .full 1 [], ⟨bx, ro, lv, nt⟩) := fun ro => by
    simp only [aAppend, he ro]
    rfl
   clear he
   refine callOk_wpE (own := fun _ => false) tOk9 fe11.ok ?_
   refine Wp.seq ?_
   repeat' first | refine κn ?_ | refine κs ?_ | refine κA ?_ | refine κt ?_ | refine κg ?_ | refine κa ?_ | fail
   all_goals exact RetE.ret rfl rfl rfl
 | cons a l =>
   refine ⟨false, .sl (.tok nt) 1 (intC (a :: l)), nt :: lv, nt + 1, .tok _ nt _ _ (by simp [intC]) List.mem_cons_self (Nat.lt_succ_self _) (noB_intC _), fun bx D hb => ?_⟩
   have he := fun ro => apElems_at (s := .sl .full 1 []) apT_i9 (elems_own (ro := ro) (lv := lv) (nt := nt) (r := a :: l) hb) rfl (intC_ok _) rfl rfl
   have hap : ∀ ro, aAppend E9 25 25 (.sl .full 1 []) (.own 3 1 0 (a :: l).length) ⟨bx, ro, lv, nt⟩ = some (.sl (.tok nt) 1 (intC (a :: l)), ⟨bx, ro, nt :: lv, nt + 1⟩) := fun ro => by
    simp only [aAppend, he ro]
    show (if (apFits 0 (intC (a :: l)).length 8 && tokB _ (intC (a :: l))) = true then _ else _) = _
    rw [if_pos (by rw [fits_of (by simp [intC] at hl ⊢; omega) (by decide), tokB_of (noB_intC (a :: l))]; rfl)]
    rfl
   clear he
   generalize intC (a :: l) = L at hap ⊢
   generalize (a :: l).length = n at hap ⊢
   refine callOk_wpE (own := fun _ => false) tOk9 fe11.ok ?_
   refine Wp.seq ?_
   repeat' first | refine κn ?_ | refine κs ?_ | refine κA ?_ | refine κt ?_ | refine κg ?_ | refine κa ?_ | fail
   all_goals exact RetE.ret rfl rfl rfl
end Go.Vm.Seat
