/-
  Credentials: names that the program reads out of a term.
-/
import Derived.Test.YtjokjgoppbmaiaaGreatDoorCy
set_option maxHeartbeats 64000000
set_option maxRecDepth 100000
namespace Go.Vm.Seat
open Go.Proofs
theorem apT_str : ApT E0 47 47 1 16 := ⟨_, _, _, _, _, rfl, rfl, rfl, rfl, rfl, rfl, rfl, by decide, rfl⟩
theorem noB_strC (l : List Bs) : noB (strC l) = true := by
 simp only [strC, noB, List.all_map, List.all_eq_true]
 intro x _
 rfl
theorem strC_ok (l : List Bs) : (strC l).all (fun c => c.all cellOk) = true := by
 simp only [strC, List.all_map, List.all_eq_true]
 intro x _
 rfl
theorem strC_append (a b : List Bs) : strC (a ++ b) = strC a ++ strC b := by simp [strC]
theorem apS {l : List Bs} {out : PV} {lv : List Nat} {nt : Nat} (h : ApV true 1 (strC l) out lv nt) (s : Bs) (hl : l.length ≤ 100000) :
  ∃ k lv' nt', (∀ bx ro, aAppend E0 47 47 out (.sl .full 1 [[.str s]]) ⟨bx, ro, lv, nt⟩ = some (.sl (.tok k) 1 (strC (l ++ [s])), ⟨bx, ro, lv', nt'⟩)) ∧ ApV true 1 (strC (l ++ [s])) (.sl (.tok k) 1 (strC (l ++ [s]))) lv' nt' := by
 obtain ⟨out', lv', nt', hap, hA', -⟩ := h.app apT_str (.sl .full 1 (strC [s])) (strC_ok _) (fits_of (by simp only [strC_len, List.length_cons, List.length_nil]; omega) (by decide)) (noB_strC _)
 rw [← strC_append] at hA'
 obtain ⟨k, rfl⟩ := apV_tok hA' (by simp [strC])
 exact ⟨k, lv', nt', hap, hA'⟩
theorem joinO {l : List Bs} {out : PV} {lv : List Nat} {nt : Nat} (hA : ApV true 1 (strC l) out lv nt) (h1 : l.length ≤ 1000000) (h2 : (joinB [46] l).length ≤ 1000000) (bx : List Box) : CallOk E0 Tryz.prog 203 [out, .str [46]] ⟨bx, 0, lv, nt⟩ (.str (joinB [46] l)) ⟨bx, 0, lv, nt⟩ := by
 refine (z203 [out, .str [46]] _ _ _ ?_).1
 have g1 : (Nat.ble l.length 1000000 && Nat.ble (joinB [46] l).length 1000000) = true := by
  rw [Nat.ble_eq_true_of_le h1, Nat.ble_eq_true_of_le h2]; rfl
 generalize hL : strC l = L at hA
 cases hA with
 | nil =>
   have : l = [] := by cases l with
    | nil => rfl
    | cons a r => simp [strC] at hL
   subst this
   rfl
 | full _ _ _ h => cases h
 | tok =>
   subst hL
   simp only [joinZ, strsL_C, g1]
theorem frz3_strb (m : Nat) (H : Heap) (s : Bs) (x : Bool) : frz3 m H (.tup [.str s, .bool x]) = some (.tup [.str s, .bool x]) := rfl
theorem c135 {t : Tm} (ht : t.Ok) (hs : Small t) : ∀ H, CallOk E0 Tryz.prog 135 [.agg t.cells] H (.tup [.str (rdName t).1, .bool (rdName t).2]) H := by
 have hc := c202 ht (by have := hs.1; omega)
 have hjl := rdName_len hs
 have hpl := parts_len t
 have hts := hs.1
 simp only [rdName] at hjl ⊢
 have hok : ∀ x, x ∈ t.parts.1 → x.Ok := fun x hx => ht.part (parts_mem hx)
 generalize t.parts.1 = l at hc hjl hpl hok ⊢
 generalize decide (t.parts.2.cmp endT = 0) = R at hc ⊢
 obtain ⟨k, nm, s, b, kids⟩ := t
 simp only [Tm.cells] at hc
 refine κw tOk fe135.ok (frz3_strb _ _ _ _) ?_
 repeat' first | refine κn ?_ | refine κc (hc _) ?_ | refine κl ?_ | refine κt ?_ | refine κg ?_ | refine κa ?_ | fail
 refine Wp.while (fun m tm H => ∃ (i : Nat) (base : TM) (out : PV) (lv : List Nat) (nt : Nat), i + m = l.length ∧ ApV true 1 (strC ((l.take i).map Tm.nm)) out lv nt ∧
   tm = ovr base [(5, .bool R), (6, out), (14, slV true 4 (cellsL l)), (15, .int .i64 (l.length : Int)), (16, .int .i64 (i : Int))] ∧ H = ⟨[.cells 4 [[.int .i64 k, .str nm, .int .i64 s, slV b 4 (cellsL kids)]]], 0, lv, nt⟩)
  (fun m tm H hI => Wp.drop ?_) l.length _ _ ⟨0, _, _, _, _, by omega, .nil _ _ rfl, ovr_mk ⟨rfl, rfl, rfl, int_eq (by rw [cellsL_length]), rfl, trivial⟩, rfl⟩
 obtain ⟨i, base, out, lv, nt, hi, hA, rfl, rfl⟩ := hI
 by_cases hlt : i < l.length
 · obtain ⟨x, hx⟩ : ∃ x, l[i]? = some x := ⟨l[i], by simp⟩
   obtain ⟨kt, lv', nt', hap, hA'⟩ := apS hA x.nm (by simp; omega)
   have hs : (l.take i).map Tm.nm ++ [x.nm] = (l.take (i + 1)).map Tm.nm := by simp [List.take_add_one, hx]
   rw [hs] at hA' hap
   obtain ⟨k', nm', s', b', kids'⟩ := x
   have hj := cellsL_get hx
   simp only [Tm.nm] at hap
   repeat' first | refine κn ?_ | refine κs ?_ | refine κA ?_ | refine κx ?_ | refine κg ?_ | refine κa ?_ | (apply Wp.cond; rfl) | intro hb
   all_goals first
    | (exfalso; simp at hb; omega)
    | skip
   exact DropQ.go [(5, .bool R), (6, .sl (.tok kt) 1 (strC ((l.take (i + 1)).map Tm.nm))), (14, slV true 4 (cellsL l)), (15, .int .i64 (l.length : Int)), (16, .int .i64 ((i + 1 : Nat) : Int))] ⟨rfl, rfl, rfl, rfl, int_eq (wrap_nat (n := i + 1) (by omega)), trivial⟩
     (by simp [under_slV, under]) rfl (by simp [boxU, underL, under, under_slV]) (LoopI.go (m - 1) (by omega) ⟨i + 1, _, _, lv', nt', by omega, hA', rfl, rfl⟩)
 · have e : i = l.length := by omega
   subst e
   rw [List.take_length] at hA
   have hz := joinO hA (by simp; omega) (by omega)
   repeat' first | refine κn ?_ | refine κc (hz _) ?_ | refine κg ?_ | refine κa ?_ | (apply Wp.cond; rfl) | refine κf ?_ | intro hb
   all_goals first
    | (exfalso; simp at hb; done)
    | rfl
theorem c136 {t : Tm} (ht : t.Ok) (hs : Small t) : ∀ H, CallOk E0 Tryz.prog 136 [.agg t.cells] H (.tup [slV true 1 (strC (rdNames t).1), .bool (rdNames t).2]) H := by
 have hc := c202 ht (by have := hs.1; omega)
 have hpl := parts_len t
 have hts := hs.1
 simp only [rdNames]
 have hok : ∀ x, x ∈ t.parts.1 → x.Ok ∧ Small x := fun x hx => ⟨ht.part (parts_mem hx), hs.part (parts_mem hx)⟩
 generalize t.parts.1 = l at hc hpl hok ⊢
 generalize decide (t.parts.2.cmp endT = 0) = R at hc ⊢
 obtain ⟨k, nm, s, b, kids⟩ := t
 simp only [Tm.cells] at hc
 refine κw tOk fe136.ok (frz3_svb _ _ _ _ _ _) ?_
 repeat' first | refine κn ?_ | refine κc (hc _) ?_ | refine κl ?_ | refine κt ?_ | refine κg ?_ | refine κa ?_ | fail
 refine Wp.while (fun m tm H => ∃ (i : Nat) (base : TM) (out : PV) (lv : List Nat) (nt : Nat), i + m = l.length ∧ ApV true 1 (strC ((l.take i).map fun x => (rdName x).1)) out lv nt ∧
   tm = ovr base [(5, .bool (R && (l.take i).all fun x => (rdName x).2)), (6, out), (16, slV true 4 (cellsL l)), (17, .int .i64 (l.length : Int)), (18, .int .i64 (i : Int))] ∧ H = ⟨[.cells 4 [[.int .i64 k, .str nm, .int .i64 s, slV b 4 (cellsL kids)]]], 0, lv, nt⟩)
  (fun m tm H hI => Wp.drop ?_) l.length _ _ ⟨0, _, _, _, _, by omega, .nil _ _ rfl, ovr_mk ⟨by simp; rfl, rfl, rfl, int_eq (by rw [cellsL_length]), rfl, trivial⟩, rfl⟩
 obtain ⟨i, base, out, lv, nt, hi, hA, rfl, rfl⟩ := hI
 by_cases hlt : i < l.length
 · obtain ⟨x, hx⟩ : ∃ x, l[i]? = some x := ⟨l[i], by simp⟩
   obtain ⟨kt, lv', nt', hap, hA'⟩ := apS hA (rdName x).1 (by simp; omega)
   have hs : ((l.take i).map fun x => (rdName x).1) ++ [(rdName x).1] = (l.take (i + 1)).map fun x => (rdName x).1 := by simp [List.take_add_one, hx]
   have hs2 : (R && (l.take (i + 1)).all fun x => (rdName x).2) = ((R && (l.take i).all fun x => (rdName x).2) && (rdName x).2) := by simp [List.take_add_one, hx, Bool.and_assoc]
   rw [hs] at hA' hap
   have hok1 := hok x (List.mem_of_getElem? hx)
   have hcn := c135 hok1.1 hok1.2
   generalize hG : (R && (l.take i).all fun x => (rdName x).2) = A at hs2 ⊢
   generalize (rdName x).1 = N at hcn hap
   generalize (rdName x).2 = B at hcn hs2
   obtain ⟨k', nm', s', b', kids'⟩ := x
   have hj := cellsL_get hx
   simp only [Tm.cells] at hcn
   clear hG
   cases A <;> cases B
   all_goals
    repeat' first | refine κn ?_ | refine κk ?_ | refine κc (hcn _) ?_ | refine κs ?_ | refine κA ?_ | refine κx ?_ | refine κt ?_ | refine κz ?_ ?_ | refine κg ?_ | refine κa ?_ | refine κf ?_ | intro hb
    all_goals first
     | (exfalso; simp at hb; omega)
     | skip
    exact DropQ.go [(5, .bool (R && (l.take (i + 1)).all fun x => (rdName x).2)), (6, .sl (.tok kt) 1 (strC ((l.take (i + 1)).map fun x => (rdName x).1))), (16, slV true 4 (cellsL l)), (17, .int .i64 (l.length : Int)), (18, .int .i64 ((i + 1 : Nat) : Int))] ⟨by rw [hs2]; rfl, rfl, rfl, rfl, int_eq (wrap_nat (n := i + 1) (by omega)), trivial⟩
      (by simp [under_slV, under]) rfl (by simp [boxU, underL, under, under_slV]) (LoopI.go (m - 1) (by omega) ⟨i + 1, _, _, lv', nt', by omega, hA', rfl, rfl⟩)
 · have e : i = l.length := by omega
   subst e
   rw [List.take_length] at hA ⊢
   repeat' first | refine κn ?_ | refine κg ?_ | refine κa ?_ | (apply Wp.cond; rfl) | refine κf ?_ | intro hb
   all_goals first
    | (exfalso; simp at hb; done)
    | exact frz3_sb hA _ _ _
end Go.Vm.Seat
