/-
  slices.Insert at one step: two steps ahead of it.
-/
import Derived.Test.YthkpihmifojnoaaGreatDoorAwEnv
import Derived.Test.YthkpihmifojnoaaGreatDoorAwCopy
import Derived.Shelf.Spec.SlicesInsertGrow
namespace Go.Vm.Seat
open Go.Proofs Go.RowKit Go.Lib

set_option maxHeartbeats 4000000 in
set_option maxRecDepth 100000 in
theorem ins_room (b c vb vc : Nat) (cs vs : List Value) (w : World) (hroom : 3 ≤ c) (hc63 : c ≤ 9223372036854775807) (hvb : vb ≠ b)
    (hcl : cs.length = 7) (hvl : vs.length = 14)
    (hcs : ∀ j v, cs[j]? = some v → w.cell? ⟨b, 0 + j, none⟩ = some v) (hsp : ∀ j, j < 21 → (w.cell? ⟨b, 0 + j, none⟩).isSome = true) (hfz : ∀ j, j < 21 → w.frozen? ⟨b, 0 + j, none⟩ = false)
    (hvs : ∀ j v, vs[j]? = some v → w.cell? ⟨vb, 0 + j, none⟩ = some v) (h1c : ∀ v ∈ cs, v.oneCell' = true) (h1v : ∀ v ∈ vs, v.oneCell' = true)
    (tA tB : TypeId) (kA kB : Nat) (hsa : w.shape? vb = some (tA, kA)) (hsb : w.shape? b = some (tB, kB)) (hkB : kB ≠ 0) (hfa : w.frozen? ⟨vb, 0, none⟩ = false) (hfe : w.frozen? ⟨vb, kA, none⟩ = false) :
    Calls Tryz.prog 51 #[.slice (some ⟨b, 0, none⟩) 1 c, .int .i64 0, .slice (some ⟨vb, 0, none⟩) 2 vc] w fun e w' =>
      e = .returned (.slice (some ⟨b, 0, none⟩) 3 c) ∧ w' = (w.drew.setCells b 14 cs).setCells b 0 vs := by
  have hsz : (Tryz.prog.info? 62).map (·.size) = some 7 := by kernel_rfl
  have hz62 : ∀ w, (Go.sizeOf 62).run Tryz.prog w = .ok 7 w := fun w => by
    cases hq : Tryz.prog.info? 62 with
    | none => simp [hq] at hsz
    | some i => simp [hq] at hsz; simp [sizeOf, typeInfo, hq, hsz]
  have hov : ∀ lb cb, (callFunc 99 #[.slice (some ⟨vb, 0, none⟩) 2 vc, .slice (some ⟨b, 14, none⟩) lb cb]).run Tryz.prog w = .ok (.value (.bool false)) w := fun lb cb => by
    rw [run_callFunc_extern Tryz.func99 (by kernel_rfl) (by kernel_rfl) (by kernel_rfl) (e := Extern.SlicesOverlaps.overlaps #[24, 24] #[4]) (by kernel_rfl),
      Lib.run_overlaps_apart w 24 4 62 Tryz.underlying24 7 hz62 ⟨vb, 0, none⟩ ⟨b, 14, none⟩ 2 vc lb cb hvb tA tB kA kB hsa hsb hkB hfa hfe]
    rfl
  have mixed := follows
  have hw2 : IntKind.i64.wrap 2 = 2 := by decide
  have hb2 : ¬ (c = 2) := by omega
  have hb4 : ¬ (c = 0) := by omega
  have hb5 : ¬ ((c : Int) < 3) := by omega
  have hcp1 : ∀ ty dc sc, (Builtin.copy_ #[24, 24] ty #[.slice (some ⟨b, 14, none⟩) 1 dc, .slice (some ⟨b, 0, none⟩) 3 sc]).run Tryz.prog w.drew = .ok (goInt (Nat.min 3 1)) (w.drew.setCells b 14 cs) := fun ty dc sc =>
    run_copy_wide w.drew _ _ ty 62 7 b 14 1 dc ⟨b, 0, none⟩ 3 sc cs Tryz.underlying24 hsz (by rw [hcl]; rfl)
      (fun j v hj => by rw [Addr.add_lit]; exact hcs j v hj)
      (fun j hj => by have := hsp (14 + j) (by omega); simpa using this) (fun j hj => by have := hfz (14 + j) (by omega); simpa using this) h1c
  obtain ⟨W1, hW1⟩ : ∃ W1, W1 = w.drew.setCells b 14 cs := ⟨_, rfl⟩
  have hsp1 : ∀ k, k < 21 → (W1.cell? ⟨b, 0 + k, none⟩).isSome = true := fun k hk => by
    rw [hW1]
    have := isSome_setCells b cs 14 w.drew (fun j hj => by have := hsp (14 + j) (by omega); simpa using this) k (by have := hsp k hk; simpa using this)
    simpa using this
  have hcp2 : ∀ (W : World), (∀ x, W.cell? x = W1.cell? x) → (∀ x, W.frozen? x = W1.frozen? x) → ∀ ty dc, (Builtin.copy_ #[24, 24] ty #[.slice (some ⟨b, 0, none⟩) 3 dc, .slice (some ⟨vb, 0, none⟩) 2 vc]).run Tryz.prog W = .ok (goInt (Nat.min 2 3)) (W.setCells b 0 vs) := fun W hWc hWf ty dc =>
    run_copy_wide W _ _ ty 62 7 b 0 3 dc ⟨vb, 0, none⟩ 2 vc vs Tryz.underlying24 hsz (by rw [hvl]; rfl)
      (fun j v hj => by
        rw [Addr.add_lit, hWc, hW1, World.cell?_setCells_out b _ _ _ _ (fun h _ => absurd h hvb)]
        exact hvs j v hj)
      (fun j hj => by rw [hWc]; exact hsp1 _ (by omega)) (fun j hj => by rw [hWf, hW1, World.frozen?_setCells]; exact hfz _ (by omega)) h1v
  rw [← hW1] at hcp1
  go_enter Tryz.func51, Tryz.ntmps51
  go_wp2_with (simp only [hov])
  go_region_law_o (refine step_copy_runI rfl _ _ 24 24 rfl _ _ (by simp [Act.eval, Act.put]) (by simp [Act.eval, Act.put]) (hcp1 _ _ _) ?_)
  go_wp2_with (at_builtin; refine wpList_copy_runI _ rfl _ _ 24 24 rfl _ _ rfl rfl (hcp2 _ (fun _ => rfl) (fun _ => rfl) _ _) ?_)
  go_ret
  first | exact ⟨rfl, rfl⟩ | exact ⟨rfl, by rw [hW1]⟩
set_option maxHeartbeats 4000000 in
set_option maxRecDepth 100000 in
theorem ins_grow (b c vb vc : Nat) (cs vs : List Value) (w : World) (hnc : 1 ≤ c) (hroom : c < 3)
    (hcl : cs.length = 7) (hvl : vs.length = 14)
    (hcs : ∀ j v, cs[j]? = some v → w.cell? ⟨b, 0 + j, none⟩ = some v)
    (hvs : ∀ j v, vs[j]? = some v → w.cell? ⟨vb, 0 + j, none⟩ = some v) (h1c : ∀ v ∈ cs, v.oneCell' = true) (h1v : ∀ v ∈ vs, v.oneCell' = true) :
    Calls Tryz.prog 51 #[.slice (some ⟨b, 0, none⟩) 1 c, .int .i64 0, .slice (some ⟨vb, 0, none⟩) 2 vc] w fun e w' =>
      ∃ (G : Nat) (ROW : Array Value), 3 ≤ G ∧ G ≤ 9223372036854775807 ∧ ROW.size = G * 7 ∧ e = .returned (.slice (some ⟨w.heap.size, 0, none⟩) 3 G) ∧
      w' = (((w.alloc (.cells ROW 62)).drew.setCells w.heap.size 0 vs).drew).setCells w.heap.size 14 cs := by
  have mixed := follows
  have hsz : (Tryz.prog.info? 62).map (·.size) = some 7 := by kernel_rfl
  have hbz : (Tryz.prog.info? 62).map (fun i => (Nat.ble (i.bytes * 4) 1000, i.zero.isSome, (i.zero.map (·.cells.size)))) = some (true, true, some 7) := by kernel_rfl
  obtain ⟨i0, hi0⟩ : ∃ i, Tryz.prog.info? 62 = some i := by
    cases hq : Tryz.prog.info? 62 with
    | none => simp [hq] at hsz
    | some i => exact ⟨i, rfl⟩
  have hzs : i0.size = 7 := by simpa [hi0] using hsz
  simp only [hi0, Option.map_some, Option.some.injEq, Prod.mk.injEq] at hbz
  obtain ⟨hb0, hz0, hz7⟩ := hbz
  obtain ⟨z, hz0⟩ := Option.isSome_iff_exists.1 hz0
  have hz7 : z.cells.size = 7 := by simpa [hz0] using hz7
  have hbytes : i0.bytes * 4 ≤ 1000 := Nat.le_of_ble_eq_true hb0
  have hbw : b < w.heap.size := block_lt_of_cell (hcs 0 _ (List.getElem?_eq_getElem (by omega)))
  have hvw : vb < w.heap.size := block_lt_of_cell (hvs 0 _ (List.getElem?_eq_getElem (by omega)))
  have hold : (Builtin.firstCells i0.size 0 (.slice (some ⟨b, 0, none⟩) 0 c)).run Tryz.prog w.drew = .ok ([] : List Value).toArray w.drew := by
    rw [hzs]
    exact run_firstCells_some w.drew 7 0 ⟨b, 0, none⟩ 0 c [] (by simp) (fun j v hj => by simp at hj)
  have hrz : ∀ ty, (Builtin.append_ #[24, 3] ty #[.slice (some ⟨b, 0, none⟩) 0 c, .int .i64 3]).run Tryz.prog w =
      .ok (.slice (some ⟨w.heap.size, 0, none⟩) 3 (grownCap w 3 c 62)) (w.drew.alloc (.cells (([] : List Value).toArray ++ Builtin.zeroCells z.cells 3 ++ Builtin.zeroCells z.cells (grownCap w 3 c 62 - 3)) 62)) := fun ty => by
    have hfit : Builtin.nextslicecap (0 + 3) c * i0.bytes ≤ 281474976710656 := by
      have : Builtin.nextslicecap (0 + 3) c * i0.bytes ≤ 281474976710656 := growslice_fits (by omega) (by omega)
      exact this
    exact Lib.run_append_grow_zeros w 24 3 ty 62 i0 _ .i64 .i64 Tryz.underlying24 Tryz.underlying3 hi0 hz0 (some ⟨b, 0, none⟩) 0 c [] hold 3 (by omega) (by omega) (by omega) (by omega) (by omega) hfit
  obtain ⟨G, hG⟩ : ∃ G, G = grownCap w 3 c 62 := ⟨_, rfl⟩
  obtain ⟨ROW, hROW⟩ : ∃ ROW : Array Value, ROW = ([] : List Value).toArray ++ Builtin.zeroCells z.cells 3 ++ Builtin.zeroCells z.cells (G - 3) := ⟨_, rfl⟩
  rw [← hG] at hrz
  rw [← hROW] at hrz
  have hRl : 21 ≤ ROW.size := by
    rw [hROW]
    simp [Builtin.zeroCells, hz7]
  have hRs : ROW.size = G * 7 := by
    have hG3 : 3 ≤ G := by rw [hG]; exact grownCap_ge w _ _ _
    rw [hROW]
    simp [Builtin.zeroCells, hz7]
    omega
  obtain ⟨W1, hW1⟩ : ∃ W1, W1 = w.drew.alloc (.cells ROW 62) := ⟨_, rfl⟩
  rw [← hW1] at hrz
  have hN : ∀ j, j < 21 → (W1.cell? ⟨w.heap.size, j, none⟩).isSome = true := fun j hj => by
    rw [hW1, World.cell?_alloc_at (w := w.drew) ROW _ w.heap.size j rfl, Array.getElem?_eq_getElem (by omega)]; rfl
  have hNf : ∀ j, W1.frozen? ⟨w.heap.size, j, none⟩ = false := fun j => by rw [hW1]; exact World.frozen?_alloc_at (w := w.drew) ROW _ w.heap.size j rfl
  have hOb : ∀ j v, w.cell? ⟨b, j, none⟩ = some v → W1.cell? ⟨b, j, none⟩ = some v := fun j v h => by rw [hW1, World.cell?_alloc_past (w := w.drew) _ b j hbw]; exact h
  have hOv : ∀ j v, w.cell? ⟨vb, j, none⟩ = some v → W1.cell? ⟨vb, j, none⟩ = some v := fun j v h => by rw [hW1, World.cell?_alloc_past (w := w.drew) _ vb j hvw]; exact h
  have hcpA : ∀ (W : World), (∀ x, W.cell? x = W1.cell? x) → (∀ x, W.frozen? x = W1.frozen? x) → ∀ ty dc, (Builtin.copy_ #[24, 24] ty #[.slice (some ⟨w.heap.size, 0, none⟩) 3 dc, .slice (some ⟨vb, 0, none⟩) 2 vc]).run Tryz.prog W = .ok (goInt (Nat.min 2 3)) (W.setCells w.heap.size 0 vs) := fun W hWc hWf ty dc =>
    run_copy_wide W _ _ ty 62 7 w.heap.size 0 3 dc ⟨vb, 0, none⟩ 2 vc vs Tryz.underlying24 hsz (by rw [hvl]; rfl)
      (fun j v hj => by rw [Addr.add_lit, hWc]; exact hOv _ v (hvs j v hj))
      (fun j hj => by rw [hWc]; exact hN _ (by omega)) (fun j hj => by rw [hWf]; exact hNf _) h1v
  have hGn : 3 ≤ G := by rw [hG]; exact grownCap_ge w _ _ _
  have hG63 : G ≤ 9223372036854775807 := by
    have := grownCap_le_maxLen w 3 c 62 (by unfold maxLen; omega)
    rw [← hG] at this
    unfold maxLen at this
    omega
  have hGi : ¬ (G = 0) := by omega
  have hGim : ¬ (G = 2) := by omega
  have hci : ¬ (c = 0) := by omega
  have hbN : b ≠ w.heap.size := by omega
  have hcpB : ∀ (W : World), (∀ x, W.cell? x = (W1.setCells w.heap.size 0 vs).cell? x) → (∀ x, W.frozen? x = (W1.setCells w.heap.size 0 vs).frozen? x) → ∀ ty dc sc, (Builtin.copy_ #[24, 24] ty #[.slice (some ⟨w.heap.size, 14, none⟩) 1 dc, .slice (some ⟨b, 0, none⟩) 1 sc]).run Tryz.prog W = .ok (goInt (Nat.min 1 1)) (W.setCells w.heap.size 14 cs) := fun W hWc hWf ty dc sc =>
    run_copy_wide W _ _ ty 62 7 w.heap.size 14 1 dc ⟨b, 0, none⟩ 1 sc cs Tryz.underlying24 hsz (by rw [hcl]; rfl)
      (fun j v hj => by
        rw [Addr.add_lit, hWc, World.cell?_setCells_out _ _ _ _ _ (fun h _ => absurd h hbN)]
        exact hOb _ v (hcs j v hj))
      (fun j hj => by rw [hWc]; exact isSome_setCells _ _ _ _ (fun t ht => hN _ (by omega)) _ (hN _ (by omega)))
      (fun j hj => by rw [hWf, World.frozen?_setCells]; exact hNf _) h1c
  subst hW1
  have hE1 : ∀ x, ((w.alloc (.cells ROW 62)).drew).cell? x = (w.drew.alloc (.cells ROW 62)).cell? x := fun x => rfl
  have hE2 : ∀ x, ((w.alloc (.cells ROW 62)).drew).frozen? x = (w.drew.alloc (.cells ROW 62)).frozen? x := fun x => rfl
  have hF1 : ∀ x, (((w.alloc (.cells ROW 62)).drew.setCells w.heap.size 0 vs).drew).cell? x = ((w.drew.alloc (.cells ROW 62)).setCells w.heap.size 0 vs).cell? x := fun x => rfl
  have hF2 : ∀ x, (((w.alloc (.cells ROW 62)).drew.setCells w.heap.size 0 vs).drew).frozen? x = ((w.drew.alloc (.cells ROW 62)).setCells w.heap.size 0 vs).frozen? x := fun x => rfl
  have hw2 : IntKind.i64.wrap 2 = 2 := by decide
  have hw3 : IntKind.i64.wrap 3 = 3 := by decide
  have hc3 : (c : Int) < 3 := by omega
  clear hold hROW hG
  go_enter Tryz.func51, Tryz.ntmps51
  go_wp2_with (first
    | (at_builtin; refine Lib.wpList_append_run _ rfl _ _ _ _ rfl _ _ rfl rfl _ _ (hrz _) ?_)
    | (at_builtin; refine wpList_copy_runI _ rfl _ _ 24 24 rfl _ _ rfl rfl (hcpA _ hE1 hE2 _ _) ?_)
    | (at_builtin; refine wpList_copy_runI _ rfl _ _ 24 24 rfl _ _ rfl rfl (hcpB _ (fun _ => rfl) (fun _ => rfl) _ _ _) ?_))
  go_region_law_o (refine step_copy_runI rfl _ _ 24 24 rfl (.slice (some ⟨w.heap.size, 14, none⟩) 1 (G - 2)) (.slice (some ⟨b, 0, none⟩) 1 c) (by simp [Act.eval, Act.put]) (by simp [Act.eval, Act.put]) (hcpB _ hF1 hF2 3 (G - 2) c) ?_)
  go_wp2
  go_ret
  exact ⟨G, ROW, hGn, hG63, hRs, rfl, rfl⟩
end Go.Vm.Seat
