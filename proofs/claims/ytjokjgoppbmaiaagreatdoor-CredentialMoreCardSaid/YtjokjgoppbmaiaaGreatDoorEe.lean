/-
  CredentialMore: the law's function returns true at any terms and question. The key of a name in a log: the program's text and the reference's say the same. The key of a name in a log, by the reference. KeyserviceCurrent: the law's function returns true at any log and name, if the examples hold.
-/
import Derived.Test.YtjokjgoppbmaiaaGreatDoorPc
import Derived.Test.YtjokjgoppbmaiaaGreatDoorGa
set_option maxHeartbeats 64000000
set_option maxRecDepth 100000
namespace Go.Vm
theorem qApW {E : Env} {P : Program} {own : Tmp → Bool} {n : Nat} {K : TM → Heap → Prop} {tm : TM} {H : Heap} {all r : List Oper} {d : Nat} {ty : TypeId} {pos : String} {aft : Array Edge} {grd : Option (Nat × Bool)} {t u : TypeId} {x y : Operand} {X Y p : PV} {H1 : Heap}
  (hw : wantedA all tm ⟨some d, .call { callee := .builtin .append, args := #[x, y], argTypes := #[t, u] }, ty, pos, aft, grd⟩ = some true) (hn : Nat.blt d n = true) (ho : own d = true) (hx : evalO E tm x = X) (hy : evalO E tm y = Y) (h : aAppendOwn E t u X Y H = some (p, H1))
  (hr : RegQ E P own n all r K (setD tm (some d) p) H1) : RegQ E P own n all (⟨some d, .call { callee := .builtin .append, args := #[x, y], argTypes := #[t, u] }, ty, pos, aft, grd⟩ :: r) K tm H :=
 .op (p := p) hw (by simp only [dstOk, hn]) (by simp [aOp, aBuiltin, ho, hx, hy, h]) hr
end Go.Vm
namespace Go.Vm.Seat
open Go.Proofs
theorem cloneW {A B C : Box} {r : List Int} (hr : r ≠ []) (hl : r.length ≤ 1000) (b : Bool) (lv : List Nat) (nt : Nat) :
  CallOk E9 Tryz.prog 11 [slV b 1 (intC r)] ⟨[A, B, C], 0, lv, nt⟩ (.own 3 1 0 r.length) ⟨[A, B, C, .cells 1 (intC r)], 0, lv, nt⟩ := by
 have hln := intC_len r
 have he := fun H => apElems_at (s := .sl .full 1 []) (x := slV b 1 (intC r)) (H := H) apT_i9 ((ElV.slV b 1 (intC r)).el H) (ElV.slV b 1 (intC r)).size (intC_ok _) rfl rfl
 have hf : apFits ([] : List (List PV)).length (intC r).length 8 = true := fits_of (by simp [intC]; omega) (by decide)
 have hap : aAppendOwn E9 25 25 (.sl .full 1 []) (slV b 1 (intC r)) ⟨[A, B, C], 0, lv, nt⟩ = some (.own 3 1 0 r.length, ⟨[A, B, C, .cells 1 (intC r)], 0, lv, nt⟩) := by
  cases hE : intC r with
  | nil => rw [hE] at hln; exact absurd (List.length_eq_zero_iff.1 hln.symm) hr
  | cons y yr =>
    rw [hE] at he hf hln
    simp only [aAppendOwn, he, slFull, List.nil_append]
    rw [if_pos hf, ← hln]
    simp [Heap.push]
 have hne : aBin E9 .eql 25 (slV b 1 (intC r)) .nils = some (.bool false) := by
  cases r with
  | nil => exact absurd rfl hr
  | cons a l => simp only [intC, List.map_cons, slV_cons]; rfl
 clear he hf
 refine callOk_wpE (own := fun d => Nat.beq d 7) tOk9 fe11.ok ?_
 refine Wp.seq ?_
 repeat' first | refine κn ?_ | refine κs ?_ | refine κi ?_ | refine κg ?_ | refine κa ?_ | fail
 refine qApW rfl rfl rfl rfl rfl hap ?_
 repeat' first | refine κn ?_ | refine κg ?_ | refine κa ?_ | fail
 all_goals exact RetE.ret rfl rfl rfl
theorem delW {A B C : Box} {r : List Int} {i : Nat} (hi : i < r.length) (lv : List Nat) (nt : Nat) :
  CallOk E9 Tryz.prog 10 [.own 3 1 0 r.length, .int .i64 (i : Int), .int .i64 ((i + 1 : Nat) : Int)] ⟨[A, B, C, .cells 1 (intC r)], 0, lv, nt⟩ (.own 3 1 0 (r.length - 1)) ⟨[A, B, C, .cells 1 (intC (delI r i))], 0, lv, nt⟩ :=
 del_ok (E := E9) fe10.ok (fun blk off cap i j zs w hz1 h2 h3 h4 h5 => Tryz.slices_Delete_int blk off cap i j zs w hz1 h2 h3 h4 h5) (H := ⟨[A, B, C, .cells 1 (intC r)], 0, lv, nt⟩) (id := 3) rfl (Nat.zero_le _) hi
theorem pathA {q : Qn} (hq : QnOk q) {name : Bs} (hn : name.length ≤ 1000) (qb rb : Bool) : ∀ H, CallOk E9 Tryz.prog 8 [slV qb 4 (cellsL q.terms), .agg (quC q name (slV rb 1 (intC q.rev)))] H (.tup [optV (pathQ q name).1, .int .i64 (pathQ q name).2]) H := by
 obtain ⟨b2, out, lv', nt', hA, k1⟩ := cloneI (intC_ok q.rev) (noB_intC _) (by rw [intC_len]; exact hq.rl) rb [] 0
 have cP := c25 hq hn qb b2
 have cP : ∀ H, CallOk E9 Tryz.prog 25 [slV qb 4 (cellsL q.terms), .agg q.anchor.cells, .str name, .int .i64 q.now, out] H (.tup [optV (pathQ q name).1, .int .i64 (pathQ q name).2]) H := fun H => by
  refine callOk_frz (cP H) ?_
  simp only [frzGL, frzG_slV, frzG_tmP, hA.frzG]
  rfl
 have hfr := fun m H => frz3_optI m H (pathQ q name).1 (pathQ q name).2
 clear hA hq hn
 generalize pathQ q name = R at cP hfr ⊢
 obtain ⟨terms, ⟨k, nm, s, b, kids⟩, now, rev⟩ := q
 simp only [quC, Tm.cells, List.cons_append, List.nil_append] at cP k1 ⊢
 generalize optV R.1 = V at cP hfr ⊢
 generalize intC rev = L at k1 ⊢
 refine callOk_wp (own := (fun d => [5015].any (Nat.beq d))) tOk9 fe8.ok (by simp only [frzGL, frzG_slV]; simp only [frzG, frzL, frz1_slV]; rfl) (hfr 0 hNil) ?_
 refine Wp.seq ?_
 repeat' first | refine κn ?_ | refine κg ?_ | refine κd (cP _) ?_ | (apply dCt; rfl; rfl; rfl; rfl; rfl; exact (k1 _)) | refine κh ?_ | refine κa ?_ | (apply Wp.draw tOk9 follows; kernel_rfl) | refine κf ?_ | fail
 all_goals exact hfr _ _
theorem pathB {q : Qn} (hq : QnOk q) {name : Bs} (hn : name.length ≤ 1000) (qb : Bool) (A B C : Box) (D : List Int) (lv : List Nat) (nt : Nat) : CallOk E9 Tryz.prog 8 [slV qb 4 (cellsL q.terms), .agg (quC q name (.own 3 1 0 q.rev.length))] ⟨[A, B, C, .cells 1 (intC (q.rev ++ D))], 0, lv, nt⟩ (.tup [optV (pathQ q name).1, .int .i64 (pathQ q name).2]) ⟨[A, B, C, .cells 1 (intC (q.rev ++ D))], 0, lv, nt⟩ := by
 obtain ⟨b2, out, lv', nt', hA, k1⟩ := cloneO q.rev hq.rl [] nt
 have cP := c25 hq hn qb b2
 have cP : ∀ H, CallOk E9 Tryz.prog 25 [slV qb 4 (cellsL q.terms), .agg q.anchor.cells, .str name, .int .i64 q.now, out] H (.tup [optV (pathQ q name).1, .int .i64 (pathQ q name).2]) H := fun H => by
  refine callOk_frz (cP H) ?_
  simp only [frzGL, frzG_slV, frzG_tmP, hA.frzG]
  rfl
 have hfr := fun m H => frz3_optI m H (pathQ q name).1 (pathQ q name).2
 have k1 := fun (Q : Box) => k1 [A, B, C, .cells 1 (intC (q.rev ++ D)), Q] D rfl
 have ea : [slV qb 4 (cellsL q.terms), .agg (quC q name (.own 3 1 0 q.rev.length))].map argV = [slV qb 4 (cellsL q.terms), .agg (quC q name (.own 3 1 0 q.rev.length))] := by
  obtain ⟨terms, ⟨k, nm, s, b, kids⟩, now, rev⟩ := q
  rw [List.map_cons, argV_slV]
  simp only [quC, Tm.cells, List.cons_append, List.nil_append]
  rcases slV_orP b 4 (cellsL kids) with h | h <;> rw [h] <;> rfl
 refine callOk_wpH (own := (fun d => [5015].any (Nat.beq d))) tOk9 fe8.ok ?_
 rw [ea]
 clear hA hq hn ea
 generalize pathQ q name = R at cP hfr ⊢
 obtain ⟨terms, ⟨k, nm, s, b, kids⟩, now, rev⟩ := q
 simp only [quC, Tm.cells, List.cons_append, List.nil_append] at cP k1 ⊢
 generalize optV R.1 = V at cP hfr ⊢
 generalize intC (rev ++ D) = L at k1 ⊢
 generalize rev.length = n at k1 ⊢
 refine Wp.seq ?_
 repeat' first | refine κn ?_ | refine κg ?_ | refine κd (cP _) ?_ | (apply dCt; rfl; rfl; rfl; rfl; rfl; exact (k1 _)) | refine κh ?_ | refine κa ?_ | (apply Wp.draw tOk9 follows; kernel_rfl) | refine κf ?_ | fail
 all_goals exact hfr _ _
def fewQ (l : List Tm) (q : Qn) (name : Bs) : Bool := fewF l 10 2000 && (fewF [q.anchor] 1 450 && (decide (name.length ≤ 100) && decide (q.rev.length ≤ 20)))
theorem leqI (a b : Int) : aBin E0 .leq 3 (.int .i64 a) (.int .i64 b) = some (.bool (decide (a ≤ b))) := rfl
theorem c6 {q : Qn} (ht : ∀ t, t ∈ q.terms → t.Ok) (htl : q.terms.length ≤ maxLen) (ha : q.anchor.Ok) {name : Bs} (qb rb : Bool) : ∀ H, CallOk E0 Tryz.prog 6 [slV qb 4 (cellsL q.terms), .agg (quC q name (slV rb 1 (intC q.rev)))] H (.bool (fewQ q.terms q name)) H := by
 have c1 := c24 ht htl qb (n := 10) (most := 2000) (by decide) (by decide)
 have c2 := c7 ha
 have gz1 := leqI name.length 100
 have d1 : decide ((name.length : Int) ≤ 100) = decide (name.length ≤ 100) := by
  rw [decide_eq_decide]
  omega
 have d2 : decide ((q.rev.length : Int) ≤ 20) = decide (q.rev.length ≤ 20) := by
  rw [decide_eq_decide]
  omega
 unfold fewQ
 rw [d1] at gz1
 have g2 : aBin E0 .leq 3 (.int .i64 ((intC q.rev).length : Int)) (.int .i64 20) = some (.bool (decide (q.rev.length ≤ 20))) := by
  rw [intC_len, ← d2]
  rfl
 have hfz : frzGL [slV qb 4 (cellsL q.terms), .agg (quC q name (slV rb 1 (intC q.rev)))] = some [slV qb 4 (cellsL q.terms), .agg (quC q name (slV rb 1 (intC q.rev)))] := by
  obtain ⟨terms, ⟨k, nm, s, b, kids⟩, now, rev⟩ := q
  simp only [quC, Tm.cells, List.cons_append, List.nil_append, frzGL, frzG_slV]
  simp only [frzG, frzL, frz1_slV]
  rfl
 clear d1 d2 ht htl ha
 generalize fewF q.terms 10 2000 = F1 at c1 ⊢
 generalize fewF [q.anchor] 1 450 = F2 at c2 ⊢
 generalize decide (name.length ≤ 100) = F3 at gz1 ⊢
 generalize decide (q.rev.length ≤ 20) = F4 at g2 ⊢
 obtain ⟨terms, ⟨k, nm, s, b, kids⟩, now, rev⟩ := q
 simp only [quC, Tm.cells, List.cons_append, List.nil_append] at c1 c2 g2 hfz ⊢
 generalize intC rev = L at g2 hfz ⊢
 cases F1 <;> cases F2 <;> cases F3 <;> cases F4
 all_goals
  refine κw tOk fe6.ok rfl ?_ hfz
  repeat' first | refine κn ?_ | refine κk ?_ | refine κc (c1 _) ?_ | refine κc (c2 _) ?_ | refine κi ?_ | refine κl ?_ | refine κt ?_ | refine κg ?_ | refine κa ?_ | refine κf ?_ | fail
 all_goals rfl
end Go.Vm.Seat
namespace Go.Vm.Seat
open Go.Proofs
end Go.Vm.Seat
namespace Go.Vm.Seat
open Go.Proofs
end Go.Vm.Seat
namespace Go.Vm.Seat
open Go.Proofs
end Go.Vm.Seat
namespace Go.Vm.Seat
open Go.Proofs
theorem few_sizes5 : ∀ (l : List Tm) (n : Int), fewL l n = true → ∀ t, t ∈ l → (t.size : Int) ≤ n
 | [], _, _, t, ht => absurd ht (by simp)
 | a :: r, n, h, t, ht => by
   simp only [fewL] at h
   split at h
   · cases h
   · rename_i hb
     have := a.budget_eq n (by omega)
     rcases List.mem_cons.1 ht with rfl | ht
     · omega
     · have := few_sizes5 r _ h t ht
       omega
end Go.Vm.Seat
