/-
  What the variables hold that the code of the credentials reads: the row's cell 'laid' gives it. KeyserviceAccept: what the row asks of a call, from what the function gives at any argument. KeyserviceAccept: a world for the witness; the row is lifted over all starts. KeyserviceAccept: what the row asks of the program, piece by piece.
-/
import Derived.Test.YtajpkolimokcdaaGreatDoorAw55
import Derived.Test.YtajpkolimokcdaaGreatDoorFi
import Derived.Test.YtajpkolimokcdaaGreatDoorRows
import Derived.ProofKit
import Derived.Stop.LaidErr
import Derived.Lib.LaidTab
import Derived.Test.YtajpkolimokcdaaGreatDoorGk
import Derived.Test.YtajpkolimokcdaaGreatDoorFh
import Derived.Test.YtajpkolimokcdaaGreatDoorCards
import Derived.Test.YtajpkolimokcdaaGreatDoorTie
import Derived.OpenShut
import Derived.Deep.DeepHandedRow
import Derived.Deep.DeepWitnessRowRef
import Derived.WideKeyArgs
import Derived.ChangeMaps5
set_option maxHeartbeats 64000000
set_option maxRecDepth 100000
namespace Go.Vm.Seat
open Go.Proofs Go.Proofs.YtajpkolimokcdaaGreatDoor Go.RowKit
theorem star0 : "*" ++ "errors.errorString" = "*errors.errorString" := by decide
theorem rowErr (u : TypeId) (h : Tryz.prog.typeName? 3 u = some "*errors.errorString") : u = 247 :=
 typeName_ptr_named (nm := "errors.errorString") (by rw [star0]; kernel_rfl) (by kernel_rfl) (by decide) u (by rw [star0]; exact h)
theorem ld55 {W : World} (h : laidMetH Tryz.prog Rows.credentialReadsRow.laid W) : GOk E0 (wG W) := by
 have h : laidMet Tryz.prog Rows.credentialReadsRow.laid W := h
 have h2 := h.tail.tail
 have hT : Lib.TabIs Tryz.prog W "internal/strconv.uint64pow10" .u64 [1, 10, 100, 1000, 10000, 100000, 1000000, 10000000, 100000000, 1000000000, 10000000000, 100000000000, 1000000000000, 10000000000000, 100000000000000, 1000000000000000, 10000000000000000, 100000000000000000, 1000000000000000000, 10000000000000000000] :=
  Lib.tabIs_of_head (g := 3) (t := 254) (e := 230) (n := 20) (by kernel_rfl) (by kernel_rfl) (by kernel_rfl) (by kernel_rfl) (by kernel_rfl) (by kernel_rfl) h2
 have h4 := h2.tail.tail
 obtain ⟨a1, s1, v1, -⟩ := laid_sentinel (g := 1) (ti := 136) h4 (by kernel_rfl) (by kernel_rfl) Tryz.underlying136 rowErr Tryz.underlying247 Tryz.underlying249 rfl rfl Tryz.underlying9 (by kernel_rfl) (by kernel_rfl)
 obtain ⟨a2, s2, v2, -⟩ := laid_sentinel (g := 0) (ti := 136) h4.tail (by kernel_rfl) (by kernel_rfl) Tryz.underlying136 rowErr Tryz.underlying247 Tryz.underlying249 rfl rfl Tryz.underlying9 (by kernel_rfl) (by kernel_rfl)
 refine ⟨fun k cs' hk => ?_, fun h => by simp [wG] at h, fun k hk => ?_⟩
 · simp only [E0] at hk
   split at hk
   · rename_i hb
     obtain rfl := Nat.eq_of_beq_eq_true hb
     cases hk
     refine .fptr pow10C 0 3 0 (fun j => (W.cell? ⟨3, j, none⟩).getD undef) (fun j hj => ?_) (fun j hj => ?_)
     · have hl : j < 20 := by simpa [pow10C] using hj
       show wS W 3 (0 + j) = _
       simp only [wS, Nat.zero_add]
       rw [hT.cell (by kernel_rfl) j (by simpa using hl)]
       rfl
     · have hl : j < 20 := by simpa [pow10C] using hj
       rw [hT.cell (by kernel_rfl) j (by simpa using hl)]
       match j, hl with
       | 0, _ | 1, _ | 2, _ | 3, _ | 4, _ | 5, _ | 6, _ | 7, _ | 8, _ | 9, _ | 10, _ | 11, _ | 12, _ | 13, _ | 14, _ | 15, _ | 16, _ | 17, _ | 18, _ | 19, _ => exact .int _ _
       | n + 20, h => exact absurd h (by omega)
   · cases hk
 · have hk : k = 0 ∨ k = 1 := by
     simp only [E0, List.any_cons, List.any_nil, Bool.or_false, Bool.or_eq_true] at hk
     rcases hk with e | e
     · exact .inl (Nat.eq_of_beq_eq_true e)
     · exact .inr (Nat.eq_of_beq_eq_true e)
   rcases hk with rfl | rfl
   · have c := World.var?_cell (show Tryz.prog.globalNamed "strconv.ErrSyntax" = some 0 by kernel_rfl) v2 0
     exact ⟨_, _, c⟩
   · have c := World.var?_cell (show Tryz.prog.globalNamed "strconv.ErrRange" = some 1 by kernel_rfl) v1 0
     exact ⟨_, _, c⟩
end Go.Vm.Seat
namespace Go.Proofs.YtajpkolimokcdaaGreatDoor.keyserviceAccept
open Go.ChangeMaps Go.ChangeShapes Go.WideShapes Go.ChangeAt Go.RowKit Go.Vm Go.Vm.Seat
theorem own : ownKnob Tryz.prog.godebug = none := by kernel_rfl
def cl : List TypeId := [3, 9, 24, 22, 47, 56]
theorem clOk : ∀ t, t ∈ cl → tyOk E0.T cl t = true := by
 intro t ht
 have h : cl.all (fun t => tyOk E0.T cl t) = true := by kernel_rfl
 exact List.all_eq_true.1 h t ht
theorem e3 : E0.T 3 = some ⟨.int .i64, 1, 8, .int .i64 0⟩ := by kernel_rfl
theorem e9 : E0.T 9 = some ⟨.string, 1, 16, .str []⟩ := by kernel_rfl
theorem eT : E0.T 24 = some ⟨.struct [(0, 3), (1, 9), (2, 3), (3, 22)], 4, 56, .agg [.int .i64 0, .str [], .int .i64 0, .nils]⟩ := by kernel_rfl
theorem eTs : E0.T 22 = some ⟨.slice 24, 1, 24, .nils⟩ := by kernel_rfl
theorem eRd : E0.T 47 = some ⟨.struct [(0, 24), (4, 3), (5, 24), (9, 24)], 13, 176, .agg [.int .i64 0, .str [], .int .i64 0, .nils, .int .i64 0, .int .i64 0, .str [], .int .i64 0, .nils, .int .i64 0, .str [], .int .i64 0, .nils]⟩ := by kernel_rfl
theorem eAn : E0.T 56 = some ⟨.struct [(0, 9), (1, 24), (5, 3), (6, 3), (7, 24), (11, 24), (15, 22), (16, 22)], 17, 248, .agg [.str [], .int .i64 0, .str [], .int .i64 0, .nils, .int .i64 0, .int .i64 0, .int .i64 0, .str [], .int .i64 0, .nils, .int .i64 0, .str [], .int .i64 0, .nils, .nils, .nils]⟩ := by kernel_rfl
theorem len13 {α : Type} {l : List α} (h : l.length = 13) : ∃ a b c d e f g i j k m n o, l = [a, b, c, d, e, f, g, i, j, k, m, n, o] := by
 match l, h with
 | [a, b, c, d, e, f, g, i, j, k, m, n, o], _ => exact ⟨a, b, c, d, e, f, g, i, j, k, m, n, o, rfl⟩
theorem len17 {α : Type} {l : List α} (h : l.length = 17) : ∃ a b c d e f g i j k m n o p q r s, l = [a, b, c, d, e, f, g, i, j, k, m, n, o, p, q, r, s] := by
 match l, h with
 | [a, b, c, d, e, f, g, i, j, k, m, n, o, p, q, r, s], _ => exact ⟨a, b, c, d, e, f, g, i, j, k, m, n, o, p, q, r, s, rfl⟩
theorem sh_rd {cs : List PV} (h : Sh E0.T 47 cs) : ∃ x : Rd, cs = x.cells ∧ x.svc.Ok ∧ x.head.Ok ∧ x.signed.Ok ∧ (Lit.int .i64 x.size).wf = true := by
 cases h with
 | bool h' hk' => rw [eRd] at h'; cases h'; cases hk'
 | int h' hk' => rw [eRd] at h'; cases h'; cases hk'
 | str h' hk' => rw [eRd] at h'; cases h'; cases hk'
 | nils h' hk' => rw [eRd] at h'; cases h'; cases hk'
 | sl h' hk' => rw [eRd] at h'; cases h'; cases hk'
 | struct h' hk' hlen hf =>
   rw [eRd] at h'; cases h'; cases hk'
   obtain ⟨a, b, c, d, e, f, g, i, j, k, m, n, o, rfl⟩ := len13 hlen
   have q0 := hf 0 24 _ (by simp) eT
   have q1 := hf 4 3 _ (by simp) e3
   have q2 := hf 5 24 _ (by simp) eT
   have q3 := hf 9 24 _ (by simp) eT
   simp only [List.drop_zero, List.drop_succ_cons, List.take_succ_cons, List.take_zero] at q0 q1 q2 q3
   obtain ⟨t0, z0, k0⟩ := (sh_tm e3 rfl rfl e9 rfl rfl eTs rfl rfl eT rfl rfl q0).1 rfl
   obtain ⟨n1, z1, w1⟩ := sh_int q1 e3 rfl
   obtain ⟨t2, z2, k2⟩ := (sh_tm e3 rfl rfl e9 rfl rfl eTs rfl rfl eT rfl rfl q2).1 rfl
   obtain ⟨t3, z3, k3⟩ := (sh_tm e3 rfl rfl e9 rfl rfl eTs rfl rfl eT rfl rfl q3).1 rfl
   simp only [List.cons.injEq, and_true] at z1
   subst z1
   exact ⟨⟨t0, n1, t2, t3⟩, by simp only [Rd.cells, ← z0, ← z2, ← z3, List.cons_append, List.nil_append], k0, k2, k3, w1⟩
theorem sh_an {cs : List PV} (h : Sh E0.T 56 cs) : ∃ a : An, cs = a.cells ∧ AnOk a ∧ (Lit.int .i64 a.idx).wf = true ∧ (Lit.int .i64 a.size).wf = true := by
 cases h with
 | bool h' hk' => rw [eAn] at h'; cases h'; cases hk'
 | int h' hk' => rw [eAn] at h'; cases h'; cases hk'
 | str h' hk' => rw [eAn] at h'; cases h'; cases hk'
 | nils h' hk' => rw [eAn] at h'; cases h'; cases hk'
 | sl h' hk' => rw [eAn] at h'; cases h'; cases hk'
 | struct h' hk' hlen hf =>
   rw [eAn] at h'; cases h'; cases hk'
   obtain ⟨a, b, c, d, e, f, g, i, j, k, m, n, o, p, q, r, s, rfl⟩ := len17 hlen
   have q0 := hf 0 9 _ (by simp) e9
   have q1 := hf 1 24 _ (by simp) eT
   have q2 := hf 5 3 _ (by simp) e3
   have q3 := hf 6 3 _ (by simp) e3
   have q4 := hf 7 24 _ (by simp) eT
   have q5 := hf 11 24 _ (by simp) eT
   have q6 := hf 15 22 _ (by simp) eTs
   have q7 := hf 16 22 _ (by simp) eTs
   simp only [List.drop_zero, List.drop_succ_cons, List.take_succ_cons, List.take_zero] at q0 q1 q2 q3 q4 q5 q6 q7
   obtain ⟨s0, z0, -⟩ := sh_str q0 e9 rfl
   obtain ⟨t1, z1, k1⟩ := (sh_tm e3 rfl rfl e9 rfl rfl eTs rfl rfl eT rfl rfl q1).1 rfl
   obtain ⟨n2, z2, w2⟩ := sh_int q2 e3 rfl
   obtain ⟨n3, z3, w3⟩ := sh_int q3 e3 rfl
   obtain ⟨t4, z4, k4⟩ := (sh_tm e3 rfl rfl e9 rfl rfl eTs rfl rfl eT rfl rfl q4).1 rfl
   obtain ⟨t5, z5, k5⟩ := (sh_tm e3 rfl rfl e9 rfl rfl eTs rfl rfl eT rfl rfl q5).1 rfl
   obtain ⟨b6, l6, z6, k6, y6⟩ := (sh_tm e3 rfl rfl e9 rfl rfl eTs rfl rfl eT rfl rfl q6).2 rfl
   obtain ⟨b7, l7, z7, k7, y7⟩ := (sh_tm e3 rfl rfl e9 rfl rfl eTs rfl rfl eT rfl rfl q7).2 rfl
   simp only [List.cons.injEq, and_true] at z0 z2 z3 z6 z7
   subst z0 z2 z3 z6 z7
   exact ⟨⟨s0, t1, n2, n3, t4, t5, b6, l6, b7, l7⟩, by simp only [An.cells, ← z1, ← z4, ← z5, List.cons_append, List.nil_append], ⟨k1, k4, k5, k6, k7, y6, y7⟩, w2, w3⟩
theorem laidOut : laidOutB Tryz.prog = true := by kernel_rfl
theorem contract (H : Type) (enc : TypeId × Value → H) (W : World) (base : Nat) (args : Array Value) (ds gs : List (DataW H)) (before : List MemPlace)
  (hval : ∀ (j : Nat) t v, Tryz.f6.params[j]? = some t → args[j]? = some v → Value.okWide Tryz.prog W .any base t v)
  (hW : DataW.Whole enc Tryz.prog Tryz.f6.params.toList Rows.keyserviceAcceptSpec.vars false W args.toList ds gs before) (hL : laidMetH Tryz.prog Rows.keyserviceAcceptRow.laid W) :
  Calls Tryz.prog 6 args W fun e W' => ∃ v, e = .returned v ∧ Rows.keyserviceAcceptSpec.post enc Tryz.prog Tryz.f6 false true false false W args v W' := by
 have hG := ld55 hL
 have hW' := hW
 obtain ⟨p, q, hA0, hV, rfl, hfz, hnd⟩ := hW
 have hA : DataW.TrodAll enc Tryz.prog W 0 (fun _ => true) true Tryz.f6.params.toList args.toList ds p := hA0
 rw [Tryz.params6] at hA hval
 obtain ⟨v0, vs0, d0, ds0, p0, q0, hargs, rfl, rfl, h0, r0⟩ := trodAll_cons hA
 obtain ⟨v1, vs1, d1, ds1, p1, q1, hargs1, rfl, rfl, h1, r1⟩ := trodAll_cons r0
 obtain ⟨rfl, rfl, rfl⟩ := trodAll_nil r1
 subst hargs1
 obtain rfl : args = #[v0, v1] := by cases args; simp_all
 obtain ⟨rfl, rfl⟩ := trodVars_none hV
 have h0k := h0
 have h1k := h1
 obtain ⟨cs0, rfl, -⟩ := okWide_struct Tryz.underlying47 (hval 0 47 v0 rfl rfl)
 obtain ⟨cs1, rfl, -⟩ := okWide_struct Tryz.underlying56 (hval 1 56 v1 rfl rfl)
 obtain ⟨fuel0, hf0⟩ := h0
 obtain ⟨fuel1, hf1⟩ := h1
 obtain ⟨pcs0, hsh0, hcells0⟩ := trod_sh tOk clOk fuel0 47 _ _ (by simp [cl]) hf0
 obtain ⟨pcs1, hsh1, hcells1⟩ := trod_sh tOk clOk fuel1 56 _ _ (by simp [cl]) hf1
 obtain ⟨c, rfl, o1, o2, o3, wc⟩ := sh_rd hsh0
 obtain ⟨a, rfl, ha, wi, ws⟩ := sh_an hsh1
 clear hA0
 simp only [List.append_nil] at hW'
 have hlt0 : ∀ x ∈ p0, x.block < W.heap.size := fun x hx => by simpa using hW'.lt x (by simp [hx])
 have hlt1 : ∀ x ∈ p1, x.block < W.heap.size := fun x hx => by simpa using hW'.lt x (by simp [hx])
 have call := calls_of3 fe6.ok hG (c6 o1 o2 o3 wc ha wi ws hNil) (w := W) (vals := #[.agg cs0, .agg cs1]) ⟨rfl, fun i hi hj => by
  match i, hi with
  | 0, _ => exact agg_of hcells0
  | 1, _ => exact agg_of hcells1⟩
 refine Calls.mono call fun e W' ⟨v, he, ⟨g', hv⟩, hg, hsame⟩ => ?_
 obtain rfl := hv.bool_inv
 subst he
 refine ⟨_, rfl, post_kept (pa := p0 ++ p1) (pv := []) hW' (fun _ _ _ => trodAll_cons_mk (shut_bool Tryz.underlying4 _) trodAll_mk0) (fun sp hsp => ?_) (fun _ _ => rfl) (by simp)
  (hg.frame _) hg.fz (ok_one (by kernel_rfl) rfl (okWide_bool_mk Tryz.underlying4 _))⟩
 have t0 := WideElems.Trod_stays (sp' := sp) (W' := W') laidOut (by kernel_rfl) (of_decide_eq_true (by kernel_rfl)) h0k (fun x hx => same_of hsame (hlt0 x hx)) (fun x hx => hsp x (by simp [hx]))
 have t1 := WideElems.Trod_stays (sp' := sp) (W' := W') laidOut (by kernel_rfl) (of_decide_eq_true (by kernel_rfl)) h1k (fun x hx => same_of hsame (hlt1 x hx)) (fun x hx => hsp x (by simp [hx]))
 exact trodAll_mk2 t0 t1
end Go.Proofs.YtajpkolimokcdaaGreatDoor.keyserviceAccept
namespace Go.Proofs.YtajpkolimokcdaaGreatDoor.keyserviceAccept
open Go.ChangeShapes Go.WideShapes Go.ChangeAt Go.RowKit Go.Vm Go.Vm.Seat
noncomputable def lay (c : Array Value) : Obj → Obj
 | .cells _ t frozen => .cells c t frozen
 | o => o
noncomputable def laidWorld (os : Os) : World :=
 { World.holding Tryz.prog os ⟨#[], #[], []⟩ with
   heap := ((((((((((World.holding Tryz.prog os ⟨#[], #[], []⟩).heap.modify 6 (lay #[.int .u8 0, .int .u8 1, .int .u8 28, .int .u8 2, .int .u8 29, .int .u8 14, .int .u8 24, .int .u8 3, .int .u8 30, .int .u8 22, .int .u8 20, .int .u8 15, .int .u8 25, .int .u8 17, .int .u8 4, .int .u8 8, .int .u8 31, .int .u8 27, .int .u8 13, .int .u8 23, .int .u8 21, .int .u8 19, .int .u8 16, .int .u8 7, .int .u8 26, .int .u8 12, .int .u8 18, .int .u8 6, .int .u8 11, .int .u8 5, .int .u8 10, .int .u8 9])).modify 7 (lay #[.int .u8 0, .int .u8 1, .int .u8 56, .int .u8 2, .int .u8 57, .int .u8 49, .int .u8 28, .int .u8 3, .int .u8 61, .int .u8 58, .int .u8 42, .int .u8 50, .int .u8 38, .int .u8 29, .int .u8 17, .int .u8 4, .int .u8 62, .int .u8 47, .int .u8 59, .int .u8 36, .int .u8 45, .int .u8 43, .int .u8 51, .int .u8 22, .int .u8 53, .int .u8 39, .int .u8 33, .int .u8 30, .int .u8 24, .int .u8 18, .int .u8 12, .int .u8 5, .int .u8 63, .int .u8 55, .int .u8 48, .int .u8 27, .int .u8 60, .int .u8 41, .int .u8 37, .int .u8 16, .int .u8 46, .int .u8 35, .int .u8 44, .int .u8 21, .int .u8 52, .int .u8 32, .int .u8 23, .int .u8 11, .int .u8 54, .int .u8 26, .int .u8 40, .int .u8 15, .int .u8 34, .int .u8 20, .int .u8 31, .int .u8 10, .int .u8 25, .int .u8 14, .int .u8 19, .int .u8 9, .int .u8 13, .int .u8 8, .int .u8 7, .int .u8 6])).modify 3 (lay #[.int .u64 1, .int .u64 10, .int .u64 100, .int .u64 1000, .int .u64 10000, .int .u64 100000, .int .u64 1000000, .int .u64 10000000, .int .u64 100000000, .int .u64 1000000000, .int .u64 10000000000, .int .u64 100000000000, .int .u64 1000000000000, .int .u64 10000000000000, .int .u64 100000000000000, .int .u64 1000000000000000, .int .u64 10000000000000000, .int .u64 100000000000000000, .int .u64 1000000000000000000, .int .u64 10000000000000000000])).modify 5 (lay #[.int .u8 128, .int .u8 191, .int .u8 160, .int .u8 191, .int .u8 128, .int .u8 159, .int .u8 144, .int .u8 191, .int .u8 128, .int .u8 143, .int .u8 0, .int .u8 0, .int .u8 0, .int .u8 0, .int .u8 0, .int .u8 0, .int .u8 0, .int .u8 0, .int .u8 0, .int .u8 0, .int .u8 0, .int .u8 0, .int .u8 0, .int .u8 0, .int .u8 0, .int .u8 0, .int .u8 0, .int .u8 0, .int .u8 0, .int .u8 0, .int .u8 0, .int .u8 0])).modify 1 (lay #[.iface 247 (.pointer (some ⟨(World.holding Tryz.prog os ⟨#[], #[], []⟩).heap.size + 0, 0, none⟩))])).modify 0 (lay #[.iface 247 (.pointer (some ⟨(World.holding Tryz.prog os ⟨#[], #[], []⟩).heap.size + 1, 0, none⟩))])).modify 4 (lay ((Pinned.utf8FirstZ.map fun n => Value.int .u8 (Int.ofNat n)).toArray))).push (.cells #[.string ⟨#[118, 97, 108, 117, 101, 32, 111, 117, 116, 32, 111, 102, 32, 114, 97, 110, 103, 101]⟩] 249 (0, 0))).push (.cells #[.string ⟨#[105, 110, 118, 97, 108, 105, 100, 32, 115, 121, 110, 116, 97, 120]⟩] 249 (0, 0))) }
def wit : Array Value := #[.agg #[.int .i64 0, .string ⟨#[]⟩, .int .i64 0, .slice none 0 0, .int .i64 0, .int .i64 0, .string ⟨#[]⟩, .int .i64 0, .slice none 0 0, .int .i64 0, .string ⟨#[]⟩, .int .i64 0, .slice none 0 0], .agg #[.string ⟨#[]⟩, .int .i64 0, .string ⟨#[]⟩, .int .i64 0, .slice none 0 0, .int .i64 0, .int .i64 0, .int .i64 0, .string ⟨#[]⟩, .int .i64 0, .slice none 0 0, .int .i64 0, .string ⟨#[]⟩, .int .i64 0, .slice none 0 0, .slice none 0 0, .slice none 0 0]]
theorem laid_met (os : Os) : laidMet Tryz.prog Rows.keyserviceAcceptRow.laid ((laidWorld os).forCall (fun _ _ => 0) ⟨#[], wit, []⟩).memory :=
 laidMet_of_run' 8 (by kernel_rfl) (by kernel_rfl)
theorem reads (os : Os) {H : Type} (enc : TypeId × Value → H) : ∃ places, DataW.whole enc Tryz.prog ((laidWorld os).forCall (fun _ _ => 0) ⟨#[], wit, []⟩).memory Tryz.f6.params.toList Rows.keyserviceAcceptSpec.vars false wit.toList 8 = some ([.agg [.agg [.lit (.int .i64 0), .lit (.string []), .lit (.int .i64 0), .nil], .lit (.int .i64 0), .agg [.lit (.int .i64 0), .lit (.string []), .lit (.int .i64 0), .nil], .agg [.lit (.int .i64 0), .lit (.string []), .lit (.int .i64 0), .nil]], .agg [.lit (.string []), .agg [.lit (.int .i64 0), .lit (.string []), .lit (.int .i64 0), .nil], .lit (.int .i64 0), .lit (.int .i64 0), .agg [.lit (.int .i64 0), .lit (.string []), .lit (.int .i64 0), .nil], .agg [.lit (.int .i64 0), .lit (.string []), .lit (.int .i64 0), .nil], .nil, .nil]], [], places) :=
 ⟨[], by kernel_rfl⟩
theorem lifted (os : Os) (started : os.Started) (H : Type) (enc : TypeId × Value → H) (F : Stop.Interp) :
  ReturnsInHanded {} Tryz.checked os 6 .any ((OpenSpec.ofChange Rows.keyserviceAcceptSpec).preRow enc Tryz.prog Tryz.f6 Rows.keyserviceAcceptRow.domain false Rows.keyserviceAcceptRow.laid) (((OpenSpec.ofChange Rows.keyserviceAcceptSpec).at F).post enc Tryz.prog Tryz.f6 false true false false) := by
 obtain ⟨places, hx⟩ := reads os enc
 refine returnsInHanded_of_row (C := Tryz.checked) (s := OpenSpec.ofChange Rows.keyserviceAcceptSpec) own started (by kernel_rfl) Tryz.func6
  (witness_row_atRef (enc := enc) (C := Tryz.checked) false (laidWorld os) wit rfl (by kernel_rfl) (by kernel_rfl) (by kernel_rfl)
    (OpenSpec.preRow_of_cond 8 hx (by kernel_rfl) (fun k hk => by cases hk) (by kernel_rfl) (laid_met os))) ?_
 intro W base args ds gs before hval hW x1 x2 x3 x4 x5 x6
 exact contract H enc W base args ds gs before hval hW (by first | exact x1 | exact x2 | exact x3 | exact x4 | exact x5 | exact x6)
end Go.Proofs.YtajpkolimokcdaaGreatDoor.keyserviceAccept
namespace Go.Proofs.YtajpkolimokcdaaGreatDoor.keyserviceAccept
open Go.ChangeShapes Go.WideShapes Go.ChangeAt Go.RowKit Go.Vm Go.Vm.Seat
theorem andT {a b : Bool} (h1 : a = true) (h2 : b = true) : (a && b) = true := by rw [h1, h2]; rfl
theorem closed : joinedFacts Tryz.pinned.checked.prog 6 Tryz.f6 (OpenSpec.ofChange Rows.keyserviceAcceptSpec).bare Rows.keyserviceAcceptRow = true := by
 unfold joinedFacts
 repeat' (with_reducible apply andT)
 all_goals decide +kernel
end Go.Proofs.YtajpkolimokcdaaGreatDoor.keyserviceAccept
