/-
  What the variables hold that the code of the credentials reads: the row's cell 'laid' gives it. KeyserviceCurrent: what the row asks of a call, from what the function gives at any argument. KeyserviceCurrent: a world for the witness; the row is lifted over all starts. KeyserviceCurrent: what the row asks of the program, piece by piece.
-/
import Derived.Test.YtajpkolimokcdaaGreatDoorDf
import Derived.Test.YtajpkolimokcdaaGreatDoorFh
import Derived.Test.YtajpkolimokcdaaGreatDoorRows
import Derived.ProofKit
import Derived.Stop.LaidErr
import Derived.Lib.LaidTab
import Derived.Test.YtajpkolimokcdaaGreatDoorAw57
import Derived.Test.YtajpkolimokcdaaGreatDoorCards
import Derived.Test.YtajpkolimokcdaaGreatDoorTie
import Derived.OpenShut
import Derived.Deep.DeepHandedRow
import Derived.Deep.DeepWitnessRowRef
import Derived.WideKeyArgs
import Derived.ChangeMaps5
namespace Go.Vm.Seat
open Go.Proofs Go.Proofs.YtajpkolimokcdaaGreatDoor Go.RowKit
set_option maxRecDepth 100000
theorem star0 : "*" ++ "errors.errorString" = "*errors.errorString" := by decide
theorem rowErr (u : TypeId) (h : Tryz.prog.typeName? 3 u = some "*errors.errorString") : u = 247 :=
 typeName_ptr_named (nm := "errors.errorString") (by rw [star0]; kernel_rfl) (by kernel_rfl) (by decide) u (by rw [star0]; exact h)
theorem ld55 {W : World} (h : laidMetH Tryz.prog Rows.credentialReadsRow.laid W) : GOk E0 (wG W) := by
 have h : laidMet Tryz.prog Rows.credentialReadsRow.laid W := h
 have h2 := h.tail.tail
 have hT : Lib.TabIs Tryz.prog W "internal/strconv.uint64pow10" .u64 [1, 10, 100, 1000, 10000, 100000, 1000000, 10000000, 100000000, 1000000000, 10000000000, 100000000000, 1000000000000, 10000000000000, 100000000000000, 1000000000000000, 10000000000000000, 100000000000000000, 1000000000000000000, 10000000000000000000] :=
  Lib.tabIs_of_head (g := 3) (t := 254) (e := 230) (n := 20) (by kernel_rfl) (by kernel_rfl) (by kernel_rfl) (by kernel_rfl) (by kernel_rfl) (by kernel_rfl) h2
 have h4 := h2.tail.tail
 obtain ⟨a1, s1, v1, -⟩ := laid_sentinel (g := 1) (ti := 136) h4 (by kernel_rfl) (by kernel_rfl) Tryz.underlying136 rowErr Tryz.underlying247 Tryz.underlying249 rfl rfl Tryz.underlying9 (by kernel_rfl) (by kernel_rfl)
 obtain ⟨a2, s2, v2, -⟩ := laid_sentinel (g := 0) (ti := 136) h4.tail (by kernel_rfl) (by kernel_rfl) Tryz.underlying136 rowErr Tryz.underlying247 Tryz.underlying249 rfl rfl Tryz.underlying9 (by kernel_rfl) (by kernel_rfl)
 refine ⟨fun k cs' hk => ?_, fun h => by simp [wG] at h, fun k hk => ?_⟩
 · simp only [E0] at hk
   split at hk
   · rename_i hb
     obtain rfl := Nat.eq_of_beq_eq_true hb
     cases hk
     refine .fptr pow10C 0 3 0 (fun j => (W.cell? ⟨3, j, none⟩).getD undef) (fun j hj => ?_) (fun j hj => ?_)
     · have hl : j < 20 := by simpa [pow10C] using hj
       show wS W 3 (0 + j) = _
       simp only [wS, Nat.zero_add]
       rw [hT.cell (by kernel_rfl) j (by simpa using hl)]
       rfl
     · have hl : j < 20 := by simpa [pow10C] using hj
       rw [hT.cell (by kernel_rfl) j (by simpa using hl)]
       match j, hl with
       | 0, _ | 1, _ | 2, _ | 3, _ | 4, _ | 5, _ | 6, _ | 7, _ | 8, _ | 9, _ | 10, _ | 11, _ | 12, _ | 13, _ | 14, _ | 15, _ | 16, _ | 17, _ | 18, _ | 19, _ => exact .int _ _
       | n + 20, h => exact absurd h (by omega)
   · cases hk
 · have hk : k = 0 ∨ k = 1 := by
     simp only [E0, List.any_cons, List.any_nil, Bool.or_false, Bool.or_eq_true] at hk
     rcases hk with e | e
     · exact .inl (Nat.eq_of_beq_eq_true e)
     · exact .inr (Nat.eq_of_beq_eq_true e)
   rcases hk with rfl | rfl
   · have c := World.var?_cell (show Tryz.prog.globalNamed "strconv.ErrSyntax" = some 0 by kernel_rfl) v2 0
     exact ⟨_, _, c⟩
   · have c := World.var?_cell (show Tryz.prog.globalNamed "strconv.ErrRange" = some 1 by kernel_rfl) v1 0
     exact ⟨_, _, c⟩
end Go.Vm.Seat
namespace Go.Proofs.YtajpkolimokcdaaGreatDoor.keyserviceCurrent
open Go.ChangeMaps Go.ChangeShapes Go.WideShapes Go.ChangeAt Go.RowKit Go.Vm Go.Vm.Seat
theorem own : ownKnob Tryz.prog.godebug = none := by kernel_rfl
def cl : List TypeId := [3, 9, 24, 22]
theorem clOk : ∀ t, t ∈ cl → tyOk E0.T cl t = true := by
 intro t ht
 have h : cl.all (fun t => tyOk E0.T cl t) = true := by kernel_rfl
 exact List.all_eq_true.1 h t ht
theorem e3 : E0.T 3 = some ⟨.int .i64, 1, 8, .int .i64 0⟩ := by kernel_rfl
theorem e9 : E0.T 9 = some ⟨.string, 1, 16, .str []⟩ := by kernel_rfl
theorem eT : E0.T 24 = some ⟨.struct [(0, 3), (1, 9), (2, 3), (3, 22)], 4, 56, .agg [.int .i64 0, .str [], .int .i64 0, .nils]⟩ := by kernel_rfl
theorem eTs : E0.T 22 = some ⟨.slice 24, 1, 24, .nils⟩ := by kernel_rfl
theorem laidOut : laidOutB Tryz.prog = true := by kernel_rfl
set_option maxRecDepth 100000 in
theorem contract (H : Type) (enc : TypeId × Value → H) (W : World) (base : Nat) (args : Array Value) (ds gs : List (DataW H)) (before : List MemPlace)
  (hval : ∀ (j : Nat) t v, Tryz.f7.params[j]? = some t → args[j]? = some v → Value.okWide Tryz.prog W .any base t v)
  (hW : DataW.Whole enc Tryz.prog Tryz.f7.params.toList Rows.keyserviceCurrentSpec.vars false W args.toList ds gs before) (hL : laidMetH Tryz.prog Rows.keyserviceCurrentRow.laid W) :
  Calls Tryz.prog 7 args W fun e W' => ∃ v, e = .returned v ∧ Rows.keyserviceCurrentSpec.post enc Tryz.prog Tryz.f7 false true false false W args v W' := by
 have hG := ld55 hL
 have hW' := hW
 obtain ⟨p, q, hA0, hV, rfl, hfz, hnd⟩ := hW
 have hA : DataW.TrodAll enc Tryz.prog W 0 (fun _ => true) true Tryz.f7.params.toList args.toList ds p := hA0
 rw [Tryz.params7] at hA hval
 obtain ⟨v0, vs0, d0, ds0, p0, q0, hargs, rfl, rfl, h0, r0⟩ := trodAll_cons hA
 obtain ⟨v1, vs1, d1, ds1, p1, q1, hargs1, rfl, rfl, h1, r1⟩ := trodAll_cons r0
 obtain ⟨rfl, rfl, rfl⟩ := trodAll_nil r1
 subst hargs1
 obtain rfl : args = #[v0, v1] := by cases args; simp_all
 obtain ⟨rfl, rfl⟩ := trodVars_none hV
 have h0k := h0
 have h1k := h1
 obtain ⟨s1, rfl, rfl, rfl, -⟩ := open_string Tryz.underlying9 (hval 1 9 v1 rfl rfl) h1
 obtain ⟨a0, n0, c0, rfl⟩ := okWide_slice Tryz.underlying22 (hval 0 22 v0 rfl rfl)
 obtain ⟨fuel0, hf0⟩ := h0
 obtain ⟨pcs0, hsh0, hcells0⟩ := trod_sh tOk clOk fuel0 22 _ _ (by simp [cl]) hf0
 obtain ⟨b0, l, rfl, hok, hll⟩ := (sh_tm e3 rfl rfl e9 rfl rfl eTs rfl rfl eT rfl rfl hsh0).2 rfl
 clear hA0
 simp only [List.append_nil] at hW'
 have hlt0 : ∀ x ∈ p0, x.block < W.heap.size := fun x hx => by simpa using hW'.lt x (by simp [hx])
 have call := calls_of3 fe7.ok hG (c7 awakeOk57 hok hll (name := s1.data.toList) b0 hNil) (w := W) (vals := #[.slice a0 n0 c0, .string s1]) ⟨rfl, fun i hi hj => by
  match i, hi with
  | 0, _ => exact hcells0.2 0 (by simp) (by simp [Value.cells])
  | 1, _ => exact .str _ s1 rfl⟩
 refine Calls.mono call fun e W' ⟨v, he, ⟨g', hv⟩, hg, hsame⟩ => ?_
 obtain rfl := hv.bool_inv
 subst he
 refine ⟨_, rfl, post_kept (pa := p0) (pv := []) hW' (fun _ _ _ => trodAll_cons_mk (shut_bool Tryz.underlying4 _) trodAll_mk0) (fun sp hsp => ?_) (fun _ _ => rfl) (by simp)
  (hg.frame _) hg.fz (ok_one (by kernel_rfl) rfl (okWide_bool_mk Tryz.underlying4 _))⟩
 have t0 := WideElems.Trod_stays (sp' := sp) (W' := W') laidOut (by kernel_rfl) (of_decide_eq_true (by kernel_rfl)) h0k (fun x hx => same_of hsame (hlt0 x hx)) (fun x hx => hsp x (by simp [hx]))
 have t1 := WideElems.Trod_stays (sp' := sp) (W' := W') laidOut (by kernel_rfl) (of_decide_eq_true (by kernel_rfl)) h1k (fun x hx => absurd hx (by simp)) (fun x hx => absurd hx (by simp))
 have t2 := trodAll_mk2 t0 t1
 simp only [List.append_nil] at t2
 exact t2
end Go.Proofs.YtajpkolimokcdaaGreatDoor.keyserviceCurrent
namespace Go.Proofs.YtajpkolimokcdaaGreatDoor.keyserviceCurrent
open Go.ChangeShapes Go.WideShapes Go.ChangeAt Go.RowKit Go.Vm Go.Vm.Seat
noncomputable def lay (c : Array Value) : Obj → Obj
 | .cells _ t frozen => .cells c t frozen
 | o => o
noncomputable def laidWorld (os : Os) : World :=
 { World.holding Tryz.prog os ⟨#[], #[], []⟩ with
   heap := ((((((((((World.holding Tryz.prog os ⟨#[], #[], []⟩).heap.modify 6 (lay #[.int .u8 0, .int .u8 1, .int .u8 28, .int .u8 2, .int .u8 29, .int .u8 14, .int .u8 24, .int .u8 3, .int .u8 30, .int .u8 22, .int .u8 20, .int .u8 15, .int .u8 25, .int .u8 17, .int .u8 4, .int .u8 8, .int .u8 31, .int .u8 27, .int .u8 13, .int .u8 23, .int .u8 21, .int .u8 19, .int .u8 16, .int .u8 7, .int .u8 26, .int .u8 12, .int .u8 18, .int .u8 6, .int .u8 11, .int .u8 5, .int .u8 10, .int .u8 9])).modify 7 (lay #[.int .u8 0, .int .u8 1, .int .u8 56, .int .u8 2, .int .u8 57, .int .u8 49, .int .u8 28, .int .u8 3, .int .u8 61, .int .u8 58, .int .u8 42, .int .u8 50, .int .u8 38, .int .u8 29, .int .u8 17, .int .u8 4, .int .u8 62, .int .u8 47, .int .u8 59, .int .u8 36, .int .u8 45, .int .u8 43, .int .u8 51, .int .u8 22, .int .u8 53, .int .u8 39, .int .u8 33, .int .u8 30, .int .u8 24, .int .u8 18, .int .u8 12, .int .u8 5, .int .u8 63, .int .u8 55, .int .u8 48, .int .u8 27, .int .u8 60, .int .u8 41, .int .u8 37, .int .u8 16, .int .u8 46, .int .u8 35, .int .u8 44, .int .u8 21, .int .u8 52, .int .u8 32, .int .u8 23, .int .u8 11, .int .u8 54, .int .u8 26, .int .u8 40, .int .u8 15, .int .u8 34, .int .u8 20, .int .u8 31, .int .u8 10, .int .u8 25, .int .u8 14, .int .u8 19, .int .u8 9, .int .u8 13, .int .u8 8, .int .u8 7, .int .u8 6])).modify 3 (lay #[.int .u64 1, .int .u64 10, .int .u64 100, .int .u64 1000, .int .u64 10000, .int .u64 100000, .int .u64 1000000, .int .u64 10000000, .int .u64 100000000, .int .u64 1000000000, .int .u64 10000000000, .int .u64 100000000000, .int .u64 1000000000000, .int .u64 10000000000000, .int .u64 100000000000000, .int .u64 1000000000000000, .int .u64 10000000000000000, .int .u64 100000000000000000, .int .u64 1000000000000000000, .int .u64 10000000000000000000])).modify 5 (lay #[.int .u8 128, .int .u8 191, .int .u8 160, .int .u8 191, .int .u8 128, .int .u8 159, .int .u8 144, .int .u8 191, .int .u8 128, .int .u8 143, .int .u8 0, .int .u8 0, .int .u8 0, .int .u8 0, .int .u8 0, .int .u8 0, .int .u8 0, .int .u8 0, .int .u8 0, .int .u8 0, .int .u8 0, .int .u8 0, .int .u8 0, .int .u8 0, .int .u8 0, .int .u8 0, .int .u8 0, .int .u8 0, .int .u8 0, .int .u8 0, .int .u8 0, .int .u8 0])).modify 1 (lay #[.iface 247 (.pointer (some ⟨(World.holding Tryz.prog os ⟨#[], #[], []⟩).heap.size + 0, 0, none⟩))])).modify 0 (lay #[.iface 247 (.pointer (some ⟨(World.holding Tryz.prog os ⟨#[], #[], []⟩).heap.size + 1, 0, none⟩))])).modify 4 (lay ((Pinned.utf8FirstZ.map fun n => Value.int .u8 (Int.ofNat n)).toArray))).push (.cells #[.string ⟨#[118, 97, 108, 117, 101, 32, 111, 117, 116, 32, 111, 102, 32, 114, 97, 110, 103, 101]⟩] 249 (0, 0))).push (.cells #[.string ⟨#[105, 110, 118, 97, 108, 105, 100, 32, 115, 121, 110, 116, 97, 120]⟩] 249 (0, 0))) }
def wit : Array Value := #[.slice none 0 0, .string ⟨#[]⟩]
theorem laid_met (os : Os) : laidMet Tryz.prog Rows.keyserviceCurrentRow.laid ((laidWorld os).forCall (fun _ _ => 0) ⟨#[], wit, []⟩).memory :=
 laidMet_of_run' 8 (by kernel_rfl) (by kernel_rfl)
theorem reads (os : Os) {H : Type} (enc : TypeId × Value → H) : ∃ places, DataW.whole enc Tryz.prog ((laidWorld os).forCall (fun _ _ => 0) ⟨#[], wit, []⟩).memory Tryz.f7.params.toList Rows.keyserviceCurrentSpec.vars false wit.toList 8 = some ([.nil, .lit (.string [])], [], places) :=
 ⟨[], by kernel_rfl⟩
set_option maxRecDepth 100000 in
theorem lifted (os : Os) (started : os.Started) (H : Type) (enc : TypeId × Value → H) (F : Stop.Interp) :
  ReturnsInHanded {} Tryz.checked os 7 .any ((OpenSpec.ofChange Rows.keyserviceCurrentSpec).preRow enc Tryz.prog Tryz.f7 Rows.keyserviceCurrentRow.domain false Rows.keyserviceCurrentRow.laid) (((OpenSpec.ofChange Rows.keyserviceCurrentSpec).at F).post enc Tryz.prog Tryz.f7 false true false false) := by
 obtain ⟨places, hx⟩ := reads os enc
 refine returnsInHanded_of_row (C := Tryz.checked) (s := OpenSpec.ofChange Rows.keyserviceCurrentSpec) own started (by kernel_rfl) Tryz.func7
  (witness_row_atRef (enc := enc) (C := Tryz.checked) false (laidWorld os) wit rfl (by kernel_rfl) (by kernel_rfl) (by kernel_rfl)
    (OpenSpec.preRow_of_cond 8 hx (by kernel_rfl) (fun k hk => by cases hk) (by kernel_rfl) (laid_met os))) ?_
 intro W base args ds gs before hval hW x1 x2 x3 x4 x5 x6
 exact contract H enc W base args ds gs before hval hW (by first | exact x1 | exact x2 | exact x3 | exact x4 | exact x5 | exact x6)
end Go.Proofs.YtajpkolimokcdaaGreatDoor.keyserviceCurrent
namespace Go.Proofs.YtajpkolimokcdaaGreatDoor.keyserviceCurrent
open Go.ChangeShapes Go.WideShapes Go.ChangeAt Go.RowKit Go.Vm Go.Vm.Seat
theorem andT {a b : Bool} (h1 : a = true) (h2 : b = true) : (a && b) = true := by rw [h1, h2]; rfl
set_option maxHeartbeats 400000000 in
theorem closed : joinedFacts Tryz.pinned.checked.prog 7 Tryz.f7 (OpenSpec.ofChange Rows.keyserviceCurrentSpec).bare Rows.keyserviceCurrentRow = true := by
 unfold joinedFacts
 repeat' (with_reducible apply andT)
 all_goals decide +kernel
end Go.Proofs.YtajpkolimokcdaaGreatDoor.keyserviceCurrent
