/-
  CredentialReads: what the row asks of a call, from what the function gives at any argument.
-/
import Derived.Test.YtajpkolimokcdaaGreatDoorLd55
import Derived.Test.YtajpkolimokcdaaGreatDoorFh
import Derived.Test.YtajpkolimokcdaaGreatDoorCards
import Derived.Test.YtajpkolimokcdaaGreatDoorTie
import Derived.ProofKit
import Derived.OpenShut
import Derived.Deep.DeepHandedRow
import Derived.Deep.DeepWitnessRowRef
import Derived.WideKeyArgs
namespace Go.Proofs.YtajpkolimokcdaaGreatDoor.credentialReads
open Go.ChangeShapes Go.WideShapes Go.ChangeAt Go.RowKit Go.Vm Go.Vm.Seat
theorem own : ownKnob Tryz.prog.godebug = none := by kernel_rfl
def cl : List TypeId := [3, 9, 24, 22]
theorem clOk : ∀ t, t ∈ cl → tyOk E0.T cl t = true := by
  intro t ht
  have h : cl.all (fun t => tyOk E0.T cl t) = true := by kernel_rfl
  exact List.all_eq_true.1 h t ht
theorem e3 : E0.T 3 = some ⟨.int .i64, 1, 8, .int .i64 0⟩ := by kernel_rfl
theorem e9 : E0.T 9 = some ⟨.string, 1, 16, .str []⟩ := by kernel_rfl
theorem eT : E0.T 24 = some ⟨.struct [(0, 3), (1, 9), (2, 3), (3, 22)], 4, 56, .agg [.int .i64 0, .str [], .int .i64 0, .nils]⟩ := by kernel_rfl
theorem eTs : E0.T 22 = some ⟨.slice 24, 1, 24, .nils⟩ := by kernel_rfl
theorem laidOut : laidOutB Tryz.prog = true := by kernel_rfl
set_option maxRecDepth 100000 in
theorem contract (H : Type) (enc : TypeId × Value → H) (W : World) (base : Nat) (args : Array Value) (ds gs : List (DataW H)) (before : List MemPlace)
    (hval : ∀ (j : Nat) t v, Tryz.f4.params[j]? = some t → args[j]? = some v → Value.okWide Tryz.prog W .any base t v)
    (hW : DataW.Whole enc Tryz.prog Tryz.f4.params.toList Rows.credentialReadsSpec.vars false W args.toList ds gs before) (hL : laidMetH Tryz.prog Rows.credentialReadsRow.laid W) :
    Calls Tryz.prog 4 args W fun e W' => ∃ v, e = .returned v ∧ Rows.credentialReadsSpec.post enc Tryz.prog Tryz.f4 false true false false W args v W' := by
  have hG := ld55 hL
  have hW' := hW
  obtain ⟨p, q, hA0, hV, rfl, hfz, hnd⟩ := hW
  have hA : DataW.TrodAll enc Tryz.prog W 0 (fun _ => true) true Tryz.f4.params.toList args.toList ds p := hA0
  rw [Tryz.params4] at hA hval
  obtain ⟨v0, vs0, d0, ds0, p0, q0, hargs, rfl, rfl, h0, r0⟩ := trodAll_cons hA
  obtain ⟨rfl, rfl, rfl⟩ := trodAll_nil r0
  obtain rfl : args = #[v0] := by cases args; simp_all
  obtain ⟨rfl, rfl⟩ := trodVars_none hV
  have h0k := h0
  obtain ⟨cs, rfl, -⟩ := okWide_struct Tryz.underlying24 (hval 0 24 v0 rfl rfl)
  obtain ⟨fuel0, hf0⟩ := h0
  obtain ⟨pcs0, hsh0, hcells0⟩ := trod_sh tOk clOk fuel0 24 _ _ (by simp [cl]) hf0
  obtain ⟨tm, rfl, hok⟩ := (sh_tm e3 rfl rfl e9 rfl rfl eTs rfl rfl eT rfl rfl hsh0).1 rfl
  clear hA0
  simp only [List.append_nil] at hW'
  have hlt0 : ∀ x ∈ p0, x.block < W.heap.size := fun x hx => by simpa using hW'.lt x (by simp [hx])
  have call := calls_of3 fe4.ok hG (c4 hok hNil) (w := W) (vals := #[.agg cs]) ⟨rfl, fun i hi hj => by
    match i, hi with
    | 0, _ => exact agg_of hcells0⟩
  refine Calls.mono call fun e W' ⟨v, he, ⟨g', hv⟩, hg, hsame⟩ => ?_
  obtain rfl := hv.bool_inv
  subst he
  refine ⟨_, rfl, post_kept (pa := p0) (pv := []) hW' (fun _ _ _ => trodAll_cons_mk (shut_bool Tryz.underlying4 _) trodAll_mk0) (fun sp hsp => ?_) (fun _ _ => rfl) (by simp)
    (hg.frame _) hg.fz (ok_one (by kernel_rfl) rfl (okWide_bool_mk Tryz.underlying4 _))⟩
  have t0 := WideElems.Trod_stays (sp' := sp) (W' := W') laidOut (by kernel_rfl) (of_decide_eq_true (by kernel_rfl)) h0k (fun x hx => same_of hsame (hlt0 x hx)) (fun x hx => hsp x (by simp [hx]))
  exact trodAll_mk1 t0
end Go.Proofs.YtajpkolimokcdaaGreatDoor.credentialReads
