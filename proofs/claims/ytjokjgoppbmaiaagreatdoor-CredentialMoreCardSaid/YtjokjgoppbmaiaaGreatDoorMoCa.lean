/-
  CredentialMore: what the row asks of a call, from what the function gives at any argument.
-/
import Derived.Test.YtjokjgoppbmaiaaGreatDoorPe
import Derived.Test.YtjokjgoppbmaiaaGreatDoorLd55
import Derived.Test.YtjokjgoppbmaiaaGreatDoorFh
import Derived.Test.YtjokjgoppbmaiaaGreatDoorFi
import Derived.Test.YtjokjgoppbmaiaaGreatDoorCards
import Derived.Test.YtjokjgoppbmaiaaGreatDoorTie
import Derived.ProofKit
import Derived.OpenShut
import Derived.Deep.DeepHandedRow
import Derived.Deep.DeepWitnessRowRef
import Derived.WideKeyArgs
import Derived.ChangeMaps5
namespace Go.Proofs.YtjokjgoppbmaiaaGreatDoor.credentialMore
open Go.ChangeMaps Go.ChangeShapes Go.WideShapes Go.ChangeAt Go.RowKit Go.Vm Go.Vm.Seat
theorem own : ownKnob Tryz.prog.godebug = none := by kernel_rfl
def cl : List TypeId := [3, 9, 24, 22, 25, 27]
theorem clOk : ∀ t, t ∈ cl → tyOk E0.T cl t = true := by
 intro t ht
 have h : cl.all (fun t => tyOk E0.T cl t) = true := by kernel_rfl
 exact List.all_eq_true.1 h t ht
theorem e3 : E0.T 3 = some ⟨.int .i64, 1, 8, .int .i64 0⟩ := by kernel_rfl
theorem e9 : E0.T 9 = some ⟨.string, 1, 16, .str []⟩ := by kernel_rfl
theorem eIs : E0.T 25 = some ⟨.slice 3, 1, 24, .nils⟩ := by kernel_rfl
theorem eT : E0.T 24 = some ⟨.struct [(0, 3), (1, 9), (2, 3), (3, 22)], 4, 56, .agg [.int .i64 0, .str [], .int .i64 0, .nils]⟩ := by kernel_rfl
theorem eTs : E0.T 22 = some ⟨.slice 24, 1, 24, .nils⟩ := by kernel_rfl
theorem eQ : E0.T 27 = some ⟨.struct [(0, 24), (4, 9), (5, 3), (6, 25)], 7, 104, .agg [.int .i64 0, .str [], .int .i64 0, .nils, .str [], .int .i64 0, .nils]⟩ := by kernel_rfl
theorem len7 {α : Type} {l : List α} (h : l.length = 7) : ∃ a b c d e f g, l = [a, b, c, d, e, f, g] := by
 match l, h with
 | [a, b, c, d, e, f, g], _ => exact ⟨a, b, c, d, e, f, g, rfl⟩
theorem sh_qu {cs : List PV} (h : Sh E0.T 27 cs) : ∃ (x : Tm) (s : Bs) (n : Int) (b : Bool) (r : List Int), cs = x.cells ++ [.str s, .int .i64 n, slV b 1 (intC r)] ∧ x.Ok := by
 cases h with
 | bool h' hk' => rw [eQ] at h'; cases h'; cases hk'
 | int h' hk' => rw [eQ] at h'; cases h'; cases hk'
 | str h' hk' => rw [eQ] at h'; cases h'; cases hk'
 | nils h' hk' => rw [eQ] at h'; cases h'; cases hk'
 | sl h' hk' => rw [eQ] at h'; cases h'; cases hk'
 | struct h' hk' hlen hf =>
   rw [eQ] at h'; cases h'; cases hk'
   obtain ⟨a, b, c, d, e, f, g, rfl⟩ := len7 hlen
   have q0 := hf 0 24 _ (by simp) eT
   have q1 := hf 4 9 _ (by simp) e9
   have q2 := hf 5 3 _ (by simp) e3
   have q3 := hf 6 25 _ (by simp) eIs
   simp only [List.drop_zero, List.drop_succ_cons, List.take_succ_cons, List.take_zero] at q0 q1 q2 q3
   obtain ⟨t0, z0, k0⟩ := (sh_tm e3 rfl rfl e9 rfl rfl eTs rfl rfl eT rfl rfl q0).1 rfl
   obtain ⟨s1, z1, -⟩ := sh_str q1 e9 rfl
   obtain ⟨n2, z2, -⟩ := sh_int q2 e3 rfl
   obtain ⟨b3, r3, z3, -, -⟩ := sh_ints e3 rfl rfl eIs rfl q3
   simp only [List.cons.injEq, and_true] at z1 z2 z3
   subst z1 z2 z3
   exact ⟨t0, s1, n2, b3, r3, by rw [← z0]; rfl, k0⟩
theorem laidOut : laidOutB Tryz.prog = true := by kernel_rfl
set_option maxRecDepth 100000 in
theorem contract (H : Type) (enc : TypeId × Value → H) (W : World) (base : Nat) (args : Array Value) (ds gs : List (DataW H)) (before : List MemPlace)
  (hval : ∀ (j : Nat) t v, Tryz.f3.params[j]? = some t → args[j]? = some v → Value.okWide Tryz.prog W .any base t v)
  (hW : DataW.Whole enc Tryz.prog Tryz.f3.params.toList Rows.credentialMoreSpec.vars false W args.toList ds gs before) (hL : laidMetH Tryz.prog Rows.credentialMoreRow.laid W) :
  Calls Tryz.prog 3 args W fun e W' => ∃ v, e = .returned v ∧ Rows.credentialMoreSpec.post enc Tryz.prog Tryz.f3 false true false false W args v W' := by
 have hG := ld55 hL
 have hW' := hW
 obtain ⟨p, q, hA0, hV, rfl, hfz, hnd⟩ := hW
 have hA : DataW.TrodAll enc Tryz.prog W 0 (fun _ => true) true Tryz.f3.params.toList args.toList ds p := hA0
 rw [Tryz.params3] at hA hval
 obtain ⟨v0, vs0, d0, ds0, p0, q0, hargs, rfl, rfl, h0, r0⟩ := trodAll_cons hA
 obtain ⟨v1, vs1, d1, ds1, p1, q1, hargs1, rfl, rfl, h1, r1⟩ := trodAll_cons r0
 obtain ⟨v2, vs2, d2, ds2, p2, q2, hargs2, rfl, rfl, h2, r2⟩ := trodAll_cons r1
 obtain ⟨rfl, rfl, rfl⟩ := trodAll_nil r2
 subst hargs1 hargs2
 obtain rfl : args = #[v0, v1, v2] := by cases args; simp_all
 obtain ⟨rfl, rfl⟩ := trodVars_none hV
 have h0k := h0
 have h1k := h1
 have h2k := h2
 obtain ⟨a0, n0, c0, rfl⟩ := okWide_slice Tryz.underlying22 (hval 0 22 v0 rfl rfl)
 obtain ⟨cs1, rfl, -⟩ := okWide_struct Tryz.underlying27 (hval 1 27 v1 rfl rfl)
 obtain ⟨cs2, rfl, -⟩ := okWide_struct Tryz.underlying24 (hval 2 24 v2 rfl rfl)
 obtain ⟨fuel0, hf0⟩ := h0
 obtain ⟨fuel1, hf1⟩ := h1
 obtain ⟨fuel2, hf2⟩ := h2
 obtain ⟨pcs0, hsh0, hcells0⟩ := trod_sh tOk clOk fuel0 22 _ _ (by simp [cl]) hf0
 obtain ⟨pcs1, hsh1, hcells1⟩ := trod_sh tOk clOk fuel1 27 _ _ (by simp [cl]) hf1
 obtain ⟨pcs2, hsh2, hcells2⟩ := trod_sh tOk clOk fuel2 24 _ _ (by simp [cl]) hf2
 obtain ⟨b0, l, rfl, hl, hll⟩ := (sh_tm e3 rfl rfl e9 rfl rfl eTs rfl rfl eT rfl rfl hsh0).2 rfl
 obtain ⟨anc, nm, now, rb, rv, rfl, hanc⟩ := sh_qu hsh1
 obtain ⟨mo, rfl, hmo⟩ := (sh_tm e3 rfl rfl e9 rfl rfl eTs rfl rfl eT rfl rfl hsh2).1 rfl
 clear hA0
 simp only [List.append_nil] at hW'
 have hlt0 : ∀ x ∈ p0, x.block < W.heap.size := fun x hx => by simpa using hW'.lt x (by simp [hx])
 have hlt1 : ∀ x ∈ p1, x.block < W.heap.size := fun x hx => by simpa using hW'.lt x (by simp [hx])
 have hlt2 : ∀ x ∈ p2, x.block < W.heap.size := fun x hx => by simpa using hW'.lt x (by simp [hx])
 have call := calls_of3 fe3.ok hG (c3 (q := ⟨l, anc, now, rv⟩) hl hll hanc (name := nm) hmo b0 rb hNil) (w := W) (vals := #[.slice a0 n0 c0, .agg cs1, .agg cs2]) ⟨rfl, fun i hi hj => by
  match i, hi with
  | 0, _ => exact hcells0.2 0 (by simp) (by simp [Value.cells])
  | 1, _ => exact agg_of hcells1
  | 2, _ => exact agg_of hcells2⟩
 refine Calls.mono call fun e W' ⟨v, he, ⟨g', hv⟩, hg, hsame⟩ => ?_
 obtain rfl := hv.bool_inv
 subst he
 refine ⟨_, rfl, post_kept (pa := p0 ++ (p1 ++ p2)) (pv := []) hW' (fun _ _ _ => trodAll_cons_mk (shut_bool Tryz.underlying4 _) trodAll_mk0) (fun sp hsp => ?_) (fun _ _ => rfl) (by simp)
  (hg.frame _) hg.fz (ok_one (by kernel_rfl) rfl (okWide_bool_mk Tryz.underlying4 _))⟩
 have t0 := WideElems.Trod_stays (sp' := sp) (W' := W') laidOut (by kernel_rfl) (of_decide_eq_true (by kernel_rfl)) h0k (fun x hx => same_of hsame (hlt0 x hx)) (fun x hx => hsp x (by simp [hx]))
 have t1 := WideElems.Trod_stays (sp' := sp) (W' := W') laidOut (by kernel_rfl) (of_decide_eq_true (by kernel_rfl)) h1k (fun x hx => same_of hsame (hlt1 x hx)) (fun x hx => hsp x (by simp [hx]))
 have t2 := WideElems.Trod_stays (sp' := sp) (W' := W') laidOut (by kernel_rfl) (of_decide_eq_true (by kernel_rfl)) h2k (fun x hx => same_of hsame (hlt2 x hx)) (fun x hx => hsp x (by simp [hx]))
 exact trodAll_mk3 t0 t1 t2
end Go.Proofs.YtjokjgoppbmaiaaGreatDoor.credentialMore
