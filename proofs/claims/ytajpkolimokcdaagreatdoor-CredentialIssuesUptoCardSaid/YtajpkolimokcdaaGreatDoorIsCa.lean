/-
  CredentialIssues: what the row asks of a call, from what the function gives at any argument.
-/
import Derived.Test.YtajpkolimokcdaaGreatDoorDg
import Derived.Test.YtajpkolimokcdaaGreatDoorLd55
import Derived.Test.YtajpkolimokcdaaGreatDoorFh
import Derived.Test.YtajpkolimokcdaaGreatDoorFi
import Derived.Test.YtajpkolimokcdaaGreatDoorCards
import Derived.Test.YtajpkolimokcdaaGreatDoorTie
import Derived.ProofKit
import Derived.OpenShut
import Derived.Deep.DeepHandedRow
import Derived.Deep.DeepWitnessRowRef
import Derived.WideKeyArgs
import Derived.ChangeMaps5
namespace Go.Proofs.YtajpkolimokcdaaGreatDoor.credentialIssues
open Go.ChangeMaps Go.ChangeShapes Go.WideShapes Go.ChangeAt Go.RowKit Go.Vm Go.Vm.Seat
theorem own : ownKnob Tryz.prog.godebug = none := by kernel_rfl
def cl : List TypeId := [3, 9, 4, 24, 22, 25, 27, 29]
theorem clOk : ∀ t, t ∈ cl → tyOk E0.T cl t = true := by
  intro t ht
  have h : cl.all (fun t => tyOk E0.T cl t) = true := by kernel_rfl
  exact List.all_eq_true.1 h t ht
theorem e3 : E0.T 3 = some ⟨.int .i64, 1, 8, .int .i64 0⟩ := by kernel_rfl
theorem e9 : E0.T 9 = some ⟨.string, 1, 16, .str []⟩ := by kernel_rfl
theorem eT : E0.T 24 = some ⟨.struct [(0, 3), (1, 9), (2, 3), (3, 22)], 4, 56, .agg [.int .i64 0, .str [], .int .i64 0, .nils]⟩ := by kernel_rfl
theorem eTs : E0.T 22 = some ⟨.slice 24, 1, 24, .nils⟩ := by kernel_rfl
theorem eSs : E0.T 25 = some ⟨.slice 9, 1, 24, .nils⟩ := by kernel_rfl
theorem eCo : E0.T 27 = some ⟨.struct [(0, 25), (1, 25)], 2, 48, .agg [.nils, .nils]⟩ := by kernel_rfl
theorem laidOut : laidOutB Tryz.prog = true := by kernel_rfl
theorem bulkAll_sum {H : Type} : ∀ l : List (DataW H), (l.map Rows.uptoBulk).sum = Rows.uptoBulkAll l
  | [] => by simp [Rows.uptoBulkAll]
  | d :: r => by simp only [List.map_cons, List.sum_cons, Rows.uptoBulkAll, bulkAll_sum r]
theorem bulkOk {H : Type} : BulkOk (H := H) Rows.uptoBulk where
  lit l := by cases l <;> simp [Rows.uptoBulk]
  str s := by simp [Rows.uptoBulk]
  nil := by simp [Rows.uptoBulk]
  slice e s := by simp only [Rows.uptoBulk, bulkAll_sum]; omega
  agg ps := by simp only [Rows.uptoBulk, bulkAll_sum]; omega
theorem strs_of : ∀ (el : List (List PV)), (∀ c, c ∈ el → ∃ s : Bs, c = [.str s]) → ∃ l : List Bs, el = strC l
  | [], _ => ⟨[], rfl⟩
  | c :: r, h => by
    obtain ⟨s, hs⟩ := h c List.mem_cons_self
    obtain ⟨l, hl⟩ := strs_of r fun c hc => h c (List.mem_cons_of_mem _ hc)
    exact ⟨s :: l, by rw [hs, hl]; rfl⟩
theorem sh_strs {cs : List PV} (h : Sh E0.T 25 cs) : ∃ b l, cs = [slV b 1 (strC l)] ∧ l.length ≤ wtL cs := by
  cases h with
  | bool h' hk' => rw [eSs] at h'; cases h'; cases hk'
  | int h' hk' => rw [eSs] at h'; cases h'; cases hk'
  | str h' hk' => rw [eSs] at h'; cases h'; cases hk'
  | struct h' hk' => rw [eSs] at h'; cases h'; cases hk'
  | nils h' hk' => exact ⟨true, [], by rw [show strC [] = [] from rfl, slV_nil_true], Nat.zero_le _⟩
  | sl h' hk' he hl hel =>
    rw [eSs] at h'; cases h'; cases hk'
    rw [e9] at he; cases he
    obtain ⟨l, rfl⟩ := strs_of _ fun c hc => (by
      obtain ⟨s, hs, _⟩ := sh_str (hel c hc) e9 rfl
      exact ⟨s, hs⟩)
    refine ⟨false, l, by rw [slV_false], ?_⟩
    have := len_wtLL (strC l) fun c hc => by
      obtain ⟨s, _, rfl⟩ := List.mem_map.1 hc
      simp
    rw [strC_len] at this
    simp only [wtL, wt]
    omega
theorem len2 {α : Type} {l : List α} (h : l.length = 2) : ∃ a b, l = [a, b] := by
  match l, h with
  | [a, b], _ => exact ⟨a, b, rfl⟩
theorem sh_con {cs : List PV} (h : Sh E0.T 27 cs) : ∃ b b' P X, cs = [slV b 1 (strC P), slV b' 1 (strC X)] ∧ P.length + X.length ≤ wtL cs := by
  cases h with
  | bool h' hk' => rw [eCo] at h'; cases h'; cases hk'
  | int h' hk' => rw [eCo] at h'; cases h'; cases hk'
  | str h' hk' => rw [eCo] at h'; cases h'; cases hk'
  | nils h' hk' => rw [eCo] at h'; cases h'; cases hk'
  | sl h' hk' => rw [eCo] at h'; cases h'; cases hk'
  | struct h' hk' hlen hf =>
    rw [eCo] at h'; cases h'; cases hk'
    obtain ⟨a, b, rfl⟩ := len2 hlen
    have q0 := hf 0 25 _ (by simp) eSs
    have q1 := hf 1 25 _ (by simp) eSs
    simp only [List.drop_zero, List.drop_succ_cons, List.take_succ_cons, List.take_zero] at q0 q1
    obtain ⟨b0, P, e0, w0⟩ := sh_strs q0
    obtain ⟨b1, X, e1, w1⟩ := sh_strs q1
    simp only [List.cons.injEq, and_true] at e0 e1
    subst e0 e1
    refine ⟨b0, b1, P, X, rfl, ?_⟩
    simp only [wtL] at w0 w1 ⊢
    omega
theorem eB : E0.T 4 = some ⟨.bool, 1, 1, .bool false⟩ := by kernel_rfl
theorem eCr : E0.T 29 = some ⟨.struct [(0, 9), (1, 24), (5, 4), (6, 27), (8, 3), (9, 3), (10, 3)], 11, 152, .agg [.str [], .int .i64 0, .str [], .int .i64 0, .nils, .bool false, .nils, .nils, .int .i64 0, .int .i64 0, .int .i64 0]⟩ := by kernel_rfl
theorem sh_bool {cs : List PV} (h : Sh E0.T 4 cs) : ∃ b, cs = [.bool b] := by
  cases h with
  | bool => exact ⟨_, rfl⟩
  | int h' hk' => rw [eB] at h'; cases h'; cases hk'
  | str h' hk' => rw [eB] at h'; cases h'; cases hk'
  | struct h' hk' => rw [eB] at h'; cases h'; cases hk'
  | nils h' hk' => rw [eB] at h'; cases h'; cases hk'
  | sl h' hk' => rw [eB] at h'; cases h'; cases hk'
theorem len11 {α : Type} {l : List α} (h : l.length = 11) : ∃ a b c d e f g i j k m, l = [a, b, c, d, e, f, g, i, j, k, m] := by
  match l, h with
  | [a, b, c, d, e, f, g, i, j, k, m], _ => exact ⟨a, b, c, d, e, f, g, i, j, k, m, rfl⟩
theorem sh_cred {cs : List PV} (h : Sh E0.T 29 cs) : ∃ x : Cred, cs = x.cells ∧ x.key.Ok ∧ x.per.length + x.exc.length ≤ wtL cs := by
  cases h with
  | bool h' hk' => rw [eCr] at h'; cases h'; cases hk'
  | int h' hk' => rw [eCr] at h'; cases h'; cases hk'
  | str h' hk' => rw [eCr] at h'; cases h'; cases hk'
  | nils h' hk' => rw [eCr] at h'; cases h'; cases hk'
  | sl h' hk' => rw [eCr] at h'; cases h'; cases hk'
  | struct h' hk' hlen hf =>
    rw [eCr] at h'; cases h'; cases hk'
    obtain ⟨a, b, c, d, e, f, g, i, j, k, m, rfl⟩ := len11 hlen
    have q0 := hf 0 9 _ (by simp) e9
    have q1 := hf 1 24 _ (by simp) eT
    have q2 := hf 5 4 _ (by simp) eB
    have q3 := hf 6 27 _ (by simp) eCo
    have q4 := hf 8 3 _ (by simp) e3
    have q5 := hf 9 3 _ (by simp) e3
    have q6 := hf 10 3 _ (by simp) e3
    simp only [List.drop_zero, List.drop_succ_cons, List.take_succ_cons, List.take_zero] at q0 q1 q2 q3 q4 q5 q6
    obtain ⟨s0, z0, -⟩ := sh_str q0 e9 rfl
    obtain ⟨tm, z1, hok⟩ := (sh_tm e3 rfl rfl e9 rfl rfl eTs rfl rfl eT rfl rfl q1).1 rfl
    obtain ⟨b2, z2⟩ := sh_bool q2
    obtain ⟨b0, b1, P, X, z3, w⟩ := sh_con q3
    obtain ⟨n4, z4, -⟩ := sh_int q4 e3 rfl
    obtain ⟨n5, z5, -⟩ := sh_int q5 e3 rfl
    obtain ⟨n6, z6, -⟩ := sh_int q6 e3 rfl
    simp only [List.cons.injEq, and_true] at z0 z2 z3 z4 z5 z6
    obtain ⟨rfl, rfl⟩ := z3
    subst z0 z2 z4 z5 z6
    refine ⟨⟨s0, tm, b2, b0, P, b1, X, n4, n5, n6⟩, ?_, hok, ?_⟩
    · simp only [Cred.cells, ← z1, List.cons_append, List.nil_append]
    · simp only [wtL] at w ⊢
      omega
set_option maxRecDepth 100000 in
theorem contract (H : Type) (enc : TypeId × Value → H) (W : World) (base : Nat) (args : Array Value) (ds gs : List (DataW H)) (before : List MemPlace)
    (hval : ∀ (j : Nat) t v, Tryz.f3.params[j]? = some t → args[j]? = some v → Value.okWide Tryz.prog W .any base t v)
    (hW : DataW.Whole enc Tryz.prog Tryz.f3.params.toList Rows.credentialIssuesSpec.vars false W args.toList ds gs before) (hL : laidMetH Tryz.prog Rows.credentialIssuesUptoRow.laid W) (hsm : Rows.uptoSmall H (ds ++ gs) = true) :
    Calls Tryz.prog 3 args W fun e W' => ∃ v, e = .returned v ∧ Rows.credentialIssuesSpec.post enc Tryz.prog Tryz.f3 false true false false W args v W' := by
  have hG := ld55 hL
  have hW' := hW
  obtain ⟨p, q, hA0, hV, rfl, hfz, hnd⟩ := hW
  have hA : DataW.TrodAll enc Tryz.prog W 0 (fun _ => true) true Tryz.f3.params.toList args.toList ds p := hA0
  rw [Tryz.params3] at hA hval
  obtain ⟨v0, vs0, d0, ds0, p0, q0, hargs, rfl, rfl, h0, r0⟩ := trodAll_cons hA
  obtain ⟨v1, vs1, d1, ds1, p1, q1, hargs1, rfl, rfl, h1, r1⟩ := trodAll_cons r0
  obtain ⟨rfl, rfl, rfl⟩ := trodAll_nil r1
  subst hargs1
  obtain rfl : args = #[v0, v1] := by cases args; simp_all
  obtain ⟨rfl, rfl⟩ := trodVars_none hV
  have h0k := h0
  have h1k := h1
  obtain ⟨cs0, rfl, -⟩ := okWide_struct Tryz.underlying29 (hval 0 29 v0 rfl rfl)
  obtain ⟨cs1, rfl, -⟩ := okWide_struct Tryz.underlying24 (hval 1 24 v1 rfl rfl)
  obtain ⟨fuel0, hf0⟩ := h0
  obtain ⟨fuel1, hf1⟩ := h1
  obtain ⟨pcs0, hsh0, hcells0, hwt⟩ := trod_shW tOk bulkOk clOk fuel0 29 _ _ (by simp [cl]) hf0
  obtain ⟨pcs1, hsh1, hcells1⟩ := trod_sh tOk clOk fuel1 24 _ _ (by simp [cl]) hf1
  obtain ⟨x, rfl, hxo, hlen⟩ := sh_cred hsh0
  obtain ⟨tm, rfl, hok⟩ := (sh_tm e3 rfl rfl e9 rfl rfl eTs rfl rfl eT rfl rfl hsh1).1 rfl
  have hbound : x.per.length + x.exc.length ≤ 3000000 := by
    have h := of_decide_eq_true hsm
    simp only [List.append_nil, Rows.uptoBulkAll] at h
    simp only at hwt
    omega
  clear hA0
  simp only [List.append_nil] at hW'
  have hlt0 : ∀ x ∈ p0, x.block < W.heap.size := fun x hx => by simpa using hW'.lt x (by simp [hx])
  have hlt1 : ∀ x ∈ p1, x.block < W.heap.size := fun x hx => by simpa using hW'.lt x (by simp [hx])
  have call := calls_of3 fe3.ok hG (c3 x hxo hbound hok hNil) (w := W) (vals := #[.agg cs0, .agg cs1]) ⟨rfl, fun i hi hj => by
    match i, hi with
    | 0, _ => exact agg_of hcells0
    | 1, _ => exact agg_of hcells1⟩
  refine Calls.mono call fun e W' ⟨v, he, ⟨g', hv⟩, hg, hsame⟩ => ?_
  obtain rfl := hv.bool_inv
  subst he
  refine ⟨_, rfl, post_kept (pa := p0 ++ p1) (pv := []) hW' (fun _ _ _ => trodAll_cons_mk (shut_bool Tryz.underlying4 _) trodAll_mk0) (fun sp hsp => ?_) (fun _ _ => rfl) (by simp)
    (hg.frame _) hg.fz (ok_one (by kernel_rfl) rfl (okWide_bool_mk Tryz.underlying4 _))⟩
  have t0 := WideElems.Trod_stays (sp' := sp) (W' := W') laidOut (by kernel_rfl) (of_decide_eq_true (by kernel_rfl)) h0k (fun x hx => same_of hsame (hlt0 x hx)) (fun x hx => hsp x (by simp [hx]))
  have t1 := WideElems.Trod_stays (sp' := sp) (W' := W') laidOut (by kernel_rfl) (of_decide_eq_true (by kernel_rfl)) h1k (fun x hx => same_of hsame (hlt1 x hx)) (fun x hx => hsp x (by simp [hx]))
  exact trodAll_mk2 t0 t1
end Go.Proofs.YtajpkolimokcdaaGreatDoor.credentialIssues
