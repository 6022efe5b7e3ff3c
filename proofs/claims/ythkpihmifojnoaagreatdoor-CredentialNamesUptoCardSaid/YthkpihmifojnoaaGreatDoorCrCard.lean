/-
  The card of CredentialNames, of its second form: for all names the law returns true. Conditions: none beyond the statement's own (what is read is of bulk at most 1048576).
-/
import Derived.Test.YthkpihmifojnoaaGreatDoorCrTop
import Derived.Test.YthkpihmifojnoaaGreatDoorVe
import Derived.Test.YthkpihmifojnoaaGreatDoorVf
import Derived.Test.YthkpihmifojnoaaGreatDoorCards
import Derived.Test.YthkpihmifojnoaaGreatDoorTie
import Derived.ProofKit
import Derived.OpenShut
import Derived.Deep.DeepHandedRow
import Derived.WideKeyArgs
import Derived.ChangeMaps5
namespace Go.Proofs.YthkpihmifojnoaaGreatDoor.credentialNames
open Go.ChangeMaps Go.ChangeShapes Go.WideShapes Go.ChangeAt Go.RowKit Go.Vm Go.Vm.Seat

theorem own : ownKnob Tryz.prog.godebug = none := by kernel_rfl
def cl : List TypeId := [9, 22, 52]
theorem clOk : ∀ t, t ∈ cl → tyOk E0.T cl t = true := by
  intro t ht
  have h : cl.all (fun t => tyOk E0.T cl t) = true := by kernel_rfl
  exact List.all_eq_true.1 h t ht
theorem f9 : E0.T 9 = some ⟨.string, 1, 16, .str []⟩ := by kernel_rfl
theorem f22 : E0.T 22 = some ⟨.slice 9, 1, 24, .nils⟩ := by kernel_rfl
theorem f52 : E0.T 52 = some ⟨.struct [(0, 22), (1, 22)], 2, 48, .agg [.nils, .nils]⟩ := by kernel_rfl
theorem laidOut : laidOutB Tryz.prog = true := by kernel_rfl

theorem bulkAll_sum {H : Type} : ∀ l : List (DataW H), (l.map Rows.uptoBulk).sum = Rows.uptoBulkAll l
  | [] => by simp [Rows.uptoBulkAll]
  | d :: r => by simp only [List.map_cons, List.sum_cons, Rows.uptoBulkAll, bulkAll_sum r]
theorem bulkOk {H : Type} : BulkOk (H := H) Rows.uptoBulk where
  lit l := by cases l <;> simp [Rows.uptoBulk]
  str s := by simp [Rows.uptoBulk]
  nil := by simp [Rows.uptoBulk]
  slice e s := by simp only [Rows.uptoBulk, bulkAll_sum]; omega
  agg ps := by simp only [Rows.uptoBulk, bulkAll_sum]; omega

theorem strs_of : ∀ (el : List (List PV)), (∀ c, c ∈ el → ∃ s : Bs, c = [.str s]) → ∃ l : List Bs, el = partsC l
  | [], _ => ⟨[], rfl⟩
  | c :: r, h => by
    obtain ⟨s, hs⟩ := h c List.mem_cons_self
    obtain ⟨l, hl⟩ := strs_of r fun c hc => h c (List.mem_cons_of_mem _ hc)
    exact ⟨s :: l, by rw [hs, hl]; rfl⟩
theorem sh_strs {cs : List PV} (h : Sh E0.T 22 cs) : ∃ b l, cs = [slV b 1 (partsC l)] ∧ l.length ≤ wtL cs := by
  cases h with
  | bool h' hk' => rw [f22] at h'; cases h'; cases hk'
  | int h' hk' => rw [f22] at h'; cases h'; cases hk'
  | str h' hk' => rw [f22] at h'; cases h'; cases hk'
  | struct h' hk' => rw [f22] at h'; cases h'; cases hk'
  | nils h' hk' => exact ⟨true, [], by rw [show partsC [] = [] from rfl, slV_nil_true], Nat.zero_le _⟩
  | sl h' hk' he hl hel =>
    rw [f22] at h'; cases h'; cases hk'
    rw [f9] at he; cases he
    obtain ⟨l, rfl⟩ := strs_of _ fun c hc => (by
      obtain ⟨s, hs, _⟩ := sh_str (hel c hc) f9 rfl
      exact ⟨s, hs⟩)
    refine ⟨false, l, by rw [slV_false], ?_⟩
    have := len_wtLL (partsC l) fun c hc => by
      obtain ⟨s, _, rfl⟩ := List.mem_map.1 hc
      simp
    rw [partsC_len] at this
    simp only [wtL, wt]
    omega

theorem len2 {α : Type} {l : List α} (h : l.length = 2) : ∃ a b, l = [a, b] := by
  match l, h with
  | [a, b], _ => exact ⟨a, b, rfl⟩
theorem sh_con {cs : List PV} (h : Sh E0.T 52 cs) : ∃ b b' P X, cs = [slV b 1 (partsC P), slV b' 1 (partsC X)] ∧ P.length + X.length ≤ wtL cs := by
  cases h with
  | bool h' hk' => rw [f52] at h'; cases h'; cases hk'
  | int h' hk' => rw [f52] at h'; cases h'; cases hk'
  | str h' hk' => rw [f52] at h'; cases h'; cases hk'
  | nils h' hk' => rw [f52] at h'; cases h'; cases hk'
  | sl h' hk' => rw [f52] at h'; cases h'; cases hk'
  | struct h' hk' hlen hf =>
    rw [f52] at h'; cases h'; cases hk'
    obtain ⟨a, b, rfl⟩ := len2 hlen
    have q0 := hf 0 22 _ (by simp) f22
    have q1 := hf 1 22 _ (by simp) f22
    simp only [List.drop_zero, List.drop_succ_cons, List.take_succ_cons, List.take_zero] at q0 q1
    obtain ⟨b0, P, e0, w0⟩ := sh_strs q0
    obtain ⟨b1, X, e1, w1⟩ := sh_strs q1
    simp only [List.cons.injEq, and_true] at e0 e1
    subst e0 e1
    refine ⟨b0, b1, P, X, rfl, ?_⟩
    simp only [wtL] at w0 w1 ⊢
    omega

set_option maxRecDepth 100000 in
theorem contract (H : Type) (enc : TypeId × Value → H) (W : World) (base : Nat) (args : Array Value) (ds gs : List (DataW H)) (before : List MemPlace)
    (hval : ∀ (j : Nat) t v, Tryz.f6.params[j]? = some t → args[j]? = some v → Value.okWide Tryz.prog W .any base t v)
    (hW : DataW.Whole enc Tryz.prog Tryz.f6.params.toList Rows.credentialNamesSpec.vars false W args.toList ds gs before) (hsm : Rows.uptoSmall H (ds ++ gs) = true) :
    Calls Tryz.prog 6 args W fun e W' => ∃ v, e = .returned v ∧ Rows.credentialNamesSpec.post enc Tryz.prog Tryz.f6 false true false false W args v W' := by
  have hW' := hW
  obtain ⟨p, q, hA0, hV, rfl, hfz, hnd⟩ := hW
  have hA : DataW.TrodAll enc Tryz.prog W 0 (fun _ => true) true Tryz.f6.params.toList args.toList ds p := hA0
  rw [Tryz.params6] at hA hval
  obtain ⟨v0, vs0, d0, ds0, p0, q0, hargs, rfl, rfl, h0, r0⟩ := trodAll_cons hA
  obtain ⟨v1, vs1, d1, ds1, p1, q1, hargs1, rfl, rfl, h1, r1⟩ := trodAll_cons r0
  obtain ⟨v2, vs2, d2, ds2, p2, q2, hargs2, rfl, rfl, h2, r2⟩ := trodAll_cons r1
  obtain ⟨rfl, rfl, rfl⟩ := trodAll_nil r2
  subst hargs1 hargs2
  obtain rfl : args = #[v0, v1, v2] := by cases args; simp_all
  obtain ⟨rfl, rfl⟩ := trodVars_none hV
  have h0k := h0
  have h1k := h1
  have h2k := h2
  obtain ⟨s1, rfl, rfl, rfl, -⟩ := open_string Tryz.underlying9 (hval 1 9 v1 rfl rfl) h1
  obtain ⟨s2, rfl, rfl, rfl, -⟩ := open_string Tryz.underlying9 (hval 2 9 v2 rfl rfl) h2
  obtain ⟨cs, rfl, -⟩ := okWide_struct Tryz.underlying52 (hval 0 52 v0 rfl rfl)
  obtain ⟨fuel, hf⟩ := h0
  obtain ⟨pcs, hsh, hcells, hwt⟩ := trod_shW tOk bulkOk clOk fuel 52 _ _ (by simp [cl]) hf
  obtain ⟨b, b', P, X, rfl, hlen⟩ := sh_con hsh
  have hbound : P.length + X.length ≤ 3000000 := by
    have h := of_decide_eq_true hsm
    simp only [List.append_nil, Rows.uptoBulkAll] at h
    simp only at hwt
    omega
  clear hA0
  simp only [List.append_nil] at hW'
  have hlt : ∀ x ∈ p0, x.block < W.heap.size := fun x hx => by simpa using hW'.lt x hx
  have call := calls_of2 fe6.ok rfl (c6 (s := s1.data.toList) (t := s2.data.toList) hbound b b' hNil) (w := W) (vals := #[.agg cs, .string s1, .string s2]) ⟨rfl, fun i hi hj => by
    match i, hi with
    | 0, _ => exact agg_of hcells
    | 1, _ => exact .str _ s1 rfl
    | 2, _ => exact .str _ s2 rfl⟩
  refine Calls.mono call fun e W' ⟨v, he, ⟨g', hv⟩, hg, hsame⟩ => ?_
  obtain rfl := hv.bool_inv
  subst he
  refine ⟨_, rfl, post_of_same (pa := p0) (pv := []) hW' (fun _ _ _ => trodAll_cons_mk (shut_bool Tryz.underlying4 _) trodAll_mk0) (fun sp hsp => ?_) (fun _ _ => rfl) (by simp)
    (hg.frame _) hg.2.1 (ok_one (by kernel_rfl) rfl (okWide_bool_mk Tryz.underlying4 _))⟩
  have t0 := WideElems.Trod_stays (sp' := sp) (W' := W') laidOut (by kernel_rfl) (of_decide_eq_true (by kernel_rfl)) h0k (fun x hx => same_of hsame (hlt x hx)) (fun x hx => hsp x hx)
  have t1 := WideElems.Trod_stays (sp' := sp) (W' := W') laidOut (by kernel_rfl) (of_decide_eq_true (by kernel_rfl)) h1k (fun x hx => absurd hx (by simp)) (fun x hx => absurd hx (by simp))
  have t2 := WideElems.Trod_stays (sp' := sp) (W' := W') laidOut (by kernel_rfl) (of_decide_eq_true (by kernel_rfl)) h2k (fun x hx => absurd hx (by simp)) (fun x hx => absurd hx (by simp))
  have t3 := trodAll_mk3 t0 t1 t2
  simp only [List.append_nil] at t3
  exact t3

/-- A world for the witness: the listed tables hold what their initialisers lay. -/
noncomputable def lay (c : Array Value) : Obj → Obj
  | .cells _ t frozen => .cells c t frozen
  | o => o
noncomputable def laidWorld (os : Os) : World :=
  { World.holding Tryz.prog os ⟨#[], #[], []⟩ with
    heap := (((((World.holding Tryz.prog os ⟨#[], #[], []⟩).heap.modify 0 (lay #[.int .u64 1, .int .u64 10, .int .u64 100, .int .u64 1000, .int .u64 10000, .int .u64 100000, .int .u64 1000000, .int .u64 10000000, .int .u64 100000000, .int .u64 1000000000, .int .u64 10000000000, .int .u64 100000000000, .int .u64 1000000000000, .int .u64 10000000000000, .int .u64 100000000000000, .int .u64 1000000000000000, .int .u64 10000000000000000, .int .u64 100000000000000000, .int .u64 1000000000000000000, .int .u64 10000000000000000000])).modify 2 (lay #[.int .u8 0, .int .u8 1, .int .u8 28, .int .u8 2, .int .u8 29, .int .u8 14, .int .u8 24, .int .u8 3, .int .u8 30, .int .u8 22, .int .u8 20, .int .u8 15, .int .u8 25, .int .u8 17, .int .u8 4, .int .u8 8, .int .u8 31, .int .u8 27, .int .u8 13, .int .u8 23, .int .u8 21, .int .u8 19, .int .u8 16, .int .u8 7, .int .u8 26, .int .u8 12, .int .u8 18, .int .u8 6, .int .u8 11, .int .u8 5, .int .u8 10, .int .u8 9])).modify 3 (lay #[.int .u8 0, .int .u8 1, .int .u8 56, .int .u8 2, .int .u8 57, .int .u8 49, .int .u8 28, .int .u8 3, .int .u8 61, .int .u8 58, .int .u8 42, .int .u8 50, .int .u8 38, .int .u8 29, .int .u8 17, .int .u8 4, .int .u8 62, .int .u8 47, .int .u8 59, .int .u8 36, .int .u8 45, .int .u8 43, .int .u8 51, .int .u8 22, .int .u8 53, .int .u8 39, .int .u8 33, .int .u8 30, .int .u8 24, .int .u8 18, .int .u8 12, .int .u8 5, .int .u8 63, .int .u8 55, .int .u8 48, .int .u8 27, .int .u8 60, .int .u8 41, .int .u8 37, .int .u8 16, .int .u8 46, .int .u8 35, .int .u8 44, .int .u8 21, .int .u8 52, .int .u8 32, .int .u8 23, .int .u8 11, .int .u8 54, .int .u8 26, .int .u8 40, .int .u8 15, .int .u8 34, .int .u8 20, .int .u8 31, .int .u8 10, .int .u8 25, .int .u8 14, .int .u8 19, .int .u8 9, .int .u8 13, .int .u8 8, .int .u8 7, .int .u8 6])).modify 4 (lay ((Pinned.utf8FirstZ.map fun n => Value.int .u8 (Int.ofNat n)).toArray))).modify 5 (lay #[.int .u8 128, .int .u8 191, .int .u8 160, .int .u8 191, .int .u8 128, .int .u8 159, .int .u8 144, .int .u8 191, .int .u8 128, .int .u8 143, .int .u8 0, .int .u8 0, .int .u8 0, .int .u8 0, .int .u8 0, .int .u8 0, .int .u8 0, .int .u8 0, .int .u8 0, .int .u8 0, .int .u8 0, .int .u8 0, .int .u8 0, .int .u8 0, .int .u8 0, .int .u8 0, .int .u8 0, .int .u8 0, .int .u8 0, .int .u8 0, .int .u8 0, .int .u8 0]) }
def wit : Array Value := #[.agg #[.slice none 0 0, .slice none 0 0], .string ⟨#[]⟩, .string ⟨#[]⟩]
theorem laid_met (os : Os) : laidMet Tryz.prog Rows.credentialNamesUptoRow.laid ((laidWorld os).forCall (fun _ _ => 0) ⟨#[], wit, []⟩).memory :=
  laidMet_of_run' 8 (by kernel_rfl) (by kernel_rfl)
theorem reads (os : Os) {H : Type} (enc : TypeId × Value → H) : ∃ places, DataW.whole enc Tryz.prog ((laidWorld os).forCall (fun _ _ => 0) ⟨#[], wit, []⟩).memory Tryz.f6.params.toList Rows.credentialNamesSpec.vars false wit.toList 8 = some ([.agg [.nil, .nil], .lit (.string []), .lit (.string [])], [], places) :=
  ⟨[], by kernel_rfl⟩

set_option maxRecDepth 100000 in
theorem lifted (os : Os) (started : os.Started) (H : Type) (enc : TypeId × Value → H) (F : Stop.Interp) :
    ReturnsInHanded {} Tryz.checked os 6 .any ((Rows.OpenSpec.upto Rows.credentialNamesSpec).preRow enc Tryz.prog Tryz.f6 Rows.credentialNamesUptoRow.domain false Rows.credentialNamesUptoRow.laid) (((Rows.OpenSpec.upto Rows.credentialNamesSpec).at F).post enc Tryz.prog Tryz.f6 false true false false) := by
  obtain ⟨places, hx⟩ := reads os enc
  refine returnsInHanded_of_row (C := Tryz.checked) (s := Rows.OpenSpec.upto Rows.credentialNamesSpec) own started (by kernel_rfl) Tryz.func6
    (witness_row_at (enc := enc) (C := Tryz.checked) false (laidWorld os) wit rfl (by kernel_rfl) (by kernel_rfl) (by kernel_rfl)
      (OpenSpec.preRow_of_cond 8 hx (by kernel_rfl) (fun k hk => by cases hk; kernel_rfl) (by kernel_rfl) (laid_met os))) ?_
  intro W base args ds gs before hval hW _ hcond _ _ _ _
  exact contract H enc W base args ds gs before hval hW (hcond _ rfl)

theorem said : Rows.CredentialNamesUptoSaid :=
  OpenClaim.holds_of_cond 6 Tryz.f6 rfl rfl rfl rfl rfl rfl rfl ⟨rfl, rfl, rfl, rfl, rfl⟩ rfl rfl rfl rfl rfl (by kernel_rfl) Tryz.func6 (by kernel_rfl)
    (of_decide_eq_true (by kernel_rfl)) (by unfold Func.isWrapper; first | (rw [if_pos (by decide +kernel)]; kernel_rfl) | (rw [if_neg (by decide +kernel)]; exact ⟨rfl, rfl⟩))
    (fun os started H enc _ F => by rw [OpenClaim.pre_eq_preRow]; exact lifted os started H enc F)

theorem plain (f : FuncId) (fn : Func) (hf : Tryz.pinned.checked.prog.funcNamed "sealring/sealringlaw55.CredentialNames" = some f) (hfn : Tryz.pinned.checked.prog.funcs[f]? = some fn) :
    false = Tryz.pinned.checked.prog.looks [] ∧ ∀ (j : Nat) t, fn.params[j]? = some t → Tryz.pinned.checked.prog.wantsStandIn t = false := by
  obtain rfl : f = 6 := Option.some.inj ((show Tryz.prog.funcNamed "sealring/sealringlaw55.CredentialNames" = some 6 by kernel_rfl).symm.trans hf) |>.symm
  obtain rfl : fn = Tryz.f6 := (Option.some.inj (Tryz.func6.symm.trans hfn)).symm
  refine ⟨by kernel_rfl, fun j t ht => ?_⟩
  rw [Tryz.params6] at ht
  match j, ht with
  | 0, ht => obtain rfl : 52 = t := by simpa using ht
             exact (show Tryz.prog.wantsStandIn 52 = false by kernel_rfl)
  | 1, ht => obtain rfl : 9 = t := by simpa using ht
             exact (show Tryz.prog.wantsStandIn 9 = false by kernel_rfl)
  | 2, ht => obtain rfl : 9 = t := by simpa using ht
             exact (show Tryz.prog.wantsStandIn 9 = false by kernel_rfl)

/-- The card. -/
theorem card : Rows.CredentialNamesUptoCardSaid :=
  Claim7.holds_tied_plain_at .later [] _ _ _ _ said (fun _ h => by cases h) (by kernel_rfl) (fun _ h => by cases h) credentialNamesUpto_row_tie rfl ⟨rfl, rfl⟩ (by kernel_rfl) rfl plain (by kernel_rfl)
end Go.Proofs.YthkpihmifojnoaaGreatDoor.credentialNames
