/-
  One operation of a region that draws its order: what the evaluator says of it is so.
-/
import Derived.Test.YthkpihmifojnoaaGreatDoorVmUa
import Derived.Test.YthkpihmifojnoaaGreatDoorVmUp
namespace Go.Vm

section
variable {E : Env} {P : Program} {call : CallF} {own : Tmp → Bool} {n : Nat} {ops : Array Oper}

theorem map_pair {α : Type} {x : Option α} {H H1 : Heap} {p : α} (h : x.map (·, H) = some (p, H1)) : x = some p ∧ H1 = H := by
  cases x with
  | none => cases h
  | some y => simp at h; exact ⟨by rw [h.1], h.2.symm⟩

theorem aOp_sc {ρ : Operand → PV} {o : Oper} (hc : clsO E own o = .sc) {H H1 : Heap} {p : PV} (h : aOp E (own (o.dst.getD 0)) ρ o.op H = some (p, H1)) (M : Heap) : aOp E (own (o.dst.getD 0)) ρ o.op M = some (p, M) := by
  obtain ⟨dst, op, ty, pos, after, guard⟩ := o
  simp only at h ⊢
  cases op
  case call c =>
    obtain ⟨cl, args, ats⟩ := c
    cases cl
    case builtin b =>
      cases b <;> simp only [clsO] at hc <;> try cases hc
      all_goals
        cases e : args.toList.map ρ with
        | nil => simp only [aOp, aBuiltin, e] at h; cases h
        | cons x r =>
          simp only [aOp, aBuiltin, e] at h ⊢
          obtain ⟨e2, rfl⟩ := map_pair h
          rw [e2]
          rfl
    all_goals
      simp only [aOp] at h
      cases h
  case pick c x y =>
    simp only [aOp] at h ⊢
    cases e : ρ c <;> simp only [e] at h ⊢ <;> first | (cases h; rfl) | cases h
  case nilCheck x =>
    simp only [aOp] at h ⊢
    cases e : ρ x <;> simp only [e] at h ⊢ <;> first | (cases h; rfl) | cases h
  case extract x i =>
    simp only [aOp] at h ⊢
    cases e : ρ x <;> simp only [e] at h ⊢ <;> first | cases h | (obtain ⟨e, rfl⟩ := map_pair h; rw [e]; rfl)
  case makeFunc f fi ca =>
    simp only [aOp] at h ⊢
    cases f <;> simp only at h ⊢ <;> first | cases h | skip
    split at h
    · rename_i hi
      simp only [hi, if_true] at h ⊢
      cases h
      rfl
    · cases h
  case buildSlice t len parts =>
    have hc : (if own (dst.getD 0) = true then Cls.tk else Cls.sc) = Cls.sc := hc
    split at hc
    · cases hc
    · rename_i hw
      simp only [aOp, hw] at h ⊢
      split at h
      · simp only [Bool.false_eq_true, if_false] at h ⊢
        split at h
        · cases h; rfl
        · cases h
      · cases h
  all_goals simp only [clsO] at hc
  all_goals first | cases hc | skip
  all_goals simp only [aOp] at h ⊢
  all_goals first | cases h | skip
  all_goals first | rfl | (obtain ⟨e, rfl⟩ := map_pair h; rw [e]; rfl)

theorem aOp_ld {tm : TM} {o : Oper} {s : Nat} (hc : clsO E own o = .ld) {H H1 K : Heap} {p : PV} (h : aOp E (own (o.dst.getD 0)) (evalO E tm) o.op H = some (p, H1)) (hs : seenO E tm o s = true) (hK : K.bx.take s = H.bx.take s) : aOp E (own (o.dst.getD 0)) (evalO E tm) o.op K = some (p, K) := by
  obtain ⟨dst, op, ty, pos, after, guard⟩ := o
  simp only at h ⊢
  cases op
  case load t a =>
    simp only [aOp] at h ⊢
    obtain ⟨e, rfl⟩ := map_pair h
    have e2 : aLoad E t (evalO E tm a) K = aLoad E t (evalO E tm a) H1 := by
      unfold aLoad Heap.rd
      simp only [seenO] at hs
      cases ha : evalO E tm a <;> simp only
      rename_i id es ix off
      rw [ha] at hs
      have hid : id < s := Nat.le_of_ble_eq_true hs
      have := congrArg (fun l => l[id]?) hK
      simp only [List.getElem?_take, hid, if_true] at this
      rw [nth_eq, nth_eq, this]
    rw [e2, e]
    rfl
  case call c =>
    obtain ⟨cl, args, ats⟩ := c
    cases cl
    case builtin b => cases b <;> (simp only [clsO] at hc; cases hc)
    all_goals
      simp only [aOp] at h
      cases h
  case buildSlice t len parts =>
    have hc : (if own (dst.getD 0) = true then Cls.tk else Cls.sc) = Cls.ld := hc
    split at hc <;> cases hc
  all_goals simp only [clsO] at hc
  all_goals cases hc

theorem aOp_qu {ρ : Operand → PV} {o : Oper} (hc : clsO E own o = .qu) {H H1 : Heap} {p : PV} (h : aOp E (own (o.dst.getD 0)) ρ o.op H = some (p, H1)) : H1 = H := by
  obtain ⟨dst, op, ty, pos, after, guard⟩ := o
  simp only at h
  cases op
  case lookup t x i ok =>
    simp only [aOp] at h
    exact (map_pair h).2
  case call c =>
    obtain ⟨cl, args, ats⟩ := c
    cases cl
    case builtin b =>
      cases b <;> simp only [clsO] at hc <;> try cases hc
      simp only [aOp, aBuiltin] at h
      split at h <;> first | cases h | skip
      all_goals first | exact (map_pair h).2 | (rename_i hh _ _; cases hh)
    all_goals
      simp only [aOp] at h
      cases h
  case buildSlice t len parts =>
    have hc : (if own (dst.getD 0) = true then Cls.tk else Cls.sc) = Cls.qu := hc
    split at hc <;> cases hc
  all_goals simp only [clsO] at hc
  all_goals cases hc

theorem aOp_st {tm : TM} {o : Oper} (hc : clsO E own o = .st) {H M : Heap} {p : PV} {b : Box} (h : aOp E (own (o.dst.getD 0)) (evalO E tm) o.op H = some (p, M)) (hb : nth M.bx (tgtO E 0 tm o) = some b) : M = setB H (tgtO E 0 tm o) b := by
  have put : ∀ {id : Nat} {x : Box} {M : Heap}, H.put id x = some M → ∀ b, nth M.bx id = some b → M = setB H id b := fun {id x M} h b hb => by
    unfold Heap.put at h
    split at h
    · cases h
    · cases h
      rw [nth_eq] at hb
      have hl := get_lt hb
      simp only [List.length_set] at hl
      rw [List.getElem?_set_self hl] at hb
      cases hb
      rfl
  obtain ⟨dst, op, ty, pos, after, guard⟩ := o
  simp only at h
  cases op
  case store t a v =>
    simp only [aOp] at h
    split at h
    · split at h
      · cases hw : H.wr (evalO E tm a) (evalO E tm v).cells with
        | none => rw [hw] at h; cases h
        | some M' =>
          rw [hw] at h
          cases h
          unfold Heap.wr at hw
          cases ha : evalO E tm a <;> rw [ha] at hw <;> simp only at hw <;> first | cases hw | skip
          simp only [tgtO, ha] at hb ⊢
          split at hw
          · split at hw
            · split at hw
              · split at hw
                · exact put hw b hb
                · cases hw
              · cases hw
            · cases hw
          · cases hw
      · cases h
    · cases h
  case mapUpdate t m k v =>
    simp only [aOp] at h
    cases hw : aMapUpdate E t (evalO E tm m) (evalO E tm k) (evalO E tm v) H with
    | none => rw [hw] at h; cases h
    | some M' =>
      rw [hw] at h
      cases h
      unfold aMapUpdate at hw
      split at hw
      · split at hw
        · rename_i id _ hm
          simp only [tgtO, hm] at hb ⊢
          split at hw
          · split at hw
            · split at hw
              · exact put hw b hb
              · exact put hw b hb
              · cases hw
            · cases hw
          · cases hw
        · cases hw
      · cases hw
  case call c =>
    obtain ⟨cl, args, ats⟩ := c
    cases cl
    case builtin b => cases b <;> (simp only [clsO] at hc; cases hc)
    all_goals
      simp only [aOp] at h
      cases h
  case buildSlice t len parts =>
    have hc : (if own (dst.getD 0) = true then Cls.tk else Cls.sc) = Cls.st := hc
    split at hc <;> cases hc
  all_goals simp only [clsO] at hc
  all_goals cases hc

theorem clsI_eq {i : Nat} {o : Oper} (ho : ops[i]? = some o) : clsI E own ops i = clsO E own o := by
  simp [clsI, nth_eq, ho]

theorem evHp_ok (hc : CallsOk E P call) {n0 i : Nat} {o : Oper} {t : Tr} {tg : Nat → Nat} {msk : Nat → List Nat} {H H' : Heap} {p : PV} (ho : ops[i]? = some o) (hw : wantedA ops.toList (tget t) o = some true)
    (h : evHp E call own n0 (msk i) (some (tg i)) t o i H = some (p, H')) : Hp E P own ops n0 (clsI E own ops) tg msk i o (tget t) H p H' := by
  have hci := clsI_eq (E := E) (own := own) ho
  unfold evHp at h
  cases hcl : clsO E own o with
  | sc =>
    rw [hcl] at h
    simp only at h
    split at h
    · rename_i p1 H1 h1
      cases h
      exact .sc _ _ hw fun M => .op _ _ (aOp_sc hcl h1 M)
    · cases h
  | qu =>
    rw [hcl] at h hci
    simp only at h
    have gen : (match aOp E (own (o.dst.getD 0)) (evalO E (tget t)) o.op (maskH (msk i) H) with
      | some (p, _) => some (p, H)
      | none => none) = some (p, H') → Hp E P own ops n0 (clsI E own ops) tg msk i o (tget t) H p H' := fun h => by
      split at h
      · rename_i p1 H1 h1
        cases h
        have e := aOp_qu hcl h1
        subst e
        exact .qu _ _ hw hci (.op _ _ h1)
      · cases h
    split at h
    · rename_i f args ats hop
      split at h
      · rename_i k caps hf
        split at h
        · cases h
        · rename_i he
          split at h
          · rename_i p1 H1 h1
            cases h
            obtain ⟨c1, c2⟩ := hc _ _ _ _ _ h1
            have e := c2 he
            subst e
            exact .qu _ _ hw hci (.call f args _ k caps _ _ hop hf c1)
          · cases h
      · cases h
    · exact gen h
  | ld =>
    rw [hcl] at h hci
    simp only at h
    split at h
    · rename_i p1 H1 h1
      split at h
      · rename_i hs
        cases h
        exact .ld _ _ hw hci fun K hK => .op _ _ (aOp_ld hcl h1 hs hK)
      · cases h
    · cases h
  | tk =>
    rw [hcl] at h hci
    simp only at h
    split at h
    · rename_i p1 M h1
      split at h
      · rename_i hl
        cases h
        exact .tk _ _ M hw hci (evOp_ok hc h1) (Nat.le_of_ble_eq_true hl)
      · cases h
    · cases h
  | ef =>
    rw [hcl] at h hci
    simp only at h
    split at h
    · rename_i p1 M h1
      split at h
      · rename_i hl
        cases h
        exact .ef _ _ M hw hci (evOp_ok hc h1) (Nat.le_of_ble_eq_true hl)
      · cases h
    · cases h
  | al =>
    rw [hcl] at h hci
    simp only at h
    split at h
    · rename_i hd
      rw [nth_eq] at hd
      split at h
      · rename_i e hop
        split at h
        · rename_i ei he
          split at h
          · rename_i hz
            cases h
            exact .al _ e ei hw hci hop he hz.1 hz.2 hd
          · cases h
        · cases h
      · rename_i e x hop
        split at h
        · rename_i hp
          cases h
          exact .bo _ e x hw hci hop hp hd
        · cases h
      · cases h
    · cases h
  | st =>
    rw [hcl] at h hci
    simp only at h
    split at h
    · rename_i p1 M h1
      split at h
      · rename_i b hb
        split at h
        · rename_i hs
          cases h
          simp only [Bool.and_eq_true, Bool.not_eq_true'] at hs
          have e1 := Nat.eq_of_beq_eq_true hs.1
          have hM : M = setB (maskH (msk i) H) (tg i) b := by
            rw [e1]
            exact aOp_st hcl h1 hb
          rw [hM] at h1
          refine .st _ _ b hw hci (.op _ _ h1) fun hm => ?_
          have := List.any_eq_false.1 hs.2 _ hm
          simp at this
        · cases h
      · cases h
    · cases h

end
end Go.Vm
