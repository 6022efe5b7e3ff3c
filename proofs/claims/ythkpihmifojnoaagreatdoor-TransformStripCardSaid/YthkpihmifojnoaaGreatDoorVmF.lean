/-
  The operations that compute, on: slices, arithmetic, texts, conversions.
-/
import Derived.Test.YthkpihmifojnoaaGreatDoorVmE
import Derived.LaidEql
namespace Go.Vm
section
variable {E : Env} {P : Program} {g : Gh} {H : Heap} {w : World}

def OptV (g : Gh) : Option PV → Option Value → Prop
  | some p, some a => V g p a
  | none, none => True
  | _, _ => False

def bRun (d most : Nat) (code : BoundsCode) : Option Value → Sem Nat
  | some v => Instr.sliceBound v most code
  | none => pure d

theorem sliceBounds_two (s : Bool) (len cap : Nat) (low high : Option Value) :
    (Instr.sliceBounds s len cap low high none).run P w = ((bRun len cap (if s then .sliceAcap else .sliceAlen) high).run P w).andThen fun h w => ((bRun 0 h .sliceB low).run P w).andThen fun l w => .ok (l, h, cap) w := by
  cases high <;> cases low <;> simp [Instr.sliceBounds, bRun]

theorem sliceBounds_three (s : Bool) (len cap : Nat) (low : Option Value) (high mx : Value) :
    (Instr.sliceBounds s len cap low (some high) (some mx)).run P w = ((Instr.sliceBound mx cap (if s then .slice3Acap else .slice3Alen)).run P w).andThen fun m w => ((Instr.sliceBound high m .slice3B).run P w).andThen fun h w => ((bRun 0 h .slice3C low).run P w).andThen fun l w => .ok (l, h, m) w := by
  cases low <;> simp [Instr.sliceBounds, bRun]

theorem bound_le {d most n : Nat} {p : Option PV} (h : bound d most p = some n) (hd : d ≤ most) : n ≤ most := by
  cases p with
  | none => simp only [bound, Option.some.injEq] at h; omega
  | some p =>
    simp only [bound] at h
    split at h
    · split at h
      · cases h; assumption
      · cases h
    · cases h

theorem bound_run {d most n most' : Nat} {p : Option PV} {a : Option Value} (hp : OptV g p a) (h : bound d most p = some n) (hm : most ≤ most') (code : BoundsCode) :
    (bRun d most' code a).run P w = .ok n w := by
  cases p with
  | none =>
    cases a with
    | none => simp only [bound, Option.some.injEq] at h; subst h; rfl
    | some a => exact hp.elim
  | some p =>
    cases a with
    | none => exact hp.elim
    | some a =>
      simp only [bound] at h
      split at h
      · rename_i m hm
        split at h
        · rename_i hle
          cases h
          obtain ⟨k, rfl⟩ := nat_inv hm
          obtain rfl := V.int_inv hp
          have : n ≤ most' := by omega
          simp [bRun, Instr.sliceBound, asIntOf, this]
        · cases h
      · cases h

theorem max_run {len : Nat} {hi mx : Option PV} {m : Option Nat} {hi' mx' : Option Value} (h2 : OptV g hi hi') (h3 : OptV g mx mx') (h : maxOf len hi mx = some m) :
    (m = none ∧ mx' = none) ∨ ∃ k hv mv, m = some k ∧ hi' = some hv ∧ mx' = some mv ∧ k ≤ len ∧ ∀ cap, len ≤ cap → ∀ code, (Instr.sliceBound mv cap code).run P w = .ok k w := by
  cases mx with
  | none =>
    cases mx' with
    | none => simp only [maxOf, Option.some.injEq] at h; exact .inl ⟨h.symm, rfl⟩
    | some _ => exact h3.elim
  | some p =>
    cases mx' with
    | none => exact h3.elim
    | some mv =>
      cases hi with
      | none => simp [maxOf] at h
      | some hp =>
        cases hi' with
        | none => exact h2.elim
        | some hv =>
          simp only [maxOf] at h
          split at h
          · rename_i k hk
            split at h
            · rename_i hle
              cases h
              obtain ⟨kk, rfl⟩ := nat_inv hk
              obtain rfl := V.int_inv h3
              exact .inr ⟨k, hv, _, rfl, rfl, rfl, hle, fun cap hc code => by
                have : k ≤ cap := by omega
                simp [Instr.sliceBound, asIntOf, this]⟩
            · cases h
          · cases h

theorem sl_cut {es : Nat} {el : List (List PV)} {b o l h nc : Nat} (vals : Nat → Nat → Value) (hw : ∀ i (hi : i < el.length), (el[i]).length = es)
    (hs : ∀ i j, i < el.length → j < es → g.S b (o + i * es + j) = some (vals i j))
    (hv : ∀ i (hi : i < el.length) j (hj : j < (el[i]).length), V0 g.S ((el[i])[j]) (vals i j))
    (hl : l ≤ h) (hh : h ≤ el.length) (hn : h ≤ nc) (tl : Tail)
    (ht : TailOk g tl es h b o nc) (a : Addr) (ha : (0 < el.length ∨ ∃ t, tl = .tok t) → a = ⟨b, o, none⟩) :
    V g (.sl tl es ((el.take h).drop l)) (.slice (if nc = l then some a else (some a : Option Addr).map (·.add (l * es))) (h - l) (nc - l)) := by
  have hlen : ((el.take h).drop l).length = h - l := by simp; omega
  by_cases hpos : 0 < el.length ∨ ∃ t, tl = .tok t
  case neg =>
    have h0 : el.length = 0 := by
      rcases Nat.eq_zero_or_pos el.length with h | h
      · exact h
      · exact (hpos (.inl h)).elim
    have e0 : el = [] := by simpa using h0
    subst e0
    have hh0 : h = 0 := by simpa using hh
    subst hh0
    have hl0 : l = 0 := by omega
    subst hl0
    have hx : ∀ x : Addr, V g (.sl tl es []) (.slice (some x) 0 nc) := fun x => .pure _ _ (.sl tl es [] x 0 0 nc (fun _ _ => undef) (fun h => absurd h (by simp)) (by
      cases tl with
      | none => exact .inl rfl
      | full => exact .inr ⟨rfl, ht⟩
      | tok t => exact (hpos (.inr ⟨t, rfl⟩)).elim) (by simp) (fun i hi => absurd hi (by simp)) (fun i j hi => absurd hi (by simp)) (fun i hi => absurd hi (by simp)))
    have := hx (if nc = 0 then a else a.add (0 * es))
    simp only [List.take_nil, List.drop_nil, Nat.sub_zero]
    split
    · rename_i e; rw [if_pos e] at this; exact this
    · rename_i e; rw [if_neg e] at this; exact this
  obtain rfl := ha hpos
  by_cases e : nc = l
  · have hz : h - l = 0 := by omega
    rw [if_pos e]
    refine V.sl_mk vals hlen.symm (by omega) (fun i hi => by omega) (fun i j hi => by omega) (fun i hi => by omega) ?_
    cases tl with
    | none => trivial
    | full => show nc - l = _; omega
    | tok t => exact .inl (by omega)
  · rw [if_neg e, Option.map_some, add_plain']
    refine V.sl_mk (fun i j => vals (l + i) j) hlen.symm (by omega) (fun i hi => ?_) (fun i j hi hj => ?_) (fun i hi j hj => ?_) ?_
    · simpa using hw (l + i) (by omega)
    · have := hs (l + i) j (by omega) hj
      rwa [Nat.add_mul, ← Nat.add_assoc] at this
    · have e1 : ((el.take h).drop l)[i] = el[l + i]'(by omega) := by simp
      have := hv (l + i) (by omega) j (by rw [← e1]; exact hj)
      simpa [e1] using this
    · cases tl with
      | none => trivial
      | full =>
        have ht : nc = h := ht
        show nc - l = _; omega
      | tok t =>
        have ht : nc = h ∨ g.τ t = some (b, o + h * es, o + nc * es) := ht
        rcases ht with ht | ht
        · exact .inl (by omega)
        · refine .inr ?_
          rw [ht, hlen]
          have a1 : l * es + (h - l) * es = h * es := by rw [← Nat.add_mul]; congr 1; omega
          have a2 : l * es + (nc - l) * es = nc * es := by rw [← Nat.add_mul]; congr 1; omega
          simp only [Option.some.injEq, Prod.mk.injEq, true_and]
          omega

theorem slice_ok (hE : TOk E P) {t : TypeId} {p : PV} {a : Value} (hp : V g p a) {lo hi mx : Option PV} {lo' hi' mx' : Option Value} (h1 : OptV g lo lo') (h2 : OptV g hi hi') (h3 : OptV g mx mx') {q : PV}
    (h : aSlice E t p lo hi mx = some q) :
    ∃ v, (Instr.sliceAt t a lo' hi' mx').run P w = .ok v w ∧ V g q v := by
  unfold aSlice at h
  split at h
  · rename_i ti ht
    obtain ⟨i, d, z, e1, e2, e3, rfl⟩ := hE.spec ht
    simp only at h
    split at h
    · rename_i s hd
      have hd := tk_string hd
      subst hd
      split at h
      · cases h
      · have hm : mx' = none := by cases mx' with | none => rfl | some _ => exact h3.elim
        subst hm
        split at h
        · rename_i hh hhi
          split at h
          · rename_i l hlo
            cases h
            obtain ⟨b, rfl, rfl⟩ := hp.str_inv
            have r1 := bound_run (P := P) (w := w) h2 hhi (Nat.le_refl _) .sliceAlen
            have r2 := bound_run (P := P) (w := w) h1 hlo (Nat.le_refl _) .sliceB
            refine ⟨.string (b.extract l hh), ?_, .pure _ _ (.str _ _ (by rw [Lib.extract_data, List.drop_take]))⟩
            have e : b.data.toList.length = b.size := rfl
            rw [e] at r1
            simp [Instr.sliceAt, run_underlying e2, Instr.slice, sliceBounds_two, r1, r2]
          · cases h
        · cases h
    · rename_i e tl es el hd
      have hd := tk_slice hd
      subst hd
      split at h
      · rename_i ei hei
        obtain ⟨i', d', z', h1', h2', h3', rfl⟩ := hE.spec hei
        simp only at h
        split at h
        · rename_i hes
          split at h
          · rename_i m hmm
            split at h
            · rename_i hh hhi
              split at h
              · rename_i l hlo
                cases h
                obtain ⟨b, o, cap, vals, a, rfl, hc, hw, hs, hv, htl, ha⟩ := hp.sl_inv
                rcases max_run (P := P) (w := w) h2 h3 hmm with ⟨rfl, rfl⟩ | ⟨k, hv', mv, rfl, rfl, rfl, hk, hrun⟩
                · have hle := bound_le hhi (Nat.le_refl _)
                  have hle : hh ≤ el.length := hle
                  have hl := bound_le hlo (Nat.zero_le _)
                  have r1 := bound_run (P := P) (w := w) h2 hhi (show el.length ≤ cap from hc) .sliceAcap
                  have r2 := bound_run (P := P) (w := w) h1 hlo (Nat.le_refl _) .sliceB
                  refine ⟨_, ?_, sl_cut (nc := cap) vals hw hs hv hl hle (by omega) _ ?_ a ?_⟩
                  · simp only [Instr.sliceAt, run_underlying e2, Sem.run_bind, Result.andThen_ok, Instr.slice, sliceBounds_two, r1, r2, run_sizeOf' h1', if_true, Sem.run_pure, hes]
                  · show TailOk g (if hh = el.length then tl else .none) es hh b o cap
                    by_cases e : hh = el.length
                    · rw [if_pos e, e]; exact htl
                    · rw [if_neg e]; trivial
                  · intro hx
                    refine ha (hx.imp id ?_)
                    rintro ⟨t, ht⟩
                    have ht : (if hh = el.length then tl else .none) = Tail.tok t := ht
                    split at ht
                    · exact ⟨t, ht⟩
                    · cases ht
                · have hkh : hh ≤ k ∧ ∀ code, (Instr.sliceBound hv' k code).run P w = .ok hh w := by
                    cases hi with
                    | none => exact h2.elim
                    | some hp' =>
                      simp only [bound, Option.getD_some] at hhi
                      split at hhi
                      · rename_i n hn
                        split at hhi
                        · rename_i hle
                          cases hhi
                          obtain ⟨kk, rfl⟩ := nat_inv hn
                          obtain rfl := V.int_inv h2
                          exact ⟨hle, fun code => by simp [Instr.sliceBound, asIntOf, hle]⟩
                        · cases hhi
                      · cases hhi
                  have hl := bound_le hlo (Nat.zero_le _)
                  have r2 := bound_run (P := P) (w := w) h1 hlo (Nat.le_refl _) .slice3C
                  have r0 := hrun cap hc .slice3Acap
                  have r1 := hkh.2 .slice3B
                  refine ⟨_, ?_, sl_cut (nc := k) vals hw hs hv hl (by omega) hkh.1 _ ?_ a ?_⟩
                  · simp only [Instr.sliceAt, run_underlying e2, Sem.run_bind, Result.andThen_ok, Instr.slice, sliceBounds_three, r0, r1, r2, run_sizeOf' h1', if_true, Sem.run_pure, hes]
                  · show TailOk g (if k = hh then .full else .none) es hh b o k
                    by_cases e : k = hh
                    · rw [if_pos e]; exact e
                    · rw [if_neg e]; trivial
                  · intro hx
                    refine ha (hx.imp id ?_)
                    rintro ⟨t, ht⟩
                    have ht : (if k = hh then Tail.full else .none) = Tail.tok t := ht
                    split at ht <;> cases ht
              · cases h
            · cases h
          · cases h
        · cases h
      · cases h
    · rename_i e hd
      have hd := tk_slice hd
      subst hd
      obtain rfl := hp.nils_inv
      split at h
      · rename_i ei hei
        obtain ⟨i', d', z', h1', h2', h3', rfl⟩ := hE.spec hei
        split at h
        · rename_i m hmm
          split at h
          · rename_i hh hhi
            split at h
            · rename_i l hlo
              cases h
              have hh0 : hh = 0 := by have := bound_le hhi (Nat.le_refl _); omega
              subst hh0
              have hl0 : l = 0 := by have := bound_le hlo (Nat.le_refl _); omega
              subst hl0
              refine ⟨.slice none 0 0, ?_, .pure _ _ .nils⟩
              rcases max_run (P := P) (w := w) h2 h3 hmm with ⟨rfl, rfl⟩ | ⟨k, hv', mv, rfl, rfl, rfl, hk, hrun⟩
              · have r1 := bound_run (P := P) (w := w) h2 hhi (Nat.le_refl _) .sliceAcap
                have r2 := bound_run (P := P) (w := w) h1 hlo (Nat.le_refl _) .sliceB
                simp [Instr.sliceAt, run_underlying e2, Instr.slice, sliceBounds_two, r1, r2, run_sizeOf' h1']
              · have hk0 : k = 0 := by omega
                subst hk0
                have r1 := bound_run (P := P) (w := w) h2 hhi (Nat.le_refl _) .slice3B
                have r2 := bound_run (P := P) (w := w) h1 hlo (Nat.le_refl _) .slice3C
                have r0 := hrun 0 (Nat.le_refl _) .slice3Acap
                simp only [bRun] at r1
                simp [Instr.sliceAt, run_underlying e2, Instr.slice, sliceBounds_three, r0, r1, r2, run_sizeOf' h1']
            · cases h
          · cases h
        · cases h
      · cases h
    · rename_i e id es ix len hd
      have hd := tk_slice hd
      subst hd
      split at h
      · rename_i ei hei
        obtain ⟨i', d', z', h1', h2', h3', rfl⟩ := hE.spec hei
        have hm : mx' = none := by cases mx' with | none => rfl | some _ => exact h3.elim
        subst hm
        simp only at h
        split at h
        · rename_i hes
          split at h
          · rename_i hh hhi
            split at h
            · rename_i l hlo
              cases h
              obtain ⟨b, cap, a, hσ, hc, ha, hsp, hk, rfl⟩ := hp.own_inv2
              have hle := bound_le hhi (Nat.le_refl _)
              have hl := bound_le hlo (Nat.zero_le _)
              have r1 := bound_run (P := P) (w := w) h2 hhi hc .sliceAcap
              have r2 := bound_run (P := P) (w := w) h1 hlo (Nat.le_refl _) .sliceB
              refine ⟨.slice (some (if cap = l then a else a.add (l * es))) (hh - l) (cap - l), ?_, .own _ _ _ _ b _ _ hσ (by omega) (fun hpos => ?_) ?_ ⟨by rw [show ix + l + (cap - l) = ix + cap by omega]; exact hk.1, by have := hk.2; omega⟩⟩
              · simp only [Instr.sliceAt, run_underlying e2, Sem.run_bind, Result.andThen_ok, Instr.slice, sliceBounds_two, r1, r2, run_sizeOf' h1', if_true, Sem.run_pure, hes]
                split <;> simp
              · have := ha (by omega)
                subst this
                rw [if_neg (by omega), add_plain', Nat.add_mul]
              · split
                · exact hsp
                · unfold Addr.add; split <;> simp [hsp]
            · cases h
          · cases h
        · cases h
      · cases h
    · cases h
  · cases h

/-! ### arithmetic -/
theorem arith_ok {op : BinOp} {k : IntKind} {a b : Int} {q : PV} (h : aArith op k a b = some q) (h1 : op ≠ .shl) (h2 : op ≠ .shr) (t : TypeId) :
    ∃ v, (binOp op t (.int k a) (.int k b)).run P w = .ok v w ∧ V g q v := by
  cases op with
  | shl => exact absurd rfl h1
  | shr => exact absurd rfl h2
  | quo =>
    simp only [aArith] at h
    by_cases hb : b = 0
    · simp [hb] at h
    · simp only [hb, if_false] at h
      cases h
      exact ⟨_, by simp only [binOp, Op.intDiv, ne_eq, not_true_eq_false, hb, if_false]; rfl, .pure _ _ (by constructor)⟩
  | rem =>
    simp only [aArith] at h
    by_cases hb : b = 0
    · simp [hb] at h
    · simp only [hb, if_false] at h
      cases h
      exact ⟨_, by simp only [binOp, Op.intDiv, ne_eq, not_true_eq_false, hb, if_false]; rfl, .pure _ _ (by constructor)⟩
  | _ =>
    simp only [aArith] at h
    cases h
    exact ⟨_, by simp only [binOp, Op.intArith, Op.intBits, Op.intCmp, ne_eq, not_true_eq_false, if_false]; rfl, .pure _ _ (by constructor)⟩

theorem shift_ok {op : BinOp} {k k' : IntKind} {a b : Int} {q : PV} (h : aShift op k a b = some q) (t : TypeId) :
    ∃ v, (binOp op t (.int k a) (.int k' b)).run P w = .ok v w ∧ V g q v := by
  unfold aShift at h
  by_cases hb : b < 0
  · simp [hb] at h
  · simp only [hb, if_false] at h
    cases op with
    | shl => cases h; exact ⟨_, by simp only [binOp, Op.shift, hb, if_false]; rfl, .pure _ _ (by constructor)⟩
    | shr => cases h; exact ⟨_, by simp only [binOp, Op.shift, hb, if_false]; rfl, .pure _ _ (by constructor)⟩
    | _ => cases h

theorem str_ok {op : BinOp} {a b : ByteArray} {q : PV} (h : aStr op a.data.toList b.data.toList = some q) (t : TypeId) :
    ∃ v, (binOp op t (.string a) (.string b)).run P w = .ok v w ∧ V g q v := by
  cases op with
  | add =>
    simp only [aStr] at h
    by_cases hle : a.data.toList.length + b.data.toList.length ≤ 281474976710656
    · simp only [hle, if_true] at h
      cases h
      have hn : ¬ ((a.size + b.size : Nat) : Int) > IntKind.i64.max := by
        simp only [Array.length_toList] at hle
        have e1 : a.data.size = a.size := rfl
        have e2 : b.data.size = b.size := rfl
        have e3 : IntKind.i64.max = 9223372036854775807 := by decide
        omega
      exact ⟨.string (a ++ b), by simp only [binOp, Op.stringOp]; rw [if_neg hn]; rfl, .pure _ _ (.str _ _ (by simp))⟩
    · simp only [hle, if_false] at h
      cases h
  | eql => cases h; exact ⟨_, by simp only [binOp, Op.stringOp, ByteArray.toList_eq]; rfl, .pure _ _ (by constructor)⟩
  | neq => cases h; exact ⟨_, by simp only [binOp, Op.stringOp, ByteArray.toList_eq]; rfl, .pure _ _ (by constructor)⟩
  | lss => cases h; exact ⟨_, by simp only [binOp, Op.stringOp, ByteArray.toList_eq]; rfl, .pure _ _ (by constructor)⟩
  | leq => cases h; exact ⟨_, by simp only [binOp, Op.stringOp, ByteArray.toList_eq]; rfl, .pure _ _ (by constructor)⟩
  | gtr => cases h; exact ⟨_, by simp only [binOp, Op.stringOp, ByteArray.toList_eq]; rfl, .pure _ _ (by constructor)⟩
  | geq => cases h; exact ⟨_, by simp only [binOp, Op.stringOp, ByteArray.toList_eq]; rfl, .pure _ _ (by constructor)⟩
  | _ => cases h

theorem un_ok {op : UnOp} {p : PV} {a : Value} (hp : V g p a) {q : PV} (h : aUn op p = some q) :
    ∃ v, (Op.unary op a).run P w = .ok v w ∧ V g q v := by
  unfold aUn at h
  split at h
  · cases h; obtain rfl := hp.bool_inv; exact ⟨_, rfl, .pure _ _ (.bool _)⟩
  · cases h; obtain rfl := hp.int_inv; exact ⟨_, rfl, .pure _ _ (.int _ _)⟩
  · cases h; obtain rfl := hp.int_inv; exact ⟨_, rfl, .pure _ _ (.int _ _)⟩
  · cases h

theorem conv_ok (hE : TOk E P) {s d : TypeId} {p : PV} {a : Value} (hp : V g p a) {q : PV} (h : aConv E s d p = some q) :
    ∃ v, (convert s d a).run P w = .ok v w ∧ V g q v := by
  unfold aConv at h
  split at h
  · rename_i si di hs hd
    obtain ⟨i, ds, z, e1, e2, e3, rfl⟩ := hE.spec hs
    obtain ⟨i', dd, z', e1', e2', e3', rfl⟩ := hE.spec hd
    simp only at h
    split at h
    · rename_i k' k k'' n h1 h2
      have h1 := tk_int h1; subst h1
      have h2 := tk_int h2; subst h2
      cases h
      obtain rfl := hp.int_inv
      exact ⟨_, by simp [convert, run_underlying e2, run_underlying e2', Conv.intToInt], .pure _ _ (.int _ _)⟩
    · rename_i b h1 h2
      have h1 := tk_string h1; subst h1
      have h2 := tk_string h2; subst h2
      cases h
      obtain ⟨b, rfl, rfl⟩ := hp.str_inv
      exact ⟨_, by simp [convert, run_underlying e2, run_underlying e2'], .pure _ _ (.str _ _ rfl)⟩
    · cases h
  · cases h

end
end Go.Vm
