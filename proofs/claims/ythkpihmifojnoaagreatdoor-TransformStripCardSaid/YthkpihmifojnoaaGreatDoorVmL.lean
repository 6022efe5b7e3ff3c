/-
  Comparisons, and every operation that is no call.
-/
import Derived.Test.YthkpihmifojnoaaGreatDoorVmK
namespace Go.Vm
section
variable {E : Env} {P : Program} {g : Gh} {H : Heap} {w : World}

theorem eqGuard_ok (op : BinOp) (t : TypeId) (x y : Operand) (a b : Value) (h : ∀ u v, a = .agg u → b = .agg v → False) (h2 : a = .nilIface → b = .nilIface → False) : (eqGuard op t x y a b).run P w = .ok () w := by
  cases op <;> first | rfl | skip
  all_goals
    cases a <;> first | rfl | skip
    · cases b <;> first | rfl | exact (h2 rfl rfl).elim
    · cases b <;> first | rfl | exact (h _ _ rfl rfl).elim

theorem equal_ok (hE : TOk E P) {t : TypeId} {ti : TI} (ht : E.T t = some ti) {p q : PV} {a c : Value} (hp : V g p a) (hq : V g q c) {b : Bool} (h : aEq ti.tk p q = some b) :
    (Op.equal t a c).run P w = .ok b w ∧ (∀ k n, a ≠ .int k n) ∧ (∀ s, a ≠ .string s) ∧ (∀ u, a ≠ .agg u) ∧ a ≠ .nilIface ∧ (∀ k n, a ≠ .float k n) ∧ (∀ k n m, a ≠ .complex k n m) := by
  obtain ⟨i, d, z, h1, h2, h3, rfl⟩ := hE.spec ht
  simp only at h
  have key : ∀ r : Bool, (∀ n, (Op.equalIn (n + 1) t a c).run P w = .ok r w) → (Op.equal t a c).run P w = .ok r w := fun r h => h 9999
  unfold aEq at h
  split at h
  · rename_i x y
    split at h
    · rename_i hd
      have hd := tk_bool hd
      subst hd
      cases h
      obtain rfl := hp.bool_inv
      obtain rfl := hq.bool_inv
      refine ⟨key _ fun n => ?_, by simp, by simp, by simp, by simp, by simp, by simp⟩
      simp [Op.equalIn, run_underlying h2]
    · cases h
  · split at h
    all_goals first
      | cases h
      | skip
    all_goals
      first
        | (have hd := tk_slice ‹tkOf d = TK.slice _›; subst hd)
        | (have hd := tk_pointer ‹tkOf d = TK.pointer _›; subst hd)
        | (have hd := tk_map ‹tkOf d = TK.map _ _›; subst hd)
        | (obtain ⟨f1, f2, f3, hd⟩ := tk_func ‹tkOf d = TK.func›; subst hd)
    all_goals
      first
        | obtain rfl := hp.nils_inv
        | (obtain ⟨b, o, cap, vals, a, rfl, -⟩ := hp.sl_inv)
        | (obtain ⟨b, cap, a, -, -, -, -, rfl⟩ := hp.own_inv)
        | obtain rfl := hp.nilp_inv
        | (obtain ⟨b, -, rfl⟩ := hp.ptr_inv)
        | obtain rfl := hp.nilm_inv
        | (obtain ⟨b, -, rfl⟩ := hp.map_inv)
        | obtain rfl := hp.nilf_inv
        | (obtain ⟨vs, hl, rfl, -⟩ := hp.fn_inv)
    all_goals
      first
        | obtain rfl := hq.nils_inv
        | (obtain ⟨b, o, cap, vals, a, rfl, -⟩ := hq.sl_inv)
        | (obtain ⟨b, cap, a, -, -, -, -, rfl⟩ := hq.own_inv)
        | obtain rfl := hq.nilp_inv
        | (obtain ⟨b, -, rfl⟩ := hq.ptr_inv)
        | obtain rfl := hq.nilm_inv
        | (obtain ⟨b, -, rfl⟩ := hq.map_inv)
        | obtain rfl := hq.nilf_inv
        | (obtain ⟨vs, hl, rfl, -⟩ := hq.fn_inv)
    all_goals
      refine ⟨key _ fun n => ?_, by simp, by simp, by simp, by simp, by simp, by simp⟩
      simp [Op.equalIn, run_underlying h2]

theorem bin_ok (hE : TOk E P) {op : BinOp} {t : TypeId} {p q : PV} {a c : Value} (hp : V g p a) (hq : V g q c) (x y : Operand) {r : PV} (h : aBin E op t p q = some r) :
    ∃ v, (do eqGuard op t x y a c; binOp op t a c : Sem Value).run P w = .ok v w ∧ V g r v := by
  unfold aBin at h
  split at h
  · rename_i k n k' m
    obtain rfl := hp.int_inv
    obtain rfl := hq.int_inv
    have hg : (eqGuard op t x y (.int k n) (.int k' m)).run P w = .ok () w := eqGuard_ok _ _ _ _ _ _ (fun _ _ h => by cases h) (fun h => by cases h)
    split at h
    · obtain ⟨v, hr, hv⟩ := shift_ok (g := g) (P := P) (w := w) (k' := k') h t
      exact ⟨v, by simp [hg, hr], hv⟩
    · obtain ⟨v, hr, hv⟩ := shift_ok (g := g) (P := P) (w := w) (k' := k') h t
      exact ⟨v, by simp [hg, hr], hv⟩
    · rename_i h1 h2
      split at h
      · rename_i e
        subst e
        obtain ⟨v, hr, hv⟩ := arith_ok (g := g) (P := P) (w := w) h h1 h2 t
        exact ⟨v, by simp [hg, hr], hv⟩
      · cases h
  · rename_i s s'
    obtain ⟨b1, rfl, rfl⟩ := hp.str_inv
    obtain ⟨b2, rfl, rfl⟩ := hq.str_inv
    have hg : (eqGuard op t x y (.string b1) (.string b2)).run P w = .ok () w := eqGuard_ok _ _ _ _ _ _ (fun _ _ h => by cases h) (fun h => by cases h)
    obtain ⟨v, hr, hv⟩ := str_ok (g := g) (P := P) (w := w) h t
    exact ⟨v, by simp [hg, hr], hv⟩
  · split at h
    · split at h
      · rename_i ti ht
        obtain ⟨b, hb, rfl⟩ := Option.map_eq_some_iff.1 h
        obtain ⟨hr, n1, n2, n3, n4, n5, n6⟩ := equal_ok (w := w) hE ht hp hq hb
        refine ⟨.bool b, ?_, .pure _ _ (.bool b)⟩
        have hg : (eqGuard .eql t x y a c).run P w = .ok () w := eqGuard_ok _ _ _ _ _ _ (fun u _ h => (n3 u h).elim) (fun h => (n4 h).elim)
        have e : binOp .eql t a c = (do pure (.bool (← Op.equal t a c))) := by
          cases a <;> simp_all [binOp]
        simp [hg, e, hr]
      · cases h
    · split at h
      · rename_i ti ht
        obtain ⟨b, hb, rfl⟩ := Option.map_eq_some_iff.1 h
        obtain ⟨hr, n1, n2, n3, n4, n5, n6⟩ := equal_ok (w := w) hE ht hp hq hb
        refine ⟨.bool (!b), ?_, .pure _ _ (.bool _)⟩
        have hg : (eqGuard .neq t x y a c).run P w = .ok () w := eqGuard_ok _ _ _ _ _ _ (fun u _ h => (n3 u h).elim) (fun h => (n4 h).elim)
        have e : binOp .neq t a c = (do pure (.bool (!(← Op.equal t a c)))) := by
          cases a <;> simp_all [binOp]
        simp [hg, e, hr]
      · cases h
    · cases h

theorem maxL_ok : ∀ {l : List PV} {vs : List Value} {p q : PV} {v : Value}, VL g l vs → V g p v → aMaxL l p = some q → ∃ u, (vs.foldlM Builtin.max2 v).run P w = .ok u w ∧ V g q u
  | [], vs, p, q, v, hl, hp, h => by
    have : vs = [] := by have := hl.1; simpa using this
    subst this
    simp only [aMaxL, Option.some.injEq] at h
    subst h
    exact ⟨v, by simp, hp⟩
  | x :: l, vs, p, q, v, hl, hp, h => by
    cases vs with
    | nil => have := hl.1; simp at this
    | cons u vs =>
      have h0 : V g x u := hl.2 0 (by simp) (by simp)
      have hl' : VL g l vs := ⟨by have := hl.1; simpa using this, fun i hi hj => hl.2 (i + 1) (by simpa using hi) (by simpa using hj)⟩
      unfold aMaxL at h
      split at h
      · cases ‹_ :: _ = []›
      · rename_i k y r k' z e
        cases e
        obtain rfl := h0.int_inv
        obtain rfl := hp.int_inv
        obtain ⟨u, hu, hq⟩ := maxL_ok hl' (.pure _ _ (.int _ _)) h
        exact ⟨u, by simpa [List.foldlM_cons, Builtin.max2] using hu, hq⟩
      · cases h
theorem minL_ok : ∀ {l : List PV} {vs : List Value} {p q : PV} {v : Value}, VL g l vs → V g p v → aMinL l p = some q → ∃ u, (vs.foldlM Builtin.min2 v).run P w = .ok u w ∧ V g q u
  | [], vs, p, q, v, hl, hp, h => by
    have : vs = [] := by have := hl.1; simpa using this
    subst this
    simp only [aMinL, Option.some.injEq] at h
    subst h
    exact ⟨v, by simp, hp⟩
  | x :: l, vs, p, q, v, hl, hp, h => by
    cases vs with
    | nil => have := hl.1; simp at this
    | cons u vs =>
      have h0 : V g x u := hl.2 0 (by simp) (by simp)
      have hl' : VL g l vs := ⟨by have := hl.1; simpa using this, fun i hi hj => hl.2 (i + 1) (by simpa using hi) (by simpa using hj)⟩
      unfold aMinL at h
      split at h
      · cases ‹_ :: _ = []›
      · rename_i k y r k' z e
        cases e
        obtain rfl := h0.int_inv
        obtain rfl := hp.int_inv
        obtain ⟨u, hu, hq⟩ := minL_ok hl' (.pure _ _ (.int _ _)) h
        exact ⟨u, by simpa [List.foldlM_cons, Builtin.min2] using hu, hq⟩
      · cases h

theorem opOk_of {s : Sem Value} {r : Result Next} {p : PV} {H' : Heap} (hr : ∀ v w', s.run P w = .ok v w' → r = .ok (.value v) w')
    (h : ∃ v w' g', s.run P w = .ok v w' ∧ V g' p v ∧ Inv g' H' w' ∧ Keep g H w g' H' w') : OpOk g H w r p H' := by
  obtain ⟨v, w', g', a, b, c, d⟩ := h
  exact ⟨_, v, w', g', hr _ _ a, .inl rfl, b, c, d⟩

theorem opOk_val {s : Sem Value} {r : Result Next} {p : PV} (hi : Inv g H w) (hr : ∀ v w', s.run P w = .ok v w' → r = .ok (.value v) w')
    (h : ∃ v, s.run P w = .ok v w ∧ V g p v) : OpOk g H w r p H := by
  obtain ⟨v, a, b⟩ := h
  exact ⟨_, v, w, g, hr _ _ a, .inl rfl, b, hi, .refl _ _ _⟩

theorem opOk_unit {s : Sem Unit} {r : Result Next} {H' : Heap} (hr : ∀ w', s.run P w = .ok () w' → r = .ok .skip w')
    (h : ∃ w', s.run P w = .ok () w' ∧ Inv g H' w' ∧ Keep g H w g H' w') : OpOk g H w r .undef H' := by
  obtain ⟨w', a, c, d⟩ := h
  exact ⟨_, undef, w', g, hr _ a, .inr ⟨rfl, rfl⟩, .pure _ _ (.undef _), c, d⟩

theorem PL_of {ρa : Operand → PV} {ρ : Operand → Value} (hρ : ∀ x, V g (ρa x) (ρ x)) (ps : Array (Nat × Operand)) :
    PL g (ps.toList.map fun p => (p.1, ρa p.2)) (ps.map fun x => (x.1, ρ x.2)).toList :=
  ⟨by simp, fun i hi hj => by simpa using hρ _⟩

theorem VL_of {ρa : Operand → PV} {ρ : Operand → Value} (hρ : ∀ x, V g (ρa x) (ρ x)) (ps : Array Operand) :
    VL g (ps.toList.map ρa) (ps.map ρ).toList := ⟨by simp, fun i hi hj => by simpa using hρ _⟩

theorem optV_of {ρa : Operand → PV} {ρ : Operand → Value} (hρ : ∀ x, V g (ρa x) (ρ x)) (o : Option Operand) : OptV g (optV ρa o) (o.map ρ) := by
  cases o with
  | none => trivial
  | some x => exact hρ x

theorem builtin_ok (hE : TOk E P) (hi : Inv g H w) {own : Bool} {b : Builtin} {ts : Array TypeId} {ty : TypeId} {cs : Array Bool} {args : List PV} {vs : Array Value} (hv : VL g args vs.toList) {p : PV} {H' : Heap}
    (h : aBuiltin E own b ts.toList args H = some (p, H')) : OpOk g H w ((builtin b ts ty cs vs).run P w) p H' := by
  unfold aBuiltin at h
  split at h
  · rename_i ts' args' t x hts
    obtain ⟨q, hq, e⟩ := Option.map_eq_some_iff.1 h
    cases e
    obtain rfl : ts = #[t] := by apply Array.ext'; simpa using hts
    obtain ⟨a, rfl⟩ : ∃ a, vs = #[a] := by
      have := hv.1
      simp at this
      exact ⟨vs[0], by apply Array.ext (by simpa using this); intro i h1 h2; simp at h2; subst h2; rfl⟩
    have ha : V g x a := hv.2 0 (by simp) (by simp)
    exact opOk_val (P := P) hi (fun v w' hr => by simp [builtin, hr]) (len_ok (ty := ty) hE hi ha hq)
  · rename_i ts' args' t u s x hts
    obtain rfl : ts = #[t, u] := by apply Array.ext'; simpa using hts
    obtain ⟨a, c, rfl⟩ : ∃ a c, vs = #[a, c] := by
      have := hv.1
      simp at this
      exact ⟨vs[0], vs[1], by apply Array.ext (by simpa using this); intro i h1 h2; simp at h2; rcases i with _ | _ | i <;> first | rfl | omega⟩
    have ha : V g s a := hv.2 0 (by simp) (by simp)
    have hc : V g x c := hv.2 1 (by simp) (by simp)
    split at h
    · exact opOk_of (P := P) (fun v w' hr => by simp [builtin, hr]) (appendOwn_ok (ty := ty) hE hi ha hc h)
    · exact opOk_of (P := P) (fun v w' hr => by simp [builtin, hr]) (append_ok (ty := ty) hE hi ha hc h)
  · rename_i ts' args' x r
    obtain ⟨q, hq, e⟩ := Option.map_eq_some_iff.1 h
    cases e
    obtain ⟨a, vr, hvs⟩ : ∃ a vr, vs.toList = a :: vr := by
      cases hc : vs.toList with
      | nil => have := hv.1; rw [hc] at this; simp at this
      | cons a vr => exact ⟨a, vr, rfl⟩
    rw [hvs] at hv
    exact opOk_val (P := P) hi (fun v w' hr => by simp [builtin, hr]) (s := Builtin.max_ ts ty vs) (by
      obtain ⟨u, h1, h2⟩ := maxL_ok (P := P) (w := w) (l := r) (vs := vr) ⟨by have := hv.1; simpa using this, fun i hi hj => hv.2 (i + 1) (by simpa using hi) (by simpa using hj)⟩ (hv.2 0 (by simp) (by simp)) hq
      exact ⟨u, by simp only [Builtin.max_, hvs]; exact h1, h2⟩)
  · rename_i ts' args' x r
    obtain ⟨q, hq, e⟩ := Option.map_eq_some_iff.1 h
    cases e
    obtain ⟨a, vr, hvs⟩ : ∃ a vr, vs.toList = a :: vr := by
      cases hc : vs.toList with
      | nil => have := hv.1; rw [hc] at this; simp at this
      | cons a vr => exact ⟨a, vr, rfl⟩
    rw [hvs] at hv
    exact opOk_val (P := P) hi (fun v w' hr => by simp [builtin, hr]) (s := Builtin.min_ ts ty vs) (by
      obtain ⟨u, h1, h2⟩ := minL_ok (P := P) (w := w) (l := r) (vs := vr) ⟨by have := hv.1; simpa using this, fun i hi hj => hv.2 (i + 1) (by simpa using hi) (by simpa using hj)⟩ (hv.2 0 (by simp) (by simp)) hq
      exact ⟨u, by simp only [Builtin.min_, hvs]; exact h1, h2⟩)
  · cases h

theorem aOp_ok (hE : TOk E P) (hi : Inv g H w) {own : Bool} {ρa : Operand → PV} {ρ : Operand → Value} (hρ : ∀ x, V g (ρa x) (ρ x)) {o : Oper} {p : PV} {H' : Heap}
    (h : aOp E own ρa o.op H = some (p, H')) : OpOk g H w ((execOp ρ o).run P w) p H' := by
  obtain ⟨dst, op, ty, pos, after, guard⟩ := o
  simp only at h
  unfold aOp at h
  split at h
  · rename_i x
    cases h
    exact .val _ (by simp [execOp]) (hρ x) hi
  · rename_i x
    cases h
    exact .val _ (by simp [execOp]) (hρ x) hi
  · rename_i c a b
    split at h
    · rename_i t ht
      cases h
      have hc := hρ c
      rw [ht] at hc
      have hb := hc.bool_inv
      refine .val (if t then ρ a else ρ b) (by simp [execOp, hb, asBool]) ?_ hi
      cases t
      · exact hρ b
      · exact hρ a
    · cases h
  · rename_i e
    split at h
    · rename_i ei he
      split at h
      · rename_i hc
        cases h
        exact opOk_of (P := P) (fun v w' hr => by simp [execOp, hr]) (alloc_ok hE hi he hc.1 hc.2)
      · cases h
    · cases h
  · rename_i e x
    split at h
    · rename_i hc
      cases h
      exact opOk_of (P := P) (fun v w' hr => by simp [execOp, hr]) (box_ok hi (hρ x) hc e)
    · cases h
  · rename_i t ps
    obtain ⟨q, hq, e⟩ := Option.map_eq_some_iff.1 h
    cases e
    exact opOk_val (P := P) hi (fun v w' hr => by simp [execOp, hr]) (build_ok hE (PL_of hρ ps) hq)
  · rename_i t n ps
    split at h
    · rename_i es el hbs
      obtain ⟨b1, b2⟩ := buildSlice_ok (w := w) hE hi (PL_of hρ ps) hbs
      split at h
      · cases h
        exact opOk_of (P := P) (fun v w' hr => by simp [execOp, hr]) b2
      · split at h
        · rename_i el' hf
          cases h
          exact opOk_of (P := P) (fun v w' hr => by simp [execOp, hr]) (b1 el' hf)
        · cases h
    · cases h
  · rename_i t a
    obtain ⟨q, hq, e⟩ := Option.map_eq_some_iff.1 h
    cases e
    exact opOk_val (P := P) hi (fun v w' hr => by simp [execOp, hr]) (load_ok hE hi (hρ a) hq)
  · rename_i t a x
    split at h
    · rename_i ti ht
      split at h
      · rename_i hc
        obtain ⟨H2, hq, e⟩ := Option.map_eq_some_iff.1 h
        cases e
        exact opOk_unit (P := P) (fun w' hr => by simp [execOp, hr]) (store_ok hE hi ht (hρ a) (hρ x) hc.1 hc.2.1 hc.2.2 hq)
      · cases h
    · cases h
  · rename_i x
    split at h
    · rename_i hx
      cases h
      have hc := hρ x
      rw [hx] at hc
      obtain ⟨b, hb, e⟩ := hc.ptr_inv
      exact .val (ρ x) (by simp [execOp, e]) hc hi
    · rename_i hx
      cases h
      have hc := hρ x
      rw [hx] at hc
      obtain ⟨b, o, vals, _, _, e⟩ := hc.fptr_inv
      exact .val (ρ x) (by simp [execOp, e]) hc hi
    · rename_i hx
      cases h
      have hc := hρ x
      rw [hx] at hc
      obtain ⟨vs, hl, e, _⟩ := hc.fn_inv
      exact .val (ρ x) (by simp [execOp, e]) hc hi
    · cases h
  · rename_i op' t x y yt
    obtain ⟨q, hq, e⟩ := Option.map_eq_some_iff.1 h
    cases e
    exact opOk_val (P := P) hi (fun v w' hr => by simp only [execOp, Sem.run_bind, hr, Result.andThen_ok, Sem.run_pure]) (bin_ok hE (hρ x) (hρ y) x y hq)
  · rename_i op' t x
    obtain ⟨q, hq, e⟩ := Option.map_eq_some_iff.1 h
    cases e
    exact opOk_val (P := P) hi (fun v w' hr => by simp [execOp, hr]) (un_ok (hρ x) hq)
  · rename_i s d x
    obtain ⟨q, hq, e⟩ := Option.map_eq_some_iff.1 h
    cases e
    exact opOk_val (P := P) hi (fun v w' hr => by simp [execOp, hr]) (conv_ok hE (hρ x) hq)
  · rename_i f fi ca
    split at h
    · rename_i hf
      cases h
      have hf' : fi = #[] := by simpa using hf
      subst hf'
      refine .val (.func (.func f) #[] (ca.map ρ)) (by simp [execOp, Instr.makeFunc]) (.fn f _ _ (by simp) fun i hi => by simpa using hρ _) hi
    · cases h
  · rename_i t
    cases h
    exact opOk_of (P := P) (fun v w' hr => by simp [execOp, hr]) (makeMap_ok hi t)
  · rename_i t x lo hi' mx
    obtain ⟨q, hq, e⟩ := Option.map_eq_some_iff.1 h
    cases e
    exact opOk_val (P := P) hi (fun v w' hr => by simp [execOp, hr]) (slice_ok hE (hρ x) (optV_of hρ lo) (optV_of hρ hi') (optV_of hρ mx) hq)
  · rename_i t x f
    obtain ⟨q, hq, e⟩ := Option.map_eq_some_iff.1 h
    cases e
    exact opOk_val (P := P) hi (fun v w' hr => by simp [execOp, hr]) (fieldAddr_ok hE (hρ x) hq)
  · rename_i t x f
    obtain ⟨q, hq, e⟩ := Option.map_eq_some_iff.1 h
    cases e
    exact opOk_val (P := P) hi (fun v w' hr => by simp [execOp, hr]) (field_ok hE (hρ x) hq)
  · rename_i t x i
    obtain ⟨q, hq, e⟩ := Option.map_eq_some_iff.1 h
    cases e
    exact opOk_val (P := P) hi (fun v w' hr => by simp [execOp, hr]) (indexAddr_ok hE (hρ x) (hρ i) hq)
  · rename_i t x i
    obtain ⟨q, hq, e⟩ := Option.map_eq_some_iff.1 h
    cases e
    exact opOk_val (P := P) hi (fun v w' hr => by simp [execOp, hr]) (index_ok hE (hρ x) (hρ i) hq)
  · rename_i t x i ok
    obtain ⟨q, hq, e⟩ := Option.map_eq_some_iff.1 h
    cases e
    exact opOk_val (P := P) hi (fun v w' hr => by simp [execOp, hr]) (lookup_ok hE hi (hρ x) (hρ i) hq)
  · rename_i t m k x
    obtain ⟨H2, hq, e⟩ := Option.map_eq_some_iff.1 h
    cases e
    exact opOk_unit (P := P) (fun w' hr => by simp [execOp, hr]) (mapUpdate_ok hE hi (hρ m) (hρ k) (hρ x) hq)
  · rename_i x i
    split at h
    · rename_i vs hx
      rw [nth_eq] at h
      obtain ⟨q, hq, e⟩ := Option.map_eq_some_iff.1 h
      cases e
      have hc := hρ x
      rw [hx] at hc
      obtain ⟨ws, hl, e, hv⟩ := hc.tup_inv
      have hlt := get_lt hq
      have hv' := hv i hlt
      rw [get_eq hq] at hv'
      have hlt' : i < ws.size := by omega
      exact .val (ws[i]) (by simp [execOp, e, Instr.extract, hlt']) hv' hi
    · cases h
  · rename_i b args ats
    exact builtin_ok (w := w) (ty := ty) (cs := _) hE hi (VL_of hρ args) h
  · cases h

end
end Go.Vm
