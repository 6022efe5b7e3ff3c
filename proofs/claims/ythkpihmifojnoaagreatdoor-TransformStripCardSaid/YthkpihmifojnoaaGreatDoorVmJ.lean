/-
  New slices of zeros, lengths, maps.
-/
import Derived.Test.YthkpihmifojnoaaGreatDoorVmI
namespace Go.Vm
section
variable {E : Env} {P : Program} {g : Gh} {H : Heap} {w : World}

theorem run_askRoom (k : Nat) (w : World) : (askRoom k).run P w = .ok () w := by
  unfold askRoom; split <;> simp [mark, Sem.run]

theorem wrap_small (n : Nat) (h : n ≤ 4611686018427387904) : IntKind.i64.wrap (n : Int) = n := by
  have e1 : (2 : Int) ^ 64 = 18446744073709551616 := by decide
  have e2 : (2 : Int) ^ 63 = 9223372036854775808 := by decide
  simp only [IntKind.wrap, IntKind.bits, IntKind.signed, e1, Nat.reduceSub, e2, Bool.true_and, decide_eq_true_eq]
  split <;> omega

theorem len_ok (hE : TOk E P) (hi : Inv g H w) {t ty : TypeId} {p : PV} {a : Value} (hp : V g p a) {q : PV} (h : aLen E t p H = some q) :
    ∃ v, (Builtin.len_ #[t] ty #[a]).run P w = .ok v w ∧ V g q v := by
  unfold aLen at h
  split at h
  · rename_i ti ht
    obtain ⟨i, d, z, h1, h2, h3, rfl⟩ := hE.spec ht
    simp only at h
    split at h
    · rename_i s hd
      have hd := tk_string hd
      subst hd
      cases h
      obtain ⟨b, rfl, rfl⟩ := hp.str_inv
      exact ⟨_, by simp [Builtin.len_, run_underlying h2]; rfl, .pure _ _ (.int _ _)⟩
    · rename_i e tl es el hd
      have hd := tk_slice hd
      subst hd
      cases h
      obtain ⟨b, o, cap, vals, a, rfl, -⟩ := hp.sl_inv
      exact ⟨_, by simp [Builtin.len_, run_underlying h2]; rfl, .pure _ _ (.int _ _)⟩
    · rename_i e hd
      have hd := tk_slice hd
      subst hd
      cases h
      obtain rfl := hp.nils_inv
      exact ⟨_, by simp [Builtin.len_, run_underlying h2]; rfl, .pure _ _ (.int _ _)⟩
    · rename_i e id es ix len hd
      have hd := tk_slice hd
      subst hd
      cases h
      obtain ⟨b, cap, a, -, -, -, -, rfl⟩ := hp.own_inv
      exact ⟨_, by simp [Builtin.len_, run_underlying h2]; rfl, .pure _ _ (.int _ _)⟩
    · rename_i k e hd
      have hd := tk_map hd
      subst hd
      cases h
      obtain rfl := hp.nilm_inv
      exact ⟨_, by simp [Builtin.len_, run_underlying h2]; rfl, .pure _ _ (.int _ _)⟩
    · rename_i k e id hd
      have hd := tk_map hd
      subst hd
      rw [nth_eq] at h
      split at h
      · rename_i es hb
        cases h
        obtain ⟨b, hσ, rfl⟩ := hp.map_inv
        obtain ⟨b', ents, clk, q1, q2, q3, q4⟩ := hi.mp _ _ hb
        rw [hσ] at q1; cases q1
        refine ⟨.int .i64 (ents.size : Int), ?_, by rw [q3]; exact .pure _ _ (.int _ _)⟩
        simp [Builtin.len_, run_underlying h2, getObj, Sem.run, q2, goInt]
      · cases h
    · rename_i n e p' hd
      have hd := tk_array hd
      subst hd
      cases h
      exact ⟨_, by simp [Builtin.len_, run_underlying h2]; rfl, .pure _ _ (.int _ _)⟩
    · cases h
  · cases h

/-! ### maps -/
def KeyD (p : PV) (d : TypeDesc) : Prop := match p with
  | .str _ => d = .string
  | .int kk _ => d = .int kk
  | .bool _ => d = .bool
  | _ => False

theorem ByteArray.beq_iff {a b : ByteArray} (h : (a == b) = true) : a = b := by
  have : a.data == b.data := h
  cases a; cases b; congr 1; simpa using this
theorem ByteArray.beq_refl (b : ByteArray) : (b == b) = true := by
  show (b.data == b.data) = true
  simp

theorem keyEq_now {p q : PV} {k v : Value} (hp : V g p k) (hq : V g q v) {d : TypeDesc} {b : Bool} (h : keyEq p q = some b)
    (hd : KeyD p d) : Instr.sameNow d k v = some b := by
  cases p <;> cases q <;> simp only [keyEq] at h <;> first | cases h | skip
  · subst hd; rw [hp.bool_inv, hq.bool_inv]; rfl
  · subst hd
    split at h
    · rename_i e; subst e; cases h; rw [hp.int_inv, hq.int_inv]; simp [Instr.sameNow]
    · cases h
  · subst hd
    obtain ⟨a, rfl, rfl⟩ := hp.str_inv
    obtain ⟨b, rfl, rfl⟩ := hq.str_inv
    simp only [Instr.sameNow]
    congr 1
    rw [Bool.eq_iff_iff]
    exact ⟨fun e => by
      have := ByteArray.beq_iff e
      simp [this], fun e => by
      have : a = b := by cases a; cases b; congr 1; exact Array.toList_inj.1 (by simpa using e)
      rw [this]; exact ByteArray.beq_refl b⟩

theorem keyOk_spec (hE : TOk E P) {t : TypeId} {p : PV} (h : keyOk E t p = true) :
    ∃ d, P.underlying t = some d ∧ KeyD p d := by
  unfold keyOk at h
  split at h
  · rename_i ti ht
    obtain ⟨i, d, z, h1, h2, h3, rfl⟩ := hE.spec ht
    simp only at h
    refine ⟨d, h2, ?_⟩
    cases p <;> cases e : tkOf d <;> simp only [e] at h <;> first | cases h | skip
    · exact tk_bool e
    · simp at h; subst h; exact tk_int e
    · exact tk_string e
  · cases h

theorem run_checkKey {t : TypeId} {p : PV} {k : Value} (hp : V g p k) {d : TypeDesc} (h2 : P.underlying t = some d) (hd : KeyD p d) (e : Bool) (n : Nat) :
    (Instr.checkKey e (n + 1) t k).run P w = .ok () w := by
  cases p <;> first | exact hd.elim | skip
  · obtain rfl := hp.bool_inv; have hd : d = .bool := hd; subst hd; simp [Instr.checkKey, run_underlying h2]
  · obtain rfl := hp.int_inv; have hd : d = .int _ := hd; subst hd; simp [Instr.checkKey, run_underlying h2]
  · obtain ⟨b, rfl, -⟩ := hp.str_inv; have hd : d = .string := hd; subst hd; simp [Instr.checkKey, run_underlying h2]

theorem findE_ok {p : PV} {k : Value} (hp : V g p k) {d : TypeDesc} (hd : KeyD p d) :
    ∀ (es : List (PV × PV)) (ents : List MapEntry) (i : Nat) (r : Option (Nat × PV)), ents.length = es.length → (∀ j (hj : j < es.length) (hj' : j < ents.length), V g (es[j]).1 (ents[j]).key ∧ V g (es[j]).2 (ents[j]).val) → findE p es i = some r →
    match r with
    | none => Instr.findNow d k ents i = some none
    | some (m, pv) => i ≤ m ∧ m - i < es.length ∧ ∃ (_ : m - i < es.length) (hm' : m - i < ents.length), Instr.findNow d k ents i = some (some (m, (ents[m - i]).val)) ∧ V g pv (ents[m - i]).val ∧ Instr.sameNow d k (ents[m - i]).key = some true := by
  intro es
  induction es with
  | nil =>
    intro ents i r hl hv h
    have : ents = [] := by simpa using hl
    subst this
    simp only [findE, Option.some.injEq] at h
    subst h
    rfl
  | cons x es ih =>
    intro ents i r hl hv h
    obtain ⟨kx, vx⟩ := x
    cases ents with
    | nil => simp at hl
    | cons e ents =>
      have h0 := hv 0 (by simp) (by simp)
      simp only [List.getElem_cons_zero] at h0
      simp only [findE] at h
      split at h
      · rename_i hk
        cases h
        have hn := keyEq_now hp h0.1 hk hd
        refine ⟨Nat.le_refl _, by simp, by simp, by simp, ?_, by simpa using h0.2, by simpa using hn⟩
        simp [Instr.findNow, hn]
      · rename_i hk
        have hn := keyEq_now hp h0.1 hk hd
        have := ih ents (i + 1) r (by simpa using hl) (fun j hj hj' => hv (j + 1) (by simpa using hj) (by simpa using hj')) h
        match r, this with
        | none, q => simp only [Instr.findNow, hn]; exact q
        | some (m, pv), ⟨q1, q2, q3, q4, q5, q6, q7⟩ =>
          have em : m - i = (m - (i + 1)) + 1 := by omega
          refine ⟨by omega, by simp; omega, by simp; omega, by simp; omega, ?_, ?_, ?_⟩
          · simp only [Instr.findNow, hn, q5, em, List.getElem_cons_succ]
          · simpa only [em, List.getElem_cons_succ] using q6
          · simpa only [em, List.getElem_cons_succ] using q7
      · cases h

theorem lookup_ok (hE : TOk E P) (hi : Inv g H w) {t : TypeId} {p q : PV} {a k : Value} (hp : V g p a) (hq : V g q k) {ok : Bool} {r : PV} (h : aLookup E t p q ok H = some r) :
    ∃ v, (Instr.lookup t a k ok).run P w = .ok v w ∧ V g r v := by
  unfold aLookup at h
  split at h
  · rename_i ti ht
    obtain ⟨i, d, z, h1, h2, h3, rfl⟩ := hE.spec ht
    simp only at h
    split at h
    · rename_i kt e hd
      have hd := tk_map hd
      subst hd
      split at h
      · rename_i hk
        obtain ⟨kd, k1, k2⟩ := keyOk_spec hE hk
        have hmk : ∀ (vv : Value) (pp : PV) (b : Bool), V g pp vv → V g (if ok then .tup [pp, .bool b] else pp) (if ok then .tuple #[vv, .bool b] else vv) := fun vv pp b hv => by
          cases ok
          · exact hv
          · refine .tup _ _ rfl fun i hi => ?_
            match i, hi with
            | 0, _ => exact hv
            | 1, _ => exact .pure _ _ (.bool b)
        have fin : ∀ (es : List (PV × PV)) (ents : Array MapEntry), ents.size = es.length → (∀ i (hi : i < es.length), ∃ e, ents[i]? = some e ∧ V g (es[i]).1 e.key ∧ V g (es[i]).2 e.val) →
            (match findE q es 0 with
              | some (some (_, v)) => some (if ok then PV.tup [v, .bool true] else v)
              | some none => match E.T e with
                | some ei => some (if ok then PV.tup [ei.zero, .bool false] else ei.zero)
                | none => none
              | none => none) = some r →
            (Instr.checkKey ents.isEmpty 10000 kt k).run P w = .ok () w ∧
            ((∃ m vv, (Instr.findKey kt k ents.toList).run P w = .ok (some (m, vv)) w ∧ V g r (if ok then .tuple #[vv, .bool true] else vv)) ∨
             (∃ z', (Instr.findKey kt k ents.toList).run P w = .ok none w ∧ (zeroValue e).run P w = .ok z' w ∧ V g r (if ok then .tuple #[z', .bool false] else z'))) := by
          intro es ents hsz hents hr
          have hv : ∀ j (hj : j < es.length) (hj' : j < ents.toList.length), V g (es[j]).1 (ents.toList[j]).key ∧ V g (es[j]).2 (ents.toList[j]).val := fun j hj hj' => by
            obtain ⟨e, q1, q2⟩ := hents j hj
            have : ents.toList[j] = e := by
              have hj2 : j < ents.size := by simpa using hj'
              rw [Array.getElem?_eq_getElem hj2] at q1
              simpa using q1
            rw [this]; exact q2
          have hck := run_checkKey (P := P) (w := w) hq k1 k2 ents.isEmpty 9999
          cases hf : findE q es 0 with
          | none => simp [hf] at hr
          | some o =>
            have := findE_ok hq k2 es ents.toList 0 o (by simpa using hsz) hv hf
            match o, this with
            | none, hnow =>
              simp only [hf] at hr
              split at hr
              · rename_i ei hei
                obtain ⟨i', d', z', h1', h2', h3', rfl⟩ := hE.spec hei
                simp only [Option.some.injEq] at hr
                subst hr
                exact ⟨hck, .inr ⟨z', by simp [Instr.findKey, run_underlying k1, hnow], run_zero' h1' h3' w, hmk z' _ false (.pure _ _ (V0.ofConst g.S z'))⟩⟩
              · cases hr
            | some (m, pv), ⟨_, _, hm, hm', hnow, hval, _⟩ =>
              simp only [hf, Option.some.injEq] at hr
              subst hr
              exact ⟨hck, .inl ⟨m, _, by simp [Instr.findKey, run_underlying k1, hnow], hmk _ _ true hval⟩⟩
        split at h
        · rename_i es hes
          split at hes
          · cases hes
            obtain rfl := hp.nilm_inv
            obtain ⟨c1, ⟨m, vv, c2, c3⟩ | ⟨z', c2, c3, c4⟩⟩ := fin [] #[] rfl (fun i hi => absurd hi (by simp)) h
            · simp at c1 c2
              exact ⟨_, by simp [Instr.lookup, run_underlying h2, c1, c2], c3⟩
            · simp at c1 c2
              exact ⟨_, by simp [Instr.lookup, run_underlying h2, c1, c2, c3], c4⟩
          · rename_i id
            rw [nth_eq] at hes
            split at hes
            · rename_i es' hb
              cases hes
              obtain ⟨b, hσ, rfl⟩ := hp.map_inv
              obtain ⟨b', ents, clk, q1, q2, q3, q4, q5⟩ := hi.mp _ _ hb
              rw [hσ] at q1; cases q1
              obtain ⟨c1, ⟨m, vv, c2, c3⟩ | ⟨z', c2, c3, c4⟩⟩ := fin es ents q3 q4 h
              · exact ⟨_, by simp [Instr.lookup, run_underlying h2, getObj, Sem.run, q2, c1, c2], c3⟩
              · exact ⟨_, by simp [Instr.lookup, run_underlying h2, getObj, Sem.run, q2, c1, c2, c3], c4⟩
            · cases hes
          · cases hes
        · cases h
      · cases h
    · cases h
  · cases h

theorem mapUpdate_ok (hE : TOk E P) (hi : Inv g H w) {t : TypeId} {p q r : PV} {a k x : Value} (hp : V g p a) (hq : V g q k) (hr : V g r x) {H' : Heap} (h : aMapUpdate E t p q r H = some H') :
    ∃ w', (Instr.mapUpdate t a k x).run P w = .ok () w' ∧ Inv g H' w' ∧ Keep g H w g H' w' := by
  unfold aMapUpdate at h
  split at h
  · rename_i ti ht
    obtain ⟨i, d, z, h1, h2, h3, rfl⟩ := hE.spec ht
    simp only at h
    split at h
    · rename_i kt e id hd
      have hd := tk_map hd
      subst hd
      split at h
      · rename_i hk
        obtain ⟨kd, k1, k2⟩ := keyOk_spec hE hk
        rw [nth_eq] at h
        split at h
        · rename_i es hb
          obtain ⟨b, hσ, rfl⟩ := hp.map_inv
          obtain ⟨b', ents, clk, q1, q2, q3, q4, q5⟩ := hi.mp _ _ hb
          rw [hσ] at q1; cases q1
          have hck := run_checkKey (P := P) (w := w) hq k1 k2 false 9999
          have hv : ∀ j (hj : j < es.length) (hj' : j < ents.toList.length), V g (es[j]).1 (ents.toList[j]).key ∧ V g (es[j]).2 (ents.toList[j]).val := fun j hj hj' => by
            obtain ⟨e, q1, q2⟩ := q4 j hj
            have : ents.toList[j] = e := by
              have hj2 : j < ents.size := by simpa using hj'
              rw [Array.getElem?_eq_getElem hj2] at q1
              simpa using q1
            rw [this]; exact q2
          have hblt : b < w.heap.size := hi.sz _ _ hσ
          have done : ∀ (ents' : Array MapEntry) (clk' : Nat) (es' : List (PV × PV)) (H' : Heap), H.put id (.map es') = some H' → ents'.size = es'.length → (∀ i (hi : i < es'.length), ∃ e, ents'[i]? = some e ∧ V g (es'[i]).1 e.key ∧ V g (es'[i]).2 e.val) →
              (setObj b (.map ents' clk')).run P w = .ok () { w with heap := w.heap.setIfInBounds b (.map ents' clk') } ∧
              Inv g H' { w with heap := w.heap.setIfInBounds b (.map ents' clk') } ∧ Keep g H w g H' { w with heap := w.heap.setIfInBounds b (.map ents' clk') } := by
            intro ents' clk' es' H' hput hsz hents
            obtain ⟨hro, rfl⟩ := put_inv hput
            refine ⟨by simp [setObj, Sem.run, q2], inv_put (ob := .map ents' clk') hi hro hb trivial hσ q5 (fun k hk => ?_) (by simp) (by simp [hblt]) (fun a => ?_) (fun es el h => by cases h) (fun es h => by cases h; exact ⟨ents', clk', rfl, hsz, hents⟩) (fun c T m h => by cases h) ⟨rfl, rfl⟩⟩
            · simp [Ne.symm hk]
            · by_cases e : a.block = b
              · simp only [World.frozen?, e, q2]
                simp [hblt]
              · simp only [World.frozen?]
                rw [show ({ w with heap := w.heap.setIfInBounds b (.map ents' clk') } : World).heap[a.block]? = w.heap[a.block]? by simp [Array.getElem?_setIfInBounds, Ne.symm e]]
          cases hf : findE q es 0 with
          | none => simp [hf] at h
          | some o =>
            have := findE_ok hq k2 es ents.toList 0 o (by simpa using q3) hv hf
            match o, this with
            | none, hnow =>
              simp only [hf] at h
              obtain ⟨d1, d2, d3⟩ := done (ents.push { key := k, val := x, born := clk }) (clk + 1) _ _ h (by simp [q3]) (fun i hi => by
                by_cases e : i < es.length
                · obtain ⟨e0, p1, p2⟩ := q4 i e
                  refine ⟨e0, ?_, ?_⟩
                  · rw [Array.getElem?_push_lt (by omega)]
                    rw [Array.getElem?_eq_getElem (by omega)] at p1
                    exact p1
                  · rw [List.getElem_append_left e]; exact p2
                · have : i = es.length := by simp at hi; omega
                  subst this
                  refine ⟨{ key := k, val := x, born := clk }, by rw [← q3]; simp, ?_⟩
                  simpa using ⟨hq, hr⟩)
              refine ⟨_, ?_, d2, d3⟩
              simp [Instr.mapUpdate, run_underlying h2, getObj, Sem.run, q2, hck, Instr.findKey, run_underlying k1, hnow, d1]
            | some (m, pv), ⟨_, hm, _, hm', hnow, hval, hsame⟩ =>
              simp only [hf] at h
              simp only [Nat.sub_zero] at hm hm' hnow hval hsame
              have hms : m < ents.size := by simpa using hm'
              have hkeys : (Instr.keyThatStays (((ents[m]?).map (·.key)).getD k) k).run P w = .ok k w := by
                have e1 : ((ents[m]?).map (·.key)).getD k = (ents.toList[m]).key := by simp [hms]
                rw [e1]
                have : Instr.sameBits 10000 (ents.toList[m]).key k = true := by
                  generalize (ents.toList[m]).key = k' at hsame
                  cases q <;> first | exact k2.elim | skip
                  · obtain rfl := hq.bool_inv; have k2 : kd = .bool := k2; subst k2
                    cases k' <;> simp [Instr.sameNow] at hsame
                    subst hsame; simp [Instr.sameBits]
                  · obtain rfl := hq.int_inv; have k2 : kd = .int _ := k2; subst k2
                    cases k' <;> simp [Instr.sameNow] at hsame
                    obtain ⟨rfl, rfl⟩ := hsame; simp [Instr.sameBits]
                  · obtain ⟨b, rfl, -⟩ := hq.str_inv; have k2 : kd = .string := k2; subst k2
                    cases k' <;> simp [Instr.sameNow] at hsame
                    have := ByteArray.beq_iff (by simpa using hsame); subst this; simp only [Instr.sameBits]; exact ByteArray.beq_refl _
                unfold Instr.keyThatStays
                rw [if_pos this]
                rfl
              obtain ⟨d1, d2, d3⟩ := done (ents.modify m fun e => { e with key := k, val := x }) clk _ _ h (by simp [q3]) (fun i hi => by
                have hi' : i < es.length := by simpa using hi
                obtain ⟨e0, p1, p2⟩ := q4 i hi'
                by_cases e : m = i
                · subst e
                  refine ⟨{ e0 with key := k, val := x }, by simp [Array.getElem?_modify, p1], ?_⟩
                  simpa using ⟨hq, hr⟩
                · refine ⟨e0, by simp [Array.getElem?_modify, e, p1], ?_⟩
                  rw [List.getElem_set_ne e]; exact p2)
              refine ⟨_, ?_, d2, d3⟩
              simp [Instr.mapUpdate, run_underlying h2, getObj, Sem.run, q2, hck, Instr.findKey, run_underlying k1, hnow, hkeys, d1]
        · cases h
      · cases h
    · cases h
  · cases h

end
end Go.Vm
