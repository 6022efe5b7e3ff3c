/-
  Calls: by the code of the function that is called.
-/
import Derived.Test.YthkpihmifojnoaaGreatDoorVmN
namespace Go.Vm
section
variable {E : Env} {P : Program} {g : Gh} {n : Nat} {tm : TM} {H : Heap} {a : Act} {w : World}

noncomputable def resA (E : Env) (tm : TM) (H : Heap) : List ResultVar → Option (List PV)
  | [] => some []
  | .tmp t :: r => match resA E tm H r with | some vs => some (tm t :: vs) | none => none
  | .cell a t :: r => match aLoad E t (tm a) H with
    | some v => match resA E tm H r with | some vs => some (v :: vs) | none => none
    | none => none

def resOne (tmps : Array Value) : ResultVar → Sem Value
  | .tmp t => pure (tmps.getD t undef)
  | .cell x t => do loadVar t (← asAddr (tmps.getD x undef))

theorem results_eq (fn : Func) (tmps : Array Value) : results fn tmps = (fn.results.mapM (resOne tmps) >>= fun vs => pure (if h : vs.size = 1 then vs[0] else .tuple vs)) := by
  unfold results
  congr 2

theorem resA_ok (hE : TOk E P) (hr : Rel E g n tm H a w) : ∀ {l : List ResultVar} {ps : List PV}, resA E tm H l = some ps →
    ∃ vs : List Value, (l.mapM (resOne a.tmps)).run P w = .ok vs w ∧ VL g ps vs
  | [], ps, h => by
    simp only [resA, Option.some.injEq] at h
    subst h
    exact ⟨[], by simp, rfl, fun i hi => absurd hi (by simp)⟩
  | .tmp t :: r, ps, h => by
    simp only [resA] at h
    split at h
    · rename_i vs hvs
      cases h
      obtain ⟨us, h1, h2⟩ := resA_ok hE hr hvs
      refine ⟨a.tmps.getD t undef :: us, by simp [List.mapM_cons, resOne, h1], VL.append (a := [tm t]) (x := [a.tmps.getD t undef]) ⟨rfl, fun i hi hj => ?_⟩ h2⟩
      obtain rfl : i = 0 := by simp at hi; omega
      exact hr.tm t
    · cases h
  | .cell x t :: r, ps, h => by
    simp only [resA] at h
    split at h
    · rename_i v hv
      split at h
      · rename_i vs hvs
        cases h
        obtain ⟨us, h1, h2⟩ := resA_ok hE hr hvs
        obtain ⟨u, h3, h4⟩ := load_ok (w := w) hE hr.inv (hr.tm x) hv
        have h5 : (resOne a.tmps (.cell x t)).run P w = .ok u w := by
          have e : ∃ ad, a.tmps.getD x undef = .pointer (some ad) := by
            cases hc : a.tmps.getD x undef with
            | pointer o =>
              cases o with
              | some ad => exact ⟨ad, rfl⟩
              | none => rw [hc] at h3; simp [Instr.loadAt, Instr.sureAddr, stuck, Sem.run] at h3
            | _ => rw [hc] at h3; simp [Instr.loadAt, Instr.sureAddr, stuck, Sem.run] at h3
          obtain ⟨ad, e⟩ := e
          rw [e] at h3
          simpa [resOne, e, Instr.loadAt, Instr.sureAddr, asAddr] using h3
        refine ⟨u :: us, by simp [List.mapM_cons, h5, h1], VL.append (a := [v]) (x := [u]) ⟨rfl, fun i hi hj => ?_⟩ h2⟩
        obtain rfl : i = 0 := by simp at hi; omega
        exact h4
      · cases h
    · cases h

theorem results_ok (hE : TOk E P) (hr : Rel E g n tm H a w) {fn : Func} {ps : List PV} (h : resA E tm H fn.results.toList = some ps) :
    ∃ v, (results fn a.tmps).run P w = .ok v w ∧ V g (one ps) v := by
  obtain ⟨vs, h1, h2⟩ := resA_ok hE hr h
  have hm : (fn.results.mapM (resOne a.tmps)).run P w = .ok vs.toArray w := by
    rw [Array.mapM_eq_mapM_toList, Sem.run_map, h1]; rfl
  refine ⟨if h : vs.toArray.size = 1 then vs.toArray[0] else .tuple vs.toArray, ?_, ?_⟩
  · rw [results_eq, Sem.run_bind, hm]
    rfl
  · have hl := h2.1
    match ps, vs, hl, h2 with
    | [p], [v], _, h2 => simpa [one] using h2.2 0 (by simp) (by simp)
    | [], [], _, h2 => exact V.unset g
    | p :: q :: r, v :: u :: s, _, h2 =>
      simp only [one]
      rw [dif_neg (by simp)]
      exact .tup _ _ (by simpa using h2.1) fun i hi => by simpa using h2.2 i hi (by have := h2.1; omega)

/-- All blocks that a call has made, frozen as they stand; the caller's boxes and tokens as before. -/
noncomputable def retG (g : Gh) (w w' : World) : Gh := { g with S := fun b o => if b < w.heap.size then g.S b o else w'.cell? ⟨b, o, none⟩ }

def inner (H : Heap) : Heap := { bx := H.bx, ro := H.bx.length, live := [], nt := H.nt }

theorem inner_shut (g : Gh) (H : Heap) (b : Nat) : Shut g (inner H) b := by
  refine ⟨fun id hro hl => ?_, fun t lo hi ht => ?_⟩
  · obtain ⟨x, hx, _⟩ := hl
    have : id < H.bx.length := get_lt hx
    have hro : H.bx.length ≤ id := hro
    omega
  · simp [inner] at ht

theorem inner_inv (hi : Inv g H w) : Inv g (inner H) w where
  st := hi.st
  bx := hi.bx
  mp := hi.mp
  inj := hi.inj
  sd := hi.sd
  td := hi.td
  tk t b lo hi' h := by simp [inner] at h
  tinj t t' b lo hi' lo' hi2 h := by simp [inner] at h
  nd := List.nodup_nil
  lt t h := by simp [inner] at h
  sz := hi.sz
  ro := Nat.le_refl _
  rm := hi.rm

theorem return_inv (hi : Inv g H w) {g' : Gh} {H' : Heap} {w' : World} (k : Keep g (inner H) w g' H' w') :
    Inv (retG g w w') H w' ∧ Keep g H w (retG g w w') H w' ∧ ∀ b o v, g'.S b o = some v → w'.cell? ⟨b, o, none⟩ = some v → (retG g w w').S b o = some v := by
  have hh : ∀ b, b < w.heap.size → w'.heap[b]? = w.heap[b]? := fun b hb => k.heap b hb (inner_shut g H b)
  have hS : ∀ b o, b < w.heap.size → (retG g w w').S b o = g.S b o := fun b o hb => by simp [retG, hb]
  have hle : g.Le (retG g w w') := ⟨fun b o v h => by rw [hS b o (hi.S_lt h)]; exact h, fun _ _ h => h, fun _ _ h => h, fun _ _ _ => rfl⟩
  refine ⟨⟨?_, ?_, ?_, hi.inj, hi.sd, hi.td, ?_, hi.tinj, hi.nd, hi.lt, ?_, hi.ro, fun id b c T m h1 h2 h3 => hi.rm id b c T m h1 h2 (by rw [← hh b (hi.sz _ _ h2)]; exact h3)⟩, ⟨hle, fun b hb _ => hh b hb, fun b hb _ o => hS b o hb, k.size, ?_, ?_, rfl, Nat.le_refl _, fun _ _ => rfl, Nat.le_refl _, fun _ h => .inl h, fun _ _ _ h => h, k.fz, fun _ _ h => h, k.so⟩, ?_⟩
  · intro b o v h
    by_cases hb : b < w.heap.size
    · rw [hS b o hb] at h
      rw [cell_of_heap (hh b hb)]
      exact hi.st _ _ _ h
    · simpa [retG, hb] using h
  · intro id es el h
    obtain ⟨b, c, T, h1, h2, h3, h4, h5, h6⟩ := hi.bx id es el h
    have hb := hi.sz _ _ h1
    exact ⟨b, c, T, h1, by rw [hh b hb]; exact h2, h3, h4, fun i hi' j hj => let ⟨v, e, x⟩ := h5 i hi' j hj; ⟨v, e, x.mono hle⟩, fun o => by rw [hS b o hb]; exact h6 o⟩
  · intro id es h
    obtain ⟨b, c, T, h1, h2, h3, h4, h5⟩ := hi.mp id es h
    have hb := hi.sz _ _ h1
    exact ⟨b, c, T, h1, by rw [hh b hb]; exact h2, h3, fun i hi' => let ⟨e, a, x, y⟩ := h4 i hi'; ⟨e, a, x.mono hle, y.mono hle⟩, fun o => by rw [hS b o hb]; exact h5 o⟩
  · intro t b lo hi' h1 h2
    obtain ⟨⟨c, T, h3, h4⟩, h5, h6⟩ := hi.tk t b lo hi' h1 h2
    have hb : b < w.heap.size := by
      rcases Nat.lt_or_ge b w.heap.size with h | h
      · exact h
      · simp [Array.getElem?_eq_none h] at h3
    exact ⟨⟨c, T, by rw [hh b hb]; exact h3, h4⟩, fun o ho => by rw [hS b o hb]; exact h5 o ho, h6⟩
  · intro id b h
    exact Nat.lt_of_lt_of_le (hi.sz _ _ h) k.size
  · intro id b h h'
    rw [show (retG g w w').σ id = g.σ id from rfl, h] at h'; cases h'
  · intro t b lo hi' h h'
    rw [show (retG g w w').τ t = g.τ t from rfl, h] at h'; cases h'
  · intro b o v h h'
    by_cases hb : b < w.heap.size
    · rw [hS b o hb, ← k.store b hb (inner_shut g H b) o]; exact h
    · simpa [retG, hb] using h'

section frz
variable {g' : Gh} {H' : Heap} {w' : World} {S : Store}

theorem frzC_ok (hi' : Inv g' H' w') {m : Nat} (hS : ∀ b o v, g'.S b o = some v → S b o = some v) (hO : ∀ id b o v, m ≤ id → g'.σ id = some b → w'.cell? ⟨b, o, none⟩ = some v → S b o = some v)
    {p r : PV} {v : Value} (hp : V g' p v) (h : frzC m H' p = some r) : V0 S r v := by
  unfold frzC at h
  split at h
  · rename_i id es ix len
    split at h
    · cases h
    · rename_i hid
      rw [nth_eq] at h
      split at h
      · rename_i es' el hb
        split at h
        · rename_i hcond
          obtain ⟨rfl, hle⟩ := hcond
          split at h
          · rename_i el' hf
            cases h
            obtain ⟨b, cap, ad, hσ, hc, ha, hsp, rfl⟩ := hp.own_inv
            obtain ⟨b', c, T, h1, h2, h3, h4, h5, h6⟩ := hi'.bx _ _ _ hb
            rw [hσ] at h1; cases h1
            obtain ⟨f1, f2⟩ := frzLL_ok hf
            have hl : el'.length = len := by rw [f1]; simp; omega
            subst hl
            obtain ⟨ab, ao, asp⟩ := ad
            simp only at hsp
            subst hsp
            by_cases h0 : el'.length = 0
            · exact .sl .none es el' ⟨ab, ao, none⟩ ab ao cap (fun _ _ => undef) (fun _ => rfl) (.inl rfl) hc (fun i hi => by omega) (fun i j hi => by omega) (fun i hi => by omega)
            · have := ha (by omega)
              cases this
              have hrow : ∀ i (hi : i < el'.length), (el'[i]).length = es ∧ ∀ j (hj : j < (el'[i]).length), ∃ u, c[(ix + i) * es + j]? = some u ∧ V0 S ((el'[i])[j]) u := fun i hi => by
                have hi2 : ix + i < el.length := by omega
                have e1 : ((el.drop ix).take el'.length)[i]'(by simp; omega) = el[ix + i] := by simp
                have q := f2 i (by simp; omega) hi
                rw [e1] at q
                obtain ⟨q1, q2⟩ := frzL_ok q
                have hw : (el'[i]).length = es := by rw [q1]; exact h3 _ hi2
                refine ⟨hw, fun j hj => ?_⟩
                obtain ⟨u, x1, x2⟩ := h5 (ix + i) hi2 j (by rw [h3 _ hi2]; omega)
                exact ⟨u, x1, (frz1_ok x2 (q2 j (by rw [h3 _ hi2]; omega) hj)).mono hS⟩
              refine .sl .none es el' ⟨b, ix * es, none⟩ b (ix * es) cap (fun i j => (c[(ix + i) * es + j]?).getD undef) (fun _ => rfl) (.inl rfl) hc (fun i hi => (hrow i hi).1) (fun i j hi hj => ?_) (fun i hi j hj => ?_)
              · obtain ⟨u, x1, -⟩ := (hrow i hi).2 j (by rw [(hrow i hi).1]; exact hj)
                refine hO id b _ _ (by omega) hσ ?_
                have e2 : ix * es + i * es + j = (ix + i) * es + j := by rw [Nat.add_mul]
                simp [World.cell?, h2, e2, x1]
              · obtain ⟨u, x1, x2⟩ := (hrow i hi).2 j hj
                simpa only [x1, Option.getD_some] using x2
          · cases h
        · cases h
      · cases h
  · exact (frz1_ok hp h).mono hS

theorem frzCL_ok {m : Nat} : ∀ {cs cs' : List PV}, frzCL m H' cs = some cs' → cs'.length = cs.length ∧ ∀ i (hi : i < cs.length) (hi' : i < cs'.length), frzC m H' cs[i] = some cs'[i]
  | [], cs', h => by simp only [frzCL, Option.some.injEq] at h; subst h; exact ⟨rfl, fun i hi => absurd hi (by simp)⟩
  | c :: cs, cs', h => by
    simp only [frzCL] at h
    split at h
    · rename_i c' hc
      split at h
      · rename_i r' hr
        cases h
        obtain ⟨h1, h2⟩ := frzCL_ok hr
        refine ⟨by simp [h1], fun i hi hi' => ?_⟩
        cases i with
        | zero => simpa using hc
        | succ i => exact h2 i (by simpa using hi) (by simpa using hi')
      · cases h
    · cases h

theorem frz2_ok (hi' : Inv g' H' w') {m : Nat} (hS : ∀ b o v, g'.S b o = some v → S b o = some v) (hO : ∀ id b o v, m ≤ id → g'.σ id = some b → w'.cell? ⟨b, o, none⟩ = some v → S b o = some v)
    {p r : PV} {v : Value} (hp : V g' p v) (h : frz2 m H' p = some r) : V0 S r v := by
  unfold frz2 at h
  split at h
  · rename_i cs
    split at h
    · rename_i cs' hc
      cases h
      obtain ⟨vs, hl, rfl, hv⟩ := hp.agg_inv
      obtain ⟨f1, f2⟩ := frzCL_ok hc
      exact .agg _ _ (by omega) fun i hi => frzC_ok hi' hS hO (hv i (by omega)) (f2 i (by omega) hi)
    · cases h
  · exact frzC_ok hi' hS hO hp h

theorem frz2L_ok {m : Nat} : ∀ {cs cs' : List PV}, frz2L m H' cs = some cs' → cs'.length = cs.length ∧ ∀ i (hi : i < cs.length) (hi' : i < cs'.length), frz2 m H' cs[i] = some cs'[i]
  | [], cs', h => by simp only [frz2L, Option.some.injEq] at h; subst h; exact ⟨rfl, fun i hi => absurd hi (by simp)⟩
  | c :: cs, cs', h => by
    simp only [frz2L] at h
    split at h
    · rename_i c' hc
      split at h
      · rename_i r' hr
        cases h
        obtain ⟨h1, h2⟩ := frz2L_ok hr
        refine ⟨by simp [h1], fun i hi hi' => ?_⟩
        cases i with
        | zero => simpa using hc
        | succ i => exact h2 i (by simpa using hi) (by simpa using hi')
      · cases h
    · cases h

theorem frz3_ok (hi' : Inv g' H' w') {m : Nat} (hS : ∀ b o v, g'.S b o = some v → S b o = some v) (hO : ∀ id b o v, m ≤ id → g'.σ id = some b → w'.cell? ⟨b, o, none⟩ = some v → S b o = some v)
    {p r : PV} {v : Value} (hp : V g' p v) (h : frz3 m H' p = some r) : V0 S r v := by
  unfold frz3 at h
  split at h
  · rename_i cs
    split at h
    · rename_i cs' hc
      cases h
      obtain ⟨vs, hl, rfl, hv⟩ := hp.tup_inv
      obtain ⟨f1, f2⟩ := frz2L_ok hc
      exact .tup _ _ (by omega) fun i hi => frz2_ok hi' hS hO (hv i (by omega)) (f2 i (by omega) hi)
    · cases h
  · exact frz2_ok hi' hS hO hp h
end frz

theorem V.arg1 {p : PV} {v : Value} (h : V g p v) : V g (arg1 p) v := by
  unfold Vm.arg1
  split
  · rename_i tl es el
    cases h with
    | pure _ _ h => exact .pure _ _ h.sl_none
    | tok _ _ _ _ _ _ h _ => exact .pure _ _ h
  · exact h

theorem V.argV {p : PV} {v : Value} (h : V g p v) : V g (argV p) v := by
  unfold Vm.argV
  split
  · obtain ⟨vs, hl, rfl, hv⟩ := h.agg_inv
    exact .agg _ _ (by simpa using hl) fun i hi => by simpa using (hv i (by simpa using hi)).arg1
  · exact h.arg1

/-- The slots as a call begins. -/
def tm0 (args : List PV) : TM := fun t => args.getD t unset

theorem enter_rel {args : List PV} {vals : Array Value} (hi : Inv g H w) (hg : GOk E g.S) (hv : VL g args vals.toList) (m : Nat) :
    Rel E g m (tm0 args) H { tmps := vals ++ Array.replicate (m - vals.size) undef, defers := [] } w := by
  refine ⟨by simp; omega, fun t => ?_, hi, hg, rfl⟩
  have hl : vals.size = args.length := by have := hv.1; simpa using this
  simp only [tm0]
  by_cases ht : t < args.length
  · have h1 := hv.2 t ht (by simp; omega)
    have e1 : args.getD t unset = args[t] := by simp [List.getD, ht]
    have e2 : (vals ++ Array.replicate (m - vals.size) undef).getD t undef = vals.toList[t]'(by simp; omega) := by
      have : t < vals.size := by omega
      simp [Array.getD_eq_getD_getElem?, Array.getElem?_append_left this, this]
    rw [e1, e2]; exact h1
  · have e1 : args.getD t unset = unset := by simp [List.getD, List.getElem?_eq_none (Nat.le_of_not_lt ht)]
    have e2 : (vals ++ Array.replicate (m - vals.size) undef).getD t undef = undef := by
      rw [Array.getD_eq_getD_getElem?, Array.getElem?_append_right (by omega), Array.getElem?_replicate]
      split <;> rfl
    rw [e1, e2]; exact V.unset g

/-- What a function of the program must be for its code to be stepped through. -/
structure FnOk (P : Program) (f : FuncId) (fn : Func) (c : Code) : Prop where
  get : P.funcs[f]? = some fn
  body : fn.body = some c
  name : (fn.name == "runtime.NumGoroutine") = false

theorem callFunc_enter {f : FuncId} {fn : Func} {c : Code} (h : FnOk P f fn c) (vals : Array Value) : (callFunc f vals).run P w = .ok (.enter f vals) w := by
  have hp : program.run P w = .ok P w := rfl
  have hn : ¬ fn.name = "runtime.NumGoroutine" := by simpa using h.name
  simp [callFunc, hp, h.get, hn, h.body]

/-- A call of which nothing remains but its frozen result. -/
theorem callOk_pure (hE : TOk E P) {f : FuncId} {fn : Func} {c : Code} (hf : FnOk P f fn c) {args : List PV} {own : Tmp → Bool} {ex : Ex} {tm' : TM} {H' : Heap} {ps : List PV} {r : PV}
    (hc : CodeTo E P own fn.ntmps c (tm0 (args.map argV)) (inner H) ex tm' H') (hx : ∀ i, ex ≠ .exit i) (hres : resA E tm' H' fn.results.toList = some ps) (hfr : frz3 H.bx.length H' (one ps) = some r) :
    CallOk E P f args H r H := by
  intro g w vals hi hg hv
  rw [callFunc_enter hf]
  simp only [UponCall]
  have hv' : VL g (args.map argV) vals.toList := ⟨by simpa using hv.1, fun i hi hj => by simpa using (hv.2 i (by simpa using hi) hj).argV⟩
  refine calls_of_wp hf.get hf.body (codeTo_ok hE hc g _ w _ (enter_rel (inner_inv hi) hg hv' fn.ntmps) fun g' a' w' hr k => ?_).1
  obtain ⟨v, hrun, hp⟩ := results_ok hE hr hres
  obtain ⟨i1, k1, hS⟩ := return_inv hi k
  have hq : V0 (retG g w w').S r v := frz3_ok hr.inv (fun b o v h => hS b o v h (hr.inv.st _ _ _ h)) (fun id b o v hid hσ hcell => by
    have hn : g.σ id = none := hi.sd id hid
    have hb : w.heap.size ≤ b := (k.new id b hn hσ).elim (fun h => h) fun ⟨id', a, ⟨x, hx, _⟩, _⟩ => by
      have h1 : id' < H.bx.length := get_lt (show H.bx[id']? = some x from hx)
      have h2 : H.bx.length ≤ id' := a
      omega
    simp [retG, Nat.not_lt.2 hb, hcell]) hp hfr
  have hpost : ∃ u, (results fn a'.tmps).run P w' = .ok u w' ∧ ∃ v, Ending.returned u = .returned v ∧ ∃ g'', V g'' r v ∧ Inv g'' H w' ∧ Keep g H w g'' H w' :=
    ⟨v, hrun, v, rfl, retG g w w', .pure _ _ hq, i1, k1⟩
  cases ex with
  | normal => exact ⟨hr.df, hpost⟩
  | ret => exact ⟨hr.df, hpost⟩
  | exit i => exact (hx i rfl).elim

/-- A call whose boxes remain. -/
theorem callOk_full (hE : TOk E P) {f : FuncId} {fn : Func} {c : Code} (hf : FnOk P f fn c) {args : List PV} {own : Tmp → Bool} {ex : Ex} {tm' : TM} {H' : Heap} {ps : List PV}
    (hc : CodeTo E P own fn.ntmps c (tm0 args) H ex tm' H') (hx : ∀ i, ex ≠ .exit i) (hres : resA E tm' H' fn.results.toList = some ps) :
    CallOk E P f args H (one ps) H' := by
  intro g w vals hi hg hv
  rw [callFunc_enter hf]
  simp only [UponCall]
  refine calls_of_wp hf.get hf.body (codeTo_ok hE hc g _ w _ (enter_rel hi hg hv fn.ntmps) fun g' a' w' hr k => ?_).1
  obtain ⟨v, hrun, hp⟩ := results_ok hE hr hres
  have hpost : ∃ u, (results fn a'.tmps).run P w' = .ok u w' ∧ ∃ v, Ending.returned u = .returned v ∧ ∃ g'', V g'' (one ps) v ∧ Inv g'' H' w' ∧ Keep g H w g'' H' w' :=
    ⟨v, hrun, v, rfl, g', hp, hr.inv, k⟩
  cases ex with
  | normal => exact ⟨hr.df, hpost⟩
  | ret => exact ⟨hr.df, hpost⟩
  | exit i => exact (hx i rfl).elim

end
end Go.Vm
