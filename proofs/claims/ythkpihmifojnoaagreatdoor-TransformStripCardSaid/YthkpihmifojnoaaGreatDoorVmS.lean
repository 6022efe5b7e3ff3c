/-
  Regions that draw their order: whatever the order, it comes to what the text's order comes to.
-/
import Derived.Test.YthkpihmifojnoaaGreatDoorVmR
namespace Go.Vm

/-- An edge that holds in any order. -/
def Pre (ops : Array Oper) (l i : Nat) : Prop := ∃ o e, ops[i]? = some o ∧ e ∈ o.after.toList ∧ Region.binds .any e = true ∧ e.on = l

inductive Bef (ops : Array Oper) : Nat → Nat → Prop
  | edge (l i : Nat) (h : Pre ops l i) : Bef ops l i
  | step (l p i : Nat) (h : Bef ops l p) (h' : Pre ops p i) : Bef ops l i

section
variable {E : Env} {P : Program} {own : Tmp → Bool} {n : Nat} {ops : Array Oper} {n0 m : Nat} {cls : Nat → Cls} {tgt : Nat → Nat} {msk : Nat → List Nat}

inductive Run (E : Env) (P : Program) (own : Tmp → Bool) (n : Nat) (ops : Array Oper) (n0 : Nat) (cls : Nat → Cls) (tgt : Nat → Nat) (msk : Nat → List Nat) : List Nat → TM → Heap → TM → Heap → Prop
  | nil (tm : TM) (H : Heap) : Run E P own n ops n0 cls tgt msk [] tm H tm H
  | cons (i : Nat) (r : List Nat) (o : Oper) (tm : TM) (H : Heap) (p : PV) (H1 : Heap) (tm' : TM) (H' : Heap) (ho : ops[i]? = some o) (hd : ∀ t, o.dst = some t → t < n) (h : Hp E P own ops n0 cls tgt msk i o tm H p H1)
      (hr : Run E P own n ops n0 cls tgt msk r (setD tm o.dst p) H1 tm' H') : Run E P own n ops n0 cls tgt msk (i :: r) tm H tm' H'

/-- Two operations that may change places. -/
structure Free (ops : Array Oper) (n0 : Nat) (cls : Nat → Cls) (tgt : Nat → Nat) (msk : Nat → List Nat) (i j : Nat) : Prop where
  ne : i ≠ j
  perm : perm (cls i) (cls j) = true
  mi : cls j = .al → n0 + j ∈ msk i
  mj : cls i = .al → n0 + i ∈ msk j
  ti : cls i = .st → tgt i ∈ msk j
  tj : cls j = .st → tgt j ∈ msk i
  apart : ∀ x y, ops[i]? = some x → ops[j]? = some y → x.apart ops y = true

theorem Run.front {i : Nat} {L2 : List Nat} {tm' : TM} {H' : Heap} (hin : ∀ k, cls k = .al → k < m) (hld : ∀ k, cls k = .ld → tgt k ≤ n0 + m) : ∀ (L1 : List Nat) (tm : TM) (H : Heap), n0 + m ≤ H.bx.length → (∀ l ∈ L1, Free ops n0 cls tgt msk l i) →
    Run E P own n ops n0 cls tgt msk (L1 ++ i :: L2) tm H tm' H' → Run E P own n ops n0 cls tgt msk (i :: (L1 ++ L2)) tm H tm' H'
  | [], tm, H, _, _, h => h
  | l :: L1, tm, H, hlen, hf, h => by
    cases h with
    | cons _ _ ol _ _ p H1 _ _ ho hd hp hr =>
      have hr' := Run.front hin hld L1 _ _ (Nat.le_trans hlen hp.len) (fun x hx => hf x (List.mem_cons_of_mem _ hx)) hr
      cases hr' with
      | cons _ _ oi _ _ q H2 _ _ ho' hd' hq hrest =>
        have f := hf l List.mem_cons_self
        obtain ⟨a1, a2, a3⟩ := Oper.apart_spec (f.apart _ _ ho ho')
        have hq' := hq.reset a1
        obtain ⟨H1', x1, x2⟩ := hp.swap hq' f.ne f.perm f.mi f.mj (fun hc => by have := hin i hc; omega) f.ti f.tj (fun hc => Nat.le_trans (hld l hc) hlen) (fun hc => Nat.le_trans (hld i hc) hlen)
        refine .cons i _ oi tm H q H1' _ _ ho' hd' x1 (.cons l _ ol _ _ p H2 _ _ ho hd (x2.set a3) ?_)
        rw [← setD_comm a2]
        exact hrest

/-- The slots that are still to be filled have no block. -/
def SlotsNone (n0 m : Nat) (S : Nat → Prop) (g : Gh) : Prop := ∀ k, k < m → S k → g.σ (n0 + k) = none

/-- A step that makes no box and writes none, known with every box of the caller's out of reach. -/
theorem keep_ro {g g' : Gh} {H M : Heap} {w w' : World} {l : List Nat} (hm : Inv g' M w') (hk : Keep g { maskH l H with ro := H.bx.length } w g' M w') (hl : H.bx.length ≤ M.bx.length) (hro : H.ro ≤ H.bx.length) :
    Inv g' { M with ro := H.ro } w' ∧ Keep g (maskH l H) w g' { M with ro := H.ro } w' ∧ ∀ i, i < H.bx.length → M.bx[i]? = (maskH l H).bx[i]? := by
  have hb : ∀ i, i < H.bx.length → M.bx[i]? = (maskH l H).bx[i]? := fun i e => hk.bx i e
  have hsh : ∀ b, Shut g (maskH l H) b → Shut g { maskH l H with ro := H.bx.length } b := fun b h => ⟨fun id hi hl => h.1 id (Nat.le_trans hro hi) hl, h.2⟩
  refine ⟨⟨hm.st, hm.bx, hm.mp, hm.inj, hm.sd, hm.td, hm.tk, hm.tinj, hm.nd, hm.lt, hm.sz, by show H.ro ≤ M.bx.length; omega, hm.rm⟩, ⟨hk.le, fun b h1 h2 => hk.heap b h1 (hsh b h2), fun b h1 h2 => hk.store b h1 (hsh b h2), hk.size, fun id b h h' => (hk.new id b h h').imp (fun h => h) fun ⟨id', a, b, c⟩ => ⟨id', Nat.le_trans hro a, b, c⟩, hk.tnew, rfl, hk.bxl, fun id h => ?_, hk.nt, hk.lv, hk.al, hk.fz, hk.ns, hk.so⟩, hb⟩
  exact hk.bx id (Nat.lt_of_lt_of_le h hro)

theorem hp_wp (hE : TOk E P) {i : Nat} {o : Oper} (ho : ops[i]? = some o) {tm : TM} {H H' : Heap} {p : PV} (h : Hp E P own ops n0 cls tgt msk i o tm H p H') (hm : ∀ k, k ∈ msk i → H.ro ≤ k) {g : Gh} {a : Act} {w : World} (hr : Rel E g n tm H a w)
    (hal : ∀ k, cls k = .al → k < m) (hro : H.ro ≤ n0) (hlen : n0 + m ≤ H.bx.length) {S : Nat → Prop} (hSi : S i) (hs : SlotsNone n0 m S g) {Q : Exit → Act → World → Prop} {K : Act → World → Prop}
    (hK : ∀ v w' g', V g' p v → Inv g' H' w' → KeepN n0 g H w g' H' w' → SlotsNone n0 m (fun k => S k ∧ k ≠ i) g' → K (a.put o.dst v) w') : wpOp P ops Q i K a w := by
  have down : ∀ {g' : Gh} {H2 : Heap} {w' : World}, Keep g H w g' H2 w' → KeepN n0 g H w g' H2 w' := fun k => ⟨k.le, k.heap, k.store, k.size, k.new, k.tnew, k.ro, k.bxl, k.bx, k.nt, k.lv, k.al, k.fz, fun id h => k.ns id (by omega), k.so⟩
  unfold wpOp
  simp only [ho]
  cases h with
  | pass hw =>
    rw [if_neg (by rw [wanted_ok hw hr]; simp)]
    exact hK undef w g (V.unset g) hr.inv (.refl _ _ _ _) fun k hk1 hk2 => hs k hk1 hk2.1
  | sc _ hw h =>
    rw [if_pos (wanted_ok hw hr)]
    exact .inl (op_upon hE (h _) hr fun v w' g' hv hi' hk => hK v w' g' hv hi' (down hk) fun k hk1 hk2 => hk.ns _ (by omega) (hs k hk1 hk2.1))
  | qu _ hw hc h =>
    rw [if_pos (wanted_ok hw hr)]
    refine .inl (op_upon hE h (rel_mask hr _) fun v w' g' hv hi' hk => ?_)
    obtain ⟨i1, k1⟩ := inv_merge hr.inv (fun k hk => hm k hk) hk hi' (by simp [maskH, deadL_len])
    rw [merge_mask] at i1 k1
    exact hK v w' g' hv i1 (down k1) fun k hk1 hk2 => k1.ns _ (by omega) (hs k hk1 hk2.1)
  | ld _ hw hc h =>
    rw [if_pos (wanted_ok hw hr)]
    refine .inl (op_upon hE (h _ rfl) (rel_mask hr _) fun v w' g' hv hi' hk => ?_)
    obtain ⟨i1, k1⟩ := inv_merge hr.inv (fun k hk => hm k hk) hk hi' (by simp [maskH, deadL_len])
    rw [merge_mask] at i1 k1
    exact hK v w' g' hv i1 (down k1) fun k hk1 hk2 => k1.ns _ (by omega) (hs k hk1 hk2.1)
  | tk _ M hw hc h hl =>
    rw [if_pos (wanted_ok hw hr)]
    have hroI := hr.inv.ro
    have hrel : Rel E g n tm { maskH (msk i) H with ro := H.bx.length } a w := by
      have h0 := rel_mask hr (msk i)
      have hi0 := h0.inv
      refine ⟨h0.sz, h0.tm, ⟨hi0.st, hi0.bx, hi0.mp, hi0.inj, hi0.sd, hi0.td, hi0.tk, hi0.tinj, hi0.nd, hi0.lt, hi0.sz, ?_, hi0.rm⟩, h0.gl, h0.df⟩
      simp [maskH, deadL_len]
    refine .inl (op_upon hE h hrel fun v w' g' hv hi' hk => ?_)
    obtain ⟨i0, k0, hb⟩ := keep_ro hi' hk hl hroI
    obtain ⟨i1, k1⟩ := inv_merge hr.inv (fun k hk => hm k hk) k0 i0 (by show H.bx.length ≤ M.bx.length; omega)
    have he : mergeH (msk i) H { M with ro := H.ro } = growH H M := by
      refine Heap.ext' (List.ext_getElem? fun k => ?_) rfl rfl rfl
      rw [mergeH_get _ _ _ (by show H.bx.length ≤ M.bx.length; exact hl)]
      simp only [growH]
      by_cases e : k < H.bx.length
      · rw [List.getElem?_append_left e]
        by_cases e2 : k ∈ msk i
        · rw [if_pos ⟨e2, e⟩]
        · rw [if_neg (fun h => e2 h.1), hb k e, maskH_get, if_neg (fun h => e2 h.1)]
      · rw [if_neg (fun h => e h.2), List.getElem?_append_right (by omega), List.getElem?_drop]
        congr 1
        omega
    rw [he] at i1 k1
    exact hK v w' g' hv i1 (down k1) fun k hk1 hk2 => k1.ns _ (by omega) (hs k hk1 hk2.1)
  | ef _ M hw hc h hl =>
    rw [if_pos (wanted_ok hw hr)]
    refine .inl (op_upon hE h (rel_mask hr _) fun v w' g' hv hi' hk => ?_)
    obtain ⟨i1, k1⟩ := inv_merge hr.inv (fun k hk => hm k hk) hk hi' hl
    exact hK v w' g' hv i1 (down k1) fun k hk1 hk2 => k1.ns _ (by omega) (hs k hk1 hk2.1)
  | st _ b hw hc h hst =>
    rw [if_pos (wanted_ok hw hr)]
    refine .inl (op_upon hE h (rel_mask hr _) fun v w' g' hv hi' hk => ?_)
    obtain ⟨i1, k1⟩ := inv_merge hr.inv (fun k hk => hm k hk) hk hi' (by simp [setB, maskH, deadL_len])
    rw [merge_set hst] at i1 k1
    exact hK v w' g' hv i1 (down k1) fun k hk1 hk2 => k1.ns _ (by omega) (hs k hk1 hk2.1)
  | al e ei hw hc hop he hz hp hd =>
    rw [if_pos (wanted_ok hw hr)]
    left
    obtain ⟨inf, d, z, h1, h2, h3, rfl⟩ := hE.spec he
    simp only at hz hp
    have hvl : VL g (ofConst z).cells z.cells.toList := VL.zero z (by omega)
    obtain ⟨i1, k1⟩ := inv_fill hr.inv hd (hs i (hal i hc) hSi) (by omega) (.cells z.cells e) (.cells inf.size [(ofConst z).cells]) rfl (fun es el h0 => by
      cases h0
      refine ⟨_, e, rfl, fun i hi => ?_, ?_, fun i hi j hj => ?_⟩
      · obtain rfl : i = 0 := by simp at hi; omega
        simpa using hz
      · have := hvl.1; simp at this ⊢; omega
      · obtain rfl : i = 0 := by simp at hi; omega
        have hj' : j < (ofConst z).cells.length := by simpa using hj
        have hj2 : j < z.cells.toList.length := by rw [hvl.1]; exact hj'
        exact ⟨z.cells.toList[j], by simp, by simpa using hvl.2 j hj' hj2⟩) (fun es h => by cases h) n0 (by omega)
    unfold Oper.wp
    have hx : (execOp a.eval o).run P w = .ok (.value (.pointer (some ⟨w.heap.size, 0, none⟩))) (w.alloc (.cells z.cells e)) := by
      obtain ⟨dst, op, ty, pos, after, guard⟩ := o
      simp only at hop
      subst hop
      simp [execOp, Instr.alloc, run_zero' h1 h3, newVar, newRow, newObj]
      rfl
    rw [hx]
    refine hK _ _ _ ?_ i1 k1 fun k hk1 hk2 => ?_
    · have := V.ptr (g := g.link (n0 + i) w.heap.size) (n0 + i) inf.size 0 0 w.heap.size (by simp [Gh.link])
      simpa using this
    · have : n0 + i ≠ n0 + k := by have := hk2.2; omega
      simp only [Gh.link]
      rw [if_neg (Ne.symm this)]
      exact hs k hk1 hk2.1
  | bo e x hw hc hop hp hd =>
    rw [if_pos (wanted_ok hw hr)]
    left
    have hx0 := hr.eval x
    have hvl := hx0.cells hp
    obtain ⟨i1, k1⟩ := inv_fill hr.inv hd (hs i (hal i hc) hSi) (by omega) (.cells (a.eval x).cells e) (.cells (evalO E tm x).cells.length [(evalO E tm x).cells]) rfl (fun es el h0 => by
      cases h0
      refine ⟨_, e, rfl, fun i hi => ?_, ?_, fun i hi j hj => ?_⟩
      · obtain rfl : i = 0 := by simp at hi; omega
        rfl
      · have := hvl.1; simp at this ⊢; omega
      · obtain rfl : i = 0 := by simp at hi; omega
        have hj' : j < (evalO E tm x).cells.length := by simpa using hj
        have hj2 : j < (a.eval x).cells.toList.length := by rw [hvl.1]; exact hj'
        exact ⟨(a.eval x).cells.toList[j], by simp, by simpa using hvl.2 j hj' hj2⟩) (fun es h => by cases h) n0 (by omega)
    unfold Oper.wp
    have hx : (execOp a.eval o).run P w = .ok (.value (.pointer (some ⟨w.heap.size, 0, none⟩))) (w.alloc (.cells (a.eval x).cells e)) := by
      obtain ⟨dst, op, ty, pos, after, guard⟩ := o
      simp only at hop
      subst hop
      simp [execOp, Instr.box, newVar, newRow, newObj]
      rfl
    rw [hx]
    refine hK _ _ _ ?_ i1 k1 fun k hk1 hk2 => ?_
    · have := V.ptr (g := g.link (n0 + i) w.heap.size) (n0 + i) (evalO E tm x).cells.length 0 0 w.heap.size (by simp [Gh.link])
      simpa using this
    · have : n0 + i ≠ n0 + k := by have := hk2.2; omega
      simp only [Gh.link]
      rw [if_neg (Ne.symm this)]
      exact hs k hk1 hk2.1

theorem ready_mem {md : Region.Mode} {listed : Array Bool} {i : Nat} : i ∈ Region.ready md ops listed ↔ i < ops.size ∧ listed.getD i true = false ∧ ∃ o, ops[i]? = some o ∧ ∀ e ∈ o.after.toList, Region.binds md e = true → listed.getD e.on false = true := by
  simp only [Region.ready, List.mem_filter, List.mem_range, Bool.and_eq_true, Bool.not_eq_true']
  constructor
  · rintro ⟨h1, h2, h3⟩
    refine ⟨h1, h2, ?_⟩
    have ho : ops[i]? = some ops[i] := Array.getElem?_eq_getElem h1
    refine ⟨ops[i], ho, fun e he hb => ?_⟩
    rw [ho] at h3
    simp only [Option.map_some, Option.getD_some] at h3
    have := (Array.all_eq_true'.1 h3) e (by simpa using he)
    simpa [hb] using this
  · rintro ⟨h1, h2, o, ho, h3⟩
    refine ⟨h1, h2, ?_⟩
    rw [ho]
    simp only [Option.map_some, Option.getD_some]
    refine Array.all_eq_true'.2 fun e he => ?_
    by_cases hb : Region.binds md e = true
    · simp [hb, h3 e (by simpa using he) hb]
    · simp [hb]

/-- What is asked of a region that draws its order, beside that it runs in the text's order. -/
structure Sched (ops : Array Oper) (r n0 m : Nat) (cls : Nat → Cls) (tgt : Nat → Nat) (msk : Nat → List Nat) : Prop where
  back : ∀ l i, Pre ops l i → l < i
  free : ∀ l i, l < i → i < ops.size → ¬ Bef ops l i → Free ops n0 cls tgt msk l i
  al : ∀ k, cls k = .al → k < m
  ld : ∀ k, cls k = .ld → tgt k ≤ n0 + m
  msk : ∀ i k, k ∈ msk i → r ≤ k

theorem Sched.lt {r0 : Nat} (hS : Sched ops r0 n0 m cls tgt msk) {l i : Nat} (h : Bef ops l i) : l < i := by
  induction h with
  | edge i h => exact hS.back _ _ h
  | step p i _ h' ih => have := hS.back _ _ h'; omega

/-- The operations that are still to be done, in the text's order. -/
def todo (m : Nat) (listed : Array Bool) : List Nat := (List.range m).filter fun k => !listed.getD k true

theorem todo_split {m : Nat} {listed : Array Bool} {i : Nat} (hi : i < m) (hsz : listed.size = m) (hl : listed.getD i true = false) :
    ∃ L1 L2, todo m listed = L1 ++ i :: L2 ∧ todo m (listed.setIfInBounds i true) = L1 ++ L2 ∧ ∀ l ∈ L1, l < i ∧ listed.getD l true = false := by
  have hr : List.range m = List.range i ++ i :: (List.range (m - (i + 1))).map (i + 1 + ·) := by
    have : m = i + (1 + (m - (i + 1))) := by omega
    conv => lhs; rw [this]
    rw [List.range_add, List.range_add]
    simp [Nat.add_assoc]
  refine ⟨(List.range i).filter fun k => !listed.getD k true, ((List.range (m - (i + 1))).map (i + 1 + ·)).filter fun k => !listed.getD k true, ?_, ?_, ?_⟩
  · unfold todo
    rw [hr, List.filter_append, List.filter_cons]
    simp [hl]
  · unfold todo
    rw [hr, List.filter_append, List.filter_cons]
    have hii : (listed.setIfInBounds i true).getD i true = true := by simp [Array.getD]
    simp only [hii, Bool.not_true, Bool.false_eq_true, if_false]
    have hne : ∀ k, k ≠ i → (listed.setIfInBounds i true).getD k true = listed.getD k true := fun k hk => by
      simp only [Array.getD_eq_getD_getElem?, Array.getElem?_setIfInBounds]
      rw [if_neg (Ne.symm hk)]
    congr 1
    · refine List.filter_congr fun k hk => ?_
      rw [hne k (by have := List.mem_range.1 hk; omega)]
    · refine List.filter_congr fun k hk => ?_
      obtain ⟨x, _, rfl⟩ := List.mem_map.1 hk
      rw [hne _ (by omega)]
  · intro l hlm
    obtain ⟨h1, h2⟩ := List.mem_filter.1 hlm
    exact ⟨List.mem_range.1 h1, by simpa using h2⟩

theorem draw_any (hE : TOk E P) {r0 : Nat} (hS : Sched ops r0 n0 m cls tgt msk) {Q : Exit → Act → World → Prop} {tm' : TM} {H' : Heap} {g0 : Gh} {H0 : Heap} {w0 : World} (hi0 : Inv g0 H0 w0) (hn0 : H0.bx.length = n0) (hro0 : H0.ro ≤ n0)
    (hQ : ∀ g a w, Rel E g n tm' H' a w → Keep g0 H0 w0 g H' w → Q .normal a w) :
    ∀ (fuel : Nat) (listed : Array Bool) (tm : TM) (H : Heap) (g : Gh) (a : Act) (w : World), listed.size = ops.size → (todo ops.size listed).length ≤ fuel →
      (∀ i l, listed.getD i false = true → Pre ops l i → listed.getD l false = true) →
      Run E P own n ops n0 cls tgt msk (todo ops.size listed) tm H tm' H' → Rel E g n tm H a w → H.ro = r0 → H.ro ≤ n0 → n0 + m ≤ H.bx.length → SlotsNone n0 m (fun k => k ∈ todo ops.size listed) g → Keep g0 H0 w0 g H w →
      wpAny P .any ops Q fuel listed a w := by
  have empty : ∀ (listed : Array Bool) (tm : TM) (H : Heap) (g : Gh) (a : Act) (w : World), Run E P own n ops n0 cls tgt msk (todo ops.size listed) tm H tm' H' → Rel E g n tm H a w → Keep g0 H0 w0 g H w → todo ops.size listed = [] → Q .normal a w := by
    intro listed tm H g a w hrun hr hk he
    rw [he] at hrun
    cases hrun with
    | nil => exact hQ g a w hr hk
  have noready : ∀ (listed : Array Bool), listed.size = ops.size → Region.ready .any ops listed = [] → todo ops.size listed = [] := by
    intro listed hsz hr
    have : ∀ i, i < ops.size → listed.getD i true = true := by
      intro i
      induction i using Nat.strongRecOn with
      | _ i ih =>
        intro hi
        cases hc : listed.getD i true with
        | true => rfl
        | false =>
          have hm : i ∈ Region.ready .any ops listed := ready_mem.2 ⟨hi, hc, ops[i], Array.getElem?_eq_getElem hi, fun e he hb => by
            have hp : Pre ops e.on i := ⟨ops[i], e, Array.getElem?_eq_getElem hi, he, hb, rfl⟩
            have hlt := hS.back _ _ hp
            have := ih e.on hlt (by omega)
            have hsz' : e.on < listed.size := by omega
            simpa [Array.getD, hsz'] using this⟩
          rw [hr] at hm
          cases hm
    unfold todo
    refine List.filter_eq_nil_iff.2 fun k hk => ?_
    simp [this k (List.mem_range.1 hk)]
  intro fuel
  induction fuel with
  | zero =>
    intro listed tm H g a w hsz hfu hcl hrun hr hrr hro hlen hsn hk
    have he : todo ops.size listed = [] := by simpa using hfu
    refine ⟨?_, empty listed tm H g a w hrun hr hk he⟩
    cases hc : Region.ready .any ops listed with
    | nil => rfl
    | cons i r =>
      have hm : i ∈ Region.ready .any ops listed := by rw [hc]; exact List.mem_cons_self
      obtain ⟨h1, h2, _⟩ := ready_mem.1 hm
      have : i ∈ todo ops.size listed := List.mem_filter.2 ⟨List.mem_range.2 h1, by simp [h2]⟩
      rw [he] at this
      cases this
  | succ fuel ih =>
    intro listed tm H g a w hsz hfu hcl hrun hr hrr hro hlen hsn hk
    refine ⟨fun he => empty listed tm H g a w hrun hr hk (noready listed hsz he), fun i hi => ?_⟩
    obtain ⟨h1, h2, o, ho, h3⟩ := ready_mem.1 hi
    obtain ⟨L1, L2, e1, e2, e3⟩ := todo_split h1 hsz h2
    have hdone : ∀ l, listed.getD l true = false → listed.getD l false = false := fun l h => by
      by_cases hl : l < listed.size
      · simpa [Array.getD, hl] using h
      · simp [Array.getD, hl] at h
    have hbef : ∀ l, Bef ops l i → listed.getD l false = true := by
      have gen : ∀ l k, Bef ops l k → (∀ p, Pre ops p k → listed.getD p false = true) → listed.getD l false = true := by
        intro l k h
        induction h with
        | edge k h => intro hp; exact hp l h
        | step p k _ h' ih => intro hp; exact ih fun q hq => hcl p q (hp p h') hq
      intro l h
      refine gen l i h fun p ⟨o', e, ho', he, hb, hon⟩ => ?_
      rw [ho] at ho'
      cases ho'
      rw [← hon]
      exact h3 e he hb
    have hfree : ∀ l ∈ L1, Free ops n0 cls tgt msk l i := fun l hl => by
      obtain ⟨hlt, hld⟩ := e3 l hl
      refine hS.free l i hlt h1 fun hb => ?_
      have := hbef l hb
      rw [hdone l hld] at this
      cases this
    rw [e1] at hrun
    have hrun' := Run.front hS.al hS.ld L1 tm H hlen hfree hrun
    cases hrun' with
    | cons _ _ o' _ _ p H1 _ _ ho' hd hp hrest =>
      rw [ho] at ho'
      cases ho'
      refine hp_wp hE ho hp (fun k hk => hrr ▸ hS.msk i k hk) hr hS.al hro hlen (S := fun k => k ∈ todo ops.size listed) (by rw [e1]; simp) hsn fun v w' g' hv hinv hkeep hsn' => ?_
      have hput : Rel E g' n (setD tm o.dst p) H1 (a.put o.dst v) w' := by
        have : Keep g H w g' H1 w' → _ := fun k => hr.put hinv k hd hv
        refine ⟨?_, fun t => ?_, hinv, fun x cs hx => (hr.gl x cs hx).mono hkeep.le.S, ?_⟩
        · have := hr.sz; cases o.dst <;> simpa [Act.put] using this
        · cases hdst : o.dst with
          | none => exact (hr.tm t).mono hkeep.le
          | some d =>
            have hlt : d < a.tmps.size := Nat.lt_of_lt_of_le (hd d hdst) hr.sz
            simp only [setD, Act.put]
            by_cases e : t = d
            · subst e
              rw [if_pos rfl]
              simpa [Array.getD, hlt] using hv
            · rw [if_neg e]
              have := (hr.tm t).mono hkeep.le
              have e2 : (a.tmps.setIfInBounds d v).getD t undef = a.tmps.getD t undef := by
                simp only [Array.getD_eq_getD_getElem?, Array.getElem?_setIfInBounds]
                rw [if_neg (Ne.symm e)]
              rw [e2]; exact this
        · have := hr.df; cases o.dst <;> simpa [Act.put] using this
      have hgi : ∀ k, (listed.setIfInBounds i true).getD k false = true ↔ (k = i ∨ listed.getD k false = true) := fun k => by
        by_cases e : k = i
        · subst e
          have : k < listed.size := by omega
          simp [Array.getD, this]
        · simp only [Array.getD_eq_getD_getElem?, Array.getElem?_setIfInBounds]
          rw [if_neg (Ne.symm e)]
          simp [e]
      refine ih (listed.setIfInBounds i true) _ H1 g' _ w' (by simpa using hsz) (by rw [e2]; rw [e1] at hfu; simp at hfu ⊢; omega) (fun k l hk' hp' => ?_) (by rw [e2]; exact hrest) hput (by rw [hkeep.ro]; exact hrr) (by rw [hkeep.ro]; exact hro) (Nat.le_trans hlen hp.len) (fun k hk1 hk2 => hsn' k hk1 ?_) (KeepN.trans hi0 hk hkeep (by omega))
      · rw [hgi]
        rcases (hgi k).1 hk' with rfl | h
        · right
          obtain ⟨o', e, ho'', he, hb, hon⟩ := hp'
          rw [ho] at ho''
          cases ho''
          rw [← hon]
          exact h3 e he hb
        · exact .inr (hcl k l h hp')
      · rw [e2] at hk2
        have hnd : (todo ops.size listed).Nodup := List.nodup_range.filter _
        rw [e1] at hnd ⊢
        refine ⟨?_, fun e => ?_⟩
        · simp only [List.mem_append, List.mem_cons] at hk2 ⊢
          rcases hk2 with h | h
          · exact .inl h
          · exact .inr (.inr h)
        · subst e
          have := List.nodup_append.1 hnd
          obtain ⟨_, h2, h3⟩ := this
          rcases List.mem_append.1 hk2 with h | h
          · exact h3 k h k List.mem_cons_self rfl
          · exact (List.nodup_cons.1 h2).1 h

/-- Room for slots. -/
def extH (H : Heap) (m : Nat) : Heap := { H with bx := H.bx ++ List.replicate m .dead }

theorem ext_some {H : Heap} {m i : Nat} {b : Box} (h : (extH H m).bx[i]? = some b) (hb : b ≠ .dead) : H.bx[i]? = some b := by
  simp only [extH] at h
  by_cases e : i < H.bx.length
  · rwa [List.getElem?_append_left e] at h
  · rw [List.getElem?_append_right (by omega), List.getElem?_replicate] at h
    split at h
    · simp only [Option.some.injEq] at h; exact (hb h.symm).elim
    · cases h

theorem ext_live {H : Heap} {m i : Nat} (h : (extH H m).liveAt i) : H.liveAt i := by
  obtain ⟨b, hb, ha⟩ := h
  exact ⟨b, ext_some hb (fun e => by subst e; exact ha), ha⟩

theorem inv_ext {g : Gh} {H : Heap} {w : World} (hi : Inv g H w) (m : Nat) : Inv g (extH H m) w where
  st := hi.st
  bx id es el h := hi.bx id es el (ext_some h (by simp))
  mp id es h := hi.mp id es (ext_some h (by simp))
  inj i j b h1 h2 := hi.inj i j b (ext_live h1) (ext_live h2)
  sd id h := hi.sd id (by simp [extH] at h; omega)
  td := hi.td
  tk t b lo hi' h1 h2 := let ⟨a, b, c⟩ := hi.tk t b lo hi' h1 h2; ⟨a, b, fun id hl => c id (ext_live hl)⟩
  tinj := hi.tinj
  nd := hi.nd
  lt := hi.lt
  sz := hi.sz
  ro := by have := hi.ro; simp [extH]; omega
  rm id b c T m h := hi.rm id b c T m (ext_live h)

theorem keep_ext {g : Gh} {H : Heap} {w : World} (hi : Inv g H w) (m : Nat) : Keep g H w g (extH H m) w where
  le := .refl g
  heap _ _ _ := rfl
  store _ _ _ _ := rfl
  size := Nat.le_refl _
  new id b h h' := by rw [h] at h'; cases h'
  tnew t b lo hi h h' := by rw [h] at h'; cases h'
  ro := rfl
  bxl := by simp [extH]
  bx id h := by have := hi.ro; simp only [extH]; rw [List.getElem?_append_left (by omega)]
  nt := Nat.le_refl _
  lv t h := .inl h
  al _ _ _ h := ext_live h
  fz _ := rfl
  ns _ _ h := h
  so := ⟨rfl, rfl⟩

theorem drawOk (hE : TOk E P) (hm : P.follows .mixedOrders = true) {tm : TM} {H : Heap} {tm' : TM} {H' : Heap} (hS : Sched ops H.ro H.bx.length m cls tgt msk)
    (h : Run E P own n ops H.bx.length cls tgt msk (List.range ops.size) tm (extH H m) tm' H') : DrawOk E P own n ops tm H tm' H' := by
  intro id g a w Q hr hq
  refine wp_region_any hm ?_
  have hall : todo ops.size (Array.replicate ops.size false) = List.range ops.size := by
    unfold todo
    refine List.filter_eq_self.2 fun k hk => ?_
    have := List.mem_range.1 hk
    simp [Array.getD, this]
  have hw : Inv g H { w with drawn := w.drawn + 1 } := hr.inv.same rfl
  have hk : Keep g H w g H { w with drawn := w.drawn + 1 } := .same rfl
  have hke := hk.then hr.inv (keep_ext hw m)
  refine draw_any hE hS (Q := Q) (tm' := tm') (H' := H') hr.inv rfl hr.inv.ro hq ops.size _ tm (extH H m) g a _ (by simp) (by rw [hall]; simp) (fun i l hi => ?_) (by rw [hall]; exact h)
    ⟨hr.sz, hr.tm, inv_ext hw _, hr.gl, hr.df⟩ rfl hr.inv.ro (by simp [extH]) (fun k hk1 _ => hr.inv.sd _ (by omega)) hke
  by_cases hlt : i < ops.size
  · simp [Array.getD, hlt] at hi
  · simp [Array.getD, hlt] at hi

end
end Go.Vm
