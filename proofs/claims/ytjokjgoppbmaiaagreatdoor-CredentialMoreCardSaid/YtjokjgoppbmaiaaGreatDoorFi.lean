/-
  What is read: nothing, or a valid credential whose key lies in the term. Paths of credentials: what is found, and that more remains where less is asked. A call in a drawn region whose result lies in rooms of its own (mark: 5000 and its slot). Facts that are found whatever the arguments' slices are like behind their ends; an environment with other marks. A call that writes the third box of three, as a store in a drawn region; the heads of a log (ledger). Readers and answers of a key service: what is accepted, by the program and by the document's answer. slices.Delete at numbers that a box holds
-/
import Derived.Test.YtjokjgoppbmaiaaGreatDoorFh
import Derived.Test.YtjokjgoppbmaiaaGreatDoorFg
import Derived.Test.YtjokjgoppbmaiaaGreatDoorFe
import Derived.Test.YtjokjgoppbmaiaaGreatDoorFf
import Derived.Sort.Row
import Derived.LaidByTextLater
namespace Go.Vm
theorem firsts_within : ∀ (n : Nat) {u : Tm} {l : List Tm} {r : Tm}, firsts n u = some (l, r) → ∀ x, x ∈ l → x.within u
 | 0, u, l, r, h, x, hx => by
   simp only [firsts, Option.some.injEq, Prod.mk.injEq] at h
   rw [← h.1] at hx
   simp at hx
 | n + 1, u, l, r, h, x, hx => by
   rw [firsts_step] at h
   cases hp : isPair u with
   | none => rw [hp] at h; cases h
   | some p =>
     obtain ⟨a, b⟩ := p
     obtain ⟨w1, w2, _⟩ := isPair_within hp
     rw [hp] at h
     simp only at h
     cases hf : firsts n b with
     | none => rw [hf] at h; cases h
     | some q =>
       obtain ⟨l', r'⟩ := q
       rw [hf] at h
       simp only [Option.some.injEq, Prod.mk.injEq] at h
       rw [← h.1] at hx
       rcases List.mem_cons.1 hx with rfl | hx
       · exact w1
       · exact within_trans (firsts_within n hf x hx) w2
theorem readP_case (t : Tm) : readP t = (.zero, 2) ∨ ((readP t).2 = 0 ∧ (readP t).1.valid = 0 ∧ (readP t).1.key.within t ∧ ∃ s b u key, t = .mk 3 [115, 105, 103, 110] s b [u, key] ∧ ((readP t).1.issue key).2 = 0 ∧ ((readP t).1.issue key).1.cmp t = 0) := by
 by_cases h : t.valid ≠ 0 ∨ t.isB [115, 105, 103, 110] 2 = false
 · exact .inl (readF_A _ _ _ h)
 · have h1 : t.valid = 0 := by
     by_cases e : t.valid = 0
     · exact e
     · exact absurd (.inl e) h
   have h2 : t.isB [115, 105, 103, 110] 2 = true := by
    cases e : t.isB [115, 105, 103, 110] 2 with
    | true => rfl
    | false => exact absurd (.inr e) h
   obtain ⟨s, b, u, key, rfl⟩ := sign_isB h2
   have e := readF_B rdName rdNames numP h1
   change readP _ = _ at e
   cases hf : firsts 8 u with
   | none => left; rw [e, hf]; rfl
   | some q =>
     obtain ⟨l, r⟩ := q
     rw [hf] at e
     obtain ⟨X, hX⟩ : ∃ X, X = credOf rdName rdNames numP l r := ⟨_, rfl⟩
     obtain ⟨z1, z2, z3, z4⟩ := readB_some (rn := rdName) (rl := rdNames) (num := numP) (t := .mk 3 [115, 105, 103, 110] s b [u, key]) (key := key) (l := l) (r := r) (X := X.1) (B := X.2) (by rw [hX])
     cases hB : X.2 with
     | false => left; rw [e, z1 hB]
     | true =>
       by_cases e1 : (X.1.issue key).2 = 0
       · by_cases e2 : (X.1.issue key).1.cmp (.mk 3 [115, 105, 103, 110] s b [u, key]) = 0
         · right
           rw [e, z4 hB e1 e2]
           obtain ⟨v1, v2, v3, v4⟩ := issue_ok e1
           refine ⟨rfl, v1, ?_, s, b, u, key, rfl, e1, e2⟩
           rw [v4] at e2
           obtain ⟨l', r', k, f1, f2, f3, _, _⟩ := read_back v1 (term_cl e2)
           rw [hf] at f1
           cases f1
           rw [← hX] at f3
           have : X.1.key = k := by rw [f3]
           simp only [this]
           have hm : k ∈ l := by
            rw [f3] at hX
            rcases l with _ | ⟨a0, _ | ⟨a1, _ | ⟨a2, _ | ⟨a3, _ | ⟨a4, _ | ⟨a5, _ | ⟨a6, _ | ⟨a7, _ | ⟨a8, l⟩⟩⟩⟩⟩⟩⟩⟩⟩
            all_goals simp only [credOf, Prod.mk.injEq, Cred.mk.injEq] at hX
            all_goals first
             | (rw [hX.1.2.1]; simp; done)
             | (exfalso; simp at hX; done)
           exact within_trans (firsts_within 8 hf k hm) (within_kid (by simp))
         · left; rw [e, z3 hB e2]
       · left; rw [e, z2 hB e1]
theorem dot_len {s : Bs} (h : dottedB s = true) : s.length ≤ 36 := by
 obtain ⟨h1, h2⟩ := dot_parts h
 have h3 := joinB_len [46] 8 (splitD s) h2
 rw [joinB_D, join_split] at h3
 simp only [List.length_cons, List.length_nil] at h3
 omega
theorem cred_small {x : Cred} (h : x = .zero ∨ x.valid = 0) : x.sub.length ≤ 1000 ∧ (∀ s, s ∈ x.per → s.length ≤ 1000) ∧ (∀ s, s ∈ x.exc → s.length ≤ 1000) ∧ x.per.length ≤ 1000 ∧ x.exc.length ≤ 1000 := by
 rcases h with rfl | h
 · exact ⟨by simp [Cred.zero], fun s hs => by simp [Cred.zero] at hs, fun s hs => by simp [Cred.zero] at hs, by simp [Cred.zero], by simp [Cred.zero]⟩
 · have hok := cred_ok h
   exact ⟨by have := dot_len hok.sub; omega, fun s hs => by have := dot_len (hok.per s hs); omega, fun s hs => by have := dot_len (hok.exc s hs); omega, by have := hok.pl; omega, by have := hok.el; omega⟩
end Go.Vm
namespace Go.Vm
structure Qn where
 terms : List Tm
 anchor : Tm
 now : Int
 rev : List Int
def hasI (l : List Int) (v : Int) : Bool := l.any fun k => decide (k = v)
def lastC (l : List Cred) : Option Cred := l[l.length - 1]?
def keyQ (q : Qn) (bef : List Cred) : Tm := match lastC bef with
 | some c => c.key
 | none => q.anchor
def subQ (bef : List Cred) : Bs := match lastC bef with
 | some c => c.sub
 | none => []
def pkQ : Tm → Tm
 | .mk _ _ _ _ (_ :: x :: _) => .mk 3 [112, 107] 0 true [x]
 | _ => .mk 3 [112, 107] 0 true []
def refB (s : Bs) (y : Cred) : Bool := !y.iss || !permitsB y.per y.exc s
def nxtF (q : Qn) (path : List Int) (bef : List Cred) (i : Nat) : Cred × Int := match q.terms[i]? with
 | none => (.zero, 7)
 | some t => if hasI path (i : Int) = true then (.zero, 5) else if (readP t).2 ≠ 0 then readP t else
   if (keyQ q bef).cmp (pkQ t) ≠ 0 then ((readP t).1, 11) else if q.now < (readP t).1.fr ∨ (readP t).1.till < q.now then ((readP t).1, 20) else
   if hasI q.rev (readP t).1.ser = true then ((readP t).1, 9) else if bef.any (refB (readP t).1.sub) = true then ((readP t).1, 22) else ((readP t).1, 0)
mutual
def gofF (q : Qn) (name : Bs) : Nat → List Int → List Cred → Option (List Int)
 | 0, p, b => if subQ b = name then some p else none
 | d + 1, p, b => tryQ q name d p b 0 q.terms.length
def tryQ (q : Qn) (name : Bs) (d : Nat) (p : List Int) (b : List Cred) (i : Nat) : Nat → Option (List Int)
 | 0 => none
 | m + 1 => if (nxtF q p b i).2 ≠ 0 then tryQ q name d p b (i + 1) m else match gofF q name d (p ++ [(i : Int)]) (b ++ [(nxtF q p b i).1]) with
   | some r => some r
   | none => tryQ q name d p b (i + 1) m
end
def lenQ (q : Qn) (name : Bs) (n : Nat) : Nat → Option (List Int)
 | 0 => none
 | m + 1 => match gofF q name n [] [] with
   | some r => some r
   | none => lenQ q name (n + 1) m
def pathQ (q : Qn) (name : Bs) : Option (List Int) × Int := if 8 < q.terms.length then (none, 3) else if dottedB name = false then (none, 2) else match lenQ q name 1 4 with
 | some r => (some r, 0)
 | none => (none, 4)
def Qn.cells (q : Qn) (b b' : Bool) : List PV := slV b 4 (cellsL q.terms) :: (q.anchor.cells ++ [.int .i64 q.now, slV b' 1 (intC q.rev)])
def Qn.add (q : Qn) (t : Tm) : Qn := { q with terms := q.terms ++ [t] }
def Qn.cut (q : Qn) (i : Nat) : Qn := { q with rev := q.rev.take i ++ q.rev.drop (i + 1) }
structure Less (q q' : Qn) : Prop where
 t : ∀ (i : Nat) (t : Tm), q.terms[i]? = some t → q'.terms[i]? = some t
 l : q.terms.length ≤ q'.terms.length
 a : q'.anchor = q.anchor
 n : q'.now = q.now
 r : ∀ s, s ∈ q'.rev → s ∈ q.rev
theorem next_less {q q' : Qn} (h : Less q q') {p : List Int} {b : List Cred} {i : Nat} (hn : (nxtF q p b i).2 = 0) : nxtF q' p b i = nxtF q p b i := by
 unfold nxtF at hn ⊢
 cases ht : q.terms[i]? with
 | none => rw [ht] at hn; cases hn
 | some t =>
   rw [h.t i t ht]
   rw [ht] at hn
   simp only [] at hn ⊢
   have hk : keyQ q' b = keyQ q b := by unfold keyQ; rw [h.a]
   rw [hk, h.n]
   by_cases h1 : hasI p (i : Int) = true
   · rw [if_pos h1] at hn; cases hn
   · rw [if_neg h1] at hn ⊢
     rw [if_neg h1]
     by_cases h2 : (readP t).2 ≠ 0
     · rw [if_pos h2] at hn; exact absurd hn h2
     · rw [if_neg h2] at hn ⊢
       rw [if_neg h2]
       by_cases h3 : (keyQ q b).cmp (pkQ t) ≠ 0
       · rw [if_pos h3] at hn; cases hn
       · rw [if_neg h3] at hn ⊢
         rw [if_neg h3]
         by_cases h4 : q.now < (readP t).1.fr ∨ (readP t).1.till < q.now
         · rw [if_pos h4] at hn; cases hn
         · rw [if_neg h4] at hn ⊢
           rw [if_neg h4]
           by_cases h5 : hasI q.rev (readP t).1.ser = true
           · rw [if_pos h5] at hn; cases hn
           · have h5' : ¬ hasI q'.rev (readP t).1.ser = true := fun e => h5 (by
               obtain ⟨k, k1, k2⟩ := List.any_eq_true.1 e
               exact List.any_eq_true.2 ⟨k, h.r k k1, k2⟩)
             rw [if_neg h5, if_neg h5']
theorem try_of {q : Qn} {name : Bs} {d : Nat} {p : List Int} {b : List Cred} : ∀ {m i : Nat}, (tryQ q name d p b i m).isSome = true ↔ ∃ k, i ≤ k ∧ k < i + m ∧ (nxtF q p b k).2 = 0 ∧ (gofF q name d (p ++ [(k : Int)]) (b ++ [(nxtF q p b k).1])).isSome = true
 | 0, i => by
   simp only [tryQ]
   constructor
   · intro h; cases h
   · rintro ⟨k, h1, h2, -⟩; omega
 | m + 1, i => by
   simp only [tryQ]
   have ih := try_of (q := q) (name := name) (d := d) (p := p) (b := b) (m := m) (i := i + 1)
   by_cases h1 : (nxtF q p b i).2 ≠ 0
   · rw [if_pos h1, ih]
     constructor
     · rintro ⟨k, a, c, e⟩; exact ⟨k, by omega, by omega, e⟩
     · rintro ⟨k, a, c, e, f⟩
       have : k ≠ i := fun hk => h1 (by rw [← hk]; exact e)
       exact ⟨k, by omega, by omega, e, f⟩
   · rw [if_neg h1]
     have h1 := Classical.not_not.1 h1
     cases hf : gofF q name d (p ++ [(i : Int)]) (b ++ [(nxtF q p b i).1]) with
     | some r =>
       simp only [Option.isSome_some, true_iff]
       exact ⟨i, by omega, by omega, h1, by rw [hf]; rfl⟩
     | none =>
       simp only []
       rw [ih]
       constructor
       · rintro ⟨k, a, c, e⟩; exact ⟨k, by omega, by omega, e⟩
       · rintro ⟨k, a, c, e, f⟩
         have : k ≠ i := fun hk => by
          subst hk
          rw [hf] at f
          cases f
         exact ⟨k, by omega, by omega, e, f⟩
theorem find_less {q q' : Qn} (h : Less q q') {name : Bs} : ∀ {d : Nat} {p : List Int} {b : List Cred}, (gofF q name d p b).isSome = true → (gofF q' name d p b).isSome = true
 | 0, p, b, hf => by simpa only [gofF] using hf
 | d + 1, p, b, hf => by
   simp only [gofF] at hf ⊢
   obtain ⟨k, h1, h2, h3, h4⟩ := try_of.1 hf
   have e := next_less h h3
   refine try_of.2 ⟨k, h1, by have := h.l; omega, by rw [e]; exact h3, ?_⟩
   rw [e]
   exact find_less h h4
theorem len_less {q q' : Qn} (h : Less q q') {name : Bs} : ∀ {m n : Nat}, (lenQ q name n m).isSome = true → (lenQ q' name n m).isSome = true
 | 0, n, hf => by simp [lenQ] at hf
 | m + 1, n, hf => by
   simp only [lenQ] at hf ⊢
   have k := find_less h (name := name) (d := n) (p := []) (b := [])
   cases e : gofF q name n [] [] with
   | some r =>
     rw [e] at k
     have k := k rfl
     cases e' : gofF q' name n [] [] with
     | some r => rfl
     | none => rw [e'] at k; cases k
   | none =>
     rw [e] at hf
     simp only [] at hf
     cases e' : gofF q' name n [] [] with
     | some r => rfl
     | none => exact len_less h hf
theorem path_less {q q' : Qn} (h : Less q q') (hl : q'.terms.length ≤ 8) {name : Bs} (hp : (pathQ q name).2 = 0) : (pathQ q' name).2 = 0 := by
 unfold pathQ at hp ⊢
 have := h.l
 rw [if_neg (by omega)] at hp ⊢
 by_cases hd : dottedB name = false
 · rw [if_pos hd] at hp; cases hp
 · rw [if_neg hd] at hp ⊢
   have k := len_less h (name := name) (m := 4) (n := 1)
   cases e : lenQ q name 1 4 with
   | none => rw [e] at hp; cases hp
   | some r =>
     rw [e] at k
     cases e' : lenQ q' name 1 4 with
     | none => rw [e'] at k; exact absurd (k rfl) (by simp)
     | some r => rfl
end Go.Vm
namespace Go.Vm
section
variable {E : Env} {P : Program} {own : Tmp → Bool} {n : Nat} {K : TM → Heap → Prop} {tm : TM}
theorem dCt {ops : Array Oper} {n0 i : Nat} {r : List Oper} {d : Nat} {ty : TypeId} {pos : String} {aft : Array Edge} {grd : Option (Nat × Bool)} {p : PV} {f : Operand} {args : Array Operand} {ats : Array TypeId} {k : FuncId} {caps al : List PV} {bx : List Box} {ro nt nt' : Nat} {lv lv' : List Nat}
  (hw : wantedA ops.toList tm ⟨some d, .call { callee := .value f, args := args, argTypes := ats }, ty, pos, aft, grd⟩ = some true) (hn : Nat.blt d n = true) (hf : evalO E tm f = .fn k caps)
  (ha : args.toList.map (evalO E tm) ++ caps = al) (hc : clsO E own ⟨some d, .call { callee := .value f, args := args, argTypes := ats }, ty, pos, aft, grd⟩ = .tk) (h : CallOk E P k al ⟨bx, bx.length, lv, nt⟩ p ⟨bx, bx.length, lv', nt'⟩)
  (hr : DrwQ E P own n ops n0 (i + 1) r K (setD tm (some d) p) ⟨bx, ro, lv', nt'⟩) : DrwQ E P own n ops n0 i (⟨some d, .call { callee := .value f, args := args, argTypes := ats }, ty, pos, aft, grd⟩ :: r) K tm ⟨bx, ro, lv, nt⟩ := by
 have e : growH ⟨bx, ro, lv, nt⟩ ⟨bx, bx.length, lv', nt'⟩ = ⟨bx, ro, lv', nt'⟩ := by simp [growH]
 refine .stepN (p := p) (H1 := ⟨bx, ro, lv', nt'⟩) (by simp only [dstOk, hn]) (.inr (.inr ⟨hc, fun j b hj => hj⟩)) (fun ho' => ?_) hr
 have hci := (clsI_eq (E := E) (own := own) ho').trans hc
 refine ⟨by rw [hci]; simp, .inr (.inl ⟨by rw [hci]; exact ⟨by simp, by simp, by simp⟩, ?_⟩)⟩
 have := Hp.tk (E := E) (P := P) (own := own) (ops := ops) (n0 := n0) (cls := clsI E own ops) (tgt := fun _ => n0) (msk := fun _ => []) (i := i) (o := ⟨some d, .call { callee := .value f, args := args, argTypes := ats }, ty, pos, aft, grd⟩) (tm := tm) ⟨bx, ro, lv, nt⟩ p ⟨bx, bx.length, lv', nt'⟩ hw hci
  (.call _ _ _ _ _ _ _ rfl hf (by rw [ha]; exact h)) (Nat.le_refl _)
 rw [e] at this
 exact this
end
end Go.Vm
namespace Go.Vm
section
variable {E : Env} {P : Program}
theorem callOk_frz {f : FuncId} {args args' : List PV} {r : PV} {H H' : Heap} (h : CallOk E P f args' H r H') (ha : frzGL args = some args') : CallOk E P f args H r H' := by
 intro g w vals hi hg hv
 obtain ⟨l1, l2⟩ := frzGL_ok ha
 exact h g w vals hi hg ⟨by rw [l1]; exact hv.1, fun i h1 h2 => V.pure (g := g) _ _ (show V0 g.S _ _ from frzG_ok (hv.2 i (by omega) h2) (l2 i (by omega) h1))⟩
end
end Go.Vm
namespace Go.Vm
section
variable {E : Env} {P : Program}
end
end Go.Vm
namespace Go.Vm
mutual
theorem nodes_cl : ∀ t : Tm, t.cl.nodes = t.nodes
 | .mk k nm s b kids => by simp only [Tm.cl, Tm.nodes, cl_len, nodesL_cl kids]
theorem nodesL_cl : ∀ l : List Tm, nodesL (clL l) = nodesL l
 | [] => rfl
 | t :: r => by simp only [clL, nodesL, nodes_cl t, nodesL_cl r]
end
mutual
theorem depth_cl : ∀ t : Tm, t.cl.depth = t.depth
 | .mk k nm s b kids => by simp only [Tm.cl, Tm.depth, depthL_cl kids]
theorem depthL_cl : ∀ l : List Tm, depthL (clL l) = depthL l
 | [] => rfl
 | t :: r => by simp only [clL, depthL, depth_cl t, depthL_cl r]
end
structure Rd where
 svc : Tm
 size : Int
 head : Tm
 signed : Tm
def Rd.cells (c : Rd) : List PV := c.svc.cells ++ (.int .i64 c.size :: (c.head.cells ++ c.signed.cells))
def Rd.zero : Rd := ⟨.zero, 0, .zero, .zero⟩
structure An where
 name : List UInt8
 entry : Tm
 idx : Int
 size : Int
 head : Tm
 signed : Tm
 ib : Bool
 incl : List Tm
 eb : Bool
 ext : List Tm
def An.cells (a : An) : List PV := .str a.name :: (a.entry.cells ++ (.int .i64 a.idx :: .int .i64 a.size :: (a.head.cells ++ (a.signed.cells ++ [slV a.ib 4 (cellsL a.incl), slV a.eb 4 (cellsL a.ext)]))))
end Go.Vm
namespace Go.Vm
open Go.RowKit Go.Sort
section
variable {E : Env} {P : Program}
theorem three_of {α : Type} {l : List α} (h : l.length = 3) : ∃ a b c, l = [a, b, c] := by
 match l, h with
 | [a, b, c], _ => exact ⟨a, b, c, rfl⟩
def delI (r : List Int) (i : Nat) : List Int := r.take i ++ r.drop (i + 1) ++ List.replicate (i + 1 - i) 0
theorem delI_len {r : List Int} {i : Nat} (h : i < r.length) : (delI r i).length = r.length := by
 simp only [delI, List.length_append, List.length_take, List.length_drop, List.length_replicate]
 omega
theorem del_ok {f : FuncId} {fn : Func} {c : Code} (hf : FnOk P f fn c)
  (hK : ∀ (blk off cap i j : Nat) (zs : List Int) (w : World), Holds (Value.int .i64) w blk off zs.toArray → zs.length ≤ cap → cap ≤ 9223372036854775807 → i ≤ j → j ≤ zs.length →
    Calls P f #[.slice (some ⟨blk, off, none⟩) zs.length cap, .int .i64 i, .int .i64 j] w fun e w' => e = .returned (.slice (some ⟨blk, off, none⟩) (zs.length - (j - i)) cap) ∧ ∃ q, w' = putRow (Value.int .i64) (Sort.ahead w q) blk off (zs.take i ++ zs.drop j ++ List.replicate (j - i) 0).toArray)
  {H : Heap} {id : Nat} {r : List Int} (hb : H.bx[id]? = some (.cells 1 (intC r))) (hro : H.ro ≤ id) {i : Nat} (hir : i < r.length) :
  CallOk E P f [.own id 1 0 r.length, .int .i64 (i : Int), .int .i64 ((i + 1 : Nat) : Int)] H (.own id 1 0 (r.length - 1)) { H with bx := H.bx.set id (.cells 1 (intC (delI r i))) } := by
 intro g w vals hi hg hv
 obtain ⟨l, hv⟩ := hv
 obtain ⟨v0, v1, v2, hvals⟩ := three_of (show vals.toList.length = 3 by simpa using l)
 rw [hvals] at hv
 have a0 := hv 0 (by simp) (by simp)
 have a1 := hv 1 (by simp) (by simp)
 have a2 := hv 2 (by simp) (by simp)
 simp only [List.getElem_cons_succ, List.getElem_cons_zero] at a0 a1 a2
 obtain rfl := a1.int_inv
 obtain rfl := a2.int_inv
 obtain ⟨b, cap, a, hσ, hcap, ha, -, ⟨hk1, hk2⟩, rfl⟩ := a0.own_inv2
 obtain rfl := ha (.inl (by omega))
 obtain rfl : vals = #[.slice (some ⟨b, 0 * 1, none⟩) r.length cap, .int .i64 (i : Int), .int .i64 ((i + 1 : Nat) : Int)] := Array.toList_inj.1 (by simpa using hvals)
 obtain ⟨b', C, T, s1, hheap, s3, s4, s5, s6⟩ := hi.bx _ _ _ hb
 rw [hσ] at s1
 cases s1
 have hln := intC_len r
 rw [hln] at s4
 have hrow : ∀ j (h : j < r.length), C[j]? = some (.int .i64 r[j]) := fun j h => by
  obtain ⟨v, e1, e2⟩ := s5 j (by rw [hln]; exact h) 0 (by simp [intC])
  have e3 : (intC r)[j]'(by rw [hln]; exact h) = [.int .i64 r[j]] := by simp [intC]
  simp only [e3, List.getElem_cons_zero] at e2
  obtain rfl := e2.int_inv
  simpa using e1
 have hH : Holds (Value.int .i64) w b 0 r.toArray := fun j hj => by
  have hj : j < r.length := by simpa using hj
  refine ⟨?_, by simp [World.frozen?, hheap]⟩
  have := hrow j hj
  simp only [World.cell?, hheap]
  rw [Nat.zero_add, this, getElem!_pos r.toArray j (by simpa using hj)]
  simp
 rw [callFunc_enter hf]
 simp only [UponCall]
 have call := hK b 0 cap i (i + 1) r w hH hcap hk2 (by omega) (by omega)
 simp only [Nat.zero_mul]
 refine Calls.mono call fun e w' ⟨he, q, hw⟩ => ?_
 subst hw
 have hD : r.take i ++ r.drop (i + 1) ++ List.replicate (i + 1 - i) 0 = delI r i := rfl
 rw [hD]
 have hds := delI_len hir
 obtain ⟨D, hDe⟩ : ∃ D, D = delI r i := ⟨_, rfl⟩
 rw [← hDe] at hds ⊢
 let C' : Array Value := C.mapIdx fun k y => if 0 ≤ k ∧ k < 0 + D.toArray.size then Value.int .i64 D.toArray[k - 0]! else y
 have hat : (putRow (Value.int .i64) (Sort.ahead w q) b 0 D.toArray).heap[b]? = some (.cells C' T (0, 0)) := by
  unfold putRow mapBlock
  simp only [heap_ahead, Array.getElem?_modify, hheap, if_true, Option.map_some, onCells, putCells, C']
 have hoth : ∀ k, k ≠ b → (putRow (Value.int .i64) (Sort.ahead w q) b 0 D.toArray).heap[k]? = w.heap[k]? := fun k hk => by
  unfold putRow mapBlock
  simp only [heap_ahead, Array.getElem?_modify]
  rw [if_neg (Ne.symm hk)]
 have hlD := intC_len D
 obtain ⟨j1, j2⟩ := inv_put (w' := putRow (Value.int .i64) (Sort.ahead w q) b 0 D.toArray) hi hro hb trivial hσ s6 hoth (by rw [size_putRow]; rfl) hat (fun a => by rw [frozen?_putRow]; rfl) (bo := .cells 1 (intC D))
  (fun es el h => by
    cases h
    refine ⟨C', T, rfl, fun k hk => by simp [intC], ?_, fun k hk j hj => ?_⟩
    · rw [hlD, hds]
      have : C'.size = C.size := by simp [C']
      omega
    · have hk' : k < D.length := by rw [← hlD]; exact hk
      have e3 : (intC D)[k]'hk = [.int .i64 D[k]] := by simp [intC]
      obtain rfl : j = 0 := by simp [intC] at hj; omega
      refine ⟨.int .i64 D[k], ?_, ?_⟩
      · simp only [C', Array.getElem?_mapIdx, Nat.mul_one, Nat.add_zero]
        rw [Array.getElem?_eq_getElem (by omega), Option.map_some, if_pos ⟨Nat.zero_le _, by simp; omega⟩, Nat.sub_zero, getElem!_pos D.toArray k (by simpa using hk')]
        simp
      · simp only [e3, List.getElem_cons_zero]
        exact .pure _ _ (.int _ _))
  (fun es h => by cases h) (fun c1 T1 m1 h => by
    cases h
    have := hi.rm id b C T _ ⟨_, hb, trivial⟩ hσ hheap
    have hq : C'.size = C.size := by simp [C']
    omega) ⟨rfl, rfl, rfl, fun _ => Nat.le_add_right _ _⟩
 have e1 : r.length - (i + 1 - i) = r.length - 1 := by omega
 rw [e1] at he
 exact ⟨_, he, g, .own _ _ _ _ b cap _ hσ (by omega) (fun _ => by simp) rfl ⟨hk1, hk2⟩, j1, j2⟩
end
end Go.Vm
namespace Go.Vm
open Go.RowKit
section
variable {E : Env} {P : Program} {w : World}
theorem calls_of3 {f : FuncId} {fn : Func} {c : Code} (hf : FnOk P f fn c) (hG : GOk E (wG w)) {args : List PV} {r : PV} (h : CallOk E P f args hNil r hNil) {vals : Array Value} (hv : CellsOf (wS w) args vals.toList) :
  Calls P f vals w fun e w' => ∃ v, e = .returned v ∧ (∃ g', V g' r v) ∧ GrownB w w' ∧ ∀ k, k < w.heap.size → w'.heap[k]? = w.heap[k]? := by
 have hu := h (wG w) w vals (wG_inv w) hG ⟨hv.1, fun i h1 h2 => .pure _ _ (hv.2 i h1 h2)⟩
 rw [callFunc_enter hf] at hu
 exact Calls.mono hu fun e w' ⟨v, e1, g', hp, _, k⟩ => ⟨v, e1, ⟨g', hp⟩, grown_of_keep k, fun i hi => k.heap i hi (nil_shut _ i)⟩
end
section
variable {P : Program} {H : Type} {enc : TypeId × Value → H} {w : World} {base : Nat} {spare : Nat → Bool} {held : Bool}
end
end Go.Vm
namespace Go.Vm
section
variable {T : TypeId → Option TI}
theorem sh_ints {s l : TypeId} {si li : TI} (hs : T s = some si) (ks : si.tk = .int .i64) (zs : si.size = 1) (hl : T l = some li) (kl : li.tk = .slice s) {cs : List PV} (h : Sh T l cs) :
  ∃ b L, cs = [slV b 1 (intC L)] ∧ L.length ≤ maxLen ∧ ∀ x, x ∈ L → (Lit.int .i64 x).wf = true := by
 cases h with
 | bool h' hk' => rw [hl] at h'; cases h'; rw [kl] at hk'; cases hk'
 | int h' hk' => rw [hl] at h'; cases h'; rw [kl] at hk'; cases hk'
 | str h' hk' => rw [hl] at h'; cases h'; rw [kl] at hk'; cases hk'
 | struct h' hk' => rw [hl] at h'; cases h'; rw [kl] at hk'; cases hk'
 | nils h' hk' => exact ⟨true, [], by rw [show intC [] = [] from rfl, slV_nil_true], Nat.zero_le _, fun _ h => absurd h (by simp)⟩
 | sl h' hk' he hlen hel =>
   rw [hl] at h'; cases h'
   rw [kl] at hk'; cases hk'
   rw [hs] at he; cases he
   obtain ⟨L, hL, hok⟩ : ∃ L : List Int, _ = intC L ∧ ∀ x, x ∈ L → (Lit.int .i64 x).wf = true := by
    have : ∀ (el : List (List PV)), (∀ c, c ∈ el → ∃ x : Int, c = [.int .i64 x] ∧ (Lit.int .i64 x).wf = true) → ∃ L : List Int, el = intC L ∧ ∀ x, x ∈ L → (Lit.int .i64 x).wf = true := by
     intro el
     induction el with
     | nil => exact fun _ => ⟨[], rfl, fun _ h => absurd h (by simp)⟩
     | cons c r ih =>
       intro h
       obtain ⟨x, rfl, hx⟩ := h c List.mem_cons_self
       obtain ⟨L, rfl, hL⟩ := ih fun c hc => h c (List.mem_cons_of_mem _ hc)
       exact ⟨x :: L, rfl, fun y hy => by
        rcases List.mem_cons.1 hy with rfl | hy
        · exact hx
        · exact hL y hy⟩
    exact this _ fun c hc => sh_int (hel c hc) hs ks
   refine ⟨false, L, by rw [slV_false, ← hL, zs], ?_, hok⟩
   rw [hL, intC_len] at hlen
   exact hlen
end
end Go.Vm
