/-
  Credentials: names that are none; what a credential must be.
-/
import Derived.Test.YtjokjgoppbmaiaaGreatDoorCrRef
import Derived.Test.YtjokjgoppbmaiaaGreatDoorVo
import Derived.Test.YtjokjgoppbmaiaaGreatDoorFh
set_option maxHeartbeats 64000000
set_option maxRecDepth 100000
namespace Go.Vm.Seat
open Go.Proofs
def ixW : List Bs → Nat → Int
 | [], _ => -1
 | a :: r, i => if dottedB a = false then (i : Int) else ixW r (i + 1)
theorem ixW_iff : ∀ (l : List Bs) (i : Nat), 0 ≤ ixW l i ↔ wrongB l = true
 | [], i => by simp [ixW, wrongB]
 | a :: r, i => by
   have ih := ixW_iff r (i + 1)
   simp only [ixW]
   by_cases h : dottedB a = false
   · rw [if_pos h]; simp [wrongB, h]
   · rw [if_neg h, ih]
     have h2 : dottedB a = true := by simpa using h
     simp [wrongB, h2]
theorem ixW_wrong (l : List Bs) (i : Nat) : decide (0 ≤ ixW l i) = wrongB l := by
 rw [Bool.eq_iff_iff, decide_eq_true_iff]; exact ixW_iff l i
theorem ixW_drop {l : List Bs} {i : Nat} {a : Bs} (h : l[i]? = some a) : ixW (l.drop i) i = if dottedB a = false then (i : Int) else ixW (l.drop (i + 1)) (i + 1) := by
 rw [drop_cons h]; rfl
theorem c182 {s : Bs} (hs : s.length ≤ 100000) : ∀ H, CallOk E0 Tryz.prog 182 [.str s] H (.bool (!dottedB s)) H := by
 have hc := c51 hs
 generalize dottedB s = d at hc
 refine κw tOk fe182.ok rfl ?_
 repeat' first | refine κn ?_ | refine κc (hc _) ?_ | refine κt ?_ | refine κb ?_ ?_ | refine κg ?_ | refine κa ?_ | refine κf ?_ | intro hb
 all_goals (refine ifq ?_; simp at hb; simp [hb])
theorem c193 {l : List Bs} (hl : ∀ s, s ∈ l → s.length ≤ 100000) (hlen : l.length ≤ 100000) (b : Bool) : ∀ H, CallOk E0 Tryz.prog 193 [slV b 1 (strC l), .fn 182 []] H (.int .i64 (ixW l 0)) H := by
 refine κw tOk fe193.ok rfl ?_
 repeat' first | refine κn ?_ | refine κl ?_ | refine κg ?_ | refine κa ?_ | fail
 refine Wp.while (fun m tm H => ∃ (i : Nat) (base : TM), i + m = l.length ∧ ixW l 0 = ixW (l.drop i) i ∧ tm = ovr base [(0, slV b 1 (strC l)), (1, .fn 182 []), (7, .int .i64 (l.length : Int)), (8, .int .i64 (i : Int))] ∧ H = ⟨[], 0, [], 0⟩)
  (fun m tm H hI => ?_) l.length _ _ ⟨0, _, by omega, by simp, ovr_mk ⟨rfl, rfl, int_eq (by rw [strC_len]), rfl, trivial⟩, rfl⟩
 obtain ⟨i, base, hi, hgo, rfl, rfl⟩ := hI
 rw [hgo]
 by_cases hlt : i < l.length
 · obtain ⟨a, ha⟩ : ∃ a, l[i]? = some a := ⟨l[i], by simp⟩
   have hj := strC_get ha
   have hc := c182 (hl a (List.mem_of_getElem? ha))
   rw [ixW_drop ha]
   cases hd : dottedB a with
   | false =>
     rw [hd] at hc
     have hc : ∀ H, CallOk E0 Tryz.prog 182 [.str a] H (.bool true) H := hc
     repeat' first | refine κn ?_ | refine κc (hc _) ?_ | refine κx ?_ | refine κz ?_ ?_ | refine κg ?_ | refine κa ?_ | refine κf ?_ | intro hb
     · rfl
     · exfalso; simp at hb; omega
   | true =>
     rw [hd] at hc
     have hc : ∀ H, CallOk E0 Tryz.prog 182 [.str a] H (.bool false) H := hc
     repeat' first | refine κn ?_ | refine κc (hc _) ?_ | refine κx ?_ | refine κz ?_ ?_ | refine κg ?_ | refine κa ?_ | refine κf ?_ | intro hb
     · exact LoopI.go (m - 1) (by omega) ⟨i + 1, _, by omega, rfl, ovr_mk ⟨rfl, rfl, rfl, int_eq (wrap_nat (n := i + 1) (by omega)), trivial⟩, rfl⟩
     · exfalso; simp at hb; omega
 · have e : i = l.length := by omega
   subst e
   repeat' first | refine κn ?_ | refine κz ?_ ?_ | refine κg ?_ | refine κa ?_ | refine κf ?_ | intro hb
   · exfalso; simp at hb
   · rw [List.drop_length]; rfl
theorem c115 {l : List Bs} (hl : ∀ s, s ∈ l → s.length ≤ 100000) (hlen : l.length ≤ 100000) (b : Bool) : ∀ H, CallOk E0 Tryz.prog 115 [slV b 1 (strC l), .fn 182 []] H (.bool (wrongB l)) H := by
 have hc := c193 hl hlen b
 rw [← ixW_wrong l 0]
 generalize ixW l 0 = x at hc
 refine κw tOk fe115.ok rfl ?_
 repeat' first | refine κn ?_ | refine κc (hc _) ?_ | refine κt ?_ | refine κb ?_ ?_ | refine κg ?_ | refine κa ?_ | refine κf ?_ | intro hb
 all_goals (refine ifq ?_; simp at hb; simp [hb])
theorem c99 {l : List Bs} (hl : ∀ s, s ∈ l → s.length ≤ 100000) (hlen : l.length ≤ 100000) (b : Bool) : ∀ H, CallOk E0 Tryz.prog 99 [slV b 1 (strC l)] H (.bool (wrongB l)) H := by
 have hc := c115 hl hlen b
 generalize wrongB l = w at hc
 refine κw tOk fe99.ok rfl ?_
 repeat' first | refine κn ?_ | refine κc (hc _) ?_ | refine κt ?_ | refine κb ?_ ?_ | refine κg ?_ | refine κa ?_ | refine κf ?_ | intro hb
 all_goals (cases w <;> first | rfl | cases hb)
def ixO : List Int → Nat → Int
 | [], _ => -1
 | a :: r, i => if outB a = true then (i : Int) else ixO r (i + 1)
theorem ixO_iff : ∀ (l : List Int) (i : Nat), 0 ≤ ixO l i ↔ l.any outB = true
 | [], i => by simp [ixO]
 | a :: r, i => by
   have ih := ixO_iff r (i + 1)
   simp only [ixO]
   by_cases h : outB a = true
   · rw [if_pos h]; simp [h]
   · rw [if_neg h, ih]; simp [h]
theorem ixO_out (l : List Int) (i : Nat) : decide (0 ≤ ixO l i) = l.any outB := by
 rw [Bool.eq_iff_iff, decide_eq_true_iff]; exact ixO_iff l i
theorem ixO_drop {l : List Int} {i : Nat} {a : Int} (h : l[i]? = some a) : ixO (l.drop i) i = if outB a = true then (i : Int) else ixO (l.drop (i + 1)) (i + 1) := by
 rw [drop_cons h]; rfl
theorem c97 (n : Int) : ∀ H, CallOk E0 Tryz.prog 97 [.int .i64 n] H (.bool (outB n)) H := by
 refine κw tOk fe97.ok rfl ?_
 repeat' first | refine κn ?_ | refine κk ?_ | refine κt ?_ | refine κb ?_ ?_ | refine κg ?_ | refine κa ?_ | refine κf ?_ | intro hb
 all_goals (refine ifq ?_; simp [outB] at *; omega)
theorem c183 {l : List Int} (hlen : l.length ≤ 100000) (b : Bool) : ∀ H, CallOk E0 Tryz.prog 183 [slV b 1 (numC l), .fn 97 []] H (.int .i64 (ixO l 0)) H := by
 refine κw tOk fe183.ok rfl ?_
 repeat' first | refine κn ?_ | refine κl ?_ | refine κg ?_ | refine κa ?_ | fail
 refine Wp.while (fun m tm H => ∃ (i : Nat) (base : TM), i + m = l.length ∧ ixO l 0 = ixO (l.drop i) i ∧ tm = ovr base [(0, slV b 1 (numC l)), (1, .fn 97 []), (7, .int .i64 (l.length : Int)), (8, .int .i64 (i : Int))] ∧ H = ⟨[], 0, [], 0⟩)
  (fun m tm H hI => ?_) l.length _ _ ⟨0, _, by omega, by simp, ovr_mk ⟨rfl, rfl, int_eq (by rw [numC_len]), rfl, trivial⟩, rfl⟩
 obtain ⟨i, base, hi, hgo, rfl, rfl⟩ := hI
 rw [hgo]
 by_cases hlt : i < l.length
 · obtain ⟨a, ha⟩ : ∃ a, l[i]? = some a := ⟨l[i], by simp⟩
   have hj := numC_get ha
   have hc := c97 a
   rw [ixO_drop ha]
   cases hd : outB a with
   | true =>
     rw [hd] at hc
     repeat' first | refine κn ?_ | refine κc (hc _) ?_ | refine κx ?_ | refine κz ?_ ?_ | refine κg ?_ | refine κa ?_ | refine κf ?_ | intro hb
     · rfl
     · exfalso; simp at hb; omega
   | false =>
     rw [hd] at hc
     repeat' first | refine κn ?_ | refine κc (hc _) ?_ | refine κx ?_ | refine κz ?_ ?_ | refine κg ?_ | refine κa ?_ | refine κf ?_ | intro hb
     · exact LoopI.go (m - 1) (by omega) ⟨i + 1, _, by omega, rfl, ovr_mk ⟨rfl, rfl, rfl, int_eq (wrap_nat (n := i + 1) (by omega)), trivial⟩, rfl⟩
     · exfalso; simp at hb; omega
 · have e : i = l.length := by omega
   subst e
   repeat' first | refine κn ?_ | refine κz ?_ ?_ | refine κg ?_ | refine κa ?_ | refine κf ?_ | intro hb
   · exfalso; simp at hb
   · rw [List.drop_length]; rfl
theorem c100 {l : List Int} (hlen : l.length ≤ 100000) (b : Bool) : ∀ H, CallOk E0 Tryz.prog 100 [slV b 1 (numC l), .fn 97 []] H (.bool (l.any outB)) H := by
 have hc := c183 hlen b
 rw [← ixO_out l 0]
 generalize ixO l 0 = x at hc
 refine κw tOk fe100.ok rfl ?_
 repeat' first | refine κn ?_ | refine κc (hc _) ?_ | refine κt ?_ | refine κb ?_ ?_ | refine κg ?_ | refine κa ?_ | refine κf ?_ | intro hb
 all_goals (refine ifq ?_; simp at hb; simp [hb])
theorem c98 (t : Tm) (nm : Bs) (n : Nat) : ∀ H, CallOk E0 Tryz.prog 98 [.agg t.cells, .str nm, .int .i64 (n : Int)] H (.bool (t.isB nm n)) H := by
 obtain ⟨k, m, s, b, kids⟩ := t
 refine κw tOk fe98.ok rfl ?_ (by simp [frzGL, frzG, Tm.cells, frz_tm, frz1])
 repeat' first | refine κn ?_ | refine κk ?_ | refine κl ?_ | refine κt ?_ | refine κb ?_ ?_ | refine κg ?_ | refine κa ?_ | refine κf ?_ | intro hb
 all_goals (refine ifq ?_; show _ = (decide (k = 3) && ((m == nm) && decide (kids.length = n))))
 all_goals first
  | (have h1 := ‹(k == 3) = false›; simp at h1; simp [h1]; done)
  | (rw [‹(m == nm) = false›]; simp; done)
  | (have h1 := ‹(k == 3) = true›
     rw [‹(m == nm) = true›]
     rw [cellsL_length] at hb
     simp at h1 hb
     have h3 : kids.length = n := by omega
     simp [h1, h3]
     done)
  | (rw [cellsL_length] at hb
     simp at hb
     have h3 : ¬ kids.length = n := by omega
     simp [h3]
     done)
theorem c45 (x : Cred) (h1 : x.sub.length ≤ 100000) (hk : x.key.Ok) (hks : x.key.size ≤ 90000) (hp : ∀ s, s ∈ x.per → s.length ≤ 100000) (he : ∀ s, s ∈ x.exc → s.length ≤ 100000) (hpl : x.per.length ≤ 100000) (hel : x.exc.length ≤ 100000) :
  ∀ H, CallOk E0 Tryz.prog 45 [.agg x.cells] H (.int .i64 x.valid) H := by
 obtain ⟨sub, key, iss, pn, per, en, exc, ser, fr, till⟩ := x
 simp only [] at h1 hk hks hp he hpl hel
 have c1 := c51 h1
 have c2 := c46 hk hks
 have c3 := c98 key [112, 107] 1
 have c4 := c99 hp hpl pn
 have c5 := c99 he hel en
 have c6 : ∀ H, CallOk E0 Tryz.prog 100 [.sl .full 1 [[.int .i64 ser], [.int .i64 fr], [.int .i64 till]], .fn 97 []] H (.bool ([ser, fr, till].any outB)) H := fun H =>
  callOk_lift (c100 (l := [ser, fr, till]) (by simp) true hNil) (by
   rw [show slV true 1 (numC [ser, fr, till]) = .sl .none 1 [[.int .i64 ser], [.int .i64 fr], [.int .i64 till]] from slV_cons _ _ _ _]
   rfl) rfl H
 simp only [Cred.valid]
 generalize dottedB sub = d at c1
 generalize key.key = e at c2
 generalize key.isB [112, 107] 1 = i3 at c3
 generalize wrongB per = w1 at c4
 generalize wrongB exc = w2 at c5
 generalize [ser, fr, till].any outB = o at c6
 obtain ⟨k, nm, s, b, kids⟩ := key
 simp only [Tm.cells] at c2 c3
 simp only [Cred.cells, Tm.cells, List.cons_append, List.nil_append]
 have hco : [slV pn 1 (strC per), slV en 1 (strC exc)].all cellOk = true := by simp only [List.all_cons, List.all_nil, cellOk_slV, Bool.and_self]
 refine κw tOk fe45.ok rfl ?_
 repeat' first | refine κn ?_ | refine κk ?_ | (apply qCl; rfl; rfl; rfl; rfl; first | exact c1 _ | exact c2 _ | exact c3 _ | exact c4 _ | exact c5 _ | exact c6 _) | refine κs ?_ | refine κl ?_ | refine κt ?_ | refine κb ?_ ?_ | refine κg ?_ | refine κa ?_ | refine κf ?_ | intro hb
 all_goals (refine int_eq ?_; clear c1 c2 c3 c4 c5 c6 h1 hp he hk hks hco)
 all_goals
  have hwr : IntKind.i64.wrap ((per.length : Int) + (exc.length : Int)) = (per.length : Int) + (exc.length : Int) := IntWalk.i64_in _ (by omega)
  simp only [strC_len, hwr, Bool.not_eq_true', Bool.not_eq_false', bne_iff_ne, bne_eq_false_iff_eq, decide_eq_true_eq, decide_eq_false_iff_not, ne_eq] at *
  subst_vars
  (repeat' split) <;> first | rfl | omega | (exfalso; simp_all; done) | (simp_all; done) | (exfalso; simp_all; omega)
end Go.Vm.Seat
