/-
  strings.Trim at the letters and digits.
-/
import Derived.Test.YtjokjgoppbmaiaaGreatDoorCrStr
import Derived.Test.YtjokjgoppbmaiaaGreatDoorFg
set_option maxHeartbeats 64000000
set_option maxRecDepth 100000
namespace Go.Vm.Seat
open Go.Proofs
def cutS : Bs := [97, 98, 99, 100, 101, 102, 103, 104, 105, 106, 107, 108, 109, 110, 111, 112, 113, 114, 115, 116, 117, 118, 119, 120, 121, 122, 48, 49, 50, 51, 52, 53, 54, 55, 56, 57]
def alN (n : Nat) : Bool := (Nat.ble 97 n && Nat.ble n 122) || (Nat.ble 48 n && Nat.ble n 57)
def alB (c : UInt8) : Bool := alN c.toNat
def setC : List PV := (List.range 256).map fun n => .bool (alN n)
theorem setC_len : setC.length = 256 := by simp [setC]
theorem setC_get {n : Nat} (h : n < 256) : setC[n]? = some (.bool (alN n)) := by
 simp [setC, h]
theorem ok207 : okFact E0 100 60 ⟨239, [.str cutS], .tup [.agg setC, .bool true]⟩ = true := by kernel_rfl
theorem e204 : E0.T 213 = some ⟨.array 256 4, 256, 256, .agg (List.replicate 256 (.bool false))⟩ := by kernel_rfl
theorem e4 : E0.T 4 = some ⟨.bool, 1, 1, .bool false⟩ := by kernel_rfl
theorem e9s : E0.T 9 = some ⟨.string, 1, 16, .str []⟩ := by kernel_rfl
theorem setC_ok : setC.all cellOk = true := by
 simp [setC, cellOk]
attribute [irreducible] setC
abbrev setH (ro : Nat) (lv : List Nat) (nt : Nat) : Heap := ⟨[.cells 256 [setC]], ro, lv, nt⟩
theorem c269 (c : UInt8) (ro : Nat) (lv : List Nat) (nt : Nat) : CallOk E0 Tryz.prog 269 [.ptr 0 256 0 0, .int .u8 (c.toNat : Int)] (setH ro lv nt) (.bool (alB c)) (setH ro lv nt) := by
 have hc : c.toNat < 256 := c.toNat_lt
 have h1 : aIndexAddr E0 213 (.ptr 0 256 0 0) (.int .u8 (c.toNat : Int)) = some (.ptr 0 256 0 (0 + c.toNat * 1)) := by
  have en : nat? (.int .u8 (c.toNat : Int)) = some c.toNat := rfl
  simp only [aIndexAddr, e204, e4, en]
  rw [if_pos hc]
 have h2 : aLoad E0 4 (.ptr 0 256 0 (0 + c.toNat * 1)) (inner (setH ro lv nt)) = some (.bool (alB c)) := by
  have hn : nth (inner (setH ro lv nt)).bx 0 = some (.cells 256 [setC]) := rfl
  have hm : nth [setC] 0 = some setC := rfl
  have hd : (setC.drop (0 + c.toNat * 1)).take 1 = [.bool (alN c.toNat)] := by
   have hl : c.toNat < setC.length := by rw [setC_len]; exact hc
   rw [Nat.zero_add, Nat.mul_one, List.drop_eq_getElem_cons hl]
   have := setC_get hc
   rw [List.getElem?_eq_getElem hl] at this
   simp only [Option.some.injEq] at this
   simp [this]
  simp only [aLoad, e4, Heap.rd, hn, if_true, hm, isAggK, Bool.false_eq_true, if_false]
  rw [if_pos (by rw [setC_len]; omega), hd]
  rfl
 refine callOk_wpH (own := fun _ => false) tOk fe269.ok ?_
 refine Wp.seq ?_
 repeat' first | refine κn ?_ | refine κJ ?_ | (apply qLd; rfl; rfl; rfl; assumption; exact IsV.any _) | refine κt ?_ | refine κb ?_ ?_ | refine κg ?_ | refine κa ?_ | refine κf ?_ | intro hb
 all_goals (rw [hb]; rfl)
theorem slice1 (c : UInt8) (r : Bs) : aSlice E0 9 (.str (c :: r)) (some (.int .i64 1)) none none = some (.str r) := by
 have en : nat? (.int .i64 1) = some 1 := rfl
 simp only [aSlice, e9s, bound, en]
 rw [if_pos (by simp), List.take_length]
 rfl
theorem c240 (s : Bs) (ro : Nat) (lv : List Nat) (nt : Nat) : CallOk E0 Tryz.prog 240 [.str s, .ptr 0 256 0 0] (setH ro lv nt) (.str (s.dropWhile alB)) (setH ro lv nt) := by
 refine callOk_wpH (own := fun _ => false) tOk fe240.ok ?_
 refine Wp.seq ?_
 repeat' first | refine κn ?_ | refine κg ?_ | refine κa ?_ | fail
 refine Wp.while (fun m tm H => ∃ (rest : Bs) (base : TM), rest.length = m ∧ s.dropWhile alB = rest.dropWhile alB ∧ tm = ovr base [(0, .str rest), (1, .ptr 0 256 0 0)] ∧ H = inner (setH ro lv nt))
  (fun m tm H hI => ?_) s.length _ _ ⟨s, _, rfl, rfl, ovr_mk ⟨rfl, rfl, trivial⟩, rfl⟩
 obtain ⟨rest, base, hl, hd, rfl, rfl⟩ := hI
 cases rest with
 | nil =>
   repeat' first | refine κn ?_ | refine κt ?_ | refine κg ?_ | refine κa ?_ | refine κf ?_ | fail
   rw [hd]; rfl
 | cons c r =>
   have hc := c269 c 1 [] nt
   have hs := slice1 c r
   repeat' first | refine κn ?_ | refine κc hc ?_ | refine κS ?_ | refine κb ?_ ?_ | refine κg ?_ | refine κa ?_ | refine κf ?_ | intro hb
   all_goals first
    | (exfalso; simp at hb; done)
    | (exfalso; simp at hb; omega)
    | skip
   · have hc0 : alB c = false := by simpa using hb
     rw [hd]
     simp only [List.dropWhile_cons, hc0, Bool.false_eq_true, if_false]
     rfl
   · have hc0 : alB c = true := by simpa using hb
     refine LoopI.go r.length (by simp at hl; omega) ⟨r, _, rfl, ?_, ovr_mk ⟨rfl, rfl, trivial⟩, rfl⟩
     rw [hd]
     simp only [List.dropWhile_cons, hc0, if_true]
def dropEnd (s : Bs) : Bs := (s.reverse.dropWhile alB).reverse
theorem dropEnd_snoc (r : Bs) (c : UInt8) : dropEnd (r ++ [c]) = if alB c = true then dropEnd r else r ++ [c] := by
 simp only [dropEnd, List.reverse_append, List.reverse_cons, List.reverse_nil, List.nil_append, List.cons_append, List.dropWhile_cons]
 split
 · rfl
 · simp
theorem last_of {s : Bs} (h : s ≠ []) : ∃ r c, s = r ++ [c] := ⟨s.dropLast, s.getLast h, (List.dropLast_concat_getLast h).symm⟩
theorem c241 (s : Bs) (hs : s.length ≤ 100000) (ro : Nat) (lv : List Nat) (nt : Nat) : CallOk E0 Tryz.prog 241 [.str s, .ptr 0 256 0 0] (setH ro lv nt) (.str (dropEnd s)) (setH ro lv nt) := by
 refine callOk_wpH (own := fun _ => false) tOk fe241.ok ?_
 refine Wp.seq ?_
 repeat' first | refine κn ?_ | refine κg ?_ | refine κa ?_ | fail
 refine Wp.while (fun m tm H => ∃ (rest : Bs) (base : TM), rest.length = m ∧ rest.length ≤ 100000 ∧ dropEnd s = dropEnd rest ∧ tm = ovr base [(0, .str rest), (1, .ptr 0 256 0 0)] ∧ H = inner (setH ro lv nt))
  (fun m tm H hI => ?_) s.length _ _ ⟨s, _, rfl, hs, rfl, ovr_mk ⟨rfl, rfl, trivial⟩, rfl⟩
 obtain ⟨rest, base, hl, hrl, hd, rfl, rfl⟩ := hI
 by_cases hne : rest = []
 · subst hne
   repeat' first | refine κn ?_ | refine κt ?_ | refine κg ?_ | refine κa ?_ | refine κf ?_ | fail
   rw [hd]; rfl
 · obtain ⟨r, c, rfl⟩ := last_of hne
   have hc := c269 c 1 [] nt
   have hr1 : r.length ≤ 100000 := by simp at hrl; omega
   have ew : IntKind.i64.wrap (Int.ofNat (r ++ [c]).length - 1) = (r.length : Int) := by
    have e : Int.ofNat (r ++ [c]).length - 1 = (r.length : Int) := by simp
    rw [e]; exact wrap_nat (by omega)
   have en : nat? (.int .i64 (r.length : Int)) = some r.length := rfl
   have hix : aIndex E0 9 (.str (r ++ [c])) (.int .i64 (IntKind.i64.wrap (Int.ofNat (r ++ [c]).length - 1))) = some (.int .u8 (c.toNat : Int)) := by
    rw [ew]
    have hn : nth (r ++ [c]) r.length = some c := by rw [nth_eq]; simp
    simp only [aIndex, e9s, en, hn]
    rfl
   have hsl : aSlice E0 9 (.str (r ++ [c])) none (some (.int .i64 (IntKind.i64.wrap (Int.ofNat (r ++ [c]).length - 1)))) none = some (.str r) := by
    rw [ew]
    simp only [aSlice, e9s, bound, en]
    rw [if_pos (by simp)]
    simp
   repeat' first | refine κn ?_ | refine κc hc ?_ | refine κS ?_ | refine κX ?_ | refine κb ?_ ?_ | refine κg ?_ | refine κa ?_ | refine κf ?_ | intro hb
   all_goals first
    | (exfalso; simp at hb; done)
    | (exfalso; simp at hb; omega)
    | skip
   · have hc0 : alB c = false := by simpa using hb
     rw [hd, dropEnd_snoc, if_neg (by simp [hc0])]
     rfl
   · have hc0 : alB c = true := by simpa using hb
     refine LoopI.go r.length (by simp at hl; omega) ⟨r, _, rfl, hr1, ?_, ovr_mk ⟨rfl, rfl, trivial⟩, rfl⟩
     rw [hd, dropEnd_snoc, if_pos hc0]
theorem c239 : ∀ H, CallOk E0 Tryz.prog 239 [.str cutS] H (.tup [.agg setC, .bool true]) H := okFact_ok tOk follows fOk zOk ok207
def trimS (s : Bs) : Bs := (dropEnd s).dropWhile alB
theorem store204 : Heap.wr ⟨[.cells 256 [List.replicate 256 (.bool false)]], 0, [], 0⟩ (.ptr 0 256 0 0) setC = some (setH 0 [] 0) := by
 have h0 : nth [Box.cells 256 [List.replicate 256 (PV.bool false)]] 0 = some (.cells 256 [List.replicate 256 (PV.bool false)]) := rfl
 have h1 : nth [List.replicate 256 (PV.bool false)] 0 = some (List.replicate 256 (.bool false)) := rfl
 simp only [Heap.wr, h0, if_true, h1]
 rw [if_pos (by rw [setC_len]; simp)]
 simp [Heap.put, setC_len]
theorem c192 (s : Bs) (hs : s.length ≤ 100000) : ∀ H, CallOk E0 Tryz.prog 192 [.str s, .str cutS] H (.str (trimS s)) H := by
 refine κw tOk fe192.ok rfl ?_
 have hal : ∀ ρ, aOp E0 false ρ (.alloc 213) hNil = some (.ptr 0 256 0 0, ⟨[.cells 256 [List.replicate 256 (.bool false)]], 0, [], 0⟩) := fun ρ => by
  simp only [aOp, e204]
  rw [if_pos ⟨by simp [PV.cells], by omega⟩]
  rfl
 have hl : (Nat.beq setC.length 256 && Nat.blt 0 256) = true := by rw [setC_len]; rfl
 have hc : setC.all cellOk = true := setC_ok
 have hst := store204
 have h1 := c241 s hs 0 [] 0
 have h2 := c240 (dropEnd s) 0 [] 0
 repeat' first | refine κn ?_ | refine κk ?_ | (apply qCl; rfl; rfl; rfl; rfl; first | exact c239 _ | exact h1 | exact h2) | (apply RegQ.rAl; rfl; rfl; assumption) | refine κt ?_ | refine κb ?_ ?_ | refine κg ?_ | refine κa ?_ | refine κf ?_ | intro hb
 · simp at hb
   subst hb
   rfl
 · rfl
theorem dropWhile_nil {s : Bs} : s.dropWhile alB = [] ↔ s.all alB = true := by
 induction s with
 | nil => simp
 | cons c r ih =>
   simp only [List.dropWhile_cons, List.all_cons, Bool.and_eq_true]
   by_cases h : alB c = true
   · simp [h, ih]
   · simp [h]
theorem trim_nil {s : Bs} : trimS s = [] ↔ s.all alB = true := by
 unfold trimS
 rw [dropWhile_nil]
 constructor
 · intro h
   by_cases hn : dropEnd s = []
   · unfold dropEnd at hn
     have h2 : s.reverse.dropWhile alB = [] := by simpa using hn
     have := dropWhile_nil.1 h2
     simpa using this
   · exfalso
     obtain ⟨r, c, e⟩ := last_of hn
     have hc : alB c = true := by
      rw [e] at h
      simp only [List.all_append, List.all_cons, List.all_nil, Bool.and_true, Bool.and_eq_true] at h
      exact h.2
     have h3 : s.reverse.dropWhile alB = c :: r.reverse := by
      have := congrArg List.reverse e
      simpa [dropEnd] using this
     have h4 := List.head_dropWhile_not alB (l := s.reverse) (by rw [h3]; simp)
     simp only [h3, List.head_cons] at h4
     rw [hc] at h4
     cases h4
 · intro h
   have h2 : s.reverse.dropWhile alB = [] := dropWhile_nil.2 (by simpa using h)
   simp [dropEnd, h2]
end Go.Vm.Seat
