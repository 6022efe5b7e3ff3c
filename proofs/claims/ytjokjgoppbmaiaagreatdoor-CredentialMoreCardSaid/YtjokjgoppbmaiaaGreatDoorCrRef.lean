/-
  Dotted names, and when one lies within another, as the program computes them. Dotted names, and when one lies within another, as the reference computes them.
-/
import Derived.Test.YtjokjgoppbmaiaaGreatDoorCrTrim
set_option maxHeartbeats 64000000
set_option maxRecDepth 100000
namespace Go.Vm.Seat
open Go.Proofs
theorem c191 {s : Bs} (hs : s.length ≤ 100000) : ∀ H, CallOk E0 Tryz.prog 191 [.str s, .str [46]] H (.sl .none 1 (partsC (splitD s))) H := by
 have hc := c236 hs
 refine κw tOk fe191.ok rfl ?_
 repeat' first | refine κn ?_ | refine κc (hc _) ?_ | refine κg ?_ | refine κa ?_ | refine κf ?_ | fail
 all_goals rfl
theorem alB_eq (c : UInt8) : alB c = (lowB c || digB c) := by
 simp only [alB, alN, lowB, digB]
 congr 1 <;> (rw [Bool.eq_iff_iff]; simp)
theorem labelB_iff (c : UInt8) (r : Bs) : labelB (c :: r) = true ↔ ¬ (8 < (c :: r).length) ∧ 97 ≤ c.toNat ∧ c.toNat ≤ 122 ∧ (c :: r).all alB = true := by
 have e : alB = fun x => lowB x || digB x := funext alB_eq
 rw [e]
 simp only [labelB, lowB, Bool.and_eq_true, decide_eq_true_eq, List.all_cons, List.length_cons]
 constructor
 · rintro ⟨⟨h1, h2⟩, h3, h4⟩
   exact ⟨by omega, h1, h2, by simp [h1, h2], h3⟩
 · rintro ⟨h1, h2, h3, _, h5⟩
   exact ⟨⟨h2, h3⟩, h5, by omega⟩
def labelsR (s : Bs) : PV := match dottedB s with | true => .sl .none 1 (partsC (splitD s)) | false => .nils
theorem e22 : E0.T 47 = some ⟨.slice 9, 1, 24, .nils⟩ := by kernel_rfl
theorem idxP {l : List Bs} {i : Nat} {x : Bs} (h : l[i]? = some x) : aIndexAddr E0 47 (.sl .none 1 (partsC l)) (.int .i64 (i : Int)) = some (.fptr [.str x] 0) := by
 have en : nat? (.int .i64 (i : Int)) = some i := rfl
 have hn : nth (partsC l) i = some [.str x] := by rw [nth_eq]; simp [partsC, h]
 simp only [aIndexAddr, e22, en, e9s, if_true, hn]
theorem splitD_len (s : Bs) : ∀ x, x ∈ splitD s → x.length ≤ s.length := by
 induction s with
 | nil => intro x hx; simp [splitD] at hx; subst hx; simp
 | cons c r ih =>
   intro x hx
   simp only [splitD] at hx
   split at hx
   · rcases List.mem_cons.1 hx with rfl | hx
     · simp
     · have := ih x hx; simp; omega
   · cases hs : splitD r with
     | nil => exact absurd hs (splitD_ne r)
     | cons y l =>
       rw [hs] at hx ih
       rcases List.mem_cons.1 hx with rfl | hx
       · have := ih y (by simp); simp; omega
       · have := ih x (by simp [hx]); simp; omega
theorem c113 {s : Bs} (hs : s.length ≤ 100000) : ∀ H, CallOk E0 Tryz.prog 113 [.str s] H (labelsR s) H := by
 have hfr : frz3 0 hNil (labelsR s) = some (labelsR s) := by unfold labelsR; cases dottedB s <;> rfl
 refine callOk_wp (own := fun _ => false) tOk fe113.ok rfl hfr ?_
 have hsp := c191 hs
 have hlen := splitD_len s
 obtain ⟨l, hl⟩ : ∃ l, l = splitD s := ⟨_, rfl⟩
 have hdot : dottedB s = (decide (l.length ≤ 4) && l.all labelB) := by rw [hl]; rfl
 have hR : labelsR s = match dottedB s with | true => .sl .none 1 (partsC l) | false => .nils := by rw [hl]; rfl
 rw [← hl] at hsp hlen
 have hpl : (partsC l).length = l.length := by simp [partsC]
 refine Wp.seq ?_
 repeat' first | refine κn ?_ | refine κc (hsp _) ?_ | refine κb ?_ ?_ | refine κg ?_ | refine κa ?_ | refine κf ?_ | intro hb
 · have h4 : 4 < l.length := by rw [← hpl]; simp at hb; omega
   have hd : dottedB s = false := by rw [hdot]; simp; omega
   rw [hR, hd]; rfl
 have h4 : l.length ≤ 4 := by rw [← hpl]; simp at hb; omega
 refine Wp.while (fun m tm H => ∃ (i : Nat) (base : TM), i + m = l.length ∧ (l.take i).all labelB = true ∧
   tm = ovr base [(3, .sl .none 1 (partsC l)), (11, .sl .none 1 (partsC l)), (12, .int .i64 (l.length : Int)), (13, .int .i64 (i : Int))] ∧ H = hNil)
  (fun m tm H hI => ?_) l.length _ _ ⟨0, _, by omega, by simp, ovr_mk ⟨rfl, rfl, int_eq (by rw [← hpl]; rfl), rfl, trivial⟩, rfl⟩
 obtain ⟨i, base, hi, hall, rfl, rfl⟩ := hI
 by_cases hlt : i < l.length
 · obtain ⟨x, hx⟩ : ∃ x, l[i]? = some x := ⟨l[i], by simp⟩
   have hxm : x ∈ l := List.mem_of_getElem? hx
   have hxl : x.length ≤ 100000 := Nat.le_trans (hlen x hxm) hs
   have hia := idxP hx
   have bad : labelB x = false → dottedB s = false := fun h => by
    rw [hdot]
    simp only [Bool.and_eq_false_iff]
    right
    rw [List.all_eq_false]
    exact ⟨x, hxm, by simp [h]⟩
   have htake : (l.take (i + 1)).all labelB = ((l.take i).all labelB && labelB x) := by
    have : l.take (i + 1) = l.take i ++ [x] := by
     rw [List.take_add_one]; simp [hx]
    rw [this]; simp
   have htr := c192 x hxl
   cases x with
   | nil =>
     repeat' first | refine κn ?_ | refine κk ?_ | refine κJ ?_ | refine κt ?_ | refine κz ?_ ?_ | refine κg ?_ | refine κa ?_ | refine κf ?_ | intro hb
     · have hd := bad rfl
       rw [hR, hd]; rfl
     · simp at hb; omega
   | cons c r =>
     have hlab := labelB_iff c r
     have neg : ∀ P : Prop, P → (P → ¬ (¬ (8 < (c :: r).length) ∧ 97 ≤ c.toNat ∧ c.toNat ≤ 122 ∧ (c :: r).all alB = true)) → labelB (c :: r) = false := fun P hp hn => by
      cases h : labelB (c :: r) with
      | false => rfl
      | true => exact absurd (hlab.1 h) (hn hp)
     repeat' first | refine κn ?_ | refine κk ?_ | refine κc (htr _) ?_ | refine κJ ?_ | refine κt ?_ | refine κb ?_ ?_ | refine κz ?_ ?_ | refine κg ?_ | refine κa ?_ | refine κf ?_ | intro hb
     · rw [hR, bad (neg _ hb fun h => by
         have h : 8 < Int.ofNat (c :: r).length := of_decide_eq_true h
         intro q
         have := q.1
         simp only [Int.ofNat_eq_natCast] at h
         omega)]
       rfl
     · rw [hR, bad (neg _ hb fun h => by
         have h : Int.ofNat c.toNat < 97 := of_decide_eq_true h
         intro q
         have := q.2.1
         simp only [Int.ofNat_eq_natCast] at h
         omega)]
       rfl
     · rw [hR, bad (neg _ hb fun h => by
         have h : 122 < Int.ofNat c.toNat := of_decide_eq_true h
         intro q
         have := q.2.2.1
         simp only [Int.ofNat_eq_natCast] at h
         omega)]
       rfl
     · rw [hR, bad (neg _ hb fun h => by
         intro q
         rw [trim_nil.2 q.2.2.2] at h
         cases h)]
       rfl
     · rename_i hb1 hb2 hb3 hb4
       have g1 : ¬ (8 < (c :: r).length) := by
        have h := of_decide_eq_false hb2
        simp only [Int.ofNat_eq_natCast] at h
        omega
       have g2 : 97 ≤ c.toNat := by
        have h := of_decide_eq_false hb3
        simp only [Int.ofNat_eq_natCast] at h
        omega
       have g3 : c.toNat ≤ 122 := by
        have h := of_decide_eq_false hb4
        simp only [Int.ofNat_eq_natCast] at h
        omega
       have g4 : (c :: r).all alB = true := by
        refine trim_nil.1 ?_
        simpa using hb
       have hg := hlab.2 ⟨g1, g2, g3, g4⟩
       refine LoopI.go (m - 1) (by omega) ⟨i + 1, _, by omega, by rw [htake, hall, hg]; rfl, ovr_mk ⟨rfl, rfl, rfl, int_eq (wrap_nat (n := i + 1) (by omega)), trivial⟩, rfl⟩
     · exfalso; simp at hb; omega
 · have e : i = l.length := by omega
   subst e
   rw [List.take_length] at hall
   have hd : dottedB s = true := by rw [hdot, hall]; simpa using h4
   repeat' first | refine κn ?_ | refine κz ?_ ?_ | refine κg ?_ | refine κa ?_ | refine κf ?_ | intro hb
   all_goals first
    | (exfalso; simp at hb; done)
    | (rw [hR, hd]; rfl)
theorem c51 {s : Bs} (hs : s.length ≤ 100000) : ∀ H, CallOk E0 Tryz.prog 51 [.str s] H (.bool (dottedB s)) H := by
 refine callOk_wp (own := fun _ => false) tOk fe51.ok rfl rfl ?_
 have hc := c113 hs
 unfold labelsR at hc
 cases hd : dottedB s with
 | false =>
   rw [hd] at hc
   refine Wp.seq ?_
   repeat' first | refine κn ?_ | refine κc (hc _) ?_ | refine κt ?_ | refine κg ?_ | refine κa ?_ | refine κf ?_ | fail
   all_goals rfl
 | true =>
   rw [hd] at hc
   refine Wp.seq ?_
   repeat' first | refine κn ?_ | refine κc (hc _) ?_ | refine κt ?_ | refine κg ?_ | refine κa ?_ | refine κf ?_ | fail
   all_goals rfl
end Go.Vm.Seat
namespace Go.Vm.Seat
open Go.Proofs
def okB (i : Nat) (c : UInt8) : Bool := lowB c || (decide (i ≠ 0) && digB c)
def okL : Nat → Bs → Bool
 | _, [] => true
 | i, c :: r => okB i c && okL (i + 1) r
end Go.Vm.Seat
