/-
  Credentials: what the statements ask beside: small, the same. The calls of the examples of the credentials, one by one. The examples of the credentials hold in every world.
-/
import Derived.Test.YtajpkolimokcdaaGreatDoorDa
import Derived.Test.YtajpkolimokcdaaGreatDoorCrStr
import Derived.Test.YtajpkolimokcdaaGreatDoorTv
set_option maxHeartbeats 64000000
set_option maxRecDepth 100000
namespace Go.Vm.Seat
open Go.Proofs
theorem c10 {t : Tm} (ht : t.Ok) : ∀ H, CallOk E0 Tryz.prog 10 [.agg t.cells] H (.bool (fewF [t] 1 450)) H := by
 have hc : ∀ H, CallOk E0 Tryz.prog 33 [.sl .full 4 [t.cells], .int .i64 1, .int .i64 450] H (.bool (fewF [t] 1 450)) H := fun H =>
  callOk_lift (c33 (l := [t]) (fun x hx => by rw [List.mem_singleton.1 hx]; exact ht) (by simp [maxLen]) true (n := 1) (most := 450) (by decide) (by decide) hNil) (by
   simp only [cellsL]
   rw [slV_cons]
   obtain ⟨k5, m5, s5, b5, q5⟩ := t
   rfl) rfl H
 generalize fewF [t] 1 450 = F at hc ⊢
 obtain ⟨k, nm, s, b, kids⟩ := t
 simp only [Tm.cells] at hc
 refine κw tOk fe10.ok rfl ?_
 repeat' first | refine κn ?_ | refine κc (hc _) ?_ | refine κs ?_ | refine κt ?_ | refine κg ?_ | refine κa ?_ | refine κf ?_ | fail
 all_goals rfl
theorem strings_same (l : List Bs) (hl : l.length ≤ 100000) (b b' : Bool) : ∀ H, CallOk E0 Tryz.prog 132 [slV b 1 (strC l), slV b' 1 (strC l)] H (.bool true) H := by
 refine κw tOk fe132.ok rfl ?_
 have hbn : aBin E0 .neq 3 (.int .i64 ((strC l).length : Int)) (.int .i64 ((strC l).length : Int)) = some (.bool false) := by
  show some (PV.bool (((strC l).length : Int) != ((strC l).length : Int))) = _
  simp
 repeat' first | refine κn ?_ | refine κi ?_ | refine κl ?_ | refine κt ?_ | refine κg ?_ | refine κa ?_ | fail
 clear hbn
 refine Wp.while (fun m tm H => ∃ (i : Nat) (base : TM), i + m = l.length ∧ tm = ovr base [(0, slV b 1 (strC l)), (1, slV b' 1 (strC l)), (5, .int .i64 (i : Int))] ∧ H = ⟨[], 0, [], 0⟩)
  (fun m tm H hI => ?_) l.length _ _ ⟨0, _, by omega, ovr_mk ⟨rfl, rfl, rfl, trivial⟩, rfl⟩
 obtain ⟨i, base, hi, rfl, rfl⟩ := hI
 by_cases hlt : i < l.length
 · obtain ⟨a, ha⟩ : ∃ a, l[i]? = some a := ⟨l[i], by simp⟩
   have hj := strC_get ha
   have hbs : aBin E0 .neq 9 (.str a) (.str a) = some (.bool false) := by
    show some (PV.bool (!(a == a))) = _
    simp
   have hbi : aBin E0 .lss 3 (.int .i64 (i : Int)) (.int .i64 ((strC l).length : Int)) = some (.bool true) := by
    show some (PV.bool (decide ((i : Int) < ((strC l).length : Int)))) = _
    rw [strC_len]
    simp [hlt]
   have hbp : aBin E0 .add 3 (.int .i64 (i : Int)) (.int .i64 1) = some (.int .i64 ((i + 1 : Nat) : Int)) := by
    show some (PV.int .i64 (IntKind.i64.wrap ((i : Int) + 1))) = _
    rw [show IntKind.i64.wrap ((i : Int) + 1) = ((i + 1 : Nat) : Int) from wrap_nat (n := i + 1) (by omega)]
   repeat' first | refine κn ?_ | refine κi ?_ | refine κl ?_ | refine κg ?_ | refine κD ?_ | refine κI ?_ | refine κh ?_ | refine κa ?_ | (apply Wp.draw tOk follows; kernel_rfl) | fail
   exact LoopI.go (m - 1) (by omega) ⟨i + 1, _, by omega, ovr_mk ⟨rfl, rfl, rfl, trivial⟩, rfl⟩
 · have e : i = l.length := by omega
   subst e
   have hbi : aBin E0 .lss 3 (.int .i64 (l.length : Int)) (.int .i64 ((strC l).length : Int)) = some (.bool false) := by
    show some (PV.bool (decide ((l.length : Int) < ((strC l).length : Int)))) = _
    rw [strC_len]
    simp
   repeat' first | refine κn ?_ | refine κi ?_ | refine κl ?_ | refine κt ?_ | refine κg ?_ | refine κa ?_ | refine κf ?_ | fail
   all_goals rfl
theorem names_same (P X : List Bs) (hP : P.length ≤ 100000) (hX : X.length ≤ 100000) (a b c d : Bool) : ∀ H, CallOk E0 Tryz.prog 62 [.agg [slV a 1 (strC P), slV b 1 (strC X)], .agg [slV c 1 (strC P), slV d 1 (strC X)]] H (.bool true) H := by
 have c1 := strings_same P hP a c
 have c2 := strings_same X hX b d
 refine κw tOk fe62.ok rfl ?_ (by simp only [frzGL, frzG, frzL, frz1_slV])
 repeat' first | refine κn ?_ | refine κc (c1 _) ?_ | refine κc (c2 _) ?_ | refine κt ?_ | refine κg ?_ | refine κa ?_ | refine κf ?_ | fail
 all_goals rfl
theorem cred_same (x : Cred) {k' : Tm} (pn' en' : Bool) (hk : x.key.Ok) (hk' : k'.Ok) (hs : x.key.size ≤ 100000) (hs' : k'.size ≤ 100000) (hc : x.key.cmp k' = 0) (hP : x.per.length ≤ 100000) (hX : x.exc.length ≤ 100000) :
  ∀ H, CallOk E0 Tryz.prog 17 [.agg x.cells, .agg (Cred.mk x.sub k' x.iss pn' x.per en' x.exc x.ser x.fr x.till).cells] H (.bool true) H := by
 have c1 := c13 hk hk' (by omega) (by omega)
 rw [decide_eq_true hc] at c1
 obtain ⟨sub, key, iss, pn, per, en, exc, ser, fr, till⟩ := x
 simp only at c1 hP hX
 have c2 := names_same per exc hP hX pn en pn' en'
 have b1 : aBin E0 .eql 9 (.str sub) (.str sub) = some (.bool true) := by
  show some (PV.bool (sub == sub)) = _
  simp
 have b3 : ∀ n : Int, aBin E0 .eql 3 (.int .i64 n) (.int .i64 n) = some (.bool true) := fun n => by
  show some (PV.bool (n == n)) = _
  simp
 have b4 := b3 ser
 have b5 := b3 fr
 have b6 := b3 till
 clear b3 hc hk hk' hs hs'
 obtain ⟨k1, m1, s1, t1, q1⟩ := key
 obtain ⟨k2, m2, s2, t2, q2⟩ := k'
 simp only [Tm.cells] at c1
 simp only [Cred.cells, Tm.cells, List.cons_append, List.nil_append]
 refine κw tOk fe17.ok rfl ?_
 cases iss
 all_goals
  repeat' first | refine κn ?_ | refine κc (c1 _) ?_ | refine κc (c2 _) ?_ | refine κi ?_ | refine κt ?_ | refine κg ?_ | refine κa ?_ | refine κf ?_ | fail
  all_goals rfl
end Go.Vm.Seat
namespace Go.Vm.Seat
open Go.Proofs
def cfact0 : Fact := ⟨36, [.int .u8 1], .agg [.int .i64 3, .str [112, 107], .int .i64 0, .sl .none 4 [[.int .i64 3, .str [115, 107], .int .i64 0, .sl .none 4 [[.int .i64 2, .str [97], .int .i64 1, .nils]]]]]⟩
theorem cok0 : okFact E0 100 60 cfact0 = true := by kernel_rfl
def cfact1 : Fact := ⟨37, [.int .u8 0], .agg [.int .i64 3, .str [115, 107], .int .i64 0, .sl .none 4 [[.int .i64 2, .str [114], .int .i64 1, .nils]]]⟩
theorem cok1 : okFact E0 100 60 cfact1 = true := by kernel_rfl
def cfact2 : Fact := ⟨11, [.agg [.str [97], .int .i64 3, .str [112, 107], .int .i64 0, .sl .none 4 [[.int .i64 3, .str [115, 107], .int .i64 0, .sl .none 4 [[.int .i64 2, .str [97], .int .i64 1, .nils]]]], .bool false, .nils, .nils, .int .i64 1, .int .i64 0, .int .i64 9], .agg [.int .i64 3, .str [115, 107], .int .i64 0, .sl .none 4 [[.int .i64 2, .str [114], .int .i64 1, .nils]]]], .tup [.agg [.int .i64 3, .str [115, 105, 103, 110], .int .i64 0, .sl .none 4 [[.int .i64 3, .str [112, 97, 105, 114], .int .i64 0, .sl .none 4 [[.int .i64 2, .str [99, 101, 114, 116], .int .i64 5, .nils], [.int .i64 3, .str [112, 97, 105, 114], .int .i64 0, .sl .none 4 [[.int .i64 3, .str [112, 97, 105, 114], .int .i64 0, .sl .none 4 [[.int .i64 2, .str [97], .int .i64 4, .nils], [.int .i64 2, .str [101, 110, 100], .int .i64 5, .nils]]], [.int .i64 3, .str [112, 97, 105, 114], .int .i64 0, .sl .none 4 [[.int .i64 3, .str [112, 107], .int .i64 0, .sl .none 4 [[.int .i64 3, .str [115, 107], .int .i64 0, .sl .none 4 [[.int .i64 2, .str [97], .int .i64 1, .nils]]]]], [.int .i64 3, .str [112, 97, 105, 114], .int .i64 0, .sl .none 4 [[.int .i64 2, .str [110, 111], .int .i64 4, .nils], [.int .i64 3, .str [112, 97, 105, 114], .int .i64 0, .sl .none 4 [[.int .i64 2, .str [101, 110, 100], .int .i64 5, .nils], [.int .i64 3, .str [112, 97, 105, 114], .int .i64 0, .sl .none 4 [[.int .i64 2, .str [101, 110, 100], .int .i64 5, .nils], [.int .i64 3, .str [112, 97, 105, 114], .int .i64 0, .sl .none 4 [[.int .i64 2, .str [110, 49], .int .i64 4, .nils], [.int .i64 3, .str [112, 97, 105, 114], .int .i64 0, .sl .none 4 [[.int .i64 2, .str [110, 48], .int .i64 4, .nils], [.int .i64 2, .str [110, 57], .int .i64 4, .nils]]]]]]]]]]]]]]]]], [.int .i64 3, .str [115, 107], .int .i64 0, .sl .none 4 [[.int .i64 2, .str [114], .int .i64 1, .nils]]]]], .int .i64 0]⟩
theorem cok2 : okFact E0 100 60 cfact2 = true := by kernel_rfl
def cfact3 : Fact := ⟨38, [.str [115, 105, 103, 110, 40, 112, 97, 105, 114, 40, 99, 101, 114, 116, 58, 116, 97, 103, 44, 32, 112, 97, 105, 114, 40, 112, 97, 105, 114, 40, 97, 58, 100, 97, 116, 97, 44, 32, 101, 110, 100, 58, 116, 97, 103, 41, 44, 32, 112, 97, 105, 114, 40, 112, 107, 40, 115, 107, 40, 97, 58, 97, 103, 101, 110, 116, 41, 41, 44, 32, 112, 97, 105, 114, 40, 110, 111, 58, 100, 97, 116, 97, 44, 32, 112, 97, 105, 114, 40, 101, 110, 100, 58, 116, 97, 103, 44, 32, 112, 97, 105, 114, 40, 101, 110, 100, 58, 116, 97, 103, 44, 32, 112, 97, 105, 114, 40, 110, 49, 58, 100, 97, 116, 97, 44, 32, 112, 97, 105, 114, 40, 110, 48, 58, 100, 97, 116, 97, 44, 32, 110, 57, 58, 100, 97, 116, 97, 41, 41, 41, 41, 41, 41, 41, 41, 44, 32, 115, 107, 40, 114, 58, 97, 103, 101, 110, 116, 41, 41]], .tup [.agg [.int .i64 3, .str [115, 105, 103, 110], .int .i64 0, .sl .none 4 [[.int .i64 3, .str [112, 97, 105, 114], .int .i64 0, .sl .none 4 [[.int .i64 2, .str [99, 101, 114, 116], .int .i64 5, .nils], [.int .i64 3, .str [112, 97, 105, 114], .int .i64 0, .sl .none 4 [[.int .i64 3, .str [112, 97, 105, 114], .int .i64 0, .sl .none 4 [[.int .i64 2, .str [97], .int .i64 4, .nils], [.int .i64 2, .str [101, 110, 100], .int .i64 5, .nils]]], [.int .i64 3, .str [112, 97, 105, 114], .int .i64 0, .sl .none 4 [[.int .i64 3, .str [112, 107], .int .i64 0, .sl .none 4 [[.int .i64 3, .str [115, 107], .int .i64 0, .sl .none 4 [[.int .i64 2, .str [97], .int .i64 1, .nils]]]]], [.int .i64 3, .str [112, 97, 105, 114], .int .i64 0, .sl .none 4 [[.int .i64 2, .str [110, 111], .int .i64 4, .nils], [.int .i64 3, .str [112, 97, 105, 114], .int .i64 0, .sl .none 4 [[.int .i64 2, .str [101, 110, 100], .int .i64 5, .nils], [.int .i64 3, .str [112, 97, 105, 114], .int .i64 0, .sl .none 4 [[.int .i64 2, .str [101, 110, 100], .int .i64 5, .nils], [.int .i64 3, .str [112, 97, 105, 114], .int .i64 0, .sl .none 4 [[.int .i64 2, .str [110, 49], .int .i64 4, .nils], [.int .i64 3, .str [112, 97, 105, 114], .int .i64 0, .sl .none 4 [[.int .i64 2, .str [110, 48], .int .i64 4, .nils], [.int .i64 2, .str [110, 57], .int .i64 4, .nils]]]]]]]]]]]]]]]]], [.int .i64 3, .str [115, 107], .int .i64 0, .sl .none 4 [[.int .i64 2, .str [114], .int .i64 1, .nils]]]]], .int .i64 0]⟩
theorem cok3 : okFact E0 100 60 cfact3 = true := by kernel_rfl
def cfact4 : Fact := ⟨13, [.agg [.int .i64 3, .str [115, 105, 103, 110], .int .i64 0, .sl .none 4 [[.int .i64 3, .str [112, 97, 105, 114], .int .i64 0, .sl .none 4 [[.int .i64 2, .str [99, 101, 114, 116], .int .i64 5, .nils], [.int .i64 3, .str [112, 97, 105, 114], .int .i64 0, .sl .none 4 [[.int .i64 3, .str [112, 97, 105, 114], .int .i64 0, .sl .none 4 [[.int .i64 2, .str [97], .int .i64 4, .nils], [.int .i64 2, .str [101, 110, 100], .int .i64 5, .nils]]], [.int .i64 3, .str [112, 97, 105, 114], .int .i64 0, .sl .none 4 [[.int .i64 3, .str [112, 107], .int .i64 0, .sl .none 4 [[.int .i64 3, .str [115, 107], .int .i64 0, .sl .none 4 [[.int .i64 2, .str [97], .int .i64 1, .nils]]]]], [.int .i64 3, .str [112, 97, 105, 114], .int .i64 0, .sl .none 4 [[.int .i64 2, .str [110, 111], .int .i64 4, .nils], [.int .i64 3, .str [112, 97, 105, 114], .int .i64 0, .sl .none 4 [[.int .i64 2, .str [101, 110, 100], .int .i64 5, .nils], [.int .i64 3, .str [112, 97, 105, 114], .int .i64 0, .sl .none 4 [[.int .i64 2, .str [101, 110, 100], .int .i64 5, .nils], [.int .i64 3, .str [112, 97, 105, 114], .int .i64 0, .sl .none 4 [[.int .i64 2, .str [110, 49], .int .i64 4, .nils], [.int .i64 3, .str [112, 97, 105, 114], .int .i64 0, .sl .none 4 [[.int .i64 2, .str [110, 48], .int .i64 4, .nils], [.int .i64 2, .str [110, 57], .int .i64 4, .nils]]]]]]]]]]]]]]]]], [.int .i64 3, .str [115, 107], .int .i64 0, .sl .none 4 [[.int .i64 2, .str [114], .int .i64 1, .nils]]]]], .agg [.int .i64 3, .str [115, 105, 103, 110], .int .i64 0, .sl .none 4 [[.int .i64 3, .str [112, 97, 105, 114], .int .i64 0, .sl .none 4 [[.int .i64 2, .str [99, 101, 114, 116], .int .i64 5, .nils], [.int .i64 3, .str [112, 97, 105, 114], .int .i64 0, .sl .none 4 [[.int .i64 3, .str [112, 97, 105, 114], .int .i64 0, .sl .none 4 [[.int .i64 2, .str [97], .int .i64 4, .nils], [.int .i64 2, .str [101, 110, 100], .int .i64 5, .nils]]], [.int .i64 3, .str [112, 97, 105, 114], .int .i64 0, .sl .none 4 [[.int .i64 3, .str [112, 107], .int .i64 0, .sl .none 4 [[.int .i64 3, .str [115, 107], .int .i64 0, .sl .none 4 [[.int .i64 2, .str [97], .int .i64 1, .nils]]]]], [.int .i64 3, .str [112, 97, 105, 114], .int .i64 0, .sl .none 4 [[.int .i64 2, .str [110, 111], .int .i64 4, .nils], [.int .i64 3, .str [112, 97, 105, 114], .int .i64 0, .sl .none 4 [[.int .i64 2, .str [101, 110, 100], .int .i64 5, .nils], [.int .i64 3, .str [112, 97, 105, 114], .int .i64 0, .sl .none 4 [[.int .i64 2, .str [101, 110, 100], .int .i64 5, .nils], [.int .i64 3, .str [112, 97, 105, 114], .int .i64 0, .sl .none 4 [[.int .i64 2, .str [110, 49], .int .i64 4, .nils], [.int .i64 3, .str [112, 97, 105, 114], .int .i64 0, .sl .none 4 [[.int .i64 2, .str [110, 48], .int .i64 4, .nils], [.int .i64 2, .str [110, 57], .int .i64 4, .nils]]]]]]]]]]]]]]]]], [.int .i64 3, .str [115, 107], .int .i64 0, .sl .none 4 [[.int .i64 2, .str [114], .int .i64 1, .nils]]]]]], .bool true⟩
def cfacts : List Fact := [cfact0, cfact1, cfact2, cfact3, cfact4]
end Go.Vm.Seat
namespace Go.Vm.Seat
open Go.Proofs
mutual
def okTm : Tm → Bool
 | .mk k nm s _ kids => (Lit.int .i64 k).wf && ((Lit.int .i64 s).wf && (Nat.ble nm.length 1000 && (Nat.ble kids.length 1000 && okTmL kids)))
def okTmL : List Tm → Bool
 | [] => true
 | t :: r => okTm t && okTmL r
end
mutual
theorem okTm_ok : ∀ t : Tm, okTm t = true → t.Ok
 | .mk k nm s b kids, h => by
   simp only [okTm, Bool.and_eq_true, Nat.ble_eq] at h
   obtain ⟨h1, h2, h3, h4, h5⟩ := h
   exact .mk h1 h2 (by unfold maxLen; omega) (by unfold maxLen; omega) (okTmL_ok kids h5)
theorem okTmL_ok : ∀ l : List Tm, okTmL l = true → ∀ t, t ∈ l → t.Ok
 | [], _, t, h => absurd h (by simp)
 | a :: r, h, t, ht => by
   simp only [okTmL, Bool.and_eq_true] at h
   rcases List.mem_cons.1 ht with e | ht
   · rw [e]; exact okTm_ok a h.1
   · exact okTmL_ok r h.2 t ht
end
def exT : Tm := (.mk 3 [115, 105, 103, 110] 0 false [(.mk 3 [112, 97, 105, 114] 0 false [(.mk 2 [99, 101, 114, 116] 5 true []), (.mk 3 [112, 97, 105, 114] 0 false [(.mk 3 [112, 97, 105, 114] 0 false [(.mk 2 [97] 4 true []), (.mk 2 [101, 110, 100] 5 true [])]), (.mk 3 [112, 97, 105, 114] 0 false [(.mk 3 [112, 107] 0 false [(.mk 3 [115, 107] 0 false [(.mk 2 [97] 1 true [])])]), (.mk 3 [112, 97, 105, 114] 0 false [(.mk 2 [110, 111] 4 true []), (.mk 3 [112, 97, 105, 114] 0 false [(.mk 2 [101, 110, 100] 5 true []), (.mk 3 [112, 97, 105, 114] 0 false [(.mk 2 [101, 110, 100] 5 true []), (.mk 3 [112, 97, 105, 114] 0 false [(.mk 2 [110, 49] 4 true []), (.mk 3 [112, 97, 105, 114] 0 false [(.mk 2 [110, 48] 4 true []), (.mk 2 [110, 57] 4 true [])])])])])])])])]), (.mk 3 [115, 107] 0 false [(.mk 2 [114] 1 true [])])])
theorem exOk : exT.Ok := okTm_ok exT (by kernel_rfl)
theorem exSize : Nat.ble exT.size 1000 = true := by kernel_rfl
theorem exArgs : cfact4.args = [.agg exT.cells, .agg exT.cells] := by kernel_rfl
theorem cgood4 : FactOk E0 Tryz.prog cfact4 := fun H => by
 have h := c13s exOk (by have := Nat.le_of_ble_eq_true exSize; omega) H
 rw [← exArgs] at h
 exact h
theorem cgood {x : Fact} (h : okFact E0 100 60 x = true) : FactOk E0 Tryz.prog x := okFact_ok tOk follows fOk zOk h
theorem call_nil {p : Fact → Prop} : ∀ x ∈ ([] : List Fact), p x := fun _ h => absurd h (by simp)
theorem call_cons {p : Fact → Prop} {a : Fact} {l : List Fact} (h : p a) (hl : ∀ x ∈ l, p x) : ∀ x ∈ a :: l, p x := fun x hx => by
 rcases List.mem_cons.1 hx with rfl | hx
 · exact h
 · exact hl x hx
theorem cfact_all : ∀ x ∈ cfacts, FactOk E0 Tryz.prog x :=
 call_cons (cgood cok0) (call_cons (cgood cok1) (call_cons (cgood cok2) (call_cons (cgood cok3) (call_cons cgood4 call_nil))))
theorem awakeFact5 : okFact (E0.knows cfacts) 100 60 ⟨8, [], .bool true⟩ = true := by kernel_rfl
theorem awakeOk5 : FactOk E0 Tryz.prog ⟨8, [], .bool true⟩ := by
 have h : FactOk (E0.knows cfacts) Tryz.prog ⟨8, [], .bool true⟩ := okFact_ok (E := E0.knows cfacts) ⟨tOk.1⟩ follows (knows_F fOk) (knows_calls cfact_all zOk) awakeFact5
 exact h.env rfl
end Go.Vm.Seat
