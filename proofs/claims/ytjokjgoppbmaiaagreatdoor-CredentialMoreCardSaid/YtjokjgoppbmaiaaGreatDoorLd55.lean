/-
  What the variables hold that the code of the credentials reads: the row's cell 'laid' gives it.
-/
import Derived.Test.YtjokjgoppbmaiaaGreatDoorDf
import Derived.Test.YtjokjgoppbmaiaaGreatDoorFi
import Derived.Test.YtjokjgoppbmaiaaGreatDoorRows
import Derived.ProofKit
import Derived.Stop.LaidErr
import Derived.Lib.LaidTab
namespace Go.Vm.Seat
open Go.Proofs Go.Proofs.YtjokjgoppbmaiaaGreatDoor Go.RowKit
set_option maxRecDepth 100000
theorem star0 : "*" ++ "errors.errorString" = "*errors.errorString" := by decide
theorem rowErr (u : TypeId) (h : Tryz.prog.typeName? 3 u = some "*errors.errorString") : u = 286 :=
 typeName_ptr_named (nm := "errors.errorString") (by rw [star0]; kernel_rfl) (by kernel_rfl) (by decide) u (by rw [star0]; exact h)
theorem ld55 {W : World} (h : laidMetH Tryz.prog Rows.credentialMoreRow.laid W) : GOk E0 (wG W) := by
 have h : laidMet Tryz.prog Rows.credentialMoreRow.laid W := h
 have h2 := h.tail.tail
 have hT : Lib.TabIs Tryz.prog W "internal/strconv.uint64pow10" .u64 [1, 10, 100, 1000, 10000, 100000, 1000000, 10000000, 100000000, 1000000000, 10000000000, 100000000000, 1000000000000, 10000000000000, 100000000000000, 1000000000000000, 10000000000000000, 100000000000000000, 1000000000000000000, 10000000000000000000] :=
  Lib.tabIs_of_head (g := 1) (t := 261) (e := 241) (n := 20) (by kernel_rfl) (by kernel_rfl) (by kernel_rfl) (by kernel_rfl) (by kernel_rfl) (by kernel_rfl) h2
 have h4 := h2.tail.tail
 obtain ⟨a1, s1, v1, -⟩ := laid_sentinel (g := 3) (ti := 194) h4 (by kernel_rfl) (by kernel_rfl) Tryz.underlying194 rowErr Tryz.underlying286 Tryz.underlying288 rfl rfl Tryz.underlying9 (by kernel_rfl) (by kernel_rfl)
 obtain ⟨a2, s2, v2, -⟩ := laid_sentinel (g := 2) (ti := 194) h4.tail (by kernel_rfl) (by kernel_rfl) Tryz.underlying194 rowErr Tryz.underlying286 Tryz.underlying288 rfl rfl Tryz.underlying9 (by kernel_rfl) (by kernel_rfl)
 refine ⟨fun k cs' hk => ?_, fun h => by simp [wG] at h, fun k hk => ?_⟩
 · simp only [E0] at hk
   split at hk
   · rename_i hb
     obtain rfl := Nat.eq_of_beq_eq_true hb
     cases hk
     refine .fptr pow10C 0 1 0 (fun j => (W.cell? ⟨1, j, none⟩).getD undef) (fun j hj => ?_) (fun j hj => ?_)
     · have hl : j < 20 := by simpa [pow10C] using hj
       show wS W 1 (0 + j) = _
       simp only [wS, Nat.zero_add]
       rw [hT.cell (by kernel_rfl) j (by simpa using hl)]
       rfl
     · have hl : j < 20 := by simpa [pow10C] using hj
       rw [hT.cell (by kernel_rfl) j (by simpa using hl)]
       match j, hl with
       | 0, _ | 1, _ | 2, _ | 3, _ | 4, _ | 5, _ | 6, _ | 7, _ | 8, _ | 9, _ | 10, _ | 11, _ | 12, _ | 13, _ | 14, _ | 15, _ | 16, _ | 17, _ | 18, _ | 19, _ => exact .int _ _
       | n + 20, h => exact absurd h (by omega)
   · cases hk
 · have hk : k = 2 ∨ k = 3 := by
     simp only [E0, List.any_cons, List.any_nil, Bool.or_false, Bool.or_eq_true] at hk
     rcases hk with e | e
     · exact .inl (Nat.eq_of_beq_eq_true e)
     · exact .inr (Nat.eq_of_beq_eq_true e)
   rcases hk with rfl | rfl
   · have c := World.var?_cell (show Tryz.prog.globalNamed "strconv.ErrSyntax" = some 2 by kernel_rfl) v2 0
     exact ⟨_, _, c⟩
   · have c := World.var?_cell (show Tryz.prog.globalNamed "strconv.ErrRange" = some 3 by kernel_rfl) v1 0
     exact ⟨_, _, c⟩
end Go.Vm.Seat
