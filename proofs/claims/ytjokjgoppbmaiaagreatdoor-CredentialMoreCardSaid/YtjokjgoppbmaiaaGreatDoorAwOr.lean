/-
  The oracles of this seat.
-/
import Derived.Test.YtjokjgoppbmaiaaGreatDoorCrSpec
import Derived.Test.YtjokjgoppbmaiaaGreatDoorAwShelf
set_option maxHeartbeats 64000000
set_option maxRecDepth 100000
namespace Go.Vm.Seat
open Go.Proofs Go.RowKit Go.Lib
theorem z299 : ZOk E0 Tryz.prog (299, idxZ) := idx_ok Tryz.func299 (by kernel_rfl) (by kernel_rfl) (by kernel_rfl) (by kernel_rfl)
theorem z295 : ZOk E0 Tryz.prog (295, cntZ) := cnt_ok Tryz.func295 (by kernel_rfl) (by kernel_rfl) (by kernel_rfl) (by kernel_rfl)
theorem z203 : ZOk E0 Tryz.prog (203, joinZ) := join_ok fe203.ok rfl (fun a c sep w => Tryz.strings_Join_none a c sep w) fun bk o c xs sep w h1 h2 h3 h4 h5 => Tryz.strings_Join bk o c xs sep w h1 h2 h3 h4 h5
theorem z281 : ZOk E0 Tryz.prog (281, ccZ 224) := cc_ok fe281.ok (fun b w h0 h1 h2 => Any.Builder_copyCheck_fresh { Tryz.lays156 with } Tryz.Builder_Extra_156.toX72 b w h0 h1 h2) (fun b w h0 => Any.Builder_copyCheck_used { Tryz.lays156 with } Tryz.Builder_Extra_156.toX72 b w h0) (by kernel_rfl)
theorem bstr_nil (b : Nat) (p : Value) (w : World) (hbk : w.heap[b]? = some (.cells #[p, .slice none 0 0] 224 (0, 0))) :
  Calls Tryz.prog 250 #[.pointer (some ⟨b, 0, none⟩)] w fun e w' => e = .returned (.string ⟨#[]⟩) ∧ w' = w.drew := by
 have hUS : ∀ pt it ty W, (Builtin.unsafeString_ #[pt, it] ty #[.pointer none, .int .i64 0]).run Tryz.prog W = .ok (.string .empty) W := fun pt it ty W => Lib.run_unsafeString_none W _ _ _ none
 have c1 : w.drew.cell? ⟨b, 1, none⟩ = some (.slice none 0 0) := by
  have : w.drew.heap[b]? = some (.cells #[p, .slice none 0 0] 224 (0, 0)) := hbk
  rw [Lib.cell_of_heap this]; rfl
 have hSD : ∀ ts ty, (Builtin.unsafeSliceData_ ts ty #[.slice none 0 0]).run Tryz.prog w.drew = .ok (.pointer none) w.drew := fun _ _ => rfl
 have mixed := follows
 go_enter Tryz.func250, Tryz.ntmps250
 go_wp2
 go_region_o
 all_goals (go_wp2; go_ret; exact ⟨rfl, rfl⟩)
theorem bstr_some (b : Nat) (p : Value) (bb o cap : Nat) (cur : Array Value) (l : List UInt8) (w : World) (hbk : w.heap[b]? = some (.cells #[p, .slice (some ⟨bb, o, none⟩) l.length cap] 224 (0, 0))) (hg : w.heap[bb]? = some (.cells cur 5 (0, 0))) (h0 : l ≠ []) (hn : l.length ≤ cap) (hcs : o + cap ≤ cur.size) (hm : l.length ≤ 1000000)
  (hcell : ∀ j x, l[j]? = some x → w.cell? ⟨bb, o + j, none⟩ = some (.int .u8 x.toNat)) :
  Calls Tryz.prog 250 #[.pointer (some ⟨b, 0, none⟩)] w fun e w' => e = .returned (.string ⟨l.toArray⟩) ∧ w' = w.drew.freeze ⟨bb, o, none⟩ l.length := by
 have hl0 : l.length ≠ 0 := by simpa using h0
 have c1 : w.drew.cell? ⟨b, 1, none⟩ = some (.slice (some ⟨bb, o, none⟩) l.length cap) := by
  have : w.drew.heap[b]? = some (.cells #[p, .slice (some ⟨bb, o, none⟩) l.length cap] 224 (0, 0)) := hbk
  rw [Lib.cell_of_heap this]; rfl
 have hc5 : Tryz.prog.cellsOf 5 = 1 := by kernel_rfl
 have hSD : ∀ ts ty, (Builtin.unsafeSliceData_ ts ty #[.slice (some ⟨bb, o, none⟩) l.length cap]).run Tryz.prog w.drew = .ok (.pointer (some ⟨bb, o, none⟩)) w.drew := fun _ _ =>
  Lib.run_unsafeSliceData_row _ _ _ _ _ _ (by omega)
 have hUS : ∀ it ty, (Builtin.unsafeString_ #[246, it] ty #[.pointer (some ⟨bb, o, none⟩), .int .i64 l.length]).run Tryz.prog w.drew = .ok (.string ⟨l.toArray⟩) (w.drew.freeze ⟨bb, o, none⟩ l.length) := fun it ty =>
  run_unsafeString_at w.drew _ it ty 5 Tryz.underlying246 hc5 bb o cur.size (by have hg' : w.drew.heap[bb]? = some (.cells cur 5 (0, 0)) := hg; simp [World.shape?, hg']) l h0 (by omega) (by omega) (fun j x hj => by
   have := hcell j x hj
   rw [add_plain']
   exact this)
 clear hbk hg hn hcs hm hcell h0
 have mixed := follows
 go_enter Tryz.func250, Tryz.ntmps250
 go_wp2
 go_region_o
 all_goals (go_wp2; go_ret; exact ⟨rfl, rfl⟩)
theorem z250 : ZOk E0 Tryz.prog (250, bstrZ 224) := bstr_ok fe250.ok bstr_nil bstr_some (by kernel_rfl)
theorem z263 : ZOk E0 Tryz.prog (263, cmpZ) := cmp_ok Tryz.func263 (by kernel_rfl) (by kernel_rfl) (by kernel_rfl) (by kernel_rfl)
theorem z1_263 : ZOk E1 Tryz.prog (263, cmpZ) := cmp_ok Tryz.func263 (by kernel_rfl) (by kernel_rfl) (by kernel_rfl) (by kernel_rfl)
theorem zOk : CallsOk E0 Tryz.prog E0.Z := findZ_ok (zok_cons z299 (zok_cons z295 (zok_cons z203 (zok_cons z281 (zok_cons z250 (zok_cons z263 zok_nil))))))
end Go.Vm.Seat
