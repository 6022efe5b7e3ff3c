/-
  The oracles of this seat.
-/
import Derived.Test.YtajpkolimokcdaaGreatDoorCrSpec
import Derived.Test.YtajpkolimokcdaaGreatDoorAwShelf
namespace Go.Vm.Seat
open Go.Proofs Go.RowKit Go.Lib
set_option maxRecDepth 100000
theorem z287 : ZOk E0 Tryz.prog (287, idxZ) := idx_ok Tryz.func287 (by kernel_rfl) (by kernel_rfl) (by kernel_rfl) (by kernel_rfl)
theorem z281 : ZOk E0 Tryz.prog (281, cntZ) := cnt_ok Tryz.func281 (by kernel_rfl) (by kernel_rfl) (by kernel_rfl) (by kernel_rfl)
theorem z128 : ZOk E0 Tryz.prog (128, joinZ) := join_ok fe128.ok rfl (fun a c sep w => Tryz.strings_Join_none a c sep w) fun bk o c xs sep w h1 h2 h3 h4 h5 => Tryz.strings_Join bk o c xs sep w h1 h2 h3 h4 h5
theorem z237 : ZOk E0 Tryz.prog (237, ccZ 179) := cc_ok fe237.ok (fun b w h0 h1 h2 => Any.Builder_copyCheck_fresh { Tryz.lays156 with } Tryz.Builder_Extra_156.toX72 b w h0 h1 h2) (fun b w h0 => Any.Builder_copyCheck_used { Tryz.lays156 with } Tryz.Builder_Extra_156.toX72 b w h0) (by kernel_rfl)
set_option maxHeartbeats 2000000 in
theorem bstr_nil (b : Nat) (p : Value) (w : World) (hbk : w.heap[b]? = some (.cells #[p, .slice none 0 0] 179 (0, 0))) :
  Calls Tryz.prog 187 #[.pointer (some ⟨b, 0, none⟩)] w fun e w' => e = .returned (.string ⟨#[]⟩) ∧ w' = w.drew := by
 have hUS : ∀ pt it ty W, (Builtin.unsafeString_ #[pt, it] ty #[.pointer none, .int .i64 0]).run Tryz.prog W = .ok (.string .empty) W := fun pt it ty W => Lib.run_unsafeString_none W _ _ _ none
 have c1 : w.drew.cell? ⟨b, 1, none⟩ = some (.slice none 0 0) := by
  have : w.drew.heap[b]? = some (.cells #[p, .slice none 0 0] 179 (0, 0)) := hbk
  rw [Lib.cell_of_heap this]; rfl
 have hSD : ∀ ts ty, (Builtin.unsafeSliceData_ ts ty #[.slice none 0 0]).run Tryz.prog w.drew = .ok (.pointer none) w.drew := fun _ _ => rfl
 have mixed := follows
 go_enter Tryz.func187, Tryz.ntmps187
 go_wp2
 go_region_o
 all_goals (go_wp2; go_ret; exact ⟨rfl, rfl⟩)
set_option maxHeartbeats 2000000 in
theorem bstr_some (b : Nat) (p : Value) (bb o cap : Nat) (cur : Array Value) (l : List UInt8) (w : World) (hbk : w.heap[b]? = some (.cells #[p, .slice (some ⟨bb, o, none⟩) l.length cap] 179 (0, 0))) (hg : w.heap[bb]? = some (.cells cur 5 (0, 0))) (h0 : l ≠ []) (hn : l.length ≤ cap) (hcs : o + cap ≤ cur.size) (hm : l.length ≤ 1000000)
  (hcell : ∀ j x, l[j]? = some x → w.cell? ⟨bb, o + j, none⟩ = some (.int .u8 x.toNat)) :
  Calls Tryz.prog 187 #[.pointer (some ⟨b, 0, none⟩)] w fun e w' => e = .returned (.string ⟨l.toArray⟩) ∧ w' = w.drew.freeze ⟨bb, o, none⟩ l.length := by
 have hl0 : l.length ≠ 0 := by simpa using h0
 have c1 : w.drew.cell? ⟨b, 1, none⟩ = some (.slice (some ⟨bb, o, none⟩) l.length cap) := by
  have : w.drew.heap[b]? = some (.cells #[p, .slice (some ⟨bb, o, none⟩) l.length cap] 179 (0, 0)) := hbk
  rw [Lib.cell_of_heap this]; rfl
 have hc5 : Tryz.prog.cellsOf 5 = 1 := by kernel_rfl
 have hSD : ∀ ts ty, (Builtin.unsafeSliceData_ ts ty #[.slice (some ⟨bb, o, none⟩) l.length cap]).run Tryz.prog w.drew = .ok (.pointer (some ⟨bb, o, none⟩)) w.drew := fun _ _ =>
  Lib.run_unsafeSliceData_row _ _ _ _ _ _ (by omega)
 have hUS : ∀ it ty, (Builtin.unsafeString_ #[209, it] ty #[.pointer (some ⟨bb, o, none⟩), .int .i64 l.length]).run Tryz.prog w.drew = .ok (.string ⟨l.toArray⟩) (w.drew.freeze ⟨bb, o, none⟩ l.length) := fun it ty =>
  run_unsafeString_at w.drew _ it ty 5 Tryz.underlying209 hc5 bb o cur.size (by have hg' : w.drew.heap[bb]? = some (.cells cur 5 (0, 0)) := hg; simp [World.shape?, hg']) l h0 (by omega) (by omega) (fun j x hj => by
   have := hcell j x hj
   rw [add_plain']
   exact this)
 clear hbk hg hn hcs hm hcell h0
 have mixed := follows
 go_enter Tryz.func187, Tryz.ntmps187
 go_wp2
 go_region_o
 all_goals (go_wp2; go_ret; exact ⟨rfl, rfl⟩)
theorem z187 : ZOk E0 Tryz.prog (187, bstrZ 179) := bstr_ok fe187.ok bstr_nil bstr_some (by kernel_rfl)
theorem z267 : ZOk E0 Tryz.prog (267, cmpZ) := cmp_ok Tryz.func267 (by kernel_rfl) (by kernel_rfl) (by kernel_rfl) (by kernel_rfl)
theorem z1_267 : ZOk E1 Tryz.prog (267, cmpZ) := cmp_ok Tryz.func267 (by kernel_rfl) (by kernel_rfl) (by kernel_rfl) (by kernel_rfl)
theorem zOk : CallsOk E0 Tryz.prog E0.Z := findZ_ok (zok_cons z287 (zok_cons z281 (zok_cons z128 (zok_cons z237 (zok_cons z187 (zok_cons z267 zok_nil))))))
end Go.Vm.Seat
