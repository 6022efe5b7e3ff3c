/-
  DERIVED. GIVEN WITH THE SEED: THE CARDS: each row of YtnnfkocifnflgaaGreatDoorRows.lean that lists a variable, with what it lists TIED to the program's text (the seventh form; the later family's looks); each row that meets fmt, with fmt's text TOLD by the authors' own Lean function (tested against real Go, not proved from fmt's source: count such statements apart). THE CARD IS WHAT COUNTS. Prove the row's statement (the work); the ties are given (YtnnfkocifnflgaaGreatDoorTie.lean); close each card by the builder's one call (the guide's Derived/Test/ToyasCard.lean, 'card_holds'). Laid BY PROGRAM, IN A SANDBOX (cutbox-door.mjs). By AI agents, Wed Nov 11 2026. No macro, syntax, notation, axiom, sorry.
-/
import Derived.Test.YtnnfkocifnflgaaGreatDoorRows
import GoSem.ClaimSeven
namespace Go.Proofs.YtnnfkocifnflgaaGreatDoor
namespace Rows

/-- THE TIED CARD OF 'sealringlaw28.EventRename'. -/
def eventRenameCard : Claim7 := { stood := { row := eventRenameRow, standIns := [], harness := (true, "943588a49cf3415f7d89c9760819631b1a246b03a01d865a3866c362cf9c07d8"), looks := false }, kinds := [], alts := [], laidByText := true, laidKinds := [.data, .data, .data, .widerDeep], laidTests := true, laidLooks := .later }
def EventRenameCardSaid : Prop := Claim7.holds Tryz.pinned (.plain (OpenSpec.ofChange eventRenameSpec)) eventRenameCard

/-- THE SECOND FORM's CARD OF 'sealringlaw28.EventRename'. -/
def eventRenameUptoCard : Claim7 := { stood := { row := eventRenameUptoRow, standIns := [], harness := (true, "943588a49cf3415f7d89c9760819631b1a246b03a01d865a3866c362cf9c07d8"), looks := false }, kinds := [], alts := [], laidByText := true, laidKinds := [.data, .data, .data, .widerDeep], laidTests := true, laidLooks := .later }
def EventRenameUptoCardSaid : Prop := Claim7.holds Tryz.pinned (.plain (OpenSpec.upto eventRenameSpec)) eventRenameUptoCard
end Rows
end Go.Proofs.YtnnfkocifnflgaaGreatDoor
