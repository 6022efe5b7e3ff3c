/-
  DERIVED. GIVEN WITH THE SEED: THE CARDS: each row of YtfiflgphoepgeaaGreatDoorRows.lean that lists a variable, with what it lists TIED to the program's text (the seventh form; the later family's looks); each row that meets fmt, with fmt's text TOLD by the authors' own Lean function (tested against real Go, not proved from fmt's source: count such statements apart). THE CARD IS WHAT COUNTS. Prove the row's statement (the work); the ties are given (YtfiflgphoepgeaaGreatDoorTie.lean); close each card by the builder's one call (the guide's Derived/Test/ToyasCard.lean, 'card_holds'). Laid BY PROGRAM, IN A SANDBOX (cutbox-door.mjs). By AI agents, Wed Nov 11 2026. No macro, syntax, notation, axiom, sorry.
-/
import Derived.Test.YtfiflgphoepgeaaGreatDoorRows
import GoSem.ClaimSeven
namespace Go.Proofs.YtfiflgphoepgeaaGreatDoor
namespace Rows

/-- THE TIED CARD OF 'sealringlaw28.EventTwice'. -/
def eventTwiceCard : Claim7 := { stood := { row := eventTwiceRow, standIns := [], harness := (true, "a4fbc7f8478aa2fc323bca67c0a0170eed4f952951e06ea1781d4ab15ac21fee"), looks := false }, kinds := [], alts := [], laidByText := true, laidKinds := [.data, .data, .data, .widerDeep], laidTests := true, laidLooks := .later }
def EventTwiceCardSaid : Prop := Claim7.holds Tryz.pinned (.plain (OpenSpec.ofChange eventTwiceSpec)) eventTwiceCard

/-- THE SECOND FORM's CARD OF 'sealringlaw28.EventTwice'. -/
def eventTwiceUptoCard : Claim7 := { stood := { row := eventTwiceUptoRow, standIns := [], harness := (true, "a4fbc7f8478aa2fc323bca67c0a0170eed4f952951e06ea1781d4ab15ac21fee"), looks := false }, kinds := [], alts := [], laidByText := true, laidKinds := [.data, .data, .data, .widerDeep], laidTests := true, laidLooks := .later }
def EventTwiceUptoCardSaid : Prop := Claim7.holds Tryz.pinned (.plain (OpenSpec.upto eventTwiceSpec)) eventTwiceUptoCard
end Rows
end Go.Proofs.YtfiflgphoepgeaaGreatDoor
