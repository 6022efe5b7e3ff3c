/-
  DERIVED. GIVEN WITH THE SEED: THE CARDS: each row of YtnghnjdabbjcnaaGreatDoorRows.lean that lists a variable, with what it lists TIED to the program's text (the seventh form; the later family's looks); each row that meets fmt, with fmt's text TOLD by the authors' own Lean function (tested against real Go, not proved from fmt's source: count such statements apart). THE CARD IS WHAT COUNTS. Prove the row's statement (the work); the ties are given (YtnghnjdabbjcnaaGreatDoorTie.lean); close each card by the builder's one call (the guide's Derived/Test/ToyasCard.lean, 'card_holds'). Laid BY PROGRAM, IN A SANDBOX (cutbox-door.mjs). By AI agents, Wed Nov 11 2026. No macro, syntax, notation, axiom, sorry.
-/
import Derived.Test.YtnghnjdabbjcnaaGreatDoorRows
import GoSem.ClaimSeven
namespace Go.Proofs.YtnghnjdabbjcnaaGreatDoor
namespace Rows

/-- THE TIED CARD OF 'sealringlaw28.EventValid'. -/
def eventValidCard : Claim7 := { stood := { row := eventValidRow, standIns := [], harness := (true, "fb8f6affb40d1035c487651fb1521ec3b1902a08c0eacdaebebe9e3016acad36"), looks := true }, kinds := [], alts := [], laidByText := true, laidKinds := [.data, .data, .data, .data, .sentinel, .sentinel, .widerDeep, .pinned], laidTests := true, laidLooks := .later }
def EventValidCardSaid : Prop := Claim7.holds Tryz.pinned (.plain (OpenSpec.ofChange eventValidSpec)) eventValidCard

/-- THE TIED CARD OF 'sealringlaw28.EventParse'. -/
def eventParseCard : Claim7 := { stood := { row := eventParseRow, standIns := [], harness := (true, "fb8f6affb40d1035c487651fb1521ec3b1902a08c0eacdaebebe9e3016acad36"), looks := true }, kinds := [], alts := [], laidByText := true, laidKinds := [.data, .data, .data, .data, .sentinel, .sentinel, .widerDeep, .pinned], laidTests := true, laidLooks := .later }
def EventParseCardSaid : Prop := Claim7.holds Tryz.pinned (.plain (OpenSpec.ofChange eventParseSpec)) eventParseCard

/-- THE SECOND FORM's CARD OF 'sealringlaw28.EventValid'. -/
def eventValidUptoCard : Claim7 := { stood := { row := eventValidUptoRow, standIns := [], harness := (true, "fb8f6affb40d1035c487651fb1521ec3b1902a08c0eacdaebebe9e3016acad36"), looks := true }, kinds := [], alts := [], laidByText := true, laidKinds := [.data, .data, .data, .data, .sentinel, .sentinel, .widerDeep, .pinned], laidTests := true, laidLooks := .later }
def EventValidUptoCardSaid : Prop := Claim7.holds Tryz.pinned (.plain (OpenSpec.upto eventValidSpec)) eventValidUptoCard

/-- THE SECOND FORM's CARD OF 'sealringlaw28.EventParse'. -/
def eventParseUptoCard : Claim7 := { stood := { row := eventParseUptoRow, standIns := [], harness := (true, "fb8f6affb40d1035c487651fb1521ec3b1902a08c0eacdaebebe9e3016acad36"), looks := true }, kinds := [], alts := [], laidByText := true, laidKinds := [.data, .data, .data, .data, .sentinel, .sentinel, .widerDeep, .pinned], laidTests := true, laidLooks := .later }
def EventParseUptoCardSaid : Prop := Claim7.holds Tryz.pinned (.plain (OpenSpec.upto eventParseSpec)) eventParseUptoCard
end Rows
end Go.Proofs.YtnghnjdabbjcnaaGreatDoor
