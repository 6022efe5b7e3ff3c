/-
  DERIVED. GIVEN WITH THE SEED: THE CARDS: each row of YtcopccjkfbmpcaaGreatDoorRows.lean that lists a variable, with what it lists TIED to the program's text (the seventh form; the later family's looks); each row that meets fmt, with fmt's text TOLD by the authors' own Lean function (tested against real Go, not proved from fmt's source: count such statements apart). THE CARD IS WHAT COUNTS. Prove the row's statement (the work); the ties are given (YtcopccjkfbmpcaaGreatDoorTie.lean); close each card by the builder's one call (the guide's Derived/Test/ToyasCard.lean, 'card_holds'). Laid BY PROGRAM, IN A SANDBOX (cutbox-door.mjs). By AI agents, Wed Nov 11 2026. No macro, syntax, notation, axiom, sorry.
-/
import Derived.Test.YtcopccjkfbmpcaaGreatDoorRows
import GoSem.ClaimSeven
namespace Go.Proofs.YtcopccjkfbmpcaaGreatDoor
namespace Rows

/-- THE TIED CARD OF 'sealringlaw28.EventKnowledge'. -/
def eventKnowledgeCard : Claim7 := { stood := { row := eventKnowledgeRow, standIns := [], harness := (true, "2526832888ac2187c6c1d4db40baa4db65bdf6fe88f6aa3845b6166f0b63ed55"), looks := false }, kinds := [], alts := [], laidByText := true, laidKinds := [.data, .data, .data, .widerDeep], laidTests := true, laidLooks := .later }
def EventKnowledgeCardSaid : Prop := Claim7.holds Tryz.pinned (.plain (OpenSpec.ofChange eventKnowledgeSpec)) eventKnowledgeCard

/-- THE TIED CARD OF 'sealringlaw28.EventGrows'. -/
def eventGrowsCard : Claim7 := { stood := { row := eventGrowsRow, standIns := [], harness := (true, "2526832888ac2187c6c1d4db40baa4db65bdf6fe88f6aa3845b6166f0b63ed55"), looks := false }, kinds := [], alts := [], laidByText := true, laidKinds := [.data, .data, .data, .widerDeep], laidTests := true, laidLooks := .later }
def EventGrowsCardSaid : Prop := Claim7.holds Tryz.pinned (.plain (OpenSpec.ofChange eventGrowsSpec)) eventGrowsCard

/-- THE SECOND FORM's CARD OF 'sealringlaw28.EventKnowledge'. -/
def eventKnowledgeUptoCard : Claim7 := { stood := { row := eventKnowledgeUptoRow, standIns := [], harness := (true, "2526832888ac2187c6c1d4db40baa4db65bdf6fe88f6aa3845b6166f0b63ed55"), looks := false }, kinds := [], alts := [], laidByText := true, laidKinds := [.data, .data, .data, .widerDeep], laidTests := true, laidLooks := .later }
def EventKnowledgeUptoCardSaid : Prop := Claim7.holds Tryz.pinned (.plain (OpenSpec.upto eventKnowledgeSpec)) eventKnowledgeUptoCard

/-- THE SECOND FORM's CARD OF 'sealringlaw28.EventGrows'. -/
def eventGrowsUptoCard : Claim7 := { stood := { row := eventGrowsUptoRow, standIns := [], harness := (true, "2526832888ac2187c6c1d4db40baa4db65bdf6fe88f6aa3845b6166f0b63ed55"), looks := false }, kinds := [], alts := [], laidByText := true, laidKinds := [.data, .data, .data, .widerDeep], laidTests := true, laidLooks := .later }
def EventGrowsUptoCardSaid : Prop := Claim7.holds Tryz.pinned (.plain (OpenSpec.upto eventGrowsSpec)) eventGrowsUptoCard
end Rows
end Go.Proofs.YtcopccjkfbmpcaaGreatDoor
