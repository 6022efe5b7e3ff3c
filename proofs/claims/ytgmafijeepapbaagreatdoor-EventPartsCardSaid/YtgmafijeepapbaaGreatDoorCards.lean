/-
  DERIVED. GIVEN WITH THE SEED: THE CARDS: each row of YtgmafijeepapbaaGreatDoorRows.lean that lists a variable, with what it lists TIED to the program's text (the seventh form; the later family's looks); each row that meets fmt, with fmt's text TOLD by the authors' own Lean function (tested against real Go, not proved from fmt's source: count such statements apart). THE CARD IS WHAT COUNTS. Prove the row's statement (the work); the ties are given (YtgmafijeepapbaaGreatDoorTie.lean); close each card by the builder's one call (the guide's Derived/Test/ToyasCard.lean, 'card_holds'). Laid BY PROGRAM, IN A SANDBOX (cutbox-door.mjs). By AI agents, Wed Nov 11 2026. No macro, syntax, notation, axiom, sorry.
-/
import Derived.Test.YtgmafijeepapbaaGreatDoorRows
import GoSem.ClaimSeven
namespace Go.Proofs.YtgmafijeepapbaaGreatDoor
namespace Rows

/-- THE TIED CARD OF 'sealringlaw28.EventKnowledge'. -/
def eventKnowledgeCard : Claim7 := { stood := { row := eventKnowledgeRow, standIns := [], harness := (true, "0d1f1af8f81ffcb6976bf71fd42fd2b0a8da9904accabbe291f9e7283567d75b"), looks := false }, kinds := [], alts := [], laidByText := true, laidKinds := [.data, .data, .data, .widerDeep], laidTests := true, laidLooks := .later }
def EventKnowledgeCardSaid : Prop := Claim7.holds Tryz.pinned (.plain (OpenSpec.ofChange eventKnowledgeSpec)) eventKnowledgeCard

/-- THE TIED CARD OF 'sealringlaw28.EventParts'. -/
def eventPartsCard : Claim7 := { stood := { row := eventPartsRow, standIns := [], harness := (true, "0d1f1af8f81ffcb6976bf71fd42fd2b0a8da9904accabbe291f9e7283567d75b"), looks := false }, kinds := [], alts := [], laidByText := true, laidKinds := [.data, .data, .data, .widerDeep], laidTests := true, laidLooks := .later }
def EventPartsCardSaid : Prop := Claim7.holds Tryz.pinned (.plain (OpenSpec.ofChange eventPartsSpec)) eventPartsCard

/-- THE TIED CARD OF 'sealringlaw28.EventRename'. -/
def eventRenameCard : Claim7 := { stood := { row := eventRenameRow, standIns := [], harness := (true, "0d1f1af8f81ffcb6976bf71fd42fd2b0a8da9904accabbe291f9e7283567d75b"), looks := false }, kinds := [], alts := [], laidByText := true, laidKinds := [.data, .data, .data, .widerDeep], laidTests := true, laidLooks := .later }
def EventRenameCardSaid : Prop := Claim7.holds Tryz.pinned (.plain (OpenSpec.ofChange eventRenameSpec)) eventRenameCard

/-- THE SECOND FORM's CARD OF 'sealringlaw28.EventKnowledge'. -/
def eventKnowledgeUptoCard : Claim7 := { stood := { row := eventKnowledgeUptoRow, standIns := [], harness := (true, "0d1f1af8f81ffcb6976bf71fd42fd2b0a8da9904accabbe291f9e7283567d75b"), looks := false }, kinds := [], alts := [], laidByText := true, laidKinds := [.data, .data, .data, .widerDeep], laidTests := true, laidLooks := .later }
def EventKnowledgeUptoCardSaid : Prop := Claim7.holds Tryz.pinned (.plain (OpenSpec.upto eventKnowledgeSpec)) eventKnowledgeUptoCard

/-- THE SECOND FORM's CARD OF 'sealringlaw28.EventParts'. -/
def eventPartsUptoCard : Claim7 := { stood := { row := eventPartsUptoRow, standIns := [], harness := (true, "0d1f1af8f81ffcb6976bf71fd42fd2b0a8da9904accabbe291f9e7283567d75b"), looks := false }, kinds := [], alts := [], laidByText := true, laidKinds := [.data, .data, .data, .widerDeep], laidTests := true, laidLooks := .later }
def EventPartsUptoCardSaid : Prop := Claim7.holds Tryz.pinned (.plain (OpenSpec.upto eventPartsSpec)) eventPartsUptoCard

/-- THE SECOND FORM's CARD OF 'sealringlaw28.EventRename'. -/
def eventRenameUptoCard : Claim7 := { stood := { row := eventRenameUptoRow, standIns := [], harness := (true, "0d1f1af8f81ffcb6976bf71fd42fd2b0a8da9904accabbe291f9e7283567d75b"), looks := false }, kinds := [], alts := [], laidByText := true, laidKinds := [.data, .data, .data, .widerDeep], laidTests := true, laidLooks := .later }
def EventRenameUptoCardSaid : Prop := Claim7.holds Tryz.pinned (.plain (OpenSpec.upto eventRenameSpec)) eventRenameUptoCard
end Rows
end Go.Proofs.YtgmafijeepapbaaGreatDoor
