/-
  DERIVED. GIVEN WITH THE SEED: THE CARDS: each row of YtkaocdljkonfaaaGreatDoorRows.lean that lists a variable, with what it lists TIED to the program's text (the seventh form; the later family's looks); each row that meets fmt, with fmt's text TOLD by the authors' own Lean function (tested against real Go, not proved from fmt's source: count such statements apart). THE CARD IS WHAT COUNTS. Prove the row's statement (the work); the ties are given (YtkaocdljkonfaaaGreatDoorTie.lean); close each card by the builder's one call (the guide's Derived/Test/ToyasCard.lean, 'card_holds'). Laid BY PROGRAM, IN A SANDBOX (cutbox-door.mjs). By AI agents, Wed Nov 11 2026. No macro, syntax, notation, axiom, sorry.
-/
import Derived.Test.YtkaocdljkonfaaaGreatDoorRows
import GoSem.ClaimSeven
namespace Go.Proofs.YtkaocdljkonfaaaGreatDoor
namespace Rows

/-- THE TIED CARD OF 'sealringlaw57.KeyserviceValid'. -/
def keyserviceValidCard : Claim7 := { stood := { row := keyserviceValidRow, standIns := [], harness := (true, "9bcaace032b3b54e90aee32dcd0f5a477edf8588a29f6367342d9946d0fb2a69"), looks := true }, kinds := [], alts := [], laidByText := true, laidKinds := [.data, .data, .data, .data, .sentinel, .sentinel, .pinned], laidTests := true, laidLooks := .later }
def KeyserviceValidCardSaid : Prop := Claim7.holds Tryz.pinned (.plain (OpenSpec.ofChange keyserviceValidSpec)) keyserviceValidCard

/-- THE TIED CARD OF 'sealringlaw57.KeyserviceAnswer'. -/
def keyserviceAnswerCard : Claim7 := { stood := { row := keyserviceAnswerRow, standIns := [], harness := (true, "9bcaace032b3b54e90aee32dcd0f5a477edf8588a29f6367342d9946d0fb2a69"), looks := true }, kinds := [], alts := [], laidByText := true, laidKinds := [.data, .data, .data, .data, .sentinel, .sentinel, .pinned], laidTests := true, laidLooks := .later }
def KeyserviceAnswerCardSaid : Prop := Claim7.holds Tryz.pinned (.plain (OpenSpec.ofChange keyserviceAnswerSpec)) keyserviceAnswerCard

/-- THE TIED CARD OF 'sealringlaw57.KeyserviceIncluded'. -/
def keyserviceIncludedCard : Claim7 := { stood := { row := keyserviceIncludedRow, standIns := [], harness := (true, "9bcaace032b3b54e90aee32dcd0f5a477edf8588a29f6367342d9946d0fb2a69"), looks := true }, kinds := [], alts := [], laidByText := true, laidKinds := [.data, .data, .data, .data, .sentinel, .sentinel, .pinned], laidTests := true, laidLooks := .later }
def KeyserviceIncludedCardSaid : Prop := Claim7.holds Tryz.pinned (.plain (OpenSpec.ofChange keyserviceIncludedSpec)) keyserviceIncludedCard

/-- THE TIED CARD OF 'sealringlaw57.KeyserviceChanges'. -/
def keyserviceChangesCard : Claim7 := { stood := { row := keyserviceChangesRow, standIns := [], harness := (true, "9bcaace032b3b54e90aee32dcd0f5a477edf8588a29f6367342d9946d0fb2a69"), looks := true }, kinds := [], alts := [], laidByText := true, laidKinds := [.data, .data, .data, .data, .sentinel, .sentinel, .pinned], laidTests := true, laidLooks := .later }
def KeyserviceChangesCardSaid : Prop := Claim7.holds Tryz.pinned (.plain (OpenSpec.ofChange keyserviceChangesSpec)) keyserviceChangesCard

/-- THE SECOND FORM's CARD OF 'sealringlaw57.KeyserviceValid'. -/
def keyserviceValidUptoCard : Claim7 := { stood := { row := keyserviceValidUptoRow, standIns := [], harness := (true, "9bcaace032b3b54e90aee32dcd0f5a477edf8588a29f6367342d9946d0fb2a69"), looks := true }, kinds := [], alts := [], laidByText := true, laidKinds := [.data, .data, .data, .data, .sentinel, .sentinel, .pinned], laidTests := true, laidLooks := .later }
def KeyserviceValidUptoCardSaid : Prop := Claim7.holds Tryz.pinned (.plain (OpenSpec.upto keyserviceValidSpec)) keyserviceValidUptoCard

/-- THE SECOND FORM's CARD OF 'sealringlaw57.KeyserviceAnswer'. -/
def keyserviceAnswerUptoCard : Claim7 := { stood := { row := keyserviceAnswerUptoRow, standIns := [], harness := (true, "9bcaace032b3b54e90aee32dcd0f5a477edf8588a29f6367342d9946d0fb2a69"), looks := true }, kinds := [], alts := [], laidByText := true, laidKinds := [.data, .data, .data, .data, .sentinel, .sentinel, .pinned], laidTests := true, laidLooks := .later }
def KeyserviceAnswerUptoCardSaid : Prop := Claim7.holds Tryz.pinned (.plain (OpenSpec.upto keyserviceAnswerSpec)) keyserviceAnswerUptoCard

/-- THE SECOND FORM's CARD OF 'sealringlaw57.KeyserviceIncluded'. -/
def keyserviceIncludedUptoCard : Claim7 := { stood := { row := keyserviceIncludedUptoRow, standIns := [], harness := (true, "9bcaace032b3b54e90aee32dcd0f5a477edf8588a29f6367342d9946d0fb2a69"), looks := true }, kinds := [], alts := [], laidByText := true, laidKinds := [.data, .data, .data, .data, .sentinel, .sentinel, .pinned], laidTests := true, laidLooks := .later }
def KeyserviceIncludedUptoCardSaid : Prop := Claim7.holds Tryz.pinned (.plain (OpenSpec.upto keyserviceIncludedSpec)) keyserviceIncludedUptoCard

/-- THE SECOND FORM's CARD OF 'sealringlaw57.KeyserviceChanges'. -/
def keyserviceChangesUptoCard : Claim7 := { stood := { row := keyserviceChangesUptoRow, standIns := [], harness := (true, "9bcaace032b3b54e90aee32dcd0f5a477edf8588a29f6367342d9946d0fb2a69"), looks := true }, kinds := [], alts := [], laidByText := true, laidKinds := [.data, .data, .data, .data, .sentinel, .sentinel, .pinned], laidTests := true, laidLooks := .later }
def KeyserviceChangesUptoCardSaid : Prop := Claim7.holds Tryz.pinned (.plain (OpenSpec.upto keyserviceChangesSpec)) keyserviceChangesUptoCard
end Rows
end Go.Proofs.YtkaocdljkonfaaaGreatDoor
