/-
  DERIVED. GIVEN WITH THE SEED: THE CARDS: each row of YthkpihmifojnoaaGreatDoorRows.lean that lists a variable, with what it lists TIED to the program's text (the seventh form; the later family's looks); each row that meets fmt, with fmt's text TOLD by the authors' own Lean function (tested against real Go, not proved from fmt's source: count such statements apart). THE CARD IS WHAT COUNTS. Prove the row's statement (the work); the ties are given (YthkpihmifojnoaaGreatDoorTie.lean); close each card by the builder's one call (the guide's Derived/Test/ToyasCard.lean, 'card_holds'). Laid BY PROGRAM, IN A SANDBOX (cutbox-door.mjs). By AI agents, Wed Nov 11 2026. No macro, syntax, notation, axiom, sorry.
-/
import Derived.Test.YthkpihmifojnoaaGreatDoorRows
import GoSem.ClaimSeven
namespace Go.Proofs.YthkpihmifojnoaaGreatDoor
namespace Rows

/-- THE TIED CARD OF 'sealringlaw58.TransformTags'. -/
def transformTagsCard : Claim7 := { stood := { row := transformTagsRow, standIns := [], harness := (true, "7771d6577e5a5954428d68f5df531b9b3973f8da344384602fc8c636add98162"), looks := false }, kinds := [], alts := [], laidByText := true, laidKinds := [.data, .data, .data], laidTests := true, laidLooks := .later }
def TransformTagsCardSaid : Prop := Claim7.holds Tryz.pinned (.plain (OpenSpec.ofChange transformTagsSpec)) transformTagsCard

/-- THE TIED CARD OF 'sealringlaw58.TransformPad'. -/
def transformPadCard : Claim7 := { stood := { row := transformPadRow, standIns := [], harness := (true, "7771d6577e5a5954428d68f5df531b9b3973f8da344384602fc8c636add98162"), looks := false }, kinds := [], alts := [], laidByText := true, laidKinds := [.data, .data, .data], laidTests := true, laidLooks := .later }
def TransformPadCardSaid : Prop := Claim7.holds Tryz.pinned (.plain (OpenSpec.ofChange transformPadSpec)) transformPadCard

/-- THE TIED CARD OF 'sealringlaw58.TransformStrip'. -/
def transformStripCard : Claim7 := { stood := { row := transformStripRow, standIns := [], harness := (true, "7771d6577e5a5954428d68f5df531b9b3973f8da344384602fc8c636add98162"), looks := false }, kinds := [], alts := [], laidByText := true, laidKinds := [.data, .data, .data], laidTests := true, laidLooks := .later }
def TransformStripCardSaid : Prop := Claim7.holds Tryz.pinned (.plain (OpenSpec.ofChange transformStripSpec)) transformStripCard

/-- THE TIED CARD OF 'sealringlaw55.CredentialNames'. -/
def credentialNamesCard : Claim7 := { stood := { row := credentialNamesRow, standIns := [], harness := (true, "7771d6577e5a5954428d68f5df531b9b3973f8da344384602fc8c636add98162"), looks := false }, kinds := [], alts := [], laidByText := true, laidKinds := [.data, .data, .data, .data, .pinned], laidTests := true, laidLooks := .later }
def CredentialNamesCardSaid : Prop := Claim7.holds Tryz.pinned (.plain (OpenSpec.ofChange credentialNamesSpec)) credentialNamesCard

/-- THE SECOND FORM's CARD OF 'sealringlaw58.TransformTags'. -/
def transformTagsUptoCard : Claim7 := { stood := { row := transformTagsUptoRow, standIns := [], harness := (true, "7771d6577e5a5954428d68f5df531b9b3973f8da344384602fc8c636add98162"), looks := false }, kinds := [], alts := [], laidByText := true, laidKinds := [.data, .data, .data], laidTests := true, laidLooks := .later }
def TransformTagsUptoCardSaid : Prop := Claim7.holds Tryz.pinned (.plain (OpenSpec.upto transformTagsSpec)) transformTagsUptoCard

/-- THE SECOND FORM's CARD OF 'sealringlaw58.TransformPad'. -/
def transformPadUptoCard : Claim7 := { stood := { row := transformPadUptoRow, standIns := [], harness := (true, "7771d6577e5a5954428d68f5df531b9b3973f8da344384602fc8c636add98162"), looks := false }, kinds := [], alts := [], laidByText := true, laidKinds := [.data, .data, .data], laidTests := true, laidLooks := .later }
def TransformPadUptoCardSaid : Prop := Claim7.holds Tryz.pinned (.plain (OpenSpec.upto transformPadSpec)) transformPadUptoCard

/-- THE SECOND FORM's CARD OF 'sealringlaw58.TransformStrip'. -/
def transformStripUptoCard : Claim7 := { stood := { row := transformStripUptoRow, standIns := [], harness := (true, "7771d6577e5a5954428d68f5df531b9b3973f8da344384602fc8c636add98162"), looks := false }, kinds := [], alts := [], laidByText := true, laidKinds := [.data, .data, .data], laidTests := true, laidLooks := .later }
def TransformStripUptoCardSaid : Prop := Claim7.holds Tryz.pinned (.plain (OpenSpec.upto transformStripSpec)) transformStripUptoCard

/-- THE SECOND FORM's CARD OF 'sealringlaw55.CredentialNames'. -/
def credentialNamesUptoCard : Claim7 := { stood := { row := credentialNamesUptoRow, standIns := [], harness := (true, "7771d6577e5a5954428d68f5df531b9b3973f8da344384602fc8c636add98162"), looks := false }, kinds := [], alts := [], laidByText := true, laidKinds := [.data, .data, .data, .data, .pinned], laidTests := true, laidLooks := .later }
def CredentialNamesUptoCardSaid : Prop := Claim7.holds Tryz.pinned (.plain (OpenSpec.upto credentialNamesSpec)) credentialNamesUptoCard
end Rows
end Go.Proofs.YthkpihmifojnoaaGreatDoor
