/-
  DERIVED. GIVEN WITH THE SEED: THE CARDS: each row of YtajpkolimokcdaaGreatDoorRows.lean that lists a variable, with what it lists TIED to the program's text (the seventh form; the later family's looks); each row that meets fmt, with fmt's text TOLD by the authors' own Lean function (tested against real Go, not proved from fmt's source: count such statements apart). THE CARD IS WHAT COUNTS. Prove the row's statement (the work); the ties are given (YtajpkolimokcdaaGreatDoorTie.lean); close each card by the builder's one call (the guide's Derived/Test/ToyasCard.lean, 'card_holds'). Laid BY PROGRAM, IN A SANDBOX (cutbox-door.mjs). By AI agents, Wed Nov 11 2026. No macro, syntax, notation, axiom, sorry.
-/
import Derived.Test.YtajpkolimokcdaaGreatDoorRows
import GoSem.ClaimSeven
namespace Go.Proofs.YtajpkolimokcdaaGreatDoor
namespace Rows

/-- THE TIED CARD OF 'sealringlaw55.CredentialIssues'. -/
def credentialIssuesCard : Claim7 := { stood := { row := credentialIssuesRow, standIns := [], harness := (true, "05f247e315fc2885e260f4395706375129a13d216477e097df270aff242bdc9c"), looks := true }, kinds := [], alts := [], laidByText := true, laidKinds := [.data, .data, .data, .data, .sentinel, .sentinel, .pinned], laidTests := true, laidLooks := .later }
def CredentialIssuesCardSaid : Prop := Claim7.holds Tryz.pinned (.plain (OpenSpec.ofChange credentialIssuesSpec)) credentialIssuesCard

/-- THE TIED CARD OF 'sealringlaw55.CredentialReads'. -/
def credentialReadsCard : Claim7 := { stood := { row := credentialReadsRow, standIns := [], harness := (true, "05f247e315fc2885e260f4395706375129a13d216477e097df270aff242bdc9c"), looks := true }, kinds := [], alts := [], laidByText := true, laidKinds := [.data, .data, .data, .data, .sentinel, .sentinel, .pinned], laidTests := true, laidLooks := .later }
def CredentialReadsCardSaid : Prop := Claim7.holds Tryz.pinned (.plain (OpenSpec.ofChange credentialReadsSpec)) credentialReadsCard

/-- THE TIED CARD OF 'sealringlaw57.KeyserviceValid'. -/
def keyserviceValidCard : Claim7 := { stood := { row := keyserviceValidRow, standIns := [], harness := (true, "05f247e315fc2885e260f4395706375129a13d216477e097df270aff242bdc9c"), looks := true }, kinds := [], alts := [], laidByText := true, laidKinds := [.data, .data, .data, .data, .sentinel, .sentinel, .pinned], laidTests := true, laidLooks := .later }
def KeyserviceValidCardSaid : Prop := Claim7.holds Tryz.pinned (.plain (OpenSpec.ofChange keyserviceValidSpec)) keyserviceValidCard

/-- THE TIED CARD OF 'sealringlaw57.KeyserviceAccept'. -/
def keyserviceAcceptCard : Claim7 := { stood := { row := keyserviceAcceptRow, standIns := [], harness := (true, "05f247e315fc2885e260f4395706375129a13d216477e097df270aff242bdc9c"), looks := true }, kinds := [], alts := [], laidByText := true, laidKinds := [.data, .data, .data, .data, .sentinel, .sentinel, .pinned], laidTests := true, laidLooks := .later }
def KeyserviceAcceptCardSaid : Prop := Claim7.holds Tryz.pinned (.plain (OpenSpec.ofChange keyserviceAcceptSpec)) keyserviceAcceptCard

/-- THE TIED CARD OF 'sealringlaw57.KeyserviceCurrent'. -/
def keyserviceCurrentCard : Claim7 := { stood := { row := keyserviceCurrentRow, standIns := [], harness := (true, "05f247e315fc2885e260f4395706375129a13d216477e097df270aff242bdc9c"), looks := true }, kinds := [], alts := [], laidByText := true, laidKinds := [.data, .data, .data, .data, .sentinel, .sentinel, .pinned], laidTests := true, laidLooks := .later }
def KeyserviceCurrentCardSaid : Prop := Claim7.holds Tryz.pinned (.plain (OpenSpec.ofChange keyserviceCurrentSpec)) keyserviceCurrentCard

/-- THE SECOND FORM's CARD OF 'sealringlaw55.CredentialIssues'. -/
def credentialIssuesUptoCard : Claim7 := { stood := { row := credentialIssuesUptoRow, standIns := [], harness := (true, "05f247e315fc2885e260f4395706375129a13d216477e097df270aff242bdc9c"), looks := true }, kinds := [], alts := [], laidByText := true, laidKinds := [.data, .data, .data, .data, .sentinel, .sentinel, .pinned], laidTests := true, laidLooks := .later }
def CredentialIssuesUptoCardSaid : Prop := Claim7.holds Tryz.pinned (.plain (OpenSpec.upto credentialIssuesSpec)) credentialIssuesUptoCard

/-- THE SECOND FORM's CARD OF 'sealringlaw55.CredentialReads'. -/
def credentialReadsUptoCard : Claim7 := { stood := { row := credentialReadsUptoRow, standIns := [], harness := (true, "05f247e315fc2885e260f4395706375129a13d216477e097df270aff242bdc9c"), looks := true }, kinds := [], alts := [], laidByText := true, laidKinds := [.data, .data, .data, .data, .sentinel, .sentinel, .pinned], laidTests := true, laidLooks := .later }
def CredentialReadsUptoCardSaid : Prop := Claim7.holds Tryz.pinned (.plain (OpenSpec.upto credentialReadsSpec)) credentialReadsUptoCard

/-- THE SECOND FORM's CARD OF 'sealringlaw57.KeyserviceValid'. -/
def keyserviceValidUptoCard : Claim7 := { stood := { row := keyserviceValidUptoRow, standIns := [], harness := (true, "05f247e315fc2885e260f4395706375129a13d216477e097df270aff242bdc9c"), looks := true }, kinds := [], alts := [], laidByText := true, laidKinds := [.data, .data, .data, .data, .sentinel, .sentinel, .pinned], laidTests := true, laidLooks := .later }
def KeyserviceValidUptoCardSaid : Prop := Claim7.holds Tryz.pinned (.plain (OpenSpec.upto keyserviceValidSpec)) keyserviceValidUptoCard

/-- THE SECOND FORM's CARD OF 'sealringlaw57.KeyserviceAccept'. -/
def keyserviceAcceptUptoCard : Claim7 := { stood := { row := keyserviceAcceptUptoRow, standIns := [], harness := (true, "05f247e315fc2885e260f4395706375129a13d216477e097df270aff242bdc9c"), looks := true }, kinds := [], alts := [], laidByText := true, laidKinds := [.data, .data, .data, .data, .sentinel, .sentinel, .pinned], laidTests := true, laidLooks := .later }
def KeyserviceAcceptUptoCardSaid : Prop := Claim7.holds Tryz.pinned (.plain (OpenSpec.upto keyserviceAcceptSpec)) keyserviceAcceptUptoCard

/-- THE SECOND FORM's CARD OF 'sealringlaw57.KeyserviceCurrent'. -/
def keyserviceCurrentUptoCard : Claim7 := { stood := { row := keyserviceCurrentUptoRow, standIns := [], harness := (true, "05f247e315fc2885e260f4395706375129a13d216477e097df270aff242bdc9c"), looks := true }, kinds := [], alts := [], laidByText := true, laidKinds := [.data, .data, .data, .data, .sentinel, .sentinel, .pinned], laidTests := true, laidLooks := .later }
def KeyserviceCurrentUptoCardSaid : Prop := Claim7.holds Tryz.pinned (.plain (OpenSpec.upto keyserviceCurrentSpec)) keyserviceCurrentUptoCard
end Rows
end Go.Proofs.YtajpkolimokcdaaGreatDoor
