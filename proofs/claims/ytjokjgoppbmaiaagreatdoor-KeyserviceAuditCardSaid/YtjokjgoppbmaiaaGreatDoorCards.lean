/-
  DERIVED. GIVEN WITH THE SEED: THE CARDS: each row of YtjokjgoppbmaiaaGreatDoorRows.lean that lists a variable, with what it lists TIED to the program's text (the seventh form; the later family's looks); each row that meets fmt, with fmt's text TOLD by the authors' own Lean function (tested against real Go, not proved from fmt's source: count such statements apart). THE CARD IS WHAT COUNTS. Prove the row's statement (the work); the ties are given (YtjokjgoppbmaiaaGreatDoorTie.lean); close each card by the builder's one call (the guide's Derived/Test/ToyasCard.lean, 'card_holds'). Laid BY PROGRAM, IN A SANDBOX (cutbox-door.mjs). By AI agents, Wed Nov 11 2026. No macro, syntax, notation, axiom, sorry.
-/
import Derived.Test.YtjokjgoppbmaiaaGreatDoorRows
import GoSem.ClaimSeven
namespace Go.Proofs.YtjokjgoppbmaiaaGreatDoor
namespace Rows

/-- THE TIED CARD OF 'sealringlaw55.CredentialMore'. -/
def credentialMoreCard : Claim7 := { stood := { row := credentialMoreRow, standIns := [], harness := (true, "01699f3accf88e9bf5f7a74d38b72663a70fb80466e36731275dcf343884511a"), looks := true }, kinds := [], alts := [], laidByText := true, laidKinds := [.data, .data, .data, .data, .sentinel, .sentinel, .pinned], laidTests := true, laidLooks := .later }
def CredentialMoreCardSaid : Prop := Claim7.holds Tryz.pinned (.plain (OpenSpec.ofChange credentialMoreSpec)) credentialMoreCard

/-- THE TIED CARD OF 'sealringlaw57.KeyserviceAudit'. -/
def keyserviceAuditCard : Claim7 := { stood := { row := keyserviceAuditRow, standIns := [], harness := (true, "01699f3accf88e9bf5f7a74d38b72663a70fb80466e36731275dcf343884511a"), looks := true }, kinds := [], alts := [], laidByText := true, laidKinds := [.data, .data, .data, .data, .sentinel, .sentinel, .pinned], laidTests := true, laidLooks := .later }
def KeyserviceAuditCardSaid : Prop := Claim7.holds Tryz.pinned (.plain (OpenSpec.ofChange keyserviceAuditSpec)) keyserviceAuditCard

/-- THE SECOND FORM's CARD OF 'sealringlaw55.CredentialMore'. -/
def credentialMoreUptoCard : Claim7 := { stood := { row := credentialMoreUptoRow, standIns := [], harness := (true, "01699f3accf88e9bf5f7a74d38b72663a70fb80466e36731275dcf343884511a"), looks := true }, kinds := [], alts := [], laidByText := true, laidKinds := [.data, .data, .data, .data, .sentinel, .sentinel, .pinned], laidTests := true, laidLooks := .later }
def CredentialMoreUptoCardSaid : Prop := Claim7.holds Tryz.pinned (.plain (OpenSpec.upto credentialMoreSpec)) credentialMoreUptoCard

/-- THE SECOND FORM's CARD OF 'sealringlaw57.KeyserviceAudit'. -/
def keyserviceAuditUptoCard : Claim7 := { stood := { row := keyserviceAuditUptoRow, standIns := [], harness := (true, "01699f3accf88e9bf5f7a74d38b72663a70fb80466e36731275dcf343884511a"), looks := true }, kinds := [], alts := [], laidByText := true, laidKinds := [.data, .data, .data, .data, .sentinel, .sentinel, .pinned], laidTests := true, laidLooks := .later }
def KeyserviceAuditUptoCardSaid : Prop := Claim7.holds Tryz.pinned (.plain (OpenSpec.upto keyserviceAuditSpec)) keyserviceAuditUptoCard
end Rows
end Go.Proofs.YtjokjgoppbmaiaaGreatDoor
