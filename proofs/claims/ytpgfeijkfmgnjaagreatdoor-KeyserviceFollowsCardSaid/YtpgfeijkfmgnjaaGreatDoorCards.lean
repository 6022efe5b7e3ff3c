/-
  DERIVED. GIVEN WITH THE SEED: THE CARDS: each row of YtpgfeijkfmgnjaaGreatDoorRows.lean that lists a variable, with what it lists TIED to the program's text (the seventh form; the later family's looks); each row that meets fmt, with fmt's text TOLD by the authors' own Lean function (tested against real Go, not proved from fmt's source: count such statements apart). THE CARD IS WHAT COUNTS. Prove the row's statement (the work); the ties are given (YtpgfeijkfmgnjaaGreatDoorTie.lean); close each card by the builder's one call (the guide's Derived/Test/ToyasCard.lean, 'card_holds'). Laid BY PROGRAM, IN A SANDBOX (cutbox-door.mjs). By AI agents, Wed Nov 11 2026. No macro, syntax, notation, axiom, sorry.
-/
import Derived.Test.YtpgfeijkfmgnjaaGreatDoorRows
import GoSem.ClaimSeven
namespace Go.Proofs.YtpgfeijkfmgnjaaGreatDoor
namespace Rows

/-- THE TIED CARD OF 'sealringlaw57.KeyserviceFollows'. -/
def keyserviceFollowsCard : Claim7 := { stood := { row := keyserviceFollowsRow, standIns := [], harness := (true, "ab99ba337c8186b83418e1eb891c118ccde268c31cf5d6b333c5023a53cd960f"), looks := true }, kinds := [], alts := [], laidByText := true, laidKinds := [.data, .data, .data, .data, .sentinel, .sentinel, .pinned], laidTests := true, laidLooks := .later }
def KeyserviceFollowsCardSaid : Prop := Claim7.holds Tryz.pinned (.plain (OpenSpec.ofChange keyserviceFollowsSpec)) keyserviceFollowsCard

/-- THE SECOND FORM's CARD OF 'sealringlaw57.KeyserviceFollows'. -/
def keyserviceFollowsUptoCard : Claim7 := { stood := { row := keyserviceFollowsUptoRow, standIns := [], harness := (true, "ab99ba337c8186b83418e1eb891c118ccde268c31cf5d6b333c5023a53cd960f"), looks := true }, kinds := [], alts := [], laidByText := true, laidKinds := [.data, .data, .data, .data, .sentinel, .sentinel, .pinned], laidTests := true, laidLooks := .later }
def KeyserviceFollowsUptoCardSaid : Prop := Claim7.holds Tryz.pinned (.plain (OpenSpec.upto keyserviceFollowsSpec)) keyserviceFollowsUptoCard
end Rows
end Go.Proofs.YtpgfeijkfmgnjaaGreatDoor
