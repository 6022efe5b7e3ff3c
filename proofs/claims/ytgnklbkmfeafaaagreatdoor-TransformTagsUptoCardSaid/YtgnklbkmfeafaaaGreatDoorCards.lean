/-
  DERIVED. GIVEN WITH THE SEED: THE CARDS: each row of YtgnklbkmfeafaaaGreatDoorRows.lean that lists a variable, with what it lists TIED to the program's text (the seventh form; the later family's looks); each row that meets fmt, with fmt's text TOLD by the authors' own Lean function (tested against real Go, not proved from fmt's source: count such statements apart). THE CARD IS WHAT COUNTS. Prove the row's statement (the work); the ties are given (YtgnklbkmfeafaaaGreatDoorTie.lean); close each card by the builder's one call (the guide's Derived/Test/ToyasCard.lean, 'card_holds'). Laid BY PROGRAM, IN A SANDBOX (cutbox-door.mjs). By AI agents, Wed Nov 11 2026. No macro, syntax, notation, axiom, sorry.
-/
import Derived.Test.YtgnklbkmfeafaaaGreatDoorRows
import GoSem.ClaimSeven
namespace Go.Proofs.YtgnklbkmfeafaaaGreatDoor
namespace Rows

/-- THE TIED CARD OF 'sealringlaw58.TransformTags'. -/
def transformTagsCard : Claim7 := { stood := { row := transformTagsRow, standIns := [], harness := (true, "0dae0e779ba975e7d973301a42170e7ac49dc9b33098e22c4bbcf41244a270e1"), looks := false }, kinds := [], alts := [], laidByText := true, laidKinds := [.data, .data, .data], laidTests := true, laidLooks := .later }
def TransformTagsCardSaid : Prop := Claim7.holds Tryz.pinned (.plain (OpenSpec.ofChange transformTagsSpec)) transformTagsCard

/-- THE TIED CARD OF 'sealringlaw58.TransformPad'. -/
def transformPadCard : Claim7 := { stood := { row := transformPadRow, standIns := [], harness := (true, "0dae0e779ba975e7d973301a42170e7ac49dc9b33098e22c4bbcf41244a270e1"), looks := false }, kinds := [], alts := [], laidByText := true, laidKinds := [.data, .data, .data], laidTests := true, laidLooks := .later }
def TransformPadCardSaid : Prop := Claim7.holds Tryz.pinned (.plain (OpenSpec.ofChange transformPadSpec)) transformPadCard

/-- THE SECOND FORM's CARD OF 'sealringlaw58.TransformTags'. -/
def transformTagsUptoCard : Claim7 := { stood := { row := transformTagsUptoRow, standIns := [], harness := (true, "0dae0e779ba975e7d973301a42170e7ac49dc9b33098e22c4bbcf41244a270e1"), looks := false }, kinds := [], alts := [], laidByText := true, laidKinds := [.data, .data, .data], laidTests := true, laidLooks := .later }
def TransformTagsUptoCardSaid : Prop := Claim7.holds Tryz.pinned (.plain (OpenSpec.upto transformTagsSpec)) transformTagsUptoCard

/-- THE SECOND FORM's CARD OF 'sealringlaw58.TransformPad'. -/
def transformPadUptoCard : Claim7 := { stood := { row := transformPadUptoRow, standIns := [], harness := (true, "0dae0e779ba975e7d973301a42170e7ac49dc9b33098e22c4bbcf41244a270e1"), looks := false }, kinds := [], alts := [], laidByText := true, laidKinds := [.data, .data, .data], laidTests := true, laidLooks := .later }
def TransformPadUptoCardSaid : Prop := Claim7.holds Tryz.pinned (.plain (OpenSpec.upto transformPadSpec)) transformPadUptoCard
end Rows
end Go.Proofs.YtgnklbkmfeafaaaGreatDoor
