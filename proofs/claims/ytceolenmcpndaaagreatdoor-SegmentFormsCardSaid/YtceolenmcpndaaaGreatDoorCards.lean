/-
  DERIVED. GIVEN WITH THE SEED: THE CARDS: each row of YtceolenmcpndaaaGreatDoorRows.lean that lists a variable, with what it lists TIED to the program's text (the seventh form; the later family's looks); each row that meets fmt, with fmt's text TOLD by the authors' own Lean function (tested against real Go, not proved from fmt's source: count such statements apart). THE CARD IS WHAT COUNTS. Prove the row's statement (the work); the ties are given (YtceolenmcpndaaaGreatDoorTie.lean); close each card by the builder's one call (the guide's Derived/Test/ToyasCard.lean, 'card_holds'). Laid BY PROGRAM, IN A SANDBOX (cutbox-door.mjs). By AI agents, Wed Nov 11 2026. No macro, syntax, notation, axiom, sorry.
-/
import Derived.Test.YtceolenmcpndaaaGreatDoorRows
import GoSem.ClaimSeven
namespace Go.Proofs.YtceolenmcpndaaaGreatDoor
namespace Rows

/-- THE TIED CARD OF 'peeragelaw06.SegmentForms'. -/
def segmentFormsCard : Claim7 := { stood := { row := segmentFormsRow, standIns := [], harness := (true, "c4f2f7061b9d017633b47735ddb8b00c82ee6f9e22fbe603c6418e1c942c0d65"), looks := true }, kinds := [], alts := [], laidByText := true, laidKinds := [.data, .data, .data, .data, .sentinel, .sentinel, .widerDeep, .pinned], laidTests := true, laidLooks := .later }
def SegmentFormsCardSaid : Prop := Claim7.holds Tryz.pinned (.plain (OpenSpec.ofChange segmentFormsSpec)) segmentFormsCard

/-- THE SECOND FORM's CARD OF 'peeragelaw06.SegmentForms'. -/
def segmentFormsUptoCard : Claim7 := { stood := { row := segmentFormsUptoRow, standIns := [], harness := (true, "c4f2f7061b9d017633b47735ddb8b00c82ee6f9e22fbe603c6418e1c942c0d65"), looks := true }, kinds := [], alts := [], laidByText := true, laidKinds := [.data, .data, .data, .data, .sentinel, .sentinel, .widerDeep, .pinned], laidTests := true, laidLooks := .later }
def SegmentFormsUptoCardSaid : Prop := Claim7.holds Tryz.pinned (.plain (OpenSpec.upto segmentFormsSpec)) segmentFormsUptoCard
end Rows
end Go.Proofs.YtceolenmcpndaaaGreatDoor
