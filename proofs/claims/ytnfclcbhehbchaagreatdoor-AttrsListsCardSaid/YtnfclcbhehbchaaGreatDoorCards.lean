/-
  DERIVED. GIVEN WITH THE SEED: THE CARDS: each row of YtnfclcbhehbchaaGreatDoorRows.lean that lists a variable, with what it lists TIED to the program's text (the seventh form; the later family's looks); each row that meets fmt, with fmt's text TOLD by the authors' own Lean function (tested against real Go, not proved from fmt's source: count such statements apart). THE CARD IS WHAT COUNTS. Prove the row's statement (the work); the ties are given (YtnfclcbhehbchaaGreatDoorTie.lean); close each card by the builder's one call (the guide's Derived/Test/ToyasCard.lean, 'card_holds'). Laid BY PROGRAM, IN A SANDBOX (cutbox-door.mjs). By AI agents, Wed Nov 11 2026. No macro, syntax, notation, axiom, sorry.
-/
import Derived.Test.YtnfclcbhehbchaaGreatDoorRows
import GoSem.ClaimSeven
namespace Go.Proofs.YtnfclcbhehbchaaGreatDoor
namespace Rows

/-- THE TIED CARD OF 'peeragelaw14.AttrsLists'. -/
def attrsListsCard : Claim7 := { stood := { row := attrsListsRow, standIns := [], harness := (true, "8e06174a0069e204bbdb755936f6716bac0c7fd8d2e1b89139a17c32ca0d28be"), looks := false }, kinds := [], alts := [], laidByText := true, laidKinds := [.data, .data, .data], laidTests := true, laidLooks := .later }
def AttrsListsCardSaid : Prop := Claim7.holds Tryz.pinned (.plain (OpenSpec.ofChange attrsListsSpec)) attrsListsCard

/-- THE TIED CARD OF 'peeragelaw15.UpdateSame'. -/
def updateSameCard : Claim7 := { stood := { row := updateSameRow, standIns := [], harness := (true, "8e06174a0069e204bbdb755936f6716bac0c7fd8d2e1b89139a17c32ca0d28be"), looks := false }, kinds := [], alts := [], laidByText := true, laidKinds := [.data, .data, .data], laidTests := true, laidLooks := .later }
def UpdateSameCardSaid : Prop := Claim7.holds Tryz.pinned (.plain (OpenSpec.ofChange updateSameSpec)) updateSameCard

/-- THE SECOND FORM's CARD OF 'peeragelaw14.AttrsLists'. -/
def attrsListsUptoCard : Claim7 := { stood := { row := attrsListsUptoRow, standIns := [], harness := (true, "8e06174a0069e204bbdb755936f6716bac0c7fd8d2e1b89139a17c32ca0d28be"), looks := false }, kinds := [], alts := [], laidByText := true, laidKinds := [.data, .data, .data], laidTests := true, laidLooks := .later }
def AttrsListsUptoCardSaid : Prop := Claim7.holds Tryz.pinned (.plain (OpenSpec.upto attrsListsSpec)) attrsListsUptoCard

/-- THE SECOND FORM's CARD OF 'peeragelaw15.UpdateSame'. -/
def updateSameUptoCard : Claim7 := { stood := { row := updateSameUptoRow, standIns := [], harness := (true, "8e06174a0069e204bbdb755936f6716bac0c7fd8d2e1b89139a17c32ca0d28be"), looks := false }, kinds := [], alts := [], laidByText := true, laidKinds := [.data, .data, .data], laidTests := true, laidLooks := .later }
def UpdateSameUptoCardSaid : Prop := Claim7.holds Tryz.pinned (.plain (OpenSpec.upto updateSameSpec)) updateSameUptoCard
end Rows
end Go.Proofs.YtnfclcbhehbchaaGreatDoor
