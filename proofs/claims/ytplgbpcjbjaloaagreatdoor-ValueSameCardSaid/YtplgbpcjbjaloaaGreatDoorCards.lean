/-
  DERIVED. GIVEN WITH THE SEED: THE CARDS: each row of YtplgbpcjbjaloaaGreatDoorRows.lean that lists a variable, with what it lists TIED to the program's text (the seventh form; the later family's looks); each row that meets fmt, with fmt's text TOLD by the authors' own Lean function (tested against real Go, not proved from fmt's source: count such statements apart). THE CARD IS WHAT COUNTS. Prove the row's statement (the work); the ties are given (YtplgbpcjbjaloaaGreatDoorTie.lean); close each card by the builder's one call (the guide's Derived/Test/ToyasCard.lean, 'card_holds'). Laid BY PROGRAM, IN A SANDBOX (cutbox-door.mjs). By AI agents, Wed Nov 11 2026. No macro, syntax, notation, axiom, sorry.
-/
import Derived.Test.YtplgbpcjbjaloaaGreatDoorRows
import GoSem.ClaimSeven
namespace Go.Proofs.YtplgbpcjbjaloaaGreatDoor
namespace Rows

/-- THE TIED CARD OF 'peeragelaw13.ValueSame'. -/
def valueSameCard : Claim7 := { stood := { row := valueSameRow, standIns := [], harness := (true, "5347ca27959db771a83b0b8cf3be8f513daf31593e0596389541c4eb9a35f64a"), looks := true }, kinds := [], alts := [], laidByText := true, laidKinds := [.data, .data, .data], laidTests := true, laidLooks := .later }
def ValueSameCardSaid : Prop := Claim7.holds Tryz.pinned (.plain (OpenSpec.ofChange valueSameSpec)) valueSameCard

/-- THE TIED CARD OF 'peeragelaw13.ValueFlags'. -/
def valueFlagsCard : Claim7 := { stood := { row := valueFlagsRow, standIns := [], harness := (true, "5347ca27959db771a83b0b8cf3be8f513daf31593e0596389541c4eb9a35f64a"), looks := true }, kinds := [], alts := [], laidByText := true, laidKinds := [.data, .data, .data], laidTests := true, laidLooks := .later }
def ValueFlagsCardSaid : Prop := Claim7.holds Tryz.pinned (.plain (OpenSpec.ofChange valueFlagsSpec)) valueFlagsCard

/-- THE SECOND FORM's CARD OF 'peeragelaw13.ValueSame'. -/
def valueSameUptoCard : Claim7 := { stood := { row := valueSameUptoRow, standIns := [], harness := (true, "5347ca27959db771a83b0b8cf3be8f513daf31593e0596389541c4eb9a35f64a"), looks := true }, kinds := [], alts := [], laidByText := true, laidKinds := [.data, .data, .data], laidTests := true, laidLooks := .later }
def ValueSameUptoCardSaid : Prop := Claim7.holds Tryz.pinned (.plain (OpenSpec.upto valueSameSpec)) valueSameUptoCard

/-- THE SECOND FORM's CARD OF 'peeragelaw13.ValueFlags'. -/
def valueFlagsUptoCard : Claim7 := { stood := { row := valueFlagsUptoRow, standIns := [], harness := (true, "5347ca27959db771a83b0b8cf3be8f513daf31593e0596389541c4eb9a35f64a"), looks := true }, kinds := [], alts := [], laidByText := true, laidKinds := [.data, .data, .data], laidTests := true, laidLooks := .later }
def ValueFlagsUptoCardSaid : Prop := Claim7.holds Tryz.pinned (.plain (OpenSpec.upto valueFlagsSpec)) valueFlagsUptoCard
end Rows
end Go.Proofs.YtplgbpcjbjaloaaGreatDoor
