/-
  DERIVED. GIVEN WITH THE SEED: THE CARDS: each row of YtceolenmcpndaaaDoorRows.lean that lists a variable, with what it lists TIED to the program's text (the seventh form; the later family's looks); each row that meets fmt, with fmt's text TOLD by the authors' own Lean function (tested against real Go, not proved from fmt's source: count such statements apart). THE CARD IS WHAT COUNTS. Prove the row's statement (the work); the ties are given (YtceolenmcpndaaaDoorTie.lean); close each card by the builder's one call (the guide's Derived/Test/ToyasCard.lean, 'card_holds'). Laid BY PROGRAM, IN A SANDBOX (cutbox-door.mjs). By AI agents, Wed Nov 11 2026. No macro, syntax, notation, axiom, sorry.
-/
import Derived.Test.YtceolenmcpndaaaDoorRows
import GoSem.ClaimSeven
namespace Go.Proofs.YtceolenmcpndaaaDoor
namespace Rows

/-- THE TIED CARD OF 'peeragelaw06.SegmentLengths'. -/
def segmentLengthsCard : Claim7 := { stood := { row := segmentLengthsRow, standIns := [], harness := (true, "6456c1dbb27103332edc8295fc72bab6a710d1f7b7136db8eb4772b1c30c033e"), looks := true }, kinds := [], alts := [], laidByText := true, laidKinds := [.data, .data, .data, .widerDeep], laidTests := true, laidLooks := .later }
def SegmentLengthsCardSaid : Prop := Claim7.holds Tryd.pinned (.plain (OpenSpec.ofChange segmentLengthsSpec)) segmentLengthsCard

/-- THE TIED CARD OF 'peeragelaw06.SegmentSame'. -/
def segmentSameCard : Claim7 := { stood := { row := segmentSameRow, standIns := [], harness := (true, "6456c1dbb27103332edc8295fc72bab6a710d1f7b7136db8eb4772b1c30c033e"), looks := true }, kinds := [], alts := [], laidByText := true, laidKinds := [.data, .data, .data, .widerDeep], laidTests := true, laidLooks := .later }
def SegmentSameCardSaid : Prop := Claim7.holds Tryd.pinned (.plain (OpenSpec.ofChange segmentSameSpec)) segmentSameCard

/-- THE TIED CARD OF 'peeragelaw06.SegmentReads'. -/
def segmentReadsCard : Claim7 := { stood := { row := segmentReadsRow, standIns := [], harness := (true, "6456c1dbb27103332edc8295fc72bab6a710d1f7b7136db8eb4772b1c30c033e"), looks := true }, kinds := [], alts := [], laidByText := true, laidKinds := [.data, .data, .data, .widerDeep], laidTests := true, laidLooks := .later }
def SegmentReadsCardSaid : Prop := Claim7.holds Tryd.pinned (.plain (OpenSpec.ofChange segmentReadsSpec)) segmentReadsCard

/-- THE TIED CARD OF 'peeragelaw06.SegmentParses'. -/
def segmentParsesCard : Claim7 := { stood := { row := segmentParsesRow, standIns := [], harness := (true, "6456c1dbb27103332edc8295fc72bab6a710d1f7b7136db8eb4772b1c30c033e"), looks := true }, kinds := [], alts := [], laidByText := true, laidKinds := [.data, .data, .data, .data, .sentinel, .sentinel, .widerDeep, .pinned], laidTests := true, laidLooks := .later }
def SegmentParsesCardSaid : Prop := Claim7.holds Tryd.pinned (.plain (OpenSpec.ofChange segmentParsesSpec)) segmentParsesCard

/-- THE TIED CARD OF 'peeragelaw21.MergeHeads'. -/
def mergeHeadsCard : Claim7 := { stood := { row := mergeHeadsRow, standIns := [], harness := (true, "6456c1dbb27103332edc8295fc72bab6a710d1f7b7136db8eb4772b1c30c033e"), looks := true }, kinds := [], alts := [], laidByText := true, laidKinds := [.data, .data, .data, .widerDeep], laidTests := true, laidLooks := .later }
def MergeHeadsCardSaid : Prop := Claim7.holds Tryd.pinned (.plain (OpenSpec.ofChange mergeHeadsSpec)) mergeHeadsCard

/-- THE TIED CARD OF 'peeragelaw21.MergePaths'. -/
def mergePathsCard : Claim7 := { stood := { row := mergePathsRow, standIns := [], harness := (true, "6456c1dbb27103332edc8295fc72bab6a710d1f7b7136db8eb4772b1c30c033e"), looks := true }, kinds := [], alts := [], laidByText := true, laidKinds := [.data, .data, .data, .widerDeep], laidTests := true, laidLooks := .later }
def MergePathsCardSaid : Prop := Claim7.holds Tryd.pinned (.plain (OpenSpec.ofChange mergePathsSpec)) mergePathsCard

/-- THE TIED CARD OF 'peeragelaw21.MergeNarrows'. -/
def mergeNarrowsCard : Claim7 := { stood := { row := mergeNarrowsRow, standIns := [], harness := (true, "6456c1dbb27103332edc8295fc72bab6a710d1f7b7136db8eb4772b1c30c033e"), looks := true }, kinds := [], alts := [], laidByText := true, laidKinds := [.data, .data, .data, .widerDeep], laidTests := true, laidLooks := .later }
def MergeNarrowsCardSaid : Prop := Claim7.holds Tryd.pinned (.plain (OpenSpec.ofChange mergeNarrowsSpec)) mergeNarrowsCard

/-- THE SECOND FORM's CARD OF 'peeragelaw06.SegmentLengths'. -/
def segmentLengthsUptoCard : Claim7 := { stood := { row := segmentLengthsUptoRow, standIns := [], harness := (true, "6456c1dbb27103332edc8295fc72bab6a710d1f7b7136db8eb4772b1c30c033e"), looks := true }, kinds := [], alts := [], laidByText := true, laidKinds := [.data, .data, .data, .widerDeep], laidTests := true, laidLooks := .later }
def SegmentLengthsUptoCardSaid : Prop := Claim7.holds Tryd.pinned (.plain (OpenSpec.upto segmentLengthsSpec)) segmentLengthsUptoCard

/-- THE SECOND FORM's CARD OF 'peeragelaw06.SegmentSame'. -/
def segmentSameUptoCard : Claim7 := { stood := { row := segmentSameUptoRow, standIns := [], harness := (true, "6456c1dbb27103332edc8295fc72bab6a710d1f7b7136db8eb4772b1c30c033e"), looks := true }, kinds := [], alts := [], laidByText := true, laidKinds := [.data, .data, .data, .widerDeep], laidTests := true, laidLooks := .later }
def SegmentSameUptoCardSaid : Prop := Claim7.holds Tryd.pinned (.plain (OpenSpec.upto segmentSameSpec)) segmentSameUptoCard

/-- THE SECOND FORM's CARD OF 'peeragelaw06.SegmentReads'. -/
def segmentReadsUptoCard : Claim7 := { stood := { row := segmentReadsUptoRow, standIns := [], harness := (true, "6456c1dbb27103332edc8295fc72bab6a710d1f7b7136db8eb4772b1c30c033e"), looks := true }, kinds := [], alts := [], laidByText := true, laidKinds := [.data, .data, .data, .widerDeep], laidTests := true, laidLooks := .later }
def SegmentReadsUptoCardSaid : Prop := Claim7.holds Tryd.pinned (.plain (OpenSpec.upto segmentReadsSpec)) segmentReadsUptoCard

/-- THE SECOND FORM's CARD OF 'peeragelaw06.SegmentParses'. -/
def segmentParsesUptoCard : Claim7 := { stood := { row := segmentParsesUptoRow, standIns := [], harness := (true, "6456c1dbb27103332edc8295fc72bab6a710d1f7b7136db8eb4772b1c30c033e"), looks := true }, kinds := [], alts := [], laidByText := true, laidKinds := [.data, .data, .data, .data, .sentinel, .sentinel, .widerDeep, .pinned], laidTests := true, laidLooks := .later }
def SegmentParsesUptoCardSaid : Prop := Claim7.holds Tryd.pinned (.plain (OpenSpec.upto segmentParsesSpec)) segmentParsesUptoCard

/-- THE SECOND FORM's CARD OF 'peeragelaw21.MergeHeads'. -/
def mergeHeadsUptoCard : Claim7 := { stood := { row := mergeHeadsUptoRow, standIns := [], harness := (true, "6456c1dbb27103332edc8295fc72bab6a710d1f7b7136db8eb4772b1c30c033e"), looks := true }, kinds := [], alts := [], laidByText := true, laidKinds := [.data, .data, .data, .widerDeep], laidTests := true, laidLooks := .later }
def MergeHeadsUptoCardSaid : Prop := Claim7.holds Tryd.pinned (.plain (OpenSpec.upto mergeHeadsSpec)) mergeHeadsUptoCard

/-- THE SECOND FORM's CARD OF 'peeragelaw21.MergePaths'. -/
def mergePathsUptoCard : Claim7 := { stood := { row := mergePathsUptoRow, standIns := [], harness := (true, "6456c1dbb27103332edc8295fc72bab6a710d1f7b7136db8eb4772b1c30c033e"), looks := true }, kinds := [], alts := [], laidByText := true, laidKinds := [.data, .data, .data, .widerDeep], laidTests := true, laidLooks := .later }
def MergePathsUptoCardSaid : Prop := Claim7.holds Tryd.pinned (.plain (OpenSpec.upto mergePathsSpec)) mergePathsUptoCard

/-- THE SECOND FORM's CARD OF 'peeragelaw21.MergeNarrows'. -/
def mergeNarrowsUptoCard : Claim7 := { stood := { row := mergeNarrowsUptoRow, standIns := [], harness := (true, "6456c1dbb27103332edc8295fc72bab6a710d1f7b7136db8eb4772b1c30c033e"), looks := true }, kinds := [], alts := [], laidByText := true, laidKinds := [.data, .data, .data, .widerDeep], laidTests := true, laidLooks := .later }
def MergeNarrowsUptoCardSaid : Prop := Claim7.holds Tryd.pinned (.plain (OpenSpec.upto mergeNarrowsSpec)) mergeNarrowsUptoCard
end Rows
end Go.Proofs.YtceolenmcpndaaaDoor
