/-
  DERIVED. GIVEN WITH THE SEED: THE CARDS: each row of YtgegloplhlkafaaDoorRows.lean that lists a variable, with what it lists TIED to the program's text (the seventh form; the later family's looks); each row that meets fmt, with fmt's text TOLD by the authors' own Lean function (tested against real Go, not proved from fmt's source: count such statements apart). THE CARD IS WHAT COUNTS. Prove the row's statement (the work); the ties are given (YtgegloplhlkafaaDoorTie.lean); close each card by the builder's one call (the guide's Derived/Test/ToyasCard.lean, 'card_holds'). Laid BY PROGRAM, IN A SANDBOX (cutbox-door.mjs). By AI agents, Wed Nov 11 2026. No macro, syntax, notation, axiom, sorry.
-/
import Derived.Test.YtgegloplhlkafaaDoorRows
import GoSem.ClaimSeven
namespace Go.Proofs.YtgegloplhlkafaaDoor
namespace Rows

/-- THE TIED CARD OF 'peeragelaw02.PrefixMakes'. -/
def prefixMakesCard : Claim7 := { stood := { row := prefixMakesRow, standIns := [], harness := (true, "dfe5a23d1b4d92d98943e75efe2f3a01a6153ed3d91c86d8bf9e93bcb76e2c44"), looks := true }, kinds := [], alts := [], laidByText := true, laidKinds := [.data, .data, .data], laidTests := true, laidLooks := .later }
def PrefixMakesCardSaid : Prop := Claim7.holds Tryd.pinned (.plain (OpenSpec.ofChange prefixMakesSpec)) prefixMakesCard

/-- THE TIED CARD OF 'peeragelaw02.PrefixCovers'. -/
def prefixCoversCard : Claim7 := { stood := { row := prefixCoversRow, standIns := [], harness := (true, "dfe5a23d1b4d92d98943e75efe2f3a01a6153ed3d91c86d8bf9e93bcb76e2c44"), looks := true }, kinds := [], alts := [], laidByText := true, laidKinds := [.data, .data, .data], laidTests := true, laidLooks := .later }
def PrefixCoversCardSaid : Prop := Claim7.holds Tryd.pinned (.plain (OpenSpec.ofChange prefixCoversSpec)) prefixCoversCard

/-- THE TIED CARD OF 'peeragelaw02.PrefixReads'. -/
def prefixReadsCard : Claim7 := { stood := { row := prefixReadsRow, standIns := [], harness := (true, "dfe5a23d1b4d92d98943e75efe2f3a01a6153ed3d91c86d8bf9e93bcb76e2c44"), looks := true }, kinds := [], alts := [], laidByText := true, laidKinds := [.data, .data, .data], laidTests := true, laidLooks := .later }
def PrefixReadsCardSaid : Prop := Claim7.holds Tryd.pinned (.plain (OpenSpec.ofChange prefixReadsSpec)) prefixReadsCard

/-- THE TIED CARD OF 'peeragelaw02.PrefixOrders'. -/
def prefixOrdersCard : Claim7 := { stood := { row := prefixOrdersRow, standIns := [], harness := (true, "dfe5a23d1b4d92d98943e75efe2f3a01a6153ed3d91c86d8bf9e93bcb76e2c44"), looks := true }, kinds := [], alts := [], laidByText := true, laidKinds := [.data, .data, .data], laidTests := true, laidLooks := .later }
def PrefixOrdersCardSaid : Prop := Claim7.holds Tryd.pinned (.plain (OpenSpec.ofChange prefixOrdersSpec)) prefixOrdersCard

/-- THE TIED CARD OF 'peeragelaw02.PrefixParses'. -/
def prefixParsesCard : Claim7 := { stood := { row := prefixParsesRow, standIns := [], harness := (true, "dfe5a23d1b4d92d98943e75efe2f3a01a6153ed3d91c86d8bf9e93bcb76e2c44"), looks := true }, kinds := [], alts := [], laidByText := true, laidKinds := [.data, .data, .data, .data, .sentinel, .sentinel, .pinned], laidTests := true, laidLooks := .later }
def PrefixParsesCardSaid : Prop := Claim7.holds Tryd.pinned (.plain (OpenSpec.ofChange prefixParsesSpec)) prefixParsesCard

/-- THE TIED CARD OF 'peeragelaw02.PrefixForms'. -/
def prefixFormsCard : Claim7 := { stood := { row := prefixFormsRow, standIns := [], harness := (true, "dfe5a23d1b4d92d98943e75efe2f3a01a6153ed3d91c86d8bf9e93bcb76e2c44"), looks := true }, kinds := [], alts := [], laidByText := true, laidKinds := [.data, .data, .data, .data, .sentinel, .sentinel, .pinned], laidTests := true, laidLooks := .later }
def PrefixFormsCardSaid : Prop := Claim7.holds Tryd.pinned (.plain (OpenSpec.ofChange prefixFormsSpec)) prefixFormsCard

/-- THE SECOND FORM's CARD OF 'peeragelaw02.PrefixMakes'. -/
def prefixMakesUptoCard : Claim7 := { stood := { row := prefixMakesUptoRow, standIns := [], harness := (true, "dfe5a23d1b4d92d98943e75efe2f3a01a6153ed3d91c86d8bf9e93bcb76e2c44"), looks := true }, kinds := [], alts := [], laidByText := true, laidKinds := [.data, .data, .data], laidTests := true, laidLooks := .later }
def PrefixMakesUptoCardSaid : Prop := Claim7.holds Tryd.pinned (.plain (OpenSpec.upto prefixMakesSpec)) prefixMakesUptoCard

/-- THE SECOND FORM's CARD OF 'peeragelaw02.PrefixCovers'. -/
def prefixCoversUptoCard : Claim7 := { stood := { row := prefixCoversUptoRow, standIns := [], harness := (true, "dfe5a23d1b4d92d98943e75efe2f3a01a6153ed3d91c86d8bf9e93bcb76e2c44"), looks := true }, kinds := [], alts := [], laidByText := true, laidKinds := [.data, .data, .data], laidTests := true, laidLooks := .later }
def PrefixCoversUptoCardSaid : Prop := Claim7.holds Tryd.pinned (.plain (OpenSpec.upto prefixCoversSpec)) prefixCoversUptoCard

/-- THE SECOND FORM's CARD OF 'peeragelaw02.PrefixReads'. -/
def prefixReadsUptoCard : Claim7 := { stood := { row := prefixReadsUptoRow, standIns := [], harness := (true, "dfe5a23d1b4d92d98943e75efe2f3a01a6153ed3d91c86d8bf9e93bcb76e2c44"), looks := true }, kinds := [], alts := [], laidByText := true, laidKinds := [.data, .data, .data], laidTests := true, laidLooks := .later }
def PrefixReadsUptoCardSaid : Prop := Claim7.holds Tryd.pinned (.plain (OpenSpec.upto prefixReadsSpec)) prefixReadsUptoCard

/-- THE SECOND FORM's CARD OF 'peeragelaw02.PrefixOrders'. -/
def prefixOrdersUptoCard : Claim7 := { stood := { row := prefixOrdersUptoRow, standIns := [], harness := (true, "dfe5a23d1b4d92d98943e75efe2f3a01a6153ed3d91c86d8bf9e93bcb76e2c44"), looks := true }, kinds := [], alts := [], laidByText := true, laidKinds := [.data, .data, .data], laidTests := true, laidLooks := .later }
def PrefixOrdersUptoCardSaid : Prop := Claim7.holds Tryd.pinned (.plain (OpenSpec.upto prefixOrdersSpec)) prefixOrdersUptoCard

/-- THE SECOND FORM's CARD OF 'peeragelaw02.PrefixParses'. -/
def prefixParsesUptoCard : Claim7 := { stood := { row := prefixParsesUptoRow, standIns := [], harness := (true, "dfe5a23d1b4d92d98943e75efe2f3a01a6153ed3d91c86d8bf9e93bcb76e2c44"), looks := true }, kinds := [], alts := [], laidByText := true, laidKinds := [.data, .data, .data, .data, .sentinel, .sentinel, .pinned], laidTests := true, laidLooks := .later }
def PrefixParsesUptoCardSaid : Prop := Claim7.holds Tryd.pinned (.plain (OpenSpec.upto prefixParsesSpec)) prefixParsesUptoCard

/-- THE SECOND FORM's CARD OF 'peeragelaw02.PrefixForms'. -/
def prefixFormsUptoCard : Claim7 := { stood := { row := prefixFormsUptoRow, standIns := [], harness := (true, "dfe5a23d1b4d92d98943e75efe2f3a01a6153ed3d91c86d8bf9e93bcb76e2c44"), looks := true }, kinds := [], alts := [], laidByText := true, laidKinds := [.data, .data, .data, .data, .sentinel, .sentinel, .pinned], laidTests := true, laidLooks := .later }
def PrefixFormsUptoCardSaid : Prop := Claim7.holds Tryd.pinned (.plain (OpenSpec.upto prefixFormsSpec)) prefixFormsUptoCard
end Rows
end Go.Proofs.YtgegloplhlkafaaDoor
