/- A world for the witness of the row of ValueSame, in which the listed variables are laid. -/
import Derived.Test.YtnfclcbhehbchaaGreatDoorCards
import Derived.Test.YtnfclcbhehbchaaGreatDoorTie
import Derived.Test.YtnfclcbhehbchaaGreatDoorArgsV
import Derived.Deep.DeepHandedRow
import Derived.Lib.LaidTab
import Derived.Deep.DeepWitnessRowRef
import Derived.LaidLaws
import Derived.Shelf.Vars
set_option autoImplicit false
namespace Go.Proofs.YtnfclcbhehbchaaGreatDoor
open Go.RowKit Go.WideShapes Go.ChangeShapes

theorem ownK : ownKnob Tryz.prog.godebug = none := by kernel_rfl
def litCells2 : DataW Unit → Array Value
  | .agg ds => (ds.flatMap fun
      | .agg es => es.map fun | .lit (.int k n) => Value.int k n | _ => .bool false
      | .lit (.int k n) => [Value.int k n]
      | .lit (.string s) => [.string ⟨s.toArray⟩]
      | _ => [.bool false]).toArray
  | _ => #[]
def putIn (h : Array Obj) (g : Nat) (cs : Array Value) : Array Obj := h.modify g fun
  | .cells _ t frozen => .cells cs t frozen
  | o => o
/-- A world for the witness: the settled one, each listed variable holding what its initialiser lays. -/
noncomputable def laidWorldV (os : Os) : World :=
  let w0 := World.holding Tryz.prog os ⟨#[], #[], []⟩
  let h1 := putIn (putIn w0.heap 1 (litCells2 Rows.laid_math_bits_deBruijn32tab)) 2 (litCells2 Rows.laid_math_bits_deBruijn64tab)
  let h2 := putIn h1 0 (litCells2 Rows.laid_internal_strconv_uint64pow10)
  { w0 with heap := h2 }
end Go.Proofs.YtnfclcbhehbchaaGreatDoor
