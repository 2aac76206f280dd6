/- What the rows' listed tables give; a world for the witnesses in which the tables are laid. -/
import Derived.Test.YtgegloplhlkafaaDoorCards
import Derived.Test.YtgegloplhlkafaaDoorTie
import Derived.Test.YtgegloplhlkafaaDoorArgsP
import Derived.Deep.DeepHandedRow
import Derived.Lib.LaidTab
set_option autoImplicit false
namespace Go.Proofs.YtgegloplhlkafaaDoor
open Go.RowKit Go.WideShapes Go.ChangeShapes

theorem ownK : ownKnob Tryd.prog.godebug = none := by kernel_rfl
theorem gPow : Tryd.prog.globalNamed "internal/strconv.uint64pow10" = some 3 := by kernel_rfl
theorem gPowType : (Tryd.prog.globals[3]?).map (·.type) = some 132 := by kernel_rfl
theorem cPow : Tryd.prog.cellsOf 132 = 20 := by kernel_rfl
theorem cU64 : Tryd.prog.cellsOf 96 = 1 := by kernel_rfl
/-- The table, out of the row's list. -/
theorem tabs_of_laid {W : World} (h : laidMet Tryd.prog Rows.prefixMakesRow.laid W) : Tab W := by
  obtain ⟨ps, ⟨g1, t1, cs1, f1, p1, q1, _, _, _, _, ⟨g2, t2, cs2, f2, p2, q2, _, _, _, _, ⟨g3, t3, cs3, f3, p3, q3, a3, b3, c3, d3, _, _⟩, _⟩, _⟩, _, _⟩ := h
  obtain rfl := Option.some.inj (gPow.symm.trans a3)
  obtain rfl := Option.some.inj (gPowType.symm.trans b3)
  show Lib.TabIs Tryd.prog W "internal/strconv.uint64pow10" .u64 Lib.pow10Tab
  unfold Lib.TabIs
  rw [c3, ← Lib.cells_of_tab (k := .u64) (zs := Lib.pow10Tab) Tryd.underlying132 Tryd.underlying96 cU64 cPow d3]

/-- The cells that a datum of literals lies in. -/
def litCells : DataW Unit → Array Value
  | .agg ds => (ds.map fun | .lit (.int k n) => Value.int k n | .lit (.string s) => .string ⟨s.toArray⟩ | _ => .bool false).toArray
  | _ => #[]
def layIn (h : Array Obj) (g : Nat) (d : DataW Unit) : Array Obj := h.modify g fun
  | .cells _ t frozen => .cells (litCells d) t frozen
  | o => o
/-- A world for the witness: the settled one, each listed table holding what its initialiser lays. -/
noncomputable def laidWorld (os : Os) : World :=
  { World.holding Tryd.prog os ⟨#[], #[], []⟩ with
    heap := layIn (layIn (layIn (World.holding Tryd.prog os ⟨#[], #[], []⟩).heap 6 Rows.laid_math_bits_deBruijn32tab) 7 Rows.laid_math_bits_deBruijn64tab)
      3 Rows.laid_internal_strconv_uint64pow10 }
end Go.Proofs.YtgegloplhlkafaaDoor
