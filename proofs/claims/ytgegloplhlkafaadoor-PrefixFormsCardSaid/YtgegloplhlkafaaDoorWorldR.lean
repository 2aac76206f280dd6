/- What the rows' listed tables and variables give where the errors of strconv are listed (prefix seat); a world for the witnesses in which they are laid. -/
import Derived.Test.YtgegloplhlkafaaDoorWorldP
import Derived.Test.YtgegloplhlkafaaDoorPfxXU
import Derived.Deep.DeepWitnessRowRef
import Derived.LaidLaws
import Derived.Shelf.Vars
set_option autoImplicit false
namespace Go.Proofs.YtgegloplhlkafaaDoor
open Go.RowKit Go.WideShapes Go.ChangeShapes

theorem gErrR : Tryd.prog.globalNamed "strconv.ErrRange" = some 2 := by kernel_rfl
theorem gErrS : Tryd.prog.globalNamed "strconv.ErrSyntax" = some 1 := by kernel_rfl
theorem gErrRType : (Tryd.prog.globals[2]?).map (·.type) = some 74 := by kernel_rfl
theorem gErrSType : (Tryd.prog.globals[1]?).map (·.type) = some 74 := by kernel_rfl
theorem gDb : Tryd.prog.globalNamed "math/bits.deBruijn64tab" = some 7 := by kernel_rfl
theorem gDbType : (Tryd.prog.globals[7]?).map (·.type) = some 149 := by kernel_rfl
theorem cDb : Tryd.prog.cellsOf 149 = 64 := by kernel_rfl
theorem cU8 : Tryd.prog.cellsOf 5 = 1 := by kernel_rfl
def dbTab : List Int := [0, 1, 56, 2, 57, 49, 28, 3, 61, 58, 42, 50, 38, 29, 17, 4, 62, 47, 59, 36, 45, 43, 51, 22, 53, 39, 33, 30, 24, 18, 12, 5, 63, 55, 48, 27, 60, 41, 37, 16, 46, 35, 44, 21, 52, 32, 23, 11, 54, 26, 40, 15, 34, 20, 31, 10, 25, 14, 19, 9, 13, 8, 7, 6]
theorem maxLen_any {W : World} (h : W.ShapedOpen Tryd.prog) : ∃ m, W.cell? ⟨0, 0, none⟩ = some (.int .i64 m) :=
  Go.Proofs.cell_of_shapedOpen_int (zero := #[.int .i64 0]) (t := 3) h (of_decide_eq_true (by kernel_rfl)) (by kernel_rfl) rfl (by kernel_rfl) (by kernel_rfl) Tryd.underlying3

/-- The tables and variables, out of the row's list. -/
theorem tabsR_of_laid {W : World} (h : laidMet Tryd.prog Rows.prefixParsesRow.laid W) (hsh : W.ShapedOpen Tryd.prog) : TabsR W := by
  obtain ⟨ps, ⟨g1, t1, cs1, f1, p1, q1, a1, b1, c1, d1, ⟨g2, t2, cs2, f2, p2, q2, a2, b2, c2, d2, ⟨g3, t3, cs3, f3, p3, q3, a3, b3, c3, d3, ⟨g4, t4, cs4, f4, p4, q4, a4, b4, c4, d4, ⟨g5, t5, cs5, f5, p5, q5, a5, b5, c5, d5, ⟨g6, t6, cs6, f6, p6, q6, a6, b6, c6, d6, ⟨g7, t7, cs7, f7, p7, q7, a7, b7, c7, d7, _, _⟩, _⟩, _⟩, _⟩, _⟩, _⟩, _⟩, _, _⟩ := h
  obtain rfl := Option.some.inj (gPow.symm.trans a3)
  obtain rfl := Option.some.inj (gPowType.symm.trans b3)
  obtain rfl := Option.some.inj (gDb.symm.trans a2)
  obtain rfl := Option.some.inj (gDbType.symm.trans b2)
  obtain rfl := Option.some.inj (gErrR.symm.trans a5)
  obtain rfl := Option.some.inj (gErrRType.symm.trans b5)
  obtain rfl := Option.some.inj (gErrS.symm.trans a6)
  obtain rfl := Option.some.inj (gErrSType.symm.trans b6)
  have hp : Lib.TabIs Tryd.prog W "internal/strconv.uint64pow10" .u64 Lib.pow10Tab := by
    unfold Lib.TabIs
    rw [c3, ← Lib.cells_of_tab (k := .u64) (zs := Lib.pow10Tab) Tryd.underlying132 Tryd.underlying96 cU64 cPow d3]
  have k15 := Lib.cells_of_tab (k := .u8) (zs := dbTab) Tryd.underlying149 Tryd.underlying5 cU8 cDb d2
  have e15 : W.cell? ⟨7, 15, none⟩ = some (.int .u8 4) := by
    rw [World.var?_cell gDb c2 15, ← Array.getElem?_toList, k15]; rfl
  obtain ⟨_, u5, v5, e5, _⟩ := iface_of_trod Tryd.underlying74 d5
  obtain ⟨_, u6, v6, e6, _⟩ := iface_of_trod Tryd.underlying74 d6
  refine ⟨⟨hp, e15⟩, maxLen_any hsh, ⟨u6, v6, ?_⟩, ⟨u5, v5, ?_⟩⟩
  · rw [World.var?_cell gErrS c6 0, ← Array.getElem?_toList, e6]; rfl
  · rw [World.var?_cell gErrR c5 0, ← Array.getElem?_toList, e5]; rfl
theorem tabsF_of_laid {W : World} (h : laidMet Tryd.prog Rows.prefixFormsRow.laid W) (hsh : W.ShapedOpen Tryd.prog) : TabsR W := tabsR_of_laid h hsh

def litCells2 : DataW Unit → Array Value
  | .agg ds => (ds.flatMap fun
      | .agg es => es.map fun | .lit (.int k n) => Value.int k n | _ => .bool false
      | .lit (.int k n) => [Value.int k n]
      | .lit (.string s) => [.string ⟨s.toArray⟩]
      | _ => [.bool false]).toArray
  | _ => #[]
def putIn (h : Array Obj) (g : Nat) (cs : Array Value) : Array Obj := h.modify g fun
  | .cells _ t frozen => .cells cs t frozen
  | o => o
/-- A world for the witness: the settled one with two blocks more (the errors' structs), each listed variable holding what its initialiser lays. -/
noncomputable def laidWorldE (os : Os) : World :=
  let N := (World.settled Tryd.prog os).heap.size
  let w0 := World.holding Tryd.prog os ⟨#[.cells #[.string ⟨#[118, 97, 108, 117, 101, 32, 111, 117, 116, 32, 111, 102, 32, 114, 97, 110, 103, 101]⟩] 142, .cells #[.string ⟨#[105, 110, 118, 97, 108, 105, 100, 32, 115, 121, 110, 116, 97, 120]⟩] 142], #[], []⟩
  let h0 := putIn (putIn w0.heap 2 #[.iface 140 (.pointer (some ⟨N, 0, none⟩))]) 1 #[.iface 140 (.pointer (some ⟨N + 1, 0, none⟩))]
  let h1 := putIn (putIn h0 6 (litCells2 Rows.laid_math_bits_deBruijn32tab)) 7 (litCells2 Rows.laid_math_bits_deBruijn64tab)
  let h2 := putIn h1 3 (litCells2 Rows.laid_internal_strconv_uint64pow10)
  let h3 := putIn (putIn h2 5 (litCells2 Rows.laid_unicode_utf8_acceptRanges)) 4 (litCells2 Rows.laid_unicode_utf8_first)
  { w0 with heap := h3 }
end Go.Proofs.YtgegloplhlkafaaDoor
