/- What the rows' listed tables and variables give where the errors of strconv are listed; a world for the witnesses in which they are laid. -/
import Derived.Test.YtceolenmcpndaaaGreatDoorWorld
import Derived.Test.YtceolenmcpndaaaGreatDoorSegPC2
import Derived.Deep.DeepWitnessRowRef
import Derived.LaidLaws
import Derived.Shelf.Vars
set_option autoImplicit false
namespace Go.Proofs.YtceolenmcpndaaaGreatDoor
open Go.RowKit Go.WideShapes Go.ChangeShapes

theorem gErrR : Tryz.prog.globalNamed "strconv.ErrRange" = some 4 := by kernel_rfl
theorem gErrS : Tryz.prog.globalNamed "strconv.ErrSyntax" = some 3 := by kernel_rfl
theorem gErrRType : (Tryz.prog.globals[4]?).map (·.type) = some 70 := by kernel_rfl
theorem gErrSType : (Tryz.prog.globals[3]?).map (·.type) = some 70 := by kernel_rfl
theorem maxLen_any {W : World} (h : W.ShapedOpen Tryz.prog) : ∃ m, W.cell? ⟨2, 0, none⟩ = some (.int .i64 m) :=
  Go.Proofs.cell_of_shapedOpen_int (zero := #[.int .i64 0]) (t := 3) h (of_decide_eq_true (by kernel_rfl)) (by kernel_rfl) rfl (by kernel_rfl) (by kernel_rfl) Tryz.underlying3

/-- The tables and variables, out of the row's list. -/
theorem tabsQ_of_laid {W : World} (h : laidMet Tryz.prog Rows.segmentFormsRow.laid W) (hsh : W.ShapedOpen Tryz.prog) : TabsQ W := by
  obtain ⟨ps, ⟨g1, t1, cs1, f1, p1, q1, a1, b1, c1, d1, ⟨g2, t2, cs2, f2, p2, q2, a2, b2, c2, d2, ⟨g3, t3, cs3, f3, p3, q3, a3, b3, c3, d3, ⟨g4, t4, cs4, f4, p4, q4, a4, b4, c4, d4, ⟨g5, t5, cs5, f5, p5, q5, a5, b5, c5, d5, ⟨g6, t6, cs6, f6, p6, q6, a6, b6, c6, d6, ⟨g7, t7, cs7, f7, p7, q7, a7, b7, c7, d7, ⟨g8, t8, cs8, f8, p8, q8, a8, b8, c8, d8, _, _⟩, _⟩, _⟩, _⟩, _⟩, _⟩, _⟩, _⟩, _, _⟩ := h
  obtain rfl := Option.some.inj (gPow.symm.trans a3)
  obtain rfl := Option.some.inj (gPowType.symm.trans b3)
  obtain rfl := Option.some.inj (gBr.symm.trans a7)
  obtain rfl := Option.some.inj (gBrType.symm.trans b7)
  obtain rfl := Option.some.inj (gErrR.symm.trans a5)
  obtain rfl := Option.some.inj (gErrRType.symm.trans b5)
  obtain rfl := Option.some.inj (gErrS.symm.trans a6)
  obtain rfl := Option.some.inj (gErrSType.symm.trans b6)
  have hp : Lib.TabIs Tryz.prog W "internal/strconv.uint64pow10" .u64 Lib.pow10Tab := by
    unfold Lib.TabIs
    rw [c3, ← Lib.cells_of_tab (k := .u64) (zs := Lib.pow10Tab) Tryz.underlying121 Tryz.underlying49 cU64 cPow d3]
  have k0 := cells_of_strs (zs := [[], [123, 125], [91, 93]]) Tryz.underlying50 Tryz.underlying9 cStr d7 0 _ rfl (by omega)
  have k1 := cells_of_strs (zs := [[], [123, 125], [91, 93]]) Tryz.underlying50 Tryz.underlying9 cStr d7 1 _ rfl (by omega)
  have k2 := cells_of_strs (zs := [[], [123, 125], [91, 93]]) Tryz.underlying50 Tryz.underlying9 cStr d7 2 _ rfl (by omega)
  have e0 : W.cell? ⟨0, 0, none⟩ = some (.string ⟨#[]⟩) := by
    rw [World.var?_cell gBr c7 0]; simpa using k0
  have e1 : W.cell? ⟨0, 1, none⟩ = some (.string ⟨#[123, 125]⟩) := by
    rw [World.var?_cell gBr c7 1]; simpa using k1
  have e2 : W.cell? ⟨0, 2, none⟩ = some (.string ⟨#[91, 93]⟩) := by
    rw [World.var?_cell gBr c7 2]; simpa using k2
  obtain ⟨_, u5, v5, e5, _⟩ := iface_of_trod Tryz.underlying70 d5
  obtain ⟨_, u6, v6, e6, _⟩ := iface_of_trod Tryz.underlying70 d6
  refine ⟨⟨⟨hp, e1, e2, lt_of_cell e1⟩, e0⟩, maxLen_any hsh, ⟨u6, v6, ?_⟩, ⟨u5, v5, ?_⟩⟩
  · rw [World.var?_cell gErrS c6 0, ← Array.getElem?_toList, e6]; rfl
  · rw [World.var?_cell gErrR c5 0, ← Array.getElem?_toList, e5]; rfl

def litCells2 : DataW Unit → Array Value
  | .agg ds => (ds.flatMap fun
      | .agg es => es.map fun | .lit (.int k n) => Value.int k n | _ => .bool false
      | .lit (.int k n) => [Value.int k n]
      | .lit (.string s) => [.string ⟨s.toArray⟩]
      | _ => [.bool false]).toArray
  | _ => #[]
def putIn (h : Array Obj) (g : Nat) (cs : Array Value) : Array Obj := h.modify g fun
  | .cells _ t frozen => .cells cs t frozen
  | o => o
/-- A world for the witness: the settled one with two blocks more (the errors' structs), each listed variable holding what its initialiser lays. -/
noncomputable def laidWorldE (os : Os) : World :=
  let N := (World.settled Tryz.prog os).heap.size
  let w0 := World.holding Tryz.prog os ⟨#[.cells #[.string ⟨#[118, 97, 108, 117, 101, 32, 111, 117, 116, 32, 111, 102, 32, 114, 97, 110, 103, 101]⟩] 137, .cells #[.string ⟨#[105, 110, 118, 97, 108, 105, 100, 32, 115, 121, 110, 116, 97, 120]⟩] 137], #[], []⟩
  let h0 := putIn (putIn w0.heap 4 #[.iface 135 (.pointer (some ⟨N, 0, none⟩))]) 3 #[.iface 135 (.pointer (some ⟨N + 1, 0, none⟩))]
  let h1 := putIn (putIn h0 5 (litCells2 Rows.laid_math_bits_deBruijn32tab)) 6 (litCells2 Rows.laid_math_bits_deBruijn64tab)
  let h2 := putIn (putIn h1 1 (litCells2 Rows.laid_internal_strconv_uint64pow10)) 0 (litCells2 Rows.laid_peerage_segment_brackets)
  let h3 := putIn (putIn h2 8 (litCells2 Rows.laid_unicode_utf8_acceptRanges)) 7 (litCells2 Rows.laid_unicode_utf8_first)
  { w0 with heap := h3 }
end Go.Proofs.YtceolenmcpndaaaGreatDoor
