/- What the rows' listed tables give; a world for the witnesses in which the tables are laid. -/
import Derived.Test.YtceolenmcpndaaaDoorCards
import Derived.Test.YtceolenmcpndaaaDoorTie
import Derived.Test.YtceolenmcpndaaaDoorArgs
import Derived.Deep.DeepHandedRow
import Derived.Lib.LaidTab
set_option autoImplicit false
namespace Go.Proofs.YtceolenmcpndaaaDoor
open Go.RowKit Go.WideShapes Go.ChangeShapes

theorem ownK : ownKnob Tryd.prog.godebug = none := by kernel_rfl
theorem gPow : Tryd.prog.globalNamed "internal/strconv.uint64pow10" = some 1 := by kernel_rfl
theorem gPowType : (Tryd.prog.globals[1]?).map (·.type) = some 138 := by kernel_rfl
theorem gBr : Tryd.prog.globalNamed "peerage/segment.brackets" = some 0 := by kernel_rfl
theorem gBrType : (Tryd.prog.globals[0]?).map (·.type) = some 66 := by kernel_rfl
theorem cPow : Tryd.prog.cellsOf 138 = 20 := by kernel_rfl
theorem cU64 : Tryd.prog.cellsOf 65 = 1 := by kernel_rfl
theorem cBr : Tryd.prog.cellsOf 66 = 3 := by kernel_rfl
theorem cStr : Tryd.prog.cellsOf 9 = 1 := by kernel_rfl

/-- A cell of an array of strings that reads as a list of strings. -/
theorem cells_of_strs {H : Type} {enc : TypeId × Value → H} {P : Program} {w : World} {base : Nat} {sp : Nat → Bool} {held : Bool} {fuel : Nat} {t e : TypeId} {n : Nat} {cs : List Value} {zs : List (List UInt8)} {p : List MemPlace}
    (ht : P.underlying t = some (.array n e)) (he : P.underlying e = some .string) (hce : P.cellsOf e = 1)
    (h : DataW.trod enc P w base sp held fuel t cs = some (.agg (zs.map fun z => .lit (.string z)), p)) (i : Nat) (z : List UInt8) (hz : zs[i]? = some z) (hi : i < n) : cs[i]? = some (.string ⟨z.toArray⟩) := by
  cases fuel with
  | zero => simp [DataW.trod] at h
  | succ fuel =>
    simp only [DataW.trod, ht, hce, Nat.mul_one] at h
    split at h
    · obtain ⟨xs, hm, hx⟩ := Option.map_eq_some_iff.1 h
      have hxs : xs.map (·.1) = zs.map fun z => (DataW.lit (.string z) : DataW H) := by
        have := congrArg Prod.fst hx
        simpa using this
      obtain ⟨b, hb, hf⟩ := Lib.mapM_at hm i i (by simp [hi])
      obtain ⟨s, hc, rfl, _⟩ := DataW.trod_string he hf
      have h1 : cs[i]? = some (.string s) := by
        have := congrArg (·[0]?) hc
        simpa [List.getElem?_take, List.getElem?_drop] using this
      have h2 : (xs.map (·.1))[i]? = some (DataW.lit (.string s.data.toList) : DataW H) := by simp [hb]
      rw [hxs] at h2
      simp only [List.getElem?_map, hz, Option.map_some, Option.some.injEq, DataW.lit.injEq, Lit.string.injEq] at h2
      rw [h1, h2]
    · cases h

/-- The tables, out of the row's list. -/
theorem tabs_of_laid {W : World} (h : laidMet Tryd.prog Rows.segmentLengthsRow.laid W) : Tabs W := by
  obtain ⟨ps, ⟨g1, t1, cs1, f1, p1, q1, _, _, _, _, ⟨g2, t2, cs2, f2, p2, q2, _, _, _, _, ⟨g3, t3, cs3, f3, p3, q3, a3, b3, c3, d3, ⟨g4, t4, cs4, f4, p4, q4, a4, b4, c4, d4, _, _⟩, _⟩, _⟩, _⟩, _, _⟩ := h
  obtain rfl := Option.some.inj (gPow.symm.trans a3)
  obtain rfl := Option.some.inj (gPowType.symm.trans b3)
  obtain rfl := Option.some.inj (gBr.symm.trans a4)
  obtain rfl := Option.some.inj (gBrType.symm.trans b4)
  have hp : Lib.TabIs Tryd.prog W "internal/strconv.uint64pow10" .u64 Lib.pow10Tab := by
    unfold Lib.TabIs
    rw [c3, ← Lib.cells_of_tab (k := .u64) (zs := Lib.pow10Tab) Tryd.underlying138 Tryd.underlying65 cU64 cPow d3]
  have k1 := cells_of_strs (zs := [[], [123, 125], [91, 93]]) Tryd.underlying66 Tryd.underlying9 cStr d4 1 _ rfl (by omega)
  have k2 := cells_of_strs (zs := [[], [123, 125], [91, 93]]) Tryd.underlying66 Tryd.underlying9 cStr d4 2 _ rfl (by omega)
  have e1 : W.cell? ⟨0, 1, none⟩ = some (.string ⟨#[123, 125]⟩) := by
    rw [World.var?_cell gBr c4 1]; simpa using k1
  have e2 : W.cell? ⟨0, 2, none⟩ = some (.string ⟨#[91, 93]⟩) := by
    rw [World.var?_cell gBr c4 2]; simpa using k2
  exact ⟨hp, e1, e2, lt_of_cell e1⟩

/-- The cells that a datum of literals lies in. -/
def litCells : DataW Unit → Array Value
  | .agg ds => (ds.map fun | .lit (.int k n) => Value.int k n | .lit (.string s) => .string ⟨s.toArray⟩ | _ => .bool false).toArray
  | _ => #[]
def layIn (h : Array Obj) (g : Nat) (d : DataW Unit) : Array Obj := h.modify g fun
  | .cells _ t frozen => .cells (litCells d) t frozen
  | o => o
/-- A world for the witness: the settled one, each listed table holding what its initialiser lays. -/
noncomputable def laidWorld (os : Os) : World :=
  { World.holding Tryd.prog os ⟨#[], #[], []⟩ with
    heap := layIn (layIn (layIn (layIn (World.holding Tryd.prog os ⟨#[], #[], []⟩).heap 5 Rows.laid_math_bits_deBruijn32tab) 6 Rows.laid_math_bits_deBruijn64tab)
      1 Rows.laid_internal_strconv_uint64pow10) 0 Rows.laid_peerage_segment_brackets }
end Go.Proofs.YtceolenmcpndaaaDoor
