/- What the rows' listed tables give; a world for the witnesses in which the tables are laid. -/
import Derived.Test.YtceolenmcpndaaaGreatDoorCards
import Derived.Test.YtceolenmcpndaaaGreatDoorTie
import Derived.Test.YtceolenmcpndaaaGreatDoorArgs
import Derived.Deep.DeepHandedRow
import Derived.Lib.LaidTab
set_option autoImplicit false
namespace Go.Proofs.YtceolenmcpndaaaGreatDoor
open Go.RowKit Go.WideShapes Go.ChangeShapes

theorem ownK : ownKnob Tryz.prog.godebug = none := by kernel_rfl
theorem gPow : Tryz.prog.globalNamed "internal/strconv.uint64pow10" = some 1 := by kernel_rfl
theorem gPowType : (Tryz.prog.globals[1]?).map (·.type) = some 121 := by kernel_rfl
theorem gBr : Tryz.prog.globalNamed "peerage/segment.brackets" = some 0 := by kernel_rfl
theorem gBrType : (Tryz.prog.globals[0]?).map (·.type) = some 50 := by kernel_rfl
theorem cPow : Tryz.prog.cellsOf 121 = 20 := by kernel_rfl
theorem cU64 : Tryz.prog.cellsOf 49 = 1 := by kernel_rfl
theorem cBr : Tryz.prog.cellsOf 50 = 3 := by kernel_rfl
theorem cStr : Tryz.prog.cellsOf 9 = 1 := by kernel_rfl

/-- A cell of an array of strings that reads as a list of strings. -/
theorem cells_of_strs {H : Type} {enc : TypeId × Value → H} {P : Program} {w : World} {base : Nat} {sp : Nat → Bool} {held : Bool} {fuel : Nat} {t e : TypeId} {n : Nat} {cs : List Value} {zs : List (List UInt8)} {p : List MemPlace}
    (ht : P.underlying t = some (.array n e)) (he : P.underlying e = some .string) (hce : P.cellsOf e = 1)
    (h : DataW.trod enc P w base sp held fuel t cs = some (.agg (zs.map fun z => .lit (.string z)), p)) (i : Nat) (z : List UInt8) (hz : zs[i]? = some z) (hi : i < n) : cs[i]? = some (.string ⟨z.toArray⟩) := by
  cases fuel with
  | zero => simp [DataW.trod] at h
  | succ fuel =>
    simp only [DataW.trod, ht, hce, Nat.mul_one] at h
    split at h
    · obtain ⟨xs, hm, hx⟩ := Option.map_eq_some_iff.1 h
      have hxs : xs.map (·.1) = zs.map fun z => (DataW.lit (.string z) : DataW H) := by
        have := congrArg Prod.fst hx
        simpa using this
      obtain ⟨b, hb, hf⟩ := Lib.mapM_at hm i i (by simp [hi])
      obtain ⟨s, hc, rfl, _⟩ := DataW.trod_string he hf
      have h1 : cs[i]? = some (.string s) := by
        have := congrArg (·[0]?) hc
        simpa [List.getElem?_take, List.getElem?_drop] using this
      have h2 : (xs.map (·.1))[i]? = some (DataW.lit (.string s.data.toList) : DataW H) := by simp [hb]
      rw [hxs] at h2
      simp only [List.getElem?_map, hz, Option.map_some, Option.some.injEq, DataW.lit.injEq, Lit.string.injEq] at h2
      rw [h1, h2]
    · cases h


/-- The cells that a datum of literals lies in. -/
def litCells : DataW Unit → Array Value
  | .agg ds => (ds.map fun | .lit (.int k n) => Value.int k n | .lit (.string s) => .string ⟨s.toArray⟩ | _ => .bool false).toArray
  | _ => #[]
def layIn (h : Array Obj) (g : Nat) (d : DataW Unit) : Array Obj := h.modify g fun
  | .cells _ t frozen => .cells (litCells d) t frozen
  | o => o
/-- A world for the witness: the settled one, each listed table holding what its initialiser lays. -/
noncomputable def laidWorld (os : Os) : World :=
  { World.holding Tryz.prog os ⟨#[], #[], []⟩ with
    heap := layIn (layIn (layIn (layIn (World.holding Tryz.prog os ⟨#[], #[], []⟩).heap 5 Rows.laid_math_bits_deBruijn32tab) 6 Rows.laid_math_bits_deBruijn64tab)
      1 Rows.laid_internal_strconv_uint64pow10) 0 Rows.laid_peerage_segment_brackets }
end Go.Proofs.YtceolenmcpndaaaGreatDoor
