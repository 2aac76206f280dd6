/- What the row's variables give (seat of ScriptHex): the cell MaxLen; a world for the witness in which the listed variables are laid. -/
import Derived.Test.YtakocncckglboaaGreatDoorCards
import Derived.Test.YtakocncckglboaaGreatDoorTie
import Derived.Test.YtakocncckglboaaGreatDoorArgsH
import Derived.Deep.DeepHandedRow
import Derived.Lib.LaidTab
import Derived.Deep.DeepWitnessRowRef
import Derived.LaidLaws
import Derived.Shelf.Vars
set_option autoImplicit false
namespace Go.Proofs.YtakocncckglboaaGreatDoor
open Go.RowKit Go.WideShapes Go.ChangeShapes

theorem ownK : ownKnob Tryz.prog.godebug = none := by kernel_rfl
theorem maxLen_any {W : World} (h : W.ShapedOpen Tryz.prog) : ∃ m, W.cell? ⟨0, 0, none⟩ = some (.int .i64 m) :=
  Go.Proofs.cell_of_shapedOpen_int (zero := #[.int .i64 0]) (t := 3) h (of_decide_eq_true (by kernel_rfl)) (by kernel_rfl) rfl (by kernel_rfl) (by kernel_rfl) Tryz.underlying3
theorem scripthex_str (A : Option Addr) (c : Nat) (l : List Int) (bs : ByteArray) (w : World) (h : Byts w w.heap.size A l) (hb : Bs l) (hl : l.length ≤ 140737488351232) (hs : bs.size ≤ 9223372036854775807) (hsh : w.ShapedOpen Tryz.prog) :
    Calls Tryz.prog 3 #[.slice A l.length c, .string bs] w fun e w' => e = .returned (.bool true) ∧ Below w.heap.size w w' := by
  obtain ⟨m, hm⟩ := maxLen_any hsh
  have h2 := scripthex_any A c l bs.data.toList m w h hb (by omega) (by rw [← Lib.size_eq]; exact hs) hm
  rw [strB_eta] at h2
  exact h2
def litCells2 : DataW Unit → Array Value
  | .agg ds => (ds.flatMap fun
      | .agg es => es.map fun | .lit (.int k n) => Value.int k n | _ => .bool false
      | .lit (.int k n) => [Value.int k n]
      | .lit (.string s) => [.string ⟨s.toArray⟩]
      | _ => [.bool false]).toArray
  | _ => #[]
def putIn (h : Array Obj) (g : Nat) (cs : Array Value) : Array Obj := h.modify g fun
  | .cells _ t frozen => .cells cs t frozen
  | o => o
/-- A world for the witness: the settled one, each listed variable holding what its initialiser lays. -/
noncomputable def laidWorldH (os : Os) : World :=
  let w0 := World.holding Tryz.prog os ⟨#[], #[], []⟩
  let h1 := putIn (putIn w0.heap 6 (litCells2 Rows.laid_math_bits_deBruijn32tab)) 7 (litCells2 Rows.laid_math_bits_deBruijn64tab)
  let h2 := putIn h1 5 (litCells2 Rows.laid_internal_strconv_uint64pow10)
  let h3 := putIn (putIn h2 4 (litCells2 Rows.laid_unicode_utf8_acceptRanges)) 3 (litCells2 Rows.laid_unicode_utf8_first)
  let h4 := putIn (putIn h3 1 (litCells2 Rows.laid_peerage_finding_names)) 2 (litCells2 Rows.laid_peerage_finding_families)
  { w0 with heap := h4 }
end Go.Proofs.YtakocncckglboaaGreatDoor
