/- The canonical head of an empty path, and its form. -/
import Derived.Test.YtnfclcbhehbchaaGreatDoorFlgG
import Derived.Test.YtnfclcbhehbchaaGreatDoorFlgI
set_option autoImplicit false
namespace Go.Proofs.YtnfclcbhehbchaaGreatDoor
open Go.RowKit
theorem two_cls : clsF 2 = some 64 := by decide
set_option maxRecDepth 100000 in
set_option maxHeartbeats 4000000 in
theorem canon_two (w : World) : Calls Tryz.prog 64 #[.int .i64 2, .bool false, .int .i64 0] w fun e w' => e = .returned (.tuple #[.agg #[.int .i64 64, .int .i64 2, .int .i64 0], .bool true]) ∧ Below w.heap.size w w' := by
  obtain ⟨W0, hW0⟩ : ∃ W0, W0 = w.alloc (.cells #[.int .i64 0, .int .i64 0, .int .i64 0] 92) := ⟨_, rfl⟩
  have hg0 : W0.heap[w.heap.size]? = some (.cells #[.int .i64 0, .int .i64 0, .int .i64 0] 92 (0, 0)) := by rw [hW0]; exact heap_alloc_new _ _
  have hb0 : Below w.heap.size w W0 := by rw [hW0]; exact (Below.refl _ _).alloc (Nat.le_refl _) _
  have G0 := Lib.hid hg0
  have B0 := hide hb0
  have HW0 := Lib.hid hW0
  have HC := hide (fun W => class_any 2 64 W two_cls)
  have hhs := head_size
  have HHS := Lib.hid hhs
  clear hg0 hb0 hW0 hhs
  go_enter Tryz.func64, Tryz.ntmps64
  go_wp2_with (first
    | (go_at_call 80; rw [← HW0.out]; refine (HC.out _).mono ?_; rintro e w1 ⟨rfl, hb1⟩
       have g1 := (hb1.block _ (lt_of_heapF G0.out)).trans G0.out
       have G1 := Lib.hid g1
       have B1 := hide (B0.out.trans (hb1.mono B0.out.size))
       clear g1 hb1)
    | ((with_reducible refine wpList_store_whole w1 ?hgd2 92 (.tmp 6) (.tmp 49) ?ho2 w.heap.size 92 #[.int .i64 0, .int .i64 0, .int .i64 0] #[.int .i64 64, .int .i64 2, .int .i64 0] ?hx2 ?hp2 G1.out ?hi2 ?hs2 ?hq2 ?_); (case hgd2 => rfl); (case ho2 => rfl); (case hx2 => rfl); (case hp2 => rfl); (case hs2 => rfl); (case hi2 => exact HHS.out); (case hq2 => simp [Value.oneCell'])
       intro W2 G2 O2
       have B2 := hide (B1.out.grown O2.out B1.out.size (fun x hx => by injection hx; omega))
       clear O2))
  exact bodyPost_ret (v := .tuple #[.agg #[.int .i64 64, .int .i64 2, .int .i64 0], .bool true]) (results_cellT (p := 6) (t := 7) rfl _ _ w.heap.size 92 _ _ rfl rfl G2.out Tryz.underlying92 rfl HHS.out) rfl ⟨rfl, B2.out⟩
end Go.Proofs.YtnfclcbhehbchaaGreatDoor
