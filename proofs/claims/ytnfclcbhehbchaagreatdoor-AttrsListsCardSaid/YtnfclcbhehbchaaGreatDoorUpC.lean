/- Updates as data: the same, few, empty. -/
import Derived.Test.YtnfclcbhehbchaaGreatDoorUpB
set_option autoImplicit false
namespace Go.Proofs.YtnfclcbhehbchaaGreatDoor
open Go.RowKit

set_option maxRecDepth 100000 in
set_option maxHeartbeats 8000000 in
theorem usame_parts (S1 S2 L1 L2 R1 R2 : Value) (s l r : Bool) (w : World)
    (hS : ∀ W, Below w.heap.size w W → Calls Tryz.prog 39 #[S1, S2, .func (.func 40) #[] #[]] W fun e w' => e = .returned (.bool s) ∧ Below W.heap.size W w')
    (hL : ∀ W, Below w.heap.size w W → Calls Tryz.prog 41 #[L1, L2, .func (.func 42) #[] #[]] W fun e w' => e = .returned (.bool l) ∧ Below W.heap.size W w')
    (hR : ∀ W, Below w.heap.size w W → Calls Tryz.prog 39 #[R1, R2, .func (.func 40) #[] #[]] W fun e w' => e = .returned (.bool r) ∧ Below W.heap.size W w') :
    Calls Tryz.prog 19 #[.agg #[S1, L1, R1], .agg #[S2, L2, R2]] w fun e w' => e = .returned (.bool (s && l && r)) ∧ Below w.heap.size w w' := by
  obtain ⟨W0, hW0⟩ : ∃ W0, W0 = (w.alloc (.cells #[S1, L1, R1] 46)).alloc (.cells #[S2, L2, R2] 46) := ⟨_, rfl⟩
  have hbe : Below w.heap.size w W0 := by rw [hW0]; exact ((Below.refl _ _).alloc (Nat.le_refl _) _).alloc (by simp) _
  have hg1 : W0.heap[w.heap.size]? = some (.cells #[S1, L1, R1] 46 (0, 0)) := by rw [hW0]; exact heap_alloc2_old _ _ _
  have hg2 : W0.heap[w.heap.size + 1]? = some (.cells #[S2, L2, R2] 46 (0, 0)) := by rw [hW0]; exact heap_alloc2_new _ _ _
  have HW0 := Lib.hid hW0
  have BE := hide hbe
  have G1 := Lib.hid hg1
  have G2 := Lib.hid hg2
  have HS := hide (hS W0 hbe)
  have HL := Lib.hid hL
  have HR := Lib.hid hR
  clear hW0 hbe hg1 hg2 hS hL hR
  cases s
  · go_enter Tryz.func19, Tryz.ntmps19
    go_wp2_with (first
          | (go_at_call 39; rw [← HW0.out]; (with_reducible refine HS.out.mono ?_); rintro e w1 ⟨rfl, hb⟩
             have g1 := (hb.block _ (lt_of_heapF G1.out)).trans G1.out
             have g2 := (hb.block _ (lt_of_heapF G2.out)).trans G2.out
             have lw1 := lt_of_heapF g2
             have cw11 : w1.cell? ⟨w.heap.size, 1, none⟩ = some L1 := by rw [cell_of_row _ _ 1 _ _ _ g1]; rfl
             have dw11 : w1.cell? ⟨w.heap.size + 1, 1, none⟩ = some L2 := by rw [cell_of_row _ _ 1 _ _ _ g2]; rfl
             have cw12 : w1.cell? ⟨w.heap.size, 2, none⟩ = some R1 := by rw [cell_of_row _ _ 2 _ _ _ g1]; rfl
             have dw12 : w1.cell? ⟨w.heap.size + 1, 2, none⟩ = some R2 := by rw [cell_of_row _ _ 2 _ _ _ g2]; rfl
             have G1a := Lib.hid g1
             have G2a := Lib.hid g2
             have BE1 := hide (BE.out.trans (hb.mono BE.out.size))
             clear g1 g2 hb))
    go_ret
    exact ⟨rfl, BE1.out⟩
  cases l
  · go_enter Tryz.func19, Tryz.ntmps19
    go_wp2_with (first
          | (go_at_call 39; rw [← HW0.out]; (with_reducible refine HS.out.mono ?_); rintro e w1 ⟨rfl, hb⟩
             have g1 := (hb.block _ (lt_of_heapF G1.out)).trans G1.out
             have g2 := (hb.block _ (lt_of_heapF G2.out)).trans G2.out
             have lw1 := lt_of_heapF g2
             have cw11 : w1.cell? ⟨w.heap.size, 1, none⟩ = some L1 := by rw [cell_of_row _ _ 1 _ _ _ g1]; rfl
             have dw11 : w1.cell? ⟨w.heap.size + 1, 1, none⟩ = some L2 := by rw [cell_of_row _ _ 1 _ _ _ g2]; rfl
             have cw12 : w1.cell? ⟨w.heap.size, 2, none⟩ = some R1 := by rw [cell_of_row _ _ 2 _ _ _ g1]; rfl
             have dw12 : w1.cell? ⟨w.heap.size + 1, 2, none⟩ = some R2 := by rw [cell_of_row _ _ 2 _ _ _ g2]; rfl
             have G1a := Lib.hid g1
             have G2a := Lib.hid g2
             have BE1 := hide (BE.out.trans (hb.mono BE.out.size))
             clear g1 g2 hb)
          | (go_at_call 41; (with_reducible refine (HL.out _ BE1.out).mono ?_); rintro e w2 ⟨rfl, hb⟩
             have g1 := (hb.block _ (lt_of_heapF G1a.out)).trans G1a.out
             have g2 := (hb.block _ (lt_of_heapF G2a.out)).trans G2a.out
             have lw2 := lt_of_heapF g2
             have cw22 : w2.cell? ⟨w.heap.size, 2, none⟩ = some R1 := by rw [cell_of_row _ _ 2 _ _ _ g1]; rfl
             have dw22 : w2.cell? ⟨w.heap.size + 1, 2, none⟩ = some R2 := by rw [cell_of_row _ _ 2 _ _ _ g2]; rfl
             have G1b := Lib.hid g1
             have G2b := Lib.hid g2
             have BE2 := hide (BE1.out.trans (hb.mono BE1.out.size))
             clear g1 g2 hb))
    go_ret
    exact ⟨rfl, BE2.out⟩
  cases r
  · go_enter Tryz.func19, Tryz.ntmps19
    go_wp2_with (first
          | (go_at_call 39; rw [← HW0.out]; (with_reducible refine HS.out.mono ?_); rintro e w1 ⟨rfl, hb⟩
             have g1 := (hb.block _ (lt_of_heapF G1.out)).trans G1.out
             have g2 := (hb.block _ (lt_of_heapF G2.out)).trans G2.out
             have lw1 := lt_of_heapF g2
             have cw11 : w1.cell? ⟨w.heap.size, 1, none⟩ = some L1 := by rw [cell_of_row _ _ 1 _ _ _ g1]; rfl
             have dw11 : w1.cell? ⟨w.heap.size + 1, 1, none⟩ = some L2 := by rw [cell_of_row _ _ 1 _ _ _ g2]; rfl
             have cw12 : w1.cell? ⟨w.heap.size, 2, none⟩ = some R1 := by rw [cell_of_row _ _ 2 _ _ _ g1]; rfl
             have dw12 : w1.cell? ⟨w.heap.size + 1, 2, none⟩ = some R2 := by rw [cell_of_row _ _ 2 _ _ _ g2]; rfl
             have G1a := Lib.hid g1
             have G2a := Lib.hid g2
             have BE1 := hide (BE.out.trans (hb.mono BE.out.size))
             clear g1 g2 hb)
          | (go_at_call 41; (with_reducible refine (HL.out _ BE1.out).mono ?_); rintro e w2 ⟨rfl, hb⟩
             have g1 := (hb.block _ (lt_of_heapF G1a.out)).trans G1a.out
             have g2 := (hb.block _ (lt_of_heapF G2a.out)).trans G2a.out
             have lw2 := lt_of_heapF g2
             have cw22 : w2.cell? ⟨w.heap.size, 2, none⟩ = some R1 := by rw [cell_of_row _ _ 2 _ _ _ g1]; rfl
             have dw22 : w2.cell? ⟨w.heap.size + 1, 2, none⟩ = some R2 := by rw [cell_of_row _ _ 2 _ _ _ g2]; rfl
             have G1b := Lib.hid g1
             have G2b := Lib.hid g2
             have BE2 := hide (BE1.out.trans (hb.mono BE1.out.size))
             clear g1 g2 hb)
          | (go_at_call 39; (with_reducible refine (HR.out _ BE2.out).mono ?_); rintro e w3 ⟨rfl, hb⟩
             have g1 := (hb.block _ (lt_of_heapF G1b.out)).trans G1b.out
             have g2 := (hb.block _ (lt_of_heapF G2b.out)).trans G2b.out
             have lw3 := lt_of_heapF g2
             have G1c := Lib.hid g1
             have G2c := Lib.hid g2
             have BE3 := hide (BE2.out.trans (hb.mono BE2.out.size))
             clear g1 g2 hb))
    go_ret
    exact ⟨rfl, BE3.out⟩
  · go_enter Tryz.func19, Tryz.ntmps19
    go_wp2_with (first
          | (go_at_call 39; rw [← HW0.out]; (with_reducible refine HS.out.mono ?_); rintro e w1 ⟨rfl, hb⟩
             have g1 := (hb.block _ (lt_of_heapF G1.out)).trans G1.out
             have g2 := (hb.block _ (lt_of_heapF G2.out)).trans G2.out
             have lw1 := lt_of_heapF g2
             have cw11 : w1.cell? ⟨w.heap.size, 1, none⟩ = some L1 := by rw [cell_of_row _ _ 1 _ _ _ g1]; rfl
             have dw11 : w1.cell? ⟨w.heap.size + 1, 1, none⟩ = some L2 := by rw [cell_of_row _ _ 1 _ _ _ g2]; rfl
             have cw12 : w1.cell? ⟨w.heap.size, 2, none⟩ = some R1 := by rw [cell_of_row _ _ 2 _ _ _ g1]; rfl
             have dw12 : w1.cell? ⟨w.heap.size + 1, 2, none⟩ = some R2 := by rw [cell_of_row _ _ 2 _ _ _ g2]; rfl
             have G1a := Lib.hid g1
             have G2a := Lib.hid g2
             have BE1 := hide (BE.out.trans (hb.mono BE.out.size))
             clear g1 g2 hb)
          | (go_at_call 41; (with_reducible refine (HL.out _ BE1.out).mono ?_); rintro e w2 ⟨rfl, hb⟩
             have g1 := (hb.block _ (lt_of_heapF G1a.out)).trans G1a.out
             have g2 := (hb.block _ (lt_of_heapF G2a.out)).trans G2a.out
             have lw2 := lt_of_heapF g2
             have cw22 : w2.cell? ⟨w.heap.size, 2, none⟩ = some R1 := by rw [cell_of_row _ _ 2 _ _ _ g1]; rfl
             have dw22 : w2.cell? ⟨w.heap.size + 1, 2, none⟩ = some R2 := by rw [cell_of_row _ _ 2 _ _ _ g2]; rfl
             have G1b := Lib.hid g1
             have G2b := Lib.hid g2
             have BE2 := hide (BE1.out.trans (hb.mono BE1.out.size))
             clear g1 g2 hb)
          | (go_at_call 39; (with_reducible refine (HR.out _ BE2.out).mono ?_); rintro e w3 ⟨rfl, hb⟩
             have g1 := (hb.block _ (lt_of_heapF G1b.out)).trans G1b.out
             have g2 := (hb.block _ (lt_of_heapF G2b.out)).trans G2b.out
             have lw3 := lt_of_heapF g2
             have G1c := Lib.hid g1
             have G2c := Lib.hid g2
             have BE3 := hide (BE2.out.trans (hb.mono BE2.out.size))
             clear g1 g2 hb))
    go_ret
    exact ⟨rfl, BE3.out⟩
set_option maxRecDepth 100000 in
set_option maxHeartbeats 8000000 in
theorem rusame_parts (S1 S2 L1 L2 R1 R2 : Value) (s l r : Bool) (w : World)
    (hS : ∀ W, Below w.heap.size w W → Calls Tryz.prog 36 #[S1, S2] W fun e w' => e = .returned (.bool s) ∧ Below W.heap.size W w')
    (hL : ∀ W, Below w.heap.size w W → Calls Tryz.prog 7 #[L1, L2] W fun e w' => e = .returned (.bool l) ∧ Below W.heap.size W w')
    (hR : ∀ W, Below w.heap.size w W → Calls Tryz.prog 36 #[R1, R2] W fun e w' => e = .returned (.bool r) ∧ Below W.heap.size W w') :
    Calls Tryz.prog 20 #[.agg #[S1, L1, R1], .agg #[S2, L2, R2]] w fun e w' => e = .returned (.bool (s && l && r)) ∧ Below w.heap.size w w' := by
  obtain ⟨W0, hW0⟩ : ∃ W0, W0 = (w.alloc (.cells #[S1, L1, R1] 44)).alloc (.cells #[S2, L2, R2] 44) := ⟨_, rfl⟩
  have hbe : Below w.heap.size w W0 := by rw [hW0]; exact ((Below.refl _ _).alloc (Nat.le_refl _) _).alloc (by simp) _
  have hg1 : W0.heap[w.heap.size]? = some (.cells #[S1, L1, R1] 44 (0, 0)) := by rw [hW0]; exact heap_alloc2_old _ _ _
  have hg2 : W0.heap[w.heap.size + 1]? = some (.cells #[S2, L2, R2] 44 (0, 0)) := by rw [hW0]; exact heap_alloc2_new _ _ _
  have HW0 := Lib.hid hW0
  have BE := hide hbe
  have G1 := Lib.hid hg1
  have G2 := Lib.hid hg2
  have HS := hide (hS W0 hbe)
  have HL := Lib.hid hL
  have HR := Lib.hid hR
  clear hW0 hbe hg1 hg2 hS hL hR
  cases s
  · go_enter Tryz.func20, Tryz.ntmps20
    go_wp2_with (first
          | (go_at_call 36; rw [← HW0.out]; (with_reducible refine HS.out.mono ?_); rintro e w1 ⟨rfl, hb⟩
             have g1 := (hb.block _ (lt_of_heapF G1.out)).trans G1.out
             have g2 := (hb.block _ (lt_of_heapF G2.out)).trans G2.out
             have lw1 := lt_of_heapF g2
             have cw11 : w1.cell? ⟨w.heap.size, 1, none⟩ = some L1 := by rw [cell_of_row _ _ 1 _ _ _ g1]; rfl
             have dw11 : w1.cell? ⟨w.heap.size + 1, 1, none⟩ = some L2 := by rw [cell_of_row _ _ 1 _ _ _ g2]; rfl
             have cw12 : w1.cell? ⟨w.heap.size, 2, none⟩ = some R1 := by rw [cell_of_row _ _ 2 _ _ _ g1]; rfl
             have dw12 : w1.cell? ⟨w.heap.size + 1, 2, none⟩ = some R2 := by rw [cell_of_row _ _ 2 _ _ _ g2]; rfl
             have G1a := Lib.hid g1
             have G2a := Lib.hid g2
             have BE1 := hide (BE.out.trans (hb.mono BE.out.size))
             clear g1 g2 hb))
    go_ret
    exact ⟨rfl, BE1.out⟩
  cases l
  · go_enter Tryz.func20, Tryz.ntmps20
    go_wp2_with (first
          | (go_at_call 36; rw [← HW0.out]; (with_reducible refine HS.out.mono ?_); rintro e w1 ⟨rfl, hb⟩
             have g1 := (hb.block _ (lt_of_heapF G1.out)).trans G1.out
             have g2 := (hb.block _ (lt_of_heapF G2.out)).trans G2.out
             have lw1 := lt_of_heapF g2
             have cw11 : w1.cell? ⟨w.heap.size, 1, none⟩ = some L1 := by rw [cell_of_row _ _ 1 _ _ _ g1]; rfl
             have dw11 : w1.cell? ⟨w.heap.size + 1, 1, none⟩ = some L2 := by rw [cell_of_row _ _ 1 _ _ _ g2]; rfl
             have cw12 : w1.cell? ⟨w.heap.size, 2, none⟩ = some R1 := by rw [cell_of_row _ _ 2 _ _ _ g1]; rfl
             have dw12 : w1.cell? ⟨w.heap.size + 1, 2, none⟩ = some R2 := by rw [cell_of_row _ _ 2 _ _ _ g2]; rfl
             have G1a := Lib.hid g1
             have G2a := Lib.hid g2
             have BE1 := hide (BE.out.trans (hb.mono BE.out.size))
             clear g1 g2 hb)
          | (go_at_call 7; (with_reducible refine (HL.out _ BE1.out).mono ?_); rintro e w2 ⟨rfl, hb⟩
             have g1 := (hb.block _ (lt_of_heapF G1a.out)).trans G1a.out
             have g2 := (hb.block _ (lt_of_heapF G2a.out)).trans G2a.out
             have lw2 := lt_of_heapF g2
             have cw22 : w2.cell? ⟨w.heap.size, 2, none⟩ = some R1 := by rw [cell_of_row _ _ 2 _ _ _ g1]; rfl
             have dw22 : w2.cell? ⟨w.heap.size + 1, 2, none⟩ = some R2 := by rw [cell_of_row _ _ 2 _ _ _ g2]; rfl
             have G1b := Lib.hid g1
             have G2b := Lib.hid g2
             have BE2 := hide (BE1.out.trans (hb.mono BE1.out.size))
             clear g1 g2 hb))
    go_ret
    exact ⟨rfl, BE2.out⟩
  cases r
  · go_enter Tryz.func20, Tryz.ntmps20
    go_wp2_with (first
          | (go_at_call 36; rw [← HW0.out]; (with_reducible refine HS.out.mono ?_); rintro e w1 ⟨rfl, hb⟩
             have g1 := (hb.block _ (lt_of_heapF G1.out)).trans G1.out
             have g2 := (hb.block _ (lt_of_heapF G2.out)).trans G2.out
             have lw1 := lt_of_heapF g2
             have cw11 : w1.cell? ⟨w.heap.size, 1, none⟩ = some L1 := by rw [cell_of_row _ _ 1 _ _ _ g1]; rfl
             have dw11 : w1.cell? ⟨w.heap.size + 1, 1, none⟩ = some L2 := by rw [cell_of_row _ _ 1 _ _ _ g2]; rfl
             have cw12 : w1.cell? ⟨w.heap.size, 2, none⟩ = some R1 := by rw [cell_of_row _ _ 2 _ _ _ g1]; rfl
             have dw12 : w1.cell? ⟨w.heap.size + 1, 2, none⟩ = some R2 := by rw [cell_of_row _ _ 2 _ _ _ g2]; rfl
             have G1a := Lib.hid g1
             have G2a := Lib.hid g2
             have BE1 := hide (BE.out.trans (hb.mono BE.out.size))
             clear g1 g2 hb)
          | (go_at_call 7; (with_reducible refine (HL.out _ BE1.out).mono ?_); rintro e w2 ⟨rfl, hb⟩
             have g1 := (hb.block _ (lt_of_heapF G1a.out)).trans G1a.out
             have g2 := (hb.block _ (lt_of_heapF G2a.out)).trans G2a.out
             have lw2 := lt_of_heapF g2
             have cw22 : w2.cell? ⟨w.heap.size, 2, none⟩ = some R1 := by rw [cell_of_row _ _ 2 _ _ _ g1]; rfl
             have dw22 : w2.cell? ⟨w.heap.size + 1, 2, none⟩ = some R2 := by rw [cell_of_row _ _ 2 _ _ _ g2]; rfl
             have G1b := Lib.hid g1
             have G2b := Lib.hid g2
             have BE2 := hide (BE1.out.trans (hb.mono BE1.out.size))
             clear g1 g2 hb)
          | (go_at_call 36; (with_reducible refine (HR.out _ BE2.out).mono ?_); rintro e w3 ⟨rfl, hb⟩
             have g1 := (hb.block _ (lt_of_heapF G1b.out)).trans G1b.out
             have g2 := (hb.block _ (lt_of_heapF G2b.out)).trans G2b.out
             have lw3 := lt_of_heapF g2
             have G1c := Lib.hid g1
             have G2c := Lib.hid g2
             have BE3 := hide (BE2.out.trans (hb.mono BE2.out.size))
             clear g1 g2 hb))
    go_ret
    exact ⟨rfl, BE3.out⟩
  · go_enter Tryz.func20, Tryz.ntmps20
    go_wp2_with (first
          | (go_at_call 36; rw [← HW0.out]; (with_reducible refine HS.out.mono ?_); rintro e w1 ⟨rfl, hb⟩
             have g1 := (hb.block _ (lt_of_heapF G1.out)).trans G1.out
             have g2 := (hb.block _ (lt_of_heapF G2.out)).trans G2.out
             have lw1 := lt_of_heapF g2
             have cw11 : w1.cell? ⟨w.heap.size, 1, none⟩ = some L1 := by rw [cell_of_row _ _ 1 _ _ _ g1]; rfl
             have dw11 : w1.cell? ⟨w.heap.size + 1, 1, none⟩ = some L2 := by rw [cell_of_row _ _ 1 _ _ _ g2]; rfl
             have cw12 : w1.cell? ⟨w.heap.size, 2, none⟩ = some R1 := by rw [cell_of_row _ _ 2 _ _ _ g1]; rfl
             have dw12 : w1.cell? ⟨w.heap.size + 1, 2, none⟩ = some R2 := by rw [cell_of_row _ _ 2 _ _ _ g2]; rfl
             have G1a := Lib.hid g1
             have G2a := Lib.hid g2
             have BE1 := hide (BE.out.trans (hb.mono BE.out.size))
             clear g1 g2 hb)
          | (go_at_call 7; (with_reducible refine (HL.out _ BE1.out).mono ?_); rintro e w2 ⟨rfl, hb⟩
             have g1 := (hb.block _ (lt_of_heapF G1a.out)).trans G1a.out
             have g2 := (hb.block _ (lt_of_heapF G2a.out)).trans G2a.out
             have lw2 := lt_of_heapF g2
             have cw22 : w2.cell? ⟨w.heap.size, 2, none⟩ = some R1 := by rw [cell_of_row _ _ 2 _ _ _ g1]; rfl
             have dw22 : w2.cell? ⟨w.heap.size + 1, 2, none⟩ = some R2 := by rw [cell_of_row _ _ 2 _ _ _ g2]; rfl
             have G1b := Lib.hid g1
             have G2b := Lib.hid g2
             have BE2 := hide (BE1.out.trans (hb.mono BE1.out.size))
             clear g1 g2 hb)
          | (go_at_call 36; (with_reducible refine (HR.out _ BE2.out).mono ?_); rintro e w3 ⟨rfl, hb⟩
             have g1 := (hb.block _ (lt_of_heapF G1b.out)).trans G1b.out
             have g2 := (hb.block _ (lt_of_heapF G2b.out)).trans G2b.out
             have lw3 := lt_of_heapF g2
             have G1c := Lib.hid g1
             have G2c := Lib.hid g2
             have BE3 := hide (BE2.out.trans (hb.mono BE2.out.size))
             clear g1 g2 hb))
    go_ret
    exact ⟨rfl, BE3.out⟩

/-- An update as data. -/
structure UpdD where
  wd : List Rt
  ats : List AttrD
  rts : List Rt
  deriving DecidableEq
structure UpdOk (d : UpdD) : Prop where
  w1 : d.wd.length ≤ 140737488351232
  w2 : Rts d.wd
  a : AttrsOk d.ats
  r1 : d.rts.length ≤ 140737488351232
  r2 : Rts d.rts
def UpdC (w : World) (B : Nat) (cs : Array Value) (d : UpdD) : Prop :=
  ∃ A1 c1 A2 c2 A3 c3, cs = #[.slice A1 d.wd.length c1, .slice A2 d.ats.length c2, .slice A3 d.rts.length c3] ∧ Reads w B 19 A1 d.wd.length (rtsV d.wd) ∧ AttrsC w B A2 d.ats ∧ Reads w B 19 A3 d.rts.length (rtsV d.rts)
theorem UpdC.keep {w w' : World} {B : Nat} {cs : Array Value} {d : UpdD} (h : UpdC w B cs d) (hk : ∀ p : Addr, p.block < B → w'.cell? p = w.cell? p) : UpdC w' B cs d := by
  obtain ⟨A1, c1, A2, c2, A3, c3, e, h1, h2, h3⟩ := h; exact ⟨A1, c1, A2, c2, A3, c3, e, h1.keep hk, h2.keep hk, h3.keep hk⟩
theorem UpdC.below {w w' : World} {B : Nat} {cs : Array Value} {d : UpdD} (h : UpdC w B cs d) (hb : Below B w w') : UpdC w' B cs d := h.keep fun _ hp => hb.cell hp
theorem UpdC.more {w : World} {B B' : Nat} {cs : Array Value} {d : UpdD} (h : UpdC w B cs d) (hB : B ≤ B') : UpdC w B' cs d := by
  obtain ⟨A1, c1, A2, c2, A3, c3, e, h1, h2, h3⟩ := h; exact ⟨A1, c1, A2, c2, A3, c3, e, h1.more hB, h2.more hB, h3.more hB⟩
theorem usame_bool (a b : UpdD) : (decide (a.wd = b.wd) && decide (a.ats = b.ats) && decide (a.rts = b.rts)) = decide (a = b) := by
  rw [Bool.eq_iff_iff]
  obtain ⟨a1, a2, a3⟩ := a
  obtain ⟨b1, b2, b3⟩ := b
  simp only [Bool.and_eq_true, decide_eq_true_eq, UpdD.mk.injEq, and_assoc]
theorem usame_any (cs cs' : Array Value) (a b : UpdD) (w : World) (h : UpdC w w.heap.size cs a) (h' : UpdC w w.heap.size cs' b) (ha : UpdOk a) (hb : UpdOk b) :
    Calls Tryz.prog 19 #[.agg cs, .agg cs'] w fun e w' => e = .returned (.bool (decide (a = b))) ∧ Below w.heap.size w w' := by
  obtain ⟨A1, c1, A2, c2, A3, c3, rfl, h1, h2, h3⟩ := h
  obtain ⟨A1', c1', A2', c2', A3', c3', rfl, h1', h2', h3'⟩ := h'
  rw [← usame_bool a b]
  refine usame_parts _ _ _ _ _ _ _ _ _ w ?_ ?_ ?_
  · exact fun W hW => uequalR_any A1 A1' c1 c1' a.wd b.wd W ((h1.below hW).more hW.size) ((h1'.below hW).more hW.size) ⟨ha.w1, ha.w2⟩ ⟨hb.w1, hb.w2⟩
  · exact fun W hW => uequalA_any A2 A2' c2 c2' a.ats b.ats W ((h2.below hW).more hW.size) ((h2'.below hW).more hW.size) ha.a hb.a
  · exact fun W hW => uequalR_any A3 A3' c3 c3' a.rts b.rts W ((h3.below hW).more hW.size) ((h3'.below hW).more hW.size) ⟨ha.r1, ha.r2⟩ ⟨hb.r1, hb.r2⟩
theorem rusame_any (cs cs' : Array Value) (a b : UpdD) (w : World) (h : UpdC w w.heap.size cs a) (h' : UpdC w w.heap.size cs' b) (ha : UpdOk a) (hb : UpdOk b) :
    Calls Tryz.prog 20 #[.agg cs, .agg cs'] w fun e w' => e = .returned (.bool (decide (a = b))) ∧ Below w.heap.size w w' := by
  obtain ⟨A1, c1, A2, c2, A3, c3, rfl, h1, h2, h3⟩ := h
  obtain ⟨A1', c1', A2', c2', A3', c3', rfl, h1', h2', h3'⟩ := h'
  rw [← usame_bool a b]
  refine rusame_parts _ _ _ _ _ _ _ _ _ w ?_ ?_ ?_
  · exact fun W hW => rroutes_any A1 A1' c1 c1' a.wd b.wd W ((h1.below hW).more hW.size) ((h1'.below hW).more hW.size) ha.w2 hb.w2 ha.w1
  · exact fun W hW => rsameL_any A2 A2' c2 c2' a.ats b.ats W ((h2.below hW).more hW.size) ((h2'.below hW).more hW.size) ha.a hb.a
  · exact fun W hW => rroutes_any A3 A3' c3 c3' a.rts b.rts W ((h3.below hW).more hW.size) ((h3'.below hW).more hW.size) ha.r2 hb.r2 ha.r1
def FewU (d : UpdD) : Bool := decide (d.wd.length ≤ 100) && FewL d.ats && decide (d.rts.length ≤ 100)
set_option maxRecDepth 100000 in
set_option maxHeartbeats 8000000 in
theorem rfewU_any (cs : Array Value) (d : UpdD) (w : World) (h : UpdC w w.heap.size cs d) (ok : UpdOk d) : Calls Tryz.prog 16 #[.agg cs] w fun e w' => e = .returned (.bool (FewU d)) ∧ Below w.heap.size w w' := by
  obtain ⟨A1, c1, A2, c2, A3, c3, rfl, h1, h2, h3⟩ := h
  obtain ⟨W0, hW0⟩ : ∃ W0, W0 = w.alloc (.cells #[.slice A1 d.wd.length c1, .slice A2 d.ats.length c2, .slice A3 d.rts.length c3] 44) := ⟨_, rfl⟩
  have hb : Below w.heap.size w W0 := by rw [hW0]; exact (Below.refl _ _).alloc (Nat.le_refl _) _
  have hg : W0.heap[w.heap.size]? = some (.cells #[.slice A1 d.wd.length c1, .slice A2 d.ats.length c2, .slice A3 d.rts.length c3] 44 (0, 0)) := by rw [hW0]; exact heap_alloc_new _ _
  have hf := rfewL_any A2 c2 d.ats W0 ((h2.below hb).more hb.size) ok.a
  have HW0 := Lib.hid hW0
  have HB := hide hb
  have HG := Lib.hid hg
  obtain ⟨q, hq⟩ : ∃ q, q = FewU d := ⟨_, rfl⟩
  rw [← hq]
  unfold FewU at hq
  clear h1 h2 h3 hb hg hW0 ok
  by_cases k1 : d.wd.length ≤ 100
  · have j1 : (d.wd.length : Int) ≤ 100 := by omega
    have e3 : decide ((d.rts.length : Int) ≤ 100) = decide (d.rts.length ≤ 100) := by rw [decide_eq_decide]; omega
    rw [decide_eq_true k1, ← e3] at hq
    cases hx : FewL d.ats
    all_goals
      rw [hx] at hq hf
      have HQ := Lib.hid hq
      have HF := hide hf
      clear hq hf hx k1 e3
      go_enter Tryz.func16, Tryz.ntmps16
      go_wp2_with (go_at_call 5; rw [← HW0.out]; refine HF.out.mono ?_; rintro e w1 ⟨rfl, hb1⟩
                   have g1 := (hb1.block _ (lt_of_heapF HG.out)).trans HG.out
                   have cc : w1.cell? ⟨w.heap.size, 2, none⟩ = some (.slice A3 d.rts.length c3) := by rw [cell_of_row _ _ 2 _ _ _ g1]; rfl
                   have l1 := lt_of_heapF g1
                   have B1 := hide (HB.out.trans (hb1.mono HB.out.size))
                   clear hb1 g1)
      go_ret
      exact ⟨by rw [HQ.out]; rfl, B1.out⟩
  · have j1 : ¬ (d.wd.length : Int) ≤ 100 := by omega
    rw [decide_eq_false k1] at hq
    have HQ := Lib.hid hq
    clear hq hf k1
    go_enter Tryz.func16, Tryz.ntmps16
    go_wp2
    go_ret
    exact ⟨by rw [HQ.out]; rfl, by rw [← HW0.out]; exact HB.out⟩
def EmpU (d : UpdD) : Bool := decide (((d.wd.length : Int) + (d.ats.length : Int) + (d.rts.length : Int)) = 0)
set_option maxRecDepth 100000 in
set_option maxHeartbeats 8000000 in
theorem uempty_any (cs : Array Value) (d : UpdD) (w : World) (h : UpdC w w.heap.size cs d) (b1 : d.wd.length ≤ 100000) (b2 : d.ats.length ≤ 100000) (b3 : d.rts.length ≤ 100000) : Calls Tryz.prog 21 #[.agg cs] w fun e w' => e = .returned (.bool (EmpU d)) ∧ Below w.heap.size w w' := by
  obtain ⟨A1, c1, A2, c2, A3, c3, rfl, h1, h2, h3⟩ := h
  have hb := (Below.refl w.heap.size w).alloc (Nat.le_refl _) (.cells #[.slice A1 d.wd.length c1, .slice A2 d.ats.length c2, .slice A3 d.rts.length c3] 46)
  have HB := hide hb
  have n1 : (0 : Int) ≤ (d.wd.length : Int) := Int.natCast_nonneg _
  have n2 : (0 : Int) ≤ (d.ats.length : Int) := Int.natCast_nonneg _
  have n3 : (0 : Int) ≤ (d.rts.length : Int) := Int.natCast_nonneg _
  have m1 : (d.wd.length : Int) ≤ 100000 := by omega
  have m2 : (d.ats.length : Int) ≤ 100000 := by omega
  have m3 : (d.rts.length : Int) ≤ 100000 := by omega
  have hq : EmpU d = (((d.wd.length : Int) + (d.ats.length : Int) + (d.rts.length : Int)) == 0) := by unfold EmpU; rw [Bool.eq_iff_iff]; simp only [decide_eq_true_eq, beq_iff_eq]
  have HQ := Lib.hid hq
  clear hb h1 h2 h3 b1 b2 b3 hq
  go_enter Tryz.func21, Tryz.ntmps21
  go_wp2
  go_ret
  exact ⟨ret_bool HQ.out.symm, HB.out⟩
end Go.Proofs.YtnfclcbhehbchaaGreatDoor
