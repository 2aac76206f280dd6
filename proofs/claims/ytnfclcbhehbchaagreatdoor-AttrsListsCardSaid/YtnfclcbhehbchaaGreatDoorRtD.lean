/- value.Same and the reference's Same: the parts' answers put together. -/
import Derived.Test.YtnfclcbhehbchaaGreatDoorRtC
import Derived.Test.YtnfclcbhehbchaaGreatDoorFlgE
set_option autoImplicit false
namespace Go.Proofs.YtnfclcbhehbchaaGreatDoor
open Go.RowKit

set_option maxRecDepth 100000 in
set_option maxHeartbeats 4000000 in
theorem vsame_parts (t1 t2 n1 n2 m1 m2 f1 f2 : Int) (q1 q2 : Bool) (S1 S2 L1 L2 B1 B2 R1 R2 : Value) (p1 p2 p3 p4 p5 s l b r : Bool) (w : World)
    (e1 : (t1 == t2) = p1) (e2 : (q1 == q2) = p2) (e3 : (n1 == n2) = p3) (e4 : (m1 == m2) = p4) (e5 : (f1 == f2) = p5)
    (hS : ∀ W, Below w.heap.size w W → Calls Tryz.prog 59 #[S1, S2] W fun e w' => e = .returned (.bool s) ∧ Below W.heap.size W w')
    (hL : ∀ W, Below w.heap.size w W → Calls Tryz.prog 60 #[L1, L2] W fun e w' => e = .returned (.bool l) ∧ Below W.heap.size W w')
    (hB : ∀ W, Below w.heap.size w W → Calls Tryz.prog 61 #[B1, B2] W fun e w' => e = .returned (.bool b) ∧ Below W.heap.size W w')
    (hR : ∀ W, Below w.heap.size w W → Calls Tryz.prog 62 #[R1, R2] W fun e w' => e = .returned (.bool r) ∧ Below W.heap.size W w') :
    Calls Tryz.prog 42 #[.agg #[.int .i64 t1, .bool q1, .int .u32 n1, .int .u32 m1, S1, L1, B1, .int .i64 f1, R1], .agg #[.int .i64 t2, .bool q2, .int .u32 n2, .int .u32 m2, S2, L2, B2, .int .i64 f2, R2]] w fun e w' => e = .returned (.bool (p1 && p2 && p3 && p4 && p5 && s && l && b && r)) ∧ Below w.heap.size w w' := by
  obtain ⟨W0, hW0⟩ : ∃ W0, W0 = (w.alloc (.cells #[.int .i64 t1, .bool q1, .int .u32 n1, .int .u32 m1, S1, L1, B1, .int .i64 f1, R1] 38)).alloc (.cells #[.int .i64 t2, .bool q2, .int .u32 n2, .int .u32 m2, S2, L2, B2, .int .i64 f2, R2] 38) := ⟨_, rfl⟩
  have hbe : Below w.heap.size w W0 := by rw [hW0]; exact ((Below.refl _ _).alloc (Nat.le_refl _) _).alloc (by simp) _
  have hg1 : W0.heap[w.heap.size]? = some (.cells #[.int .i64 t1, .bool q1, .int .u32 n1, .int .u32 m1, S1, L1, B1, .int .i64 f1, R1] 38 (0, 0)) := by rw [hW0]; exact heap_alloc2_old _ _ _
  have hg2 : W0.heap[w.heap.size + 1]? = some (.cells #[.int .i64 t2, .bool q2, .int .u32 n2, .int .u32 m2, S2, L2, B2, .int .i64 f2, R2] 38 (0, 0)) := by rw [hW0]; exact heap_alloc2_new _ _ _
  have HW0 := Lib.hid hW0
  have BE := hide hbe
  have G1 := Lib.hid hg1
  have G2 := Lib.hid hg2
  have HS := hide (hS W0 hbe)
  have HL := Lib.hid hL
  have HB := Lib.hid hB
  have HR := Lib.hid hR
  clear hW0 hbe hg1 hg2 hS hL hB hR
  cases p1
  · go_enter Tryz.func42, Tryz.ntmps42
    go_wp2_with fail
    go_ret
    exact ⟨rfl, by rw [← HW0.out]; exact BE.out⟩
  cases p2
  · go_enter Tryz.func42, Tryz.ntmps42
    go_wp2_with fail
    go_ret
    exact ⟨rfl, by rw [← HW0.out]; exact BE.out⟩
  cases p3
  · go_enter Tryz.func42, Tryz.ntmps42
    go_wp2_with fail
    go_ret
    exact ⟨rfl, by rw [← HW0.out]; exact BE.out⟩
  cases p4
  · go_enter Tryz.func42, Tryz.ntmps42
    go_wp2_with fail
    go_ret
    exact ⟨rfl, by rw [← HW0.out]; exact BE.out⟩
  cases p5
  · go_enter Tryz.func42, Tryz.ntmps42
    go_wp2_with fail
    go_ret
    exact ⟨rfl, by rw [← HW0.out]; exact BE.out⟩
  cases s
  · go_enter Tryz.func42, Tryz.ntmps42
    go_wp2_with (first
          | (go_at_call 59; rw [← HW0.out]; refine HS.out.mono ?_; rintro e w1 ⟨rfl, hb⟩
             have g1 := (hb.block _ (lt_of_heapF G1.out)).trans G1.out
             have g2 := (hb.block _ (lt_of_heapF G2.out)).trans G2.out
             have lw1 := lt_of_heapF g2
             have cw15 : w1.cell? ⟨w.heap.size, 5, none⟩ = some L1 := by rw [cell_of_row _ _ 5 _ _ _ g1]; rfl
             have dw15 : w1.cell? ⟨w.heap.size + 1, 5, none⟩ = some L2 := by rw [cell_of_row _ _ 5 _ _ _ g2]; rfl
             have cw16 : w1.cell? ⟨w.heap.size, 6, none⟩ = some B1 := by rw [cell_of_row _ _ 6 _ _ _ g1]; rfl
             have dw16 : w1.cell? ⟨w.heap.size + 1, 6, none⟩ = some B2 := by rw [cell_of_row _ _ 6 _ _ _ g2]; rfl
             have cw18 : w1.cell? ⟨w.heap.size, 8, none⟩ = some R1 := by rw [cell_of_row _ _ 8 _ _ _ g1]; rfl
             have dw18 : w1.cell? ⟨w.heap.size + 1, 8, none⟩ = some R2 := by rw [cell_of_row _ _ 8 _ _ _ g2]; rfl
             have G1a := Lib.hid g1
             have G2a := Lib.hid g2
             have BE1 := hide (BE.out.trans (hb.mono BE.out.size))
             clear g1 g2 hb))
    go_ret
    exact ⟨rfl, BE1.out⟩
  cases l
  · go_enter Tryz.func42, Tryz.ntmps42
    go_wp2_with (first
          | (go_at_call 59; rw [← HW0.out]; refine HS.out.mono ?_; rintro e w1 ⟨rfl, hb⟩
             have g1 := (hb.block _ (lt_of_heapF G1.out)).trans G1.out
             have g2 := (hb.block _ (lt_of_heapF G2.out)).trans G2.out
             have lw1 := lt_of_heapF g2
             have cw15 : w1.cell? ⟨w.heap.size, 5, none⟩ = some L1 := by rw [cell_of_row _ _ 5 _ _ _ g1]; rfl
             have dw15 : w1.cell? ⟨w.heap.size + 1, 5, none⟩ = some L2 := by rw [cell_of_row _ _ 5 _ _ _ g2]; rfl
             have cw16 : w1.cell? ⟨w.heap.size, 6, none⟩ = some B1 := by rw [cell_of_row _ _ 6 _ _ _ g1]; rfl
             have dw16 : w1.cell? ⟨w.heap.size + 1, 6, none⟩ = some B2 := by rw [cell_of_row _ _ 6 _ _ _ g2]; rfl
             have cw18 : w1.cell? ⟨w.heap.size, 8, none⟩ = some R1 := by rw [cell_of_row _ _ 8 _ _ _ g1]; rfl
             have dw18 : w1.cell? ⟨w.heap.size + 1, 8, none⟩ = some R2 := by rw [cell_of_row _ _ 8 _ _ _ g2]; rfl
             have G1a := Lib.hid g1
             have G2a := Lib.hid g2
             have BE1 := hide (BE.out.trans (hb.mono BE.out.size))
             clear g1 g2 hb)
          | (go_at_call 60; refine (HL.out _ BE1.out).mono ?_; rintro e w2 ⟨rfl, hb⟩
             have g1 := (hb.block _ (lt_of_heapF G1a.out)).trans G1a.out
             have g2 := (hb.block _ (lt_of_heapF G2a.out)).trans G2a.out
             have lw2 := lt_of_heapF g2
             have cw26 : w2.cell? ⟨w.heap.size, 6, none⟩ = some B1 := by rw [cell_of_row _ _ 6 _ _ _ g1]; rfl
             have dw26 : w2.cell? ⟨w.heap.size + 1, 6, none⟩ = some B2 := by rw [cell_of_row _ _ 6 _ _ _ g2]; rfl
             have cw28 : w2.cell? ⟨w.heap.size, 8, none⟩ = some R1 := by rw [cell_of_row _ _ 8 _ _ _ g1]; rfl
             have dw28 : w2.cell? ⟨w.heap.size + 1, 8, none⟩ = some R2 := by rw [cell_of_row _ _ 8 _ _ _ g2]; rfl
             have G1b := Lib.hid g1
             have G2b := Lib.hid g2
             have BE2 := hide (BE1.out.trans (hb.mono BE1.out.size))
             clear g1 g2 hb))
    go_ret
    exact ⟨rfl, BE2.out⟩
  cases b
  · go_enter Tryz.func42, Tryz.ntmps42
    go_wp2_with (first
          | (go_at_call 59; rw [← HW0.out]; refine HS.out.mono ?_; rintro e w1 ⟨rfl, hb⟩
             have g1 := (hb.block _ (lt_of_heapF G1.out)).trans G1.out
             have g2 := (hb.block _ (lt_of_heapF G2.out)).trans G2.out
             have lw1 := lt_of_heapF g2
             have cw15 : w1.cell? ⟨w.heap.size, 5, none⟩ = some L1 := by rw [cell_of_row _ _ 5 _ _ _ g1]; rfl
             have dw15 : w1.cell? ⟨w.heap.size + 1, 5, none⟩ = some L2 := by rw [cell_of_row _ _ 5 _ _ _ g2]; rfl
             have cw16 : w1.cell? ⟨w.heap.size, 6, none⟩ = some B1 := by rw [cell_of_row _ _ 6 _ _ _ g1]; rfl
             have dw16 : w1.cell? ⟨w.heap.size + 1, 6, none⟩ = some B2 := by rw [cell_of_row _ _ 6 _ _ _ g2]; rfl
             have cw18 : w1.cell? ⟨w.heap.size, 8, none⟩ = some R1 := by rw [cell_of_row _ _ 8 _ _ _ g1]; rfl
             have dw18 : w1.cell? ⟨w.heap.size + 1, 8, none⟩ = some R2 := by rw [cell_of_row _ _ 8 _ _ _ g2]; rfl
             have G1a := Lib.hid g1
             have G2a := Lib.hid g2
             have BE1 := hide (BE.out.trans (hb.mono BE.out.size))
             clear g1 g2 hb)
          | (go_at_call 60; refine (HL.out _ BE1.out).mono ?_; rintro e w2 ⟨rfl, hb⟩
             have g1 := (hb.block _ (lt_of_heapF G1a.out)).trans G1a.out
             have g2 := (hb.block _ (lt_of_heapF G2a.out)).trans G2a.out
             have lw2 := lt_of_heapF g2
             have cw26 : w2.cell? ⟨w.heap.size, 6, none⟩ = some B1 := by rw [cell_of_row _ _ 6 _ _ _ g1]; rfl
             have dw26 : w2.cell? ⟨w.heap.size + 1, 6, none⟩ = some B2 := by rw [cell_of_row _ _ 6 _ _ _ g2]; rfl
             have cw28 : w2.cell? ⟨w.heap.size, 8, none⟩ = some R1 := by rw [cell_of_row _ _ 8 _ _ _ g1]; rfl
             have dw28 : w2.cell? ⟨w.heap.size + 1, 8, none⟩ = some R2 := by rw [cell_of_row _ _ 8 _ _ _ g2]; rfl
             have G1b := Lib.hid g1
             have G2b := Lib.hid g2
             have BE2 := hide (BE1.out.trans (hb.mono BE1.out.size))
             clear g1 g2 hb)
          | (go_at_call 61; refine (HB.out _ BE2.out).mono ?_; rintro e w3 ⟨rfl, hb⟩
             have g1 := (hb.block _ (lt_of_heapF G1b.out)).trans G1b.out
             have g2 := (hb.block _ (lt_of_heapF G2b.out)).trans G2b.out
             have lw3 := lt_of_heapF g2
             have cw38 : w3.cell? ⟨w.heap.size, 8, none⟩ = some R1 := by rw [cell_of_row _ _ 8 _ _ _ g1]; rfl
             have dw38 : w3.cell? ⟨w.heap.size + 1, 8, none⟩ = some R2 := by rw [cell_of_row _ _ 8 _ _ _ g2]; rfl
             have G1c := Lib.hid g1
             have G2c := Lib.hid g2
             have BE3 := hide (BE2.out.trans (hb.mono BE2.out.size))
             clear g1 g2 hb))
    go_ret
    exact ⟨rfl, BE3.out⟩
  cases r
  · go_enter Tryz.func42, Tryz.ntmps42
    go_wp2_with (first
          | (go_at_call 59; rw [← HW0.out]; refine HS.out.mono ?_; rintro e w1 ⟨rfl, hb⟩
             have g1 := (hb.block _ (lt_of_heapF G1.out)).trans G1.out
             have g2 := (hb.block _ (lt_of_heapF G2.out)).trans G2.out
             have lw1 := lt_of_heapF g2
             have cw15 : w1.cell? ⟨w.heap.size, 5, none⟩ = some L1 := by rw [cell_of_row _ _ 5 _ _ _ g1]; rfl
             have dw15 : w1.cell? ⟨w.heap.size + 1, 5, none⟩ = some L2 := by rw [cell_of_row _ _ 5 _ _ _ g2]; rfl
             have cw16 : w1.cell? ⟨w.heap.size, 6, none⟩ = some B1 := by rw [cell_of_row _ _ 6 _ _ _ g1]; rfl
             have dw16 : w1.cell? ⟨w.heap.size + 1, 6, none⟩ = some B2 := by rw [cell_of_row _ _ 6 _ _ _ g2]; rfl
             have cw18 : w1.cell? ⟨w.heap.size, 8, none⟩ = some R1 := by rw [cell_of_row _ _ 8 _ _ _ g1]; rfl
             have dw18 : w1.cell? ⟨w.heap.size + 1, 8, none⟩ = some R2 := by rw [cell_of_row _ _ 8 _ _ _ g2]; rfl
             have G1a := Lib.hid g1
             have G2a := Lib.hid g2
             have BE1 := hide (BE.out.trans (hb.mono BE.out.size))
             clear g1 g2 hb)
          | (go_at_call 60; refine (HL.out _ BE1.out).mono ?_; rintro e w2 ⟨rfl, hb⟩
             have g1 := (hb.block _ (lt_of_heapF G1a.out)).trans G1a.out
             have g2 := (hb.block _ (lt_of_heapF G2a.out)).trans G2a.out
             have lw2 := lt_of_heapF g2
             have cw26 : w2.cell? ⟨w.heap.size, 6, none⟩ = some B1 := by rw [cell_of_row _ _ 6 _ _ _ g1]; rfl
             have dw26 : w2.cell? ⟨w.heap.size + 1, 6, none⟩ = some B2 := by rw [cell_of_row _ _ 6 _ _ _ g2]; rfl
             have cw28 : w2.cell? ⟨w.heap.size, 8, none⟩ = some R1 := by rw [cell_of_row _ _ 8 _ _ _ g1]; rfl
             have dw28 : w2.cell? ⟨w.heap.size + 1, 8, none⟩ = some R2 := by rw [cell_of_row _ _ 8 _ _ _ g2]; rfl
             have G1b := Lib.hid g1
             have G2b := Lib.hid g2
             have BE2 := hide (BE1.out.trans (hb.mono BE1.out.size))
             clear g1 g2 hb)
          | (go_at_call 61; refine (HB.out _ BE2.out).mono ?_; rintro e w3 ⟨rfl, hb⟩
             have g1 := (hb.block _ (lt_of_heapF G1b.out)).trans G1b.out
             have g2 := (hb.block _ (lt_of_heapF G2b.out)).trans G2b.out
             have lw3 := lt_of_heapF g2
             have cw38 : w3.cell? ⟨w.heap.size, 8, none⟩ = some R1 := by rw [cell_of_row _ _ 8 _ _ _ g1]; rfl
             have dw38 : w3.cell? ⟨w.heap.size + 1, 8, none⟩ = some R2 := by rw [cell_of_row _ _ 8 _ _ _ g2]; rfl
             have G1c := Lib.hid g1
             have G2c := Lib.hid g2
             have BE3 := hide (BE2.out.trans (hb.mono BE2.out.size))
             clear g1 g2 hb)
          | (go_at_call 62; refine (HR.out _ BE3.out).mono ?_; rintro e w4 ⟨rfl, hb⟩
             have g1 := (hb.block _ (lt_of_heapF G1c.out)).trans G1c.out
             have g2 := (hb.block _ (lt_of_heapF G2c.out)).trans G2c.out
             have lw4 := lt_of_heapF g2
             have G1d := Lib.hid g1
             have G2d := Lib.hid g2
             have BE4 := hide (BE3.out.trans (hb.mono BE3.out.size))
             clear g1 g2 hb))
    go_ret
    exact ⟨rfl, BE4.out⟩
  · go_enter Tryz.func42, Tryz.ntmps42
    go_wp2_with (first
          | (go_at_call 59; rw [← HW0.out]; refine HS.out.mono ?_; rintro e w1 ⟨rfl, hb⟩
             have g1 := (hb.block _ (lt_of_heapF G1.out)).trans G1.out
             have g2 := (hb.block _ (lt_of_heapF G2.out)).trans G2.out
             have lw1 := lt_of_heapF g2
             have cw15 : w1.cell? ⟨w.heap.size, 5, none⟩ = some L1 := by rw [cell_of_row _ _ 5 _ _ _ g1]; rfl
             have dw15 : w1.cell? ⟨w.heap.size + 1, 5, none⟩ = some L2 := by rw [cell_of_row _ _ 5 _ _ _ g2]; rfl
             have cw16 : w1.cell? ⟨w.heap.size, 6, none⟩ = some B1 := by rw [cell_of_row _ _ 6 _ _ _ g1]; rfl
             have dw16 : w1.cell? ⟨w.heap.size + 1, 6, none⟩ = some B2 := by rw [cell_of_row _ _ 6 _ _ _ g2]; rfl
             have cw18 : w1.cell? ⟨w.heap.size, 8, none⟩ = some R1 := by rw [cell_of_row _ _ 8 _ _ _ g1]; rfl
             have dw18 : w1.cell? ⟨w.heap.size + 1, 8, none⟩ = some R2 := by rw [cell_of_row _ _ 8 _ _ _ g2]; rfl
             have G1a := Lib.hid g1
             have G2a := Lib.hid g2
             have BE1 := hide (BE.out.trans (hb.mono BE.out.size))
             clear g1 g2 hb)
          | (go_at_call 60; refine (HL.out _ BE1.out).mono ?_; rintro e w2 ⟨rfl, hb⟩
             have g1 := (hb.block _ (lt_of_heapF G1a.out)).trans G1a.out
             have g2 := (hb.block _ (lt_of_heapF G2a.out)).trans G2a.out
             have lw2 := lt_of_heapF g2
             have cw26 : w2.cell? ⟨w.heap.size, 6, none⟩ = some B1 := by rw [cell_of_row _ _ 6 _ _ _ g1]; rfl
             have dw26 : w2.cell? ⟨w.heap.size + 1, 6, none⟩ = some B2 := by rw [cell_of_row _ _ 6 _ _ _ g2]; rfl
             have cw28 : w2.cell? ⟨w.heap.size, 8, none⟩ = some R1 := by rw [cell_of_row _ _ 8 _ _ _ g1]; rfl
             have dw28 : w2.cell? ⟨w.heap.size + 1, 8, none⟩ = some R2 := by rw [cell_of_row _ _ 8 _ _ _ g2]; rfl
             have G1b := Lib.hid g1
             have G2b := Lib.hid g2
             have BE2 := hide (BE1.out.trans (hb.mono BE1.out.size))
             clear g1 g2 hb)
          | (go_at_call 61; refine (HB.out _ BE2.out).mono ?_; rintro e w3 ⟨rfl, hb⟩
             have g1 := (hb.block _ (lt_of_heapF G1b.out)).trans G1b.out
             have g2 := (hb.block _ (lt_of_heapF G2b.out)).trans G2b.out
             have lw3 := lt_of_heapF g2
             have cw38 : w3.cell? ⟨w.heap.size, 8, none⟩ = some R1 := by rw [cell_of_row _ _ 8 _ _ _ g1]; rfl
             have dw38 : w3.cell? ⟨w.heap.size + 1, 8, none⟩ = some R2 := by rw [cell_of_row _ _ 8 _ _ _ g2]; rfl
             have G1c := Lib.hid g1
             have G2c := Lib.hid g2
             have BE3 := hide (BE2.out.trans (hb.mono BE2.out.size))
             clear g1 g2 hb)
          | (go_at_call 62; refine (HR.out _ BE3.out).mono ?_; rintro e w4 ⟨rfl, hb⟩
             have g1 := (hb.block _ (lt_of_heapF G1c.out)).trans G1c.out
             have g2 := (hb.block _ (lt_of_heapF G2c.out)).trans G2c.out
             have lw4 := lt_of_heapF g2
             have G1d := Lib.hid g1
             have G2d := Lib.hid g2
             have BE4 := hide (BE3.out.trans (hb.mono BE3.out.size))
             clear g1 g2 hb))
    go_ret
    exact ⟨rfl, BE4.out⟩
set_option maxRecDepth 100000 in
set_option maxHeartbeats 4000000 in
theorem rsame_parts (t1 t2 n1 n2 m1 m2 f1 f2 : Int) (q1 q2 : Bool) (S1 S2 L1 L2 B1 B2 R1 R2 : Value) (p1 p2 p3 p4 p5 s l b r : Bool) (w : World)
    (e1 : (t1 == t2) = p1) (e2 : (q1 == q2) = p2) (e3 : (n1 == n2) = p3) (e4 : (m1 == m2) = p4) (e5 : (f1 == f2) = p5)
    (hS : ∀ W, Below w.heap.size w W → Calls Tryz.prog 33 #[S1, S2] W fun e w' => e = .returned (.bool s) ∧ Below W.heap.size W w')
    (hL : ∀ W, Below w.heap.size w W → Calls Tryz.prog 34 #[L1, L2] W fun e w' => e = .returned (.bool l) ∧ Below W.heap.size W w')
    (hB : ∀ W, Below w.heap.size w W → Calls Tryz.prog 35 #[B1, B2] W fun e w' => e = .returned (.bool b) ∧ Below W.heap.size W w')
    (hR : ∀ W, Below w.heap.size w W → Calls Tryz.prog 36 #[R1, R2] W fun e w' => e = .returned (.bool r) ∧ Below W.heap.size W w') :
    Calls Tryz.prog 15 #[.agg #[.int .i64 t1, .bool q1, .int .u32 n1, .int .u32 m1, S1, L1, B1, .int .i64 f1, R1], .agg #[.int .i64 t2, .bool q2, .int .u32 n2, .int .u32 m2, S2, L2, B2, .int .i64 f2, R2]] w fun e w' => e = .returned (.bool (p1 && p2 && p3 && p4 && p5 && s && l && b && r)) ∧ Below w.heap.size w w' := by
  obtain ⟨W0, hW0⟩ : ∃ W0, W0 = (w.alloc (.cells #[.int .i64 t1, .bool q1, .int .u32 n1, .int .u32 m1, S1, L1, B1, .int .i64 f1, R1] 38)).alloc (.cells #[.int .i64 t2, .bool q2, .int .u32 n2, .int .u32 m2, S2, L2, B2, .int .i64 f2, R2] 38) := ⟨_, rfl⟩
  have hbe : Below w.heap.size w W0 := by rw [hW0]; exact ((Below.refl _ _).alloc (Nat.le_refl _) _).alloc (by simp) _
  have hg1 : W0.heap[w.heap.size]? = some (.cells #[.int .i64 t1, .bool q1, .int .u32 n1, .int .u32 m1, S1, L1, B1, .int .i64 f1, R1] 38 (0, 0)) := by rw [hW0]; exact heap_alloc2_old _ _ _
  have hg2 : W0.heap[w.heap.size + 1]? = some (.cells #[.int .i64 t2, .bool q2, .int .u32 n2, .int .u32 m2, S2, L2, B2, .int .i64 f2, R2] 38 (0, 0)) := by rw [hW0]; exact heap_alloc2_new _ _ _
  have HW0 := Lib.hid hW0
  have BE := hide hbe
  have G1 := Lib.hid hg1
  have G2 := Lib.hid hg2
  have HS := hide (hS W0 hbe)
  have HL := Lib.hid hL
  have HB := Lib.hid hB
  have HR := Lib.hid hR
  clear hW0 hbe hg1 hg2 hS hL hB hR
  cases p1
  · go_enter Tryz.func15, Tryz.ntmps15
    go_wp2_with fail
    go_ret
    exact ⟨rfl, by rw [← HW0.out]; exact BE.out⟩
  cases p2
  · go_enter Tryz.func15, Tryz.ntmps15
    go_wp2_with fail
    go_ret
    exact ⟨rfl, by rw [← HW0.out]; exact BE.out⟩
  cases p3
  · go_enter Tryz.func15, Tryz.ntmps15
    go_wp2_with fail
    go_ret
    exact ⟨rfl, by rw [← HW0.out]; exact BE.out⟩
  cases p4
  · go_enter Tryz.func15, Tryz.ntmps15
    go_wp2_with fail
    go_ret
    exact ⟨rfl, by rw [← HW0.out]; exact BE.out⟩
  cases p5
  · go_enter Tryz.func15, Tryz.ntmps15
    go_wp2_with fail
    go_ret
    exact ⟨rfl, by rw [← HW0.out]; exact BE.out⟩
  cases s
  · go_enter Tryz.func15, Tryz.ntmps15
    go_wp2_with (first
          | (go_at_call 33; rw [← HW0.out]; refine HS.out.mono ?_; rintro e w1 ⟨rfl, hb⟩
             have g1 := (hb.block _ (lt_of_heapF G1.out)).trans G1.out
             have g2 := (hb.block _ (lt_of_heapF G2.out)).trans G2.out
             have lw1 := lt_of_heapF g2
             have cw15 : w1.cell? ⟨w.heap.size, 5, none⟩ = some L1 := by rw [cell_of_row _ _ 5 _ _ _ g1]; rfl
             have dw15 : w1.cell? ⟨w.heap.size + 1, 5, none⟩ = some L2 := by rw [cell_of_row _ _ 5 _ _ _ g2]; rfl
             have cw16 : w1.cell? ⟨w.heap.size, 6, none⟩ = some B1 := by rw [cell_of_row _ _ 6 _ _ _ g1]; rfl
             have dw16 : w1.cell? ⟨w.heap.size + 1, 6, none⟩ = some B2 := by rw [cell_of_row _ _ 6 _ _ _ g2]; rfl
             have cw18 : w1.cell? ⟨w.heap.size, 8, none⟩ = some R1 := by rw [cell_of_row _ _ 8 _ _ _ g1]; rfl
             have dw18 : w1.cell? ⟨w.heap.size + 1, 8, none⟩ = some R2 := by rw [cell_of_row _ _ 8 _ _ _ g2]; rfl
             have G1a := Lib.hid g1
             have G2a := Lib.hid g2
             have BE1 := hide (BE.out.trans (hb.mono BE.out.size))
             clear g1 g2 hb))
    go_ret
    exact ⟨rfl, BE1.out⟩
  cases l
  · go_enter Tryz.func15, Tryz.ntmps15
    go_wp2_with (first
          | (go_at_call 33; rw [← HW0.out]; refine HS.out.mono ?_; rintro e w1 ⟨rfl, hb⟩
             have g1 := (hb.block _ (lt_of_heapF G1.out)).trans G1.out
             have g2 := (hb.block _ (lt_of_heapF G2.out)).trans G2.out
             have lw1 := lt_of_heapF g2
             have cw15 : w1.cell? ⟨w.heap.size, 5, none⟩ = some L1 := by rw [cell_of_row _ _ 5 _ _ _ g1]; rfl
             have dw15 : w1.cell? ⟨w.heap.size + 1, 5, none⟩ = some L2 := by rw [cell_of_row _ _ 5 _ _ _ g2]; rfl
             have cw16 : w1.cell? ⟨w.heap.size, 6, none⟩ = some B1 := by rw [cell_of_row _ _ 6 _ _ _ g1]; rfl
             have dw16 : w1.cell? ⟨w.heap.size + 1, 6, none⟩ = some B2 := by rw [cell_of_row _ _ 6 _ _ _ g2]; rfl
             have cw18 : w1.cell? ⟨w.heap.size, 8, none⟩ = some R1 := by rw [cell_of_row _ _ 8 _ _ _ g1]; rfl
             have dw18 : w1.cell? ⟨w.heap.size + 1, 8, none⟩ = some R2 := by rw [cell_of_row _ _ 8 _ _ _ g2]; rfl
             have G1a := Lib.hid g1
             have G2a := Lib.hid g2
             have BE1 := hide (BE.out.trans (hb.mono BE.out.size))
             clear g1 g2 hb)
          | (go_at_call 34; refine (HL.out _ BE1.out).mono ?_; rintro e w2 ⟨rfl, hb⟩
             have g1 := (hb.block _ (lt_of_heapF G1a.out)).trans G1a.out
             have g2 := (hb.block _ (lt_of_heapF G2a.out)).trans G2a.out
             have lw2 := lt_of_heapF g2
             have cw26 : w2.cell? ⟨w.heap.size, 6, none⟩ = some B1 := by rw [cell_of_row _ _ 6 _ _ _ g1]; rfl
             have dw26 : w2.cell? ⟨w.heap.size + 1, 6, none⟩ = some B2 := by rw [cell_of_row _ _ 6 _ _ _ g2]; rfl
             have cw28 : w2.cell? ⟨w.heap.size, 8, none⟩ = some R1 := by rw [cell_of_row _ _ 8 _ _ _ g1]; rfl
             have dw28 : w2.cell? ⟨w.heap.size + 1, 8, none⟩ = some R2 := by rw [cell_of_row _ _ 8 _ _ _ g2]; rfl
             have G1b := Lib.hid g1
             have G2b := Lib.hid g2
             have BE2 := hide (BE1.out.trans (hb.mono BE1.out.size))
             clear g1 g2 hb))
    go_ret
    exact ⟨rfl, BE2.out⟩
  cases b
  · go_enter Tryz.func15, Tryz.ntmps15
    go_wp2_with (first
          | (go_at_call 33; rw [← HW0.out]; refine HS.out.mono ?_; rintro e w1 ⟨rfl, hb⟩
             have g1 := (hb.block _ (lt_of_heapF G1.out)).trans G1.out
             have g2 := (hb.block _ (lt_of_heapF G2.out)).trans G2.out
             have lw1 := lt_of_heapF g2
             have cw15 : w1.cell? ⟨w.heap.size, 5, none⟩ = some L1 := by rw [cell_of_row _ _ 5 _ _ _ g1]; rfl
             have dw15 : w1.cell? ⟨w.heap.size + 1, 5, none⟩ = some L2 := by rw [cell_of_row _ _ 5 _ _ _ g2]; rfl
             have cw16 : w1.cell? ⟨w.heap.size, 6, none⟩ = some B1 := by rw [cell_of_row _ _ 6 _ _ _ g1]; rfl
             have dw16 : w1.cell? ⟨w.heap.size + 1, 6, none⟩ = some B2 := by rw [cell_of_row _ _ 6 _ _ _ g2]; rfl
             have cw18 : w1.cell? ⟨w.heap.size, 8, none⟩ = some R1 := by rw [cell_of_row _ _ 8 _ _ _ g1]; rfl
             have dw18 : w1.cell? ⟨w.heap.size + 1, 8, none⟩ = some R2 := by rw [cell_of_row _ _ 8 _ _ _ g2]; rfl
             have G1a := Lib.hid g1
             have G2a := Lib.hid g2
             have BE1 := hide (BE.out.trans (hb.mono BE.out.size))
             clear g1 g2 hb)
          | (go_at_call 34; refine (HL.out _ BE1.out).mono ?_; rintro e w2 ⟨rfl, hb⟩
             have g1 := (hb.block _ (lt_of_heapF G1a.out)).trans G1a.out
             have g2 := (hb.block _ (lt_of_heapF G2a.out)).trans G2a.out
             have lw2 := lt_of_heapF g2
             have cw26 : w2.cell? ⟨w.heap.size, 6, none⟩ = some B1 := by rw [cell_of_row _ _ 6 _ _ _ g1]; rfl
             have dw26 : w2.cell? ⟨w.heap.size + 1, 6, none⟩ = some B2 := by rw [cell_of_row _ _ 6 _ _ _ g2]; rfl
             have cw28 : w2.cell? ⟨w.heap.size, 8, none⟩ = some R1 := by rw [cell_of_row _ _ 8 _ _ _ g1]; rfl
             have dw28 : w2.cell? ⟨w.heap.size + 1, 8, none⟩ = some R2 := by rw [cell_of_row _ _ 8 _ _ _ g2]; rfl
             have G1b := Lib.hid g1
             have G2b := Lib.hid g2
             have BE2 := hide (BE1.out.trans (hb.mono BE1.out.size))
             clear g1 g2 hb)
          | (go_at_call 35; refine (HB.out _ BE2.out).mono ?_; rintro e w3 ⟨rfl, hb⟩
             have g1 := (hb.block _ (lt_of_heapF G1b.out)).trans G1b.out
             have g2 := (hb.block _ (lt_of_heapF G2b.out)).trans G2b.out
             have lw3 := lt_of_heapF g2
             have cw38 : w3.cell? ⟨w.heap.size, 8, none⟩ = some R1 := by rw [cell_of_row _ _ 8 _ _ _ g1]; rfl
             have dw38 : w3.cell? ⟨w.heap.size + 1, 8, none⟩ = some R2 := by rw [cell_of_row _ _ 8 _ _ _ g2]; rfl
             have G1c := Lib.hid g1
             have G2c := Lib.hid g2
             have BE3 := hide (BE2.out.trans (hb.mono BE2.out.size))
             clear g1 g2 hb))
    go_ret
    exact ⟨rfl, BE3.out⟩
  cases r
  · go_enter Tryz.func15, Tryz.ntmps15
    go_wp2_with (first
          | (go_at_call 33; rw [← HW0.out]; refine HS.out.mono ?_; rintro e w1 ⟨rfl, hb⟩
             have g1 := (hb.block _ (lt_of_heapF G1.out)).trans G1.out
             have g2 := (hb.block _ (lt_of_heapF G2.out)).trans G2.out
             have lw1 := lt_of_heapF g2
             have cw15 : w1.cell? ⟨w.heap.size, 5, none⟩ = some L1 := by rw [cell_of_row _ _ 5 _ _ _ g1]; rfl
             have dw15 : w1.cell? ⟨w.heap.size + 1, 5, none⟩ = some L2 := by rw [cell_of_row _ _ 5 _ _ _ g2]; rfl
             have cw16 : w1.cell? ⟨w.heap.size, 6, none⟩ = some B1 := by rw [cell_of_row _ _ 6 _ _ _ g1]; rfl
             have dw16 : w1.cell? ⟨w.heap.size + 1, 6, none⟩ = some B2 := by rw [cell_of_row _ _ 6 _ _ _ g2]; rfl
             have cw18 : w1.cell? ⟨w.heap.size, 8, none⟩ = some R1 := by rw [cell_of_row _ _ 8 _ _ _ g1]; rfl
             have dw18 : w1.cell? ⟨w.heap.size + 1, 8, none⟩ = some R2 := by rw [cell_of_row _ _ 8 _ _ _ g2]; rfl
             have G1a := Lib.hid g1
             have G2a := Lib.hid g2
             have BE1 := hide (BE.out.trans (hb.mono BE.out.size))
             clear g1 g2 hb)
          | (go_at_call 34; refine (HL.out _ BE1.out).mono ?_; rintro e w2 ⟨rfl, hb⟩
             have g1 := (hb.block _ (lt_of_heapF G1a.out)).trans G1a.out
             have g2 := (hb.block _ (lt_of_heapF G2a.out)).trans G2a.out
             have lw2 := lt_of_heapF g2
             have cw26 : w2.cell? ⟨w.heap.size, 6, none⟩ = some B1 := by rw [cell_of_row _ _ 6 _ _ _ g1]; rfl
             have dw26 : w2.cell? ⟨w.heap.size + 1, 6, none⟩ = some B2 := by rw [cell_of_row _ _ 6 _ _ _ g2]; rfl
             have cw28 : w2.cell? ⟨w.heap.size, 8, none⟩ = some R1 := by rw [cell_of_row _ _ 8 _ _ _ g1]; rfl
             have dw28 : w2.cell? ⟨w.heap.size + 1, 8, none⟩ = some R2 := by rw [cell_of_row _ _ 8 _ _ _ g2]; rfl
             have G1b := Lib.hid g1
             have G2b := Lib.hid g2
             have BE2 := hide (BE1.out.trans (hb.mono BE1.out.size))
             clear g1 g2 hb)
          | (go_at_call 35; refine (HB.out _ BE2.out).mono ?_; rintro e w3 ⟨rfl, hb⟩
             have g1 := (hb.block _ (lt_of_heapF G1b.out)).trans G1b.out
             have g2 := (hb.block _ (lt_of_heapF G2b.out)).trans G2b.out
             have lw3 := lt_of_heapF g2
             have cw38 : w3.cell? ⟨w.heap.size, 8, none⟩ = some R1 := by rw [cell_of_row _ _ 8 _ _ _ g1]; rfl
             have dw38 : w3.cell? ⟨w.heap.size + 1, 8, none⟩ = some R2 := by rw [cell_of_row _ _ 8 _ _ _ g2]; rfl
             have G1c := Lib.hid g1
             have G2c := Lib.hid g2
             have BE3 := hide (BE2.out.trans (hb.mono BE2.out.size))
             clear g1 g2 hb)
          | (go_at_call 36; refine (HR.out _ BE3.out).mono ?_; rintro e w4 ⟨rfl, hb⟩
             have g1 := (hb.block _ (lt_of_heapF G1c.out)).trans G1c.out
             have g2 := (hb.block _ (lt_of_heapF G2c.out)).trans G2c.out
             have lw4 := lt_of_heapF g2
             have G1d := Lib.hid g1
             have G2d := Lib.hid g2
             have BE4 := hide (BE3.out.trans (hb.mono BE3.out.size))
             clear g1 g2 hb))
    go_ret
    exact ⟨rfl, BE4.out⟩
  · go_enter Tryz.func15, Tryz.ntmps15
    go_wp2_with (first
          | (go_at_call 33; rw [← HW0.out]; refine HS.out.mono ?_; rintro e w1 ⟨rfl, hb⟩
             have g1 := (hb.block _ (lt_of_heapF G1.out)).trans G1.out
             have g2 := (hb.block _ (lt_of_heapF G2.out)).trans G2.out
             have lw1 := lt_of_heapF g2
             have cw15 : w1.cell? ⟨w.heap.size, 5, none⟩ = some L1 := by rw [cell_of_row _ _ 5 _ _ _ g1]; rfl
             have dw15 : w1.cell? ⟨w.heap.size + 1, 5, none⟩ = some L2 := by rw [cell_of_row _ _ 5 _ _ _ g2]; rfl
             have cw16 : w1.cell? ⟨w.heap.size, 6, none⟩ = some B1 := by rw [cell_of_row _ _ 6 _ _ _ g1]; rfl
             have dw16 : w1.cell? ⟨w.heap.size + 1, 6, none⟩ = some B2 := by rw [cell_of_row _ _ 6 _ _ _ g2]; rfl
             have cw18 : w1.cell? ⟨w.heap.size, 8, none⟩ = some R1 := by rw [cell_of_row _ _ 8 _ _ _ g1]; rfl
             have dw18 : w1.cell? ⟨w.heap.size + 1, 8, none⟩ = some R2 := by rw [cell_of_row _ _ 8 _ _ _ g2]; rfl
             have G1a := Lib.hid g1
             have G2a := Lib.hid g2
             have BE1 := hide (BE.out.trans (hb.mono BE.out.size))
             clear g1 g2 hb)
          | (go_at_call 34; refine (HL.out _ BE1.out).mono ?_; rintro e w2 ⟨rfl, hb⟩
             have g1 := (hb.block _ (lt_of_heapF G1a.out)).trans G1a.out
             have g2 := (hb.block _ (lt_of_heapF G2a.out)).trans G2a.out
             have lw2 := lt_of_heapF g2
             have cw26 : w2.cell? ⟨w.heap.size, 6, none⟩ = some B1 := by rw [cell_of_row _ _ 6 _ _ _ g1]; rfl
             have dw26 : w2.cell? ⟨w.heap.size + 1, 6, none⟩ = some B2 := by rw [cell_of_row _ _ 6 _ _ _ g2]; rfl
             have cw28 : w2.cell? ⟨w.heap.size, 8, none⟩ = some R1 := by rw [cell_of_row _ _ 8 _ _ _ g1]; rfl
             have dw28 : w2.cell? ⟨w.heap.size + 1, 8, none⟩ = some R2 := by rw [cell_of_row _ _ 8 _ _ _ g2]; rfl
             have G1b := Lib.hid g1
             have G2b := Lib.hid g2
             have BE2 := hide (BE1.out.trans (hb.mono BE1.out.size))
             clear g1 g2 hb)
          | (go_at_call 35; refine (HB.out _ BE2.out).mono ?_; rintro e w3 ⟨rfl, hb⟩
             have g1 := (hb.block _ (lt_of_heapF G1b.out)).trans G1b.out
             have g2 := (hb.block _ (lt_of_heapF G2b.out)).trans G2b.out
             have lw3 := lt_of_heapF g2
             have cw38 : w3.cell? ⟨w.heap.size, 8, none⟩ = some R1 := by rw [cell_of_row _ _ 8 _ _ _ g1]; rfl
             have dw38 : w3.cell? ⟨w.heap.size + 1, 8, none⟩ = some R2 := by rw [cell_of_row _ _ 8 _ _ _ g2]; rfl
             have G1c := Lib.hid g1
             have G2c := Lib.hid g2
             have BE3 := hide (BE2.out.trans (hb.mono BE2.out.size))
             clear g1 g2 hb)
          | (go_at_call 36; refine (HR.out _ BE3.out).mono ?_; rintro e w4 ⟨rfl, hb⟩
             have g1 := (hb.block _ (lt_of_heapF G1c.out)).trans G1c.out
             have g2 := (hb.block _ (lt_of_heapF G2c.out)).trans G2c.out
             have lw4 := lt_of_heapF g2
             have G1d := Lib.hid g1
             have G2d := Lib.hid g2
             have BE4 := hide (BE3.out.trans (hb.mono BE3.out.size))
             clear g1 g2 hb))
    go_ret
    exact ⟨rfl, BE4.out⟩
end Go.Proofs.YtnfclcbhehbchaaGreatDoor
