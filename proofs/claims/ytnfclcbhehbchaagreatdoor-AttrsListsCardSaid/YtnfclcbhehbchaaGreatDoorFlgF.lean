/- The functions that the example of a chapter runs, at the empty path and no options: the first part. -/
import Derived.Test.YtnfclcbhehbchaaGreatDoorFlgE
import Derived.Test.YtnfclcbhehbchaaGreatDoorConB
set_option autoImplicit false
namespace Go.Proofs.YtnfclcbhehbchaaGreatDoor
open Go.RowKit
set_option maxRecDepth 100000 in
set_option maxHeartbeats 4000000 in
theorem owidth_no (w : World) : Calls Tryz.prog 147 #[.agg #[.bool false, .bool false, .bool false, .bool false, .bool false, .bool false]] w fun e w' => e = .returned (.int .i64 2) ∧ Below w.heap.size w w' := by
  have hb := (Below.refl w.heap.size w).alloc (Nat.le_refl _) (.cells #[.bool false, .bool false, .bool false, .bool false, .bool false, .bool false] 60)
  have HB := hide hb
  clear hb
  go_enter Tryz.func147, Tryz.ntmps147
  go_wp2
  go_ret
  exact ⟨rfl, HB.out⟩
set_option maxRecDepth 100000 in
set_option maxHeartbeats 4000000 in
theorem pwidth_no (w : World) : Calls Tryz.prog 163 #[.agg #[.bool false, .bool false, .bool false, .bool false, .bool false, .bool false], .int .i64 2] w fun e w' => e = .returned (.int .i64 2) ∧ Below w.heap.size w w' := by
  have hb := (Below.refl w.heap.size w).alloc (Nat.le_refl _) (.cells #[.bool false, .bool false, .bool false, .bool false, .bool false, .bool false] 122)
  have HB := hide hb
  clear hb
  have HO := hide owidth_no
  go_enter Tryz.func163, Tryz.ntmps163
  go_wp2_with (go_at_call 147; refine (HO.out _).mono ?_; rintro e w1 ⟨rfl, hb1⟩; have B1 := hide hb1; clear hb1)
  go_ret
  exact ⟨rfl, HB.out.trans (B1.out.mono (by simp))⟩
set_option maxRecDepth 100000 in
set_option maxHeartbeats 4000000 in
theorem sindex_nil (b : Nat) (w : World) : Calls Tryz.prog 170 #[.slice none 0 0, .func (.func 167) #[] #[.pointer (some ⟨b, 0, none⟩)]] w fun e w' => e = .returned (.int .i64 (-1)) ∧ w' = w := by
  go_enter Tryz.func170, Tryz.ntmps170
  go_wp2_with fail
  go_loop [8] (fun i => i = .int .i64 0) (fun _ => 0)
  case atStart => exact rfl
  case round =>
    subst hrel
    go_wp2
    go_ret
    exact ⟨rfl, rfl⟩
set_option maxRecDepth 100000 in
theorem scontains_nil (b : Nat) (w : World) : Calls Tryz.prog 166 #[.slice none 0 0, .func (.func 167) #[] #[.pointer (some ⟨b, 0, none⟩)]] w fun e w' => e = .returned (.bool false) ∧ w' = w := by
  go_enter Tryz.func166, Tryz.ntmps166
  go_wp2_with fail
  refine (sindex_nil b w).mono ?_
  rintro e w1 ⟨rfl, rfl⟩
  go_wp2
  go_ret
  exact ⟨rfl, rfl⟩
set_option maxRecDepth 100000 in
set_option maxHeartbeats 4000000 in
theorem svalid_nil (k : Int) (hk : k = 2 ∨ k = 4) (w : World) : Calls Tryz.prog 165 #[.int .i64 k, .slice none 0 0] w fun e w' => e = .returned (.bool true) ∧ Below w.heap.size w w' := by
  have hb := (Below.refl w.heap.size w).alloc (Nat.le_refl _) (.cells #[.int .i64 k] 3)
  have HB := hide hb
  clear hb
  rcases hk with rfl | rfl
  all_goals
    go_enter Tryz.func165, Tryz.ntmps165
    go_wp2_with (go_at_call 166; refine (scontains_nil _ _).mono ?_; rintro e w1 ⟨rfl, rfl⟩)
    go_ret
    exact ⟨rfl, HB.out⟩
set_option maxRecDepth 100000 in
set_option maxHeartbeats 4000000 in
theorem two_eq (w : World) : (Op.equalIn 10000 169 (.agg #[.int .u32 0, .int .u32 0]) (.agg #[.int .u32 0, .int .u32 0])).run Tryz.prog w = .ok true w := by
  have hi : (Tryz.prog.info? 32).isSome = true := by kernel_rfl
  obtain ⟨i, hi⟩ := Option.isSome_iff_exists.1 hi
  have hc : Tryz.prog.cellsOf 32 = 1 := by kernel_rfl
  have hagg : ∀ w, (isAgg 32).run Tryz.prog w = .ok false w := fun w => by unfold isAgg; rw [Sem.run_bind, run_underlying Tryz.underlying32 w]; rfl
  have h1 : ∀ w x y, (Op.equalIn 9999 32 (.int .u32 x) (.int .u32 y)).run Tryz.prog w = .ok (x == y) w := fun w x y => run_equalIn_int w 9998 32 .u32 .u32 x y Tryz.underlying32
  rw [run_equalIn_array w 9999 _ _ Tryz.underlying169 hi, hc]
  simp [List.range, List.range.loop, Op.eqItems, part, Sem.run_bind, hagg, h1]
set_option maxRecDepth 100000 in
set_option maxHeartbeats 4000000 in
theorem plain_two (w : World) : Calls Tryz.prog 137 #[.agg #[.int .i64 2, .bool false, .int .u32 0, .int .u32 0, .slice none 0 0, .slice none 0 0, .slice none 0 0, .int .i64 0, .slice none 0 0], .slice none 0 0] w fun e w' => e = .returned (.bool true) ∧ Below w.heap.size w w' := by
  obtain ⟨WW, hWW⟩ : ∃ WW, WW = (w.alloc (.cells #[.int .i64 2, .bool false, .int .u32 0, .int .u32 0, .slice none 0 0, .slice none 0 0, .slice none 0 0, .int .i64 0, .slice none 0 0] 38)).alloc (.cells #[.int .u32 0, .int .u32 0] 169) := ⟨_, rfl⟩
  have hbb : Below w.heap.size w WW := by rw [hWW]; exact ((Below.refl _ _).alloc (Nat.le_refl _) _).alloc (by simp) _
  rw [hWW] at hbb
  have HBB := hide hbb
  clear hbb hWW
  have heq := two_eq
  have hcp : ∀ (w : World) (a : Addr), (Builtin.copy_ #[34, 34] 3 #[.slice (some a) 2 2, .slice none 0 0]).run Tryz.prog w = .ok (.int .i64 0) w := fun w a =>
    run_copy_nil _ w _ _ _ 32 a 2 2 Tryz.underlying34 (by kernel_rfl)
  go_enter Tryz.func137, Tryz.ntmps137
  go_wp2
  go_ret
  exact ⟨rfl, HBB.out⟩
set_option maxRecDepth 100000 in
set_option maxHeartbeats 4000000 in
theorem fwidth_no (w : World) : Calls Tryz.prog 81 #[.int .i64 64] w fun e w' => e = .returned (.int .i64 1) ∧ w' = w := by
  go_enter Tryz.func81, Tryz.ntmps81
  go_wp2
  go_ret
  exact ⟨rfl, rfl⟩
end Go.Proofs.YtnfclcbhehbchaaGreatDoor
