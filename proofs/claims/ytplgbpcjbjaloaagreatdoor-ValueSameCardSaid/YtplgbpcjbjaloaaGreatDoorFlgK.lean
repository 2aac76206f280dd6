/- The form and the text of an empty path. -/
import Derived.Test.YtplgbpcjbjaloaaGreatDoorFlgJ
set_option autoImplicit false
namespace Go.Proofs.YtplgbpcjbjaloaaGreatDoor
open Go.RowKit
set_option maxRecDepth 100000 in
set_option maxHeartbeats 4000000 in
theorem grow_zero (w : World) : Calls Tryz.prog 79 #[.slice none 0 0, .int .i64 0] w fun e w' => e = .returned (.slice none 0 0) ∧ w' = w := by
  go_enter Tryz.func79, Tryz.ntmps79
  go_wp2
  go_ret
  exact ⟨rfl, rfl⟩
set_option maxRecDepth 100000 in
set_option maxHeartbeats 4000000 in
theorem concat_nil (w : World) : Calls Tryz.prog 72 #[.slice none 0 0] w fun e w' => e = .returned (.slice none 0 0) ∧ w' = w := by
  go_enter Tryz.func72, Tryz.ntmps72
  go_wp2_with fail
  go_loop [3, 11] (fun n i => i = .int .i64 0 ∧ n = .int .i64 0) (fun _ _ => 0)
  case atStart => exact ⟨rfl, rfl⟩
  case round =>
    obtain ⟨rfl, rfl⟩ := hrel
    go_wp2_with (go_at_call 79; refine (grow_zero _).mono ?_; rintro e w1 ⟨rfl, rfl⟩)
    go_loop [6, 27] (fun n i => i = .int .i64 0 ∧ n = .slice none 0 0) (fun _ _ => 0)
    case atStart => exact ⟨rfl, rfl⟩
    case round =>
      obtain ⟨rfl, rfl⟩ := hrel
      go_wp2
      go_ret
      exact ⟨rfl, rfl⟩
set_option maxRecDepth 100000 in
theorem cat_nil (w : World) : Calls Tryz.prog 44 #[.slice none 0 0] w fun e w' => e = .returned (.slice none 0 0) ∧ w' = w := by
  go_enter Tryz.func44, Tryz.ntmps44
  go_wp2_with (go_at_call 72; refine (concat_nil _).mono ?_; rintro e w1 ⟨rfl, rfl⟩)
  go_ret
  exact ⟨rfl, rfl⟩
set_option maxRecDepth 100000 in
set_option maxHeartbeats 4000000 in
theorem sbytes_nil (w : World) : Calls Tryz.prog 189 #[.int .i64 2, .slice none 0 0] w fun e w' => e = .returned (.tuple #[.slice none 0 0, .bool true]) ∧ Below w.heap.size w w' := by
  go_enter Tryz.func189, Tryz.ntmps189
  go_wp2_with (go_at_call 193; refine (svalid_nil 2 (.inl rfl) w).mono ?_; rintro e w1 ⟨rfl, hb1⟩; have B1 := hide hb1; clear hb1)
  go_loop [6, 19] (fun n i => i = .int .i64 0 ∧ n = .slice none 0 0) (fun _ _ => 0)
  case atStart => exact ⟨rfl, rfl⟩
  case round =>
    obtain ⟨rfl, rfl⟩ := hrel
    go_wp2_with (go_at_call 44; refine (cat_nil _).mono ?_; rintro e w2 ⟨rfl, rfl⟩)
    refine bodyPost_ret (v := .tuple #[.slice none 0 0, .bool true]) (by simp [results, Tryz.results189, go_sem]) rfl ?_
    exact ⟨rfl, B1.out⟩
set_option maxRecDepth 100000 in
set_option maxHeartbeats 4000000 in
theorem join_nil (w : World) : Calls Tryz.prog 132 #[.slice none 0 0, .string ⟨#[32]⟩] w fun e w' => e = .returned (.string ⟨#[]⟩) ∧ w' = w := by
  go_enter Tryz.func132, Tryz.ntmps132
  go_wp2
  go_ret
  exact ⟨rfl, rfl⟩
set_option maxRecDepth 100000 in
set_option maxHeartbeats 4000000 in
theorem stext_nil (w : World) : Calls Tryz.prog 192 #[.slice none 0 0] w fun e w' => e = .returned (.string ⟨#[]⟩) ∧ Below w.heap.size w w' := by
  go_enter Tryz.func192, Tryz.ntmps192
  go_wp2_with (go_at_call 193; refine (svalid_nil 4 (.inr rfl) w).mono ?_; rintro e w1 ⟨rfl, hb1⟩; have B1 := hide hb1; clear hb1)
  go_loop [3, 15] (fun n i => i = .int .i64 0 ∧ n = .slice none 0 0) (fun _ _ => 0)
  case atStart => exact ⟨rfl, rfl⟩
  case round =>
    obtain ⟨rfl, rfl⟩ := hrel
    go_wp2_with (go_at_call 132; refine (join_nil _).mono ?_; rintro e w2 ⟨rfl, rfl⟩)
    go_ret
    exact ⟨rfl, B1.out⟩
set_option maxRecDepth 100000 in
set_option maxHeartbeats 4000000 in
theorem suffix_path (w : World) : Calls Tryz.prog 200 #[.string ⟨#[112, 97, 116, 104, 32]⟩, .string ⟨#[32]⟩] w fun e w' => e = .returned (.bool true) ∧ w' = w := by
  have h : ((({ data := #[112, 97, 116, 104, 32] } : ByteArray).extract 4 5).toList == [32]) = true := by decide +kernel
  go_enter Tryz.func200, Tryz.ntmps200
  go_wp2
  go_ret
  exact ⟨rfl, rfl⟩
set_option maxRecDepth 100000 in
set_option maxHeartbeats 4000000 in
theorem trim_path0 (w : World) : Calls Tryz.prog 195 #[.string ⟨#[112, 97, 116, 104, 32]⟩, .string ⟨#[32]⟩] w fun e w' => e = .returned (.string ⟨#[112, 97, 116, 104]⟩) ∧ w' = w := by
  go_enter Tryz.func195, Tryz.ntmps195
  go_wp2_with (go_at_call 200; refine (suffix_path _).mono ?_; rintro e w1 ⟨rfl, rfl⟩)
  go_ret
  exact ⟨rfl, rfl⟩
set_option maxRecDepth 100000 in
theorem trim_path (w : World) (s : ByteArray) (hs : s = ⟨#[112, 97, 116, 104, 32]⟩) : Calls Tryz.prog 191 #[.string s, .string ⟨#[32]⟩] w fun e w' => e = .returned (.string ⟨#[112, 97, 116, 104]⟩) ∧ w' = w := by
  subst hs
  go_enter Tryz.func191, Tryz.ntmps191
  go_wp2_with (go_at_call 195; refine (trim_path0 _).mono ?_; rintro e w1 ⟨rfl, rfl⟩)
  go_ret
  exact ⟨rfl, rfl⟩
set_option maxRecDepth 100000 in
theorem group_two (w : World) : Calls Tryz.prog 56 #[.int .i64 2] w fun e w' => e = .returned (.int .i64 0) ∧ w' = w := by
  go_enter Tryz.func56, Tryz.ntmps56
  go_wp2
  go_ret
  exact ⟨rfl, rfl⟩
set_option maxRecDepth 100000 in
theorem aggHas_two (w : World) : Calls Tryz.prog 57 #[.int .i64 2] w fun e w' => e = .returned (.bool false) ∧ w' = w := by
  go_enter Tryz.func57, Tryz.ntmps57
  go_wp2
  go_ret
  exact ⟨rfl, rfl⟩
set_option maxRecDepth 100000 in
theorem mpHas_two (w : World) : Calls Tryz.prog 58 #[.int .i64 2] w fun e w' => e = .returned (.bool false) ∧ w' = w := by
  go_enter Tryz.func58, Tryz.ntmps58
  go_wp2
  go_ret
  exact ⟨rfl, rfl⟩
end Go.Proofs.YtplgbpcjbjaloaaGreatDoor
