/- The reference's Class and Right, and its Same where there is nothing. -/
import Derived.Test.YtplgbpcjbjaloaaGreatDoorFlgN
import Derived.Lib.BufferRead
set_option autoImplicit false
namespace Go.Proofs.YtplgbpcjbjaloaaGreatDoor
open Go.RowKit
set_option maxRecDepth 100000 in
set_option maxHeartbeats 4000000 in
theorem rsegs_nil (w : World) : Calls Tryz.prog 26 #[.slice none 0 0, .slice none 0 0] w fun e w' => e = .returned (.bool true) ∧ w' = w := by
  go_enter Tryz.func26, Tryz.ntmps26
  go_wp2_with fail
  go_loop [5] (fun i => i = .int .i64 0) (fun _ => 0)
  case atStart => exact rfl
  case round =>
    subst hrel
    go_wp2
    go_ret
    exact ⟨rfl, rfl⟩
set_option maxRecDepth 100000 in
set_option maxHeartbeats 4000000 in
theorem rnums_nil (w : World) : Calls Tryz.prog 27 #[.slice none 0 0, .slice none 0 0] w fun e w' => e = .returned (.bool true) ∧ w' = w := by
  go_enter Tryz.func27, Tryz.ntmps27
  go_wp2_with fail
  go_loop [5] (fun i => i = .int .i64 0) (fun _ => 0)
  case atStart => exact rfl
  case round =>
    subst hrel
    go_wp2
    go_ret
    exact ⟨rfl, rfl⟩
set_option maxRecDepth 100000 in
set_option maxHeartbeats 4000000 in
theorem rroutes_nil (w : World) : Calls Tryz.prog 29 #[.slice none 0 0, .slice none 0 0] w fun e w' => e = .returned (.bool true) ∧ w' = w := by
  go_enter Tryz.func29, Tryz.ntmps29
  go_wp2_with fail
  go_loop [5] (fun i => i = .int .i64 0) (fun _ => 0)
  case atStart => exact rfl
  case round =>
    subst hrel
    go_wp2
    go_ret
    exact ⟨rfl, rfl⟩
set_option maxRecDepth 100000 in
set_option maxHeartbeats 4000000 in
theorem rbytes_nil (w : World) : Calls Tryz.prog 28 #[.slice none 0 0, .slice none 0 0] w fun e w' => e = .returned (.bool true) ∧ w' = w := by
  have hcv : ∀ w : World, (convert 25 9 (.slice none 0 0)).run Tryz.prog w = .ok (.string ⟨#[]⟩) w := fun w => Lib.run_convert_nil_bytes w _ _ 5 0 Tryz.underlying25 Tryz.underlying5 Tryz.underlying9
  go_enter Tryz.func28, Tryz.ntmps28
  go_wp2
  go_ret
  exact ⟨rfl, rfl⟩
set_option maxRecDepth 100000 in
set_option maxHeartbeats 4000000 in
theorem vsame_any (kd at_ : Int) (w : World) : Calls Tryz.prog 14 #[.agg #[.int .i64 kd, .int .i64 0, .int .i64 0, .slice none 0 0, .int .i64 at_], .agg #[.int .i64 kd, .int .i64 0, .int .i64 0, .slice none 0 0, .int .i64 at_]] w fun e w' => e = .returned (.bool true) ∧ Below w.heap.size w w' := by
  have hb := ((Below.refl w.heap.size w).alloc (Nat.le_refl _) (.cells #[.int .i64 kd, .int .i64 0, .int .i64 0, .slice none 0 0, .int .i64 at_] 49)).alloc (by simp) (.cells #[.int .i64 kd, .int .i64 0, .int .i64 0, .slice none 0 0, .int .i64 at_] 49)
  have HB := hide hb
  clear hb
  have e1 : (kd == kd) = true := by simp
  have e2 : (at_ == at_) = true := by simp
  go_enter Tryz.func14, Tryz.ntmps14
  go_wp2_with (go_at_call 28; refine (rbytes_nil _).mono ?_; rintro e w1 ⟨rfl, rfl⟩)
  go_ret
  exact ⟨rfl, HB.out⟩
set_option maxRecDepth 100000 in
set_option maxHeartbeats 4000000 in
theorem asame_zero (w : World) : Calls Tryz.prog 9 #[.agg #[.int .i64 0, .bool false, .int .u32 0, .int .u32 0, .slice none 0 0, .slice none 0 0, .slice none 0 0, .int .i64 0, .slice none 0 0], .agg #[.int .i64 0, .bool false, .int .u32 0, .int .u32 0, .slice none 0 0, .slice none 0 0, .slice none 0 0, .int .i64 0, .slice none 0 0]] w fun e w' => e = .returned (.bool true) ∧ Below w.heap.size w w' := by
  have hb := ((Below.refl w.heap.size w).alloc (Nat.le_refl _) (.cells #[.int .i64 0, .bool false, .int .u32 0, .int .u32 0, .slice none 0 0, .slice none 0 0, .slice none 0 0, .int .i64 0, .slice none 0 0] 28)).alloc (by simp) (.cells #[.int .i64 0, .bool false, .int .u32 0, .int .u32 0, .slice none 0 0, .slice none 0 0, .slice none 0 0, .int .i64 0, .slice none 0 0] 28)
  have HB := hide hb
  clear hb
  go_enter Tryz.func9, Tryz.ntmps9
  go_wp2_with (first
    | (go_at_call 26; refine (rsegs_nil _).mono ?_; rintro e w1 ⟨rfl, rfl⟩)
    | (go_at_call 27; refine (rnums_nil _).mono ?_; rintro e w1 ⟨rfl, rfl⟩)
    | (go_at_call 28; refine (rbytes_nil _).mono ?_; rintro e w1 ⟨rfl, rfl⟩)
    | (go_at_call 29; refine (rroutes_nil _).mono ?_; rintro e w1 ⟨rfl, rfl⟩))
  go_ret
  exact ⟨rfl, HB.out⟩
theorem cls_1 : clsF 1 = some 64 := by decide
theorem cls_2 : clsF 2 = some 64 := by decide
theorem cls_3 : clsF 3 = some 64 := by decide
theorem cls_5 : clsF 5 = some 64 := by decide
theorem cls_6 : clsF 6 = some 64 := by decide
theorem cls_4 : clsF 4 = some 128 := by decide
theorem cls_9 : clsF 9 = some 128 := by decide
theorem cls_10 : clsF 10 = some 128 := by decide
theorem cls_14 : clsF 14 = some 128 := by decide
theorem cls_15 : clsF 15 = some 128 := by decide
theorem cls_7 : clsF 7 = some 192 := by decide
theorem cls_8 : clsF 8 = some 192 := by decide
theorem cls_16 : clsF 16 = some 192 := by decide
theorem cls_17 : clsF 17 = some 192 := by decide
theorem cls_18 : clsF 18 = some 192 := by decide
theorem cls_32 : clsF 32 = some 192 := by decide
def clsT (n : Nat) : Option Int := if n ∈ [1, 2, 3, 5, 6] then some 64 else if n ∈ [4, 9, 10, 14, 15] then some 128 else if n ∈ [7, 8, 16, 17, 18, 32] then some 192 else none
set_option maxRecDepth 100000 in
theorem cls_fin : ∀ n : Fin 256, clsF ((n.val : Nat) : Int) = clsT n.val := by decide +kernel
theorem cls_cases {k c : Int} (h0 : 0 ≤ k) (h1 : k < 256) (h : clsF k = some c) : (k = 1 ∧ c = 64) ∨ (k = 2 ∧ c = 64) ∨ (k = 3 ∧ c = 64) ∨ (k = 5 ∧ c = 64) ∨ (k = 6 ∧ c = 64) ∨ (k = 4 ∧ c = 128) ∨ (k = 9 ∧ c = 128) ∨ (k = 10 ∧ c = 128) ∨ (k = 14 ∧ c = 128) ∨ (k = 15 ∧ c = 128) ∨ (k = 7 ∧ c = 192) ∨ (k = 8 ∧ c = 192) ∨ (k = 16 ∧ c = 192) ∨ (k = 17 ∧ c = 192) ∨ (k = 18 ∧ c = 192) ∨ (k = 32 ∧ c = 192) := by
  obtain ⟨n, rfl⟩ := Int.eq_ofNat_of_zero_le h0
  have hf := cls_fin ⟨n, by omega⟩
  simp only at hf
  rw [h] at hf
  unfold clsT at hf
  split at hf
  · rename_i hm; simp only [List.mem_cons, List.not_mem_nil, or_false] at hm; have hc := Option.some.inj hf; subst hc; rcases hm with rfl | rfl | rfl | rfl | rfl <;> decide
  · split at hf
    · rename_i hm; simp only [List.mem_cons, List.not_mem_nil, or_false] at hm; have hc := Option.some.inj hf; subst hc; rcases hm with rfl | rfl | rfl | rfl | rfl <;> decide
    · split at hf
      · rename_i hm; simp only [List.mem_cons, List.not_mem_nil, or_false] at hm; have hc := Option.some.inj hf; subst hc; rcases hm with rfl | rfl | rfl | rfl | rfl | rfl <;> decide
      · cases hf
theorem cls_ne {k n : Int} (h : clsF k = none) (hn : clsF n ≠ none) : (k == n) = false := by
  cases e : k == n with
  | false => rfl
  | true => exact absurd (by rw [← eq_of_beq e]; exact h) hn
set_option maxRecDepth 100000 in
set_option maxHeartbeats 4000000 in
theorem rclass_yes (k c : Int) (w : World) (h0 : 0 ≤ k) (h1 : k < 256) (h : clsF k = some c) : Calls Tryz.prog 10 #[.int .i64 k] w fun e w' => e = .returned (.tuple #[.int .i64 c, .bool true]) ∧ w' = w := by
  have hk := cls_cases h0 h1 h
  clear h h0 h1
  rcases hk with ⟨rfl, rfl⟩ | ⟨rfl, rfl⟩ | ⟨rfl, rfl⟩ | ⟨rfl, rfl⟩ | ⟨rfl, rfl⟩ | ⟨rfl, rfl⟩ | ⟨rfl, rfl⟩ | ⟨rfl, rfl⟩ | ⟨rfl, rfl⟩ | ⟨rfl, rfl⟩ | ⟨rfl, rfl⟩ | ⟨rfl, rfl⟩ | ⟨rfl, rfl⟩ | ⟨rfl, rfl⟩ | ⟨rfl, rfl⟩ | ⟨rfl, rfl⟩
  · go_enter Tryz.func10, Tryz.ntmps10
    go_wp2
    refine bodyPost_ret (v := .tuple #[.int .i64 64, .bool true]) (by simp [results, Tryz.results10, go_sem]) rfl ?_
    exact ⟨rfl, rfl⟩
  · go_enter Tryz.func10, Tryz.ntmps10
    go_wp2
    refine bodyPost_ret (v := .tuple #[.int .i64 64, .bool true]) (by simp [results, Tryz.results10, go_sem]) rfl ?_
    exact ⟨rfl, rfl⟩
  · go_enter Tryz.func10, Tryz.ntmps10
    go_wp2
    refine bodyPost_ret (v := .tuple #[.int .i64 64, .bool true]) (by simp [results, Tryz.results10, go_sem]) rfl ?_
    exact ⟨rfl, rfl⟩
  · go_enter Tryz.func10, Tryz.ntmps10
    go_wp2
    refine bodyPost_ret (v := .tuple #[.int .i64 64, .bool true]) (by simp [results, Tryz.results10, go_sem]) rfl ?_
    exact ⟨rfl, rfl⟩
  · go_enter Tryz.func10, Tryz.ntmps10
    go_wp2
    refine bodyPost_ret (v := .tuple #[.int .i64 64, .bool true]) (by simp [results, Tryz.results10, go_sem]) rfl ?_
    exact ⟨rfl, rfl⟩
  · go_enter Tryz.func10, Tryz.ntmps10
    go_wp2
    refine bodyPost_ret (v := .tuple #[.int .i64 128, .bool true]) (by simp [results, Tryz.results10, go_sem]) rfl ?_
    exact ⟨rfl, rfl⟩
  · go_enter Tryz.func10, Tryz.ntmps10
    go_wp2
    refine bodyPost_ret (v := .tuple #[.int .i64 128, .bool true]) (by simp [results, Tryz.results10, go_sem]) rfl ?_
    exact ⟨rfl, rfl⟩
  · go_enter Tryz.func10, Tryz.ntmps10
    go_wp2
    refine bodyPost_ret (v := .tuple #[.int .i64 128, .bool true]) (by simp [results, Tryz.results10, go_sem]) rfl ?_
    exact ⟨rfl, rfl⟩
  · go_enter Tryz.func10, Tryz.ntmps10
    go_wp2
    refine bodyPost_ret (v := .tuple #[.int .i64 128, .bool true]) (by simp [results, Tryz.results10, go_sem]) rfl ?_
    exact ⟨rfl, rfl⟩
  · go_enter Tryz.func10, Tryz.ntmps10
    go_wp2
    refine bodyPost_ret (v := .tuple #[.int .i64 128, .bool true]) (by simp [results, Tryz.results10, go_sem]) rfl ?_
    exact ⟨rfl, rfl⟩
  · go_enter Tryz.func10, Tryz.ntmps10
    go_wp2
    refine bodyPost_ret (v := .tuple #[.int .i64 192, .bool true]) (by simp [results, Tryz.results10, go_sem]) rfl ?_
    exact ⟨rfl, rfl⟩
  · go_enter Tryz.func10, Tryz.ntmps10
    go_wp2
    refine bodyPost_ret (v := .tuple #[.int .i64 192, .bool true]) (by simp [results, Tryz.results10, go_sem]) rfl ?_
    exact ⟨rfl, rfl⟩
  · go_enter Tryz.func10, Tryz.ntmps10
    go_wp2
    refine bodyPost_ret (v := .tuple #[.int .i64 192, .bool true]) (by simp [results, Tryz.results10, go_sem]) rfl ?_
    exact ⟨rfl, rfl⟩
  · go_enter Tryz.func10, Tryz.ntmps10
    go_wp2
    refine bodyPost_ret (v := .tuple #[.int .i64 192, .bool true]) (by simp [results, Tryz.results10, go_sem]) rfl ?_
    exact ⟨rfl, rfl⟩
  · go_enter Tryz.func10, Tryz.ntmps10
    go_wp2
    refine bodyPost_ret (v := .tuple #[.int .i64 192, .bool true]) (by simp [results, Tryz.results10, go_sem]) rfl ?_
    exact ⟨rfl, rfl⟩
  · go_enter Tryz.func10, Tryz.ntmps10
    go_wp2
    refine bodyPost_ret (v := .tuple #[.int .i64 192, .bool true]) (by simp [results, Tryz.results10, go_sem]) rfl ?_
    exact ⟨rfl, rfl⟩
set_option maxRecDepth 100000 in
set_option maxHeartbeats 4000000 in
theorem rclass_no (k : Int) (w : World) (h : clsF k = none) : Calls Tryz.prog 10 #[.int .i64 k] w fun e w' => e = .returned (.tuple #[.int .i64 0, .bool false]) ∧ w' = w := by
  have e1 : (k == 1) = false := cls_ne h (by rw [cls_1]; exact Option.some_ne_none _)
  have e2 : (k == 2) = false := cls_ne h (by rw [cls_2]; exact Option.some_ne_none _)
  have e3 : (k == 3) = false := cls_ne h (by rw [cls_3]; exact Option.some_ne_none _)
  have e5 : (k == 5) = false := cls_ne h (by rw [cls_5]; exact Option.some_ne_none _)
  have e6 : (k == 6) = false := cls_ne h (by rw [cls_6]; exact Option.some_ne_none _)
  have e4 : (k == 4) = false := cls_ne h (by rw [cls_4]; exact Option.some_ne_none _)
  have e9 : (k == 9) = false := cls_ne h (by rw [cls_9]; exact Option.some_ne_none _)
  have e10 : (k == 10) = false := cls_ne h (by rw [cls_10]; exact Option.some_ne_none _)
  have e14 : (k == 14) = false := cls_ne h (by rw [cls_14]; exact Option.some_ne_none _)
  have e15 : (k == 15) = false := cls_ne h (by rw [cls_15]; exact Option.some_ne_none _)
  have e7 : (k == 7) = false := cls_ne h (by rw [cls_7]; exact Option.some_ne_none _)
  have e8 : (k == 8) = false := cls_ne h (by rw [cls_8]; exact Option.some_ne_none _)
  have e16 : (k == 16) = false := cls_ne h (by rw [cls_16]; exact Option.some_ne_none _)
  have e17 : (k == 17) = false := cls_ne h (by rw [cls_17]; exact Option.some_ne_none _)
  have e18 : (k == 18) = false := cls_ne h (by rw [cls_18]; exact Option.some_ne_none _)
  have e32 : (k == 32) = false := cls_ne h (by rw [cls_32]; exact Option.some_ne_none _)
  clear h
  go_enter Tryz.func10, Tryz.ntmps10
  go_wp2
  refine bodyPost_ret (v := .tuple #[.int .i64 0, .bool false]) (by simp [results, Tryz.results10, go_sem]) rfl ?_
  exact ⟨rfl, rfl⟩
theorem rbits_any (x y : Int) (w : World) : Calls Tryz.prog 30 #[.int .i64 x, .int .i64 y] w fun e w' => e = .returned (.bool (bits .and .i64 x y != 0)) ∧ w' = w := by
  go_enter Tryz.func30, Tryz.ntmps30
  go_wp2
  go_ret
  exact ⟨rfl, rfl⟩
def rrB (f c : Int) : Bool := !(((bits .and .i64 f 128 != 0) != (bits .and .i64 c 128 != 0)) || ((bits .and .i64 f 64 != 0) != (bits .and .i64 c 64 != 0))) && ((c == 192) || !(bits .and .i64 f 32 != 0))
theorem rbits_at (x y : Int) (b : Bool) (h : (bits .and .i64 x y != 0) = b) (w : World) : Calls Tryz.prog 30 #[.int .i64 x, .int .i64 y] w fun e w' => e = .returned (.bool b) ∧ w' = w := by
  subst h; exact rbits_any x y w
set_option maxRecDepth 100000 in
set_option maxHeartbeats 4000000 in
theorem rright_any (f k c : Int) (w : World) (h0 : 0 ≤ k) (h1 : k < 256) (h : clsF k = some c) : Calls Tryz.prog 11 #[.int .i64 f, .int .i64 k] w fun e w' => e = .returned (.bool (rrB f c)) ∧ w' = w := by
  have hc : c = 64 ∨ c = 128 ∨ c = 192 := by
    rcases cls_cases h0 h1 h with ⟨_, rfl⟩ | ⟨_, rfl⟩ | ⟨_, rfl⟩ | ⟨_, rfl⟩ | ⟨_, rfl⟩ | ⟨_, rfl⟩ | ⟨_, rfl⟩ | ⟨_, rfl⟩ | ⟨_, rfl⟩ | ⟨_, rfl⟩ | ⟨_, rfl⟩ | ⟨_, rfl⟩ | ⟨_, rfl⟩ | ⟨_, rfl⟩ | ⟨_, rfl⟩ | ⟨_, rfl⟩ <;> omega
  have HC := hide (fun W => rclass_yes k c W h0 h1 h)
  clear h h0 h1
  obtain ⟨rr, hrr⟩ : ∃ rr, rr = rrB f c := ⟨_, rfl⟩
  rw [← hrr]
  unfold rrB at hrr
  cases hp : (bits .and .i64 f 128 != 0) <;> cases hq : (bits .and .i64 f 64 != 0) <;> cases hv : (bits .and .i64 f 32 != 0) <;> rcases hc with rfl | rfl | rfl
  all_goals
    rw [hp, hq, hv] at hrr
    have HRES := Lib.hid hrr
    have HP := hide (fun w => rbits_at f 128 _ hp w)
    have HQ := hide (fun w => rbits_at f 64 _ hq w)
    have HV := hide (fun w => rbits_at f 32 _ hv w)
    clear hrr hp hq hv
    go_enter Tryz.func11, Tryz.ntmps11
    go_wp2_with (first
      | (go_at_call 10; refine (HC.out _).mono ?_; rintro e w1 ⟨rfl, rfl⟩)
      | (go_at_call 30; (first | with_reducible refine (HP.out _).mono ?_ | with_reducible refine (HQ.out _).mono ?_ | with_reducible refine (HV.out _).mono ?_ | with_reducible refine (rbits_at 64 128 false (by decide) _).mono ?_ | with_reducible refine (rbits_at 64 64 true (by decide) _).mono ?_ | with_reducible refine (rbits_at 128 128 true (by decide) _).mono ?_ | with_reducible refine (rbits_at 128 64 false (by decide) _).mono ?_ | with_reducible refine (rbits_at 192 128 true (by decide) _).mono ?_ | with_reducible refine (rbits_at 192 64 true (by decide) _).mono ?_); rintro e w1 ⟨rfl, rfl⟩))
    go_ret
    refine ⟨?_, rfl⟩
    rw [HRES.out]
    rfl
set_option maxRecDepth 100000 in
theorem right_fin : ∀ n : Fin 256, (rrB ((n.val : Nat) : Int) 64 = false → rightB ((n.val : Nat) : Int) 64 = false) ∧ (rrB ((n.val : Nat) : Int) 128 = false → rightB ((n.val : Nat) : Int) 128 = false) ∧ (rrB ((n.val : Nat) : Int) 192 = false → rightB ((n.val : Nat) : Int) 192 = false) := by decide +kernel
theorem right_law {f k c : Int} (h0 : 0 ≤ k) (h1 : k < 256) (h : clsF k = some c) (f0 : 0 ≤ f) (f1 : f < 256) (hr : rrB f c = false) : rightB f c = false := by
  obtain ⟨n, rfl⟩ := Int.eq_ofNat_of_zero_le f0
  have hf := right_fin ⟨n, by omega⟩
  simp only at hf
  rcases cls_cases h0 h1 h with ⟨_, rfl⟩ | ⟨_, rfl⟩ | ⟨_, rfl⟩ | ⟨_, rfl⟩ | ⟨_, rfl⟩ | ⟨_, rfl⟩ | ⟨_, rfl⟩ | ⟨_, rfl⟩ | ⟨_, rfl⟩ | ⟨_, rfl⟩ | ⟨_, rfl⟩ | ⟨_, rfl⟩ | ⟨_, rfl⟩ | ⟨_, rfl⟩ | ⟨_, rfl⟩ | ⟨_, rfl⟩
  all_goals first | exact hf.1 hr | exact hf.2.1 hr | exact hf.2.2 hr
end Go.Proofs.YtplgbpcjbjaloaaGreatDoor
