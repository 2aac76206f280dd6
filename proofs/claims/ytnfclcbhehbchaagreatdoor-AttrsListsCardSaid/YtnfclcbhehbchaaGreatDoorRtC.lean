/- Clones of routes; the copies that package value makes; lists of numbers, bytes and whether an attribute is small, for the reference. -/
import Derived.Test.YtnfclcbhehbchaaGreatDoorRtB
import Derived.Test.YtnfclcbhehbchaaGreatDoorSegC
import Derived.Lib.BufferRead
set_option autoImplicit false
namespace Go.Proofs.YtnfclcbhehbchaaGreatDoor
open Go.RowKit

theorem rt_info : (Tryz.prog.info? 55).map (fun i => (i.zero, i.size, i.bytes)) = some (some (.agg #[.int .u32 0, .int .i64 0, .int .i64 0, .int .u8 0, .int .u8 0, .int .u8 0, .int .u8 0, .int .u8 0, .int .u8 0, .int .u8 0, .int .u8 0, .int .u8 0, .int .u8 0, .int .u8 0, .int .u8 0, .int .u8 0, .int .u8 0, .int .u8 0, .int .u8 0]), 19, 40) := by kernel_rfl
set_option maxHeartbeats 400000 in
/-- slices.Clone of routes: a row of the call's own. -/
theorem cloneR_any (A : Option Addr) (c n : Nat) (vs : List Value) (w : World) (h : Reads w w.heap.size 19 A n vs) (h1 : ∀ u ∈ vs, u.oneCell' = true) (hn : n ≤ 1000000) :
    Calls Tryz.prog 38 #[.slice A n c] w fun e w' => ∃ A' c', e = .returned (.slice A' n c') ∧ n ≤ c' ∧ c' ≤ maxLen ∧
      w'.ownsRow w.heap.size 55 19 (.slice A' n c') n vs ∧ Below w.heap.size w w' := by
  obtain ⟨i0, hi0, hz0, hz1, hz2⟩ := info_parts rt_info
  have qT : ∀ (w : World) (a : Option Addr) (n c n' c' : Nat), (binOp .eql 36 (.slice a n c) (.slice none n' c')).run Tryz.prog w = .ok (.bool a.isNone) w := fun w a n c n' c' => Lib.run_eql_slice_nil w _ _ a n c n' c' Tryz.underlying36
  rcases A with _ | ad
  · have h0 : n = 0 := by
      rcases Nat.eq_zero_or_pos n with e | e
      · exact e
      · obtain ⟨ad, e', _⟩ := h.2 e
        cases e'
    subst h0
    have h00 : vs = [] := List.eq_nil_of_length_eq_zero (by simpa using h.1)
    subst h00
    go_enter Tryz.func38, Tryz.ntmps38
    go_wp2
    go_ret
    exact ⟨none, 0, rfl, Nat.le_refl _, by simp [maxLen], World.ownsRow_nil _ _ _ _, Below.refl _ _⟩
  · go_enter Tryz.func38, Tryz.ntmps38
    go_wp2_with (first
      | (at_builtin
         refine wpList_append_any _ rfl (.tmp 5) (.tmp 6) _ rfl w.heap.size 55 i0 _ 19 40 Tryz.underlying36 hi0 hz0 hz1 hz2 rfl (by omega) _ 0 [] rfl
           (World.ownsRow_lit w #[] 0 (Nat.le_refl _) (by simp [maxLen]) (by simp)) w.heap.size (some ad) n c vs rfl ((h.alloc (Nat.le_refl _) _)) h1 (by simp only [maxLen]; omega) (by omega) (by simp) ?_
         intro v1 w1 hown1 hg1 hat1))
    go_ret
    have hb1 : Below w.heap.size w w1 := ((Below.refl _ _).alloc (Nat.le_refl _) _).grown hg1 (by simp) (fun k hk => by have e : w.heap.size = k := Option.some.inj hk; omega)
    simp only [Nat.zero_add, List.nil_append] at hown1
    obtain ⟨A', c', rfl, h1, h2⟩ := slice_of_own hown1
    exact ⟨A', c', rfl, h1, h2, hown1, hb1⟩

set_option maxRecDepth 100000 in
theorem copiedR_any (A : Option Addr) (c n : Nat) (vs : List Value) (w : World) (h : Reads w w.heap.size 19 A n vs) (h1 : ∀ u ∈ vs, u.oneCell' = true) (hn : n ≤ 1000000) :
    Calls Tryz.prog 50 #[.slice A n c] w fun e w' => ∃ A' c', e = .returned (.slice A' n c') ∧ n ≤ c' ∧ c' ≤ maxLen ∧ w'.ownsRow w.heap.size 55 19 (.slice A' n c') n vs ∧ Below w.heap.size w w' := by
  have HC := hide (cloneR_any A c n vs w h h1 hn)
  clear h h1
  go_enter Tryz.func50, Tryz.ntmps50
  go_wp2_with (go_at_call 38; refine HC.out.mono ?_; rintro e w1 ⟨A', c', rfl, q1, q2, q3, q4⟩; have Q := Lib.hid (And.intro q1 (And.intro q2 (And.intro q3 q4))); clear q1 q2 q3 q4)
  go_ret
  exact ⟨A', c', rfl, Q.out⟩
set_option maxRecDepth 100000 in
theorem copiedS_any (A : Option Addr) (c n : Nat) (vs : List Value) (w : World) (h : Reads w w.heap.size 2 A n vs) (h1 : ∀ u ∈ vs, u.oneCell' = true) (hn : n ≤ 1000000) :
    Calls Tryz.prog 47 #[.slice A n c] w fun e w' => ∃ A' c', e = .returned (.slice A' n c') ∧ n ≤ c' ∧ c' ≤ maxLen ∧ w'.ownsRow w.heap.size 83 2 (.slice A' n c') n vs ∧ Below w.heap.size w w' := by
  have HC := hide (cloneS_any A c n vs w h h1 hn)
  clear h h1
  go_enter Tryz.func47, Tryz.ntmps47
  go_wp2_with (go_at_call 67; refine HC.out.mono ?_; rintro e w1 ⟨A', c', rfl, q1, q2, q3, q4⟩; have Q := Lib.hid (And.intro q1 (And.intro q2 (And.intro q3 q4))); clear q1 q2 q3 q4)
  go_ret
  exact ⟨A', c', rfl, Q.out⟩
set_option maxRecDepth 100000 in
theorem copiedU_any (A : Option Addr) (c : Nat) (l : List Int) (w : World) (h : Reads w w.heap.size 1 A l.length (uV l)) (hn : l.length ≤ 1000000) :
    Calls Tryz.prog 48 #[.slice A l.length c] w fun e w' => ∃ A' c', e = .returned (.slice A' l.length c') ∧ l.length ≤ c' ∧ c' ≤ maxLen ∧ w'.ownsRow w.heap.size 32 1 (.slice A' l.length c') l.length (uV l) ∧ Below w.heap.size w w' := by
  have HC := hide (cloneU_any A c l w h hn)
  clear h
  go_enter Tryz.func48, Tryz.ntmps48
  go_wp2_with (go_at_call 68; refine HC.out.mono ?_; rintro e w1 ⟨A', c', rfl, q1, q2, q3, q4⟩; have Q := Lib.hid (And.intro q1 (And.intro q2 (And.intro q3 q4))); clear q1 q2 q3 q4)
  go_ret
  exact ⟨A', c', rfl, Q.out⟩
set_option maxHeartbeats 400000 in
/-- slices.Clone of bytes: a row of the call's own. -/
theorem cloneB_own (A : Option Addr) (c : Nat) (l : List Int) (w : World) (h : Byts w w.heap.size A l) (hn : l.length ≤ 1000000) :
    Calls Tryz.prog 69 #[.slice A l.length c] w fun e w' => ∃ A' c', e = .returned (.slice A' l.length c') ∧ l.length ≤ c' ∧ c' ≤ maxLen ∧
      w'.ownsRow w.heap.size 5 1 (.slice A' l.length c') l.length (bV l) ∧ Below w.heap.size w w' := by
  obtain ⟨i0, hi0, hz0, hz1, hz2⟩ := info_parts u8_info
  have qT : ∀ (w : World) (a : Option Addr) (n c n' c' : Nat), (binOp .eql 35 (.slice a n c) (.slice none n' c')).run Tryz.prog w = .ok (.bool a.isNone) w := fun w a n c n' c' => Lib.run_eql_slice_nil w _ _ a n c n' c' Tryz.underlying35
  rcases A with _ | ad
  · have h0 : l = [] := by
      rcases List.eq_nil_or_concat l with e | ⟨l', x, e⟩
      · exact e
      · obtain ⟨ad, e', _⟩ := h.2 (by rw [e]; simp)
        cases e'
    subst h0
    go_enter Tryz.func69, Tryz.ntmps69
    go_wp2
    go_ret
    exact ⟨none, 0, rfl, Nat.le_refl _, by simp [maxLen], World.ownsRow_nil _ _ _ _, Below.refl _ _⟩
  · go_enter Tryz.func69, Tryz.ntmps69
    go_wp2_with (first
      | (at_builtin
         refine wpList_append_any _ rfl (.tmp 5) (.tmp 6) _ rfl w.heap.size 5 i0 _ 1 1 Tryz.underlying35 hi0 hz0 hz1 hz2 rfl (by omega) _ 0 [] rfl
           (World.ownsRow_lit w #[] 0 (Nat.le_refl _) (by simp [maxLen]) (by simp)) w.heap.size (some ad) l.length c (bV l) rfl ((h.alloc (Nat.le_refl _) _)) (bV_one l) (by simp only [maxLen]; omega) (by omega) (by simp) ?_
         intro v1 w1 hown1 hg1 hat1))
    go_ret
    have hb1 : Below w.heap.size w w1 := ((Below.refl _ _).alloc (Nat.le_refl _) _).grown hg1 (by simp) (fun k hk => by have e : w.heap.size = k := Option.some.inj hk; omega)
    simp only [Nat.zero_add, List.nil_append] at hown1
    obtain ⟨A', c', rfl, h1, h2⟩ := slice_of_own hown1
    exact ⟨A', c', rfl, h1, h2, hown1, hb1⟩
set_option maxRecDepth 100000 in
theorem copiedB_any (A : Option Addr) (c : Nat) (l : List Int) (w : World) (h : Byts w w.heap.size A l) (hn : l.length ≤ 1000000) :
    Calls Tryz.prog 49 #[.slice A l.length c] w fun e w' => ∃ A' c', e = .returned (.slice A' l.length c') ∧ l.length ≤ c' ∧ c' ≤ maxLen ∧ w'.ownsRow w.heap.size 5 1 (.slice A' l.length c') l.length (bV l) ∧ Below w.heap.size w w' := by
  have HC := hide (cloneB_own A c l w h hn)
  clear h
  go_enter Tryz.func49, Tryz.ntmps49
  go_wp2_with (go_at_call 69; refine HC.out.mono ?_; rintro e w1 ⟨A', c', rfl, q1, q2, q3, q4⟩; have Q := Lib.hid (And.intro q1 (And.intro q2 (And.intro q3 q4))); clear q1 q2 q3 q4)
  go_ret
  exact ⟨A', c', rfl, Q.out⟩
end Go.Proofs.YtnfclcbhehbchaaGreatDoor
