/- The reference's value and number. -/
import Derived.Test.YtgegloplhlkafaaDoorPfxZB
set_option autoImplicit false
namespace Go.Proofs.YtgegloplhlkafaaDoor
open Go.RowKit Go.Sort Go.Shelf

theorem value_any (c : UInt8) (w : World) : Calls Tryd.prog 68 #[.int .u8 c.toNat] w (RetI (valC c) w) := by
  have hc := c.toNat_lt
  have hv : valC c = if 48 ≤ c.toNat ∧ c.toNat ≤ 57 then c.toNat - 48 else if 97 ≤ c.toNat ∧ c.toNat ≤ 102 then c.toNat - 87 else 99 := rfl
  generalize valC c = v at *
  have h0 : (0 : Int) ≤ (c.toNat : Int) := Int.natCast_nonneg _
  have h1 : (c.toNat : Int) < 256 := by omega
  by_cases a1 : 48 ≤ c.toNat ∧ c.toNat ≤ 57
  · rw [if_pos a1] at hv
    have e : (v : Int) = (c.toNat : Int) - 48 := by omega
    have a2 : (48 : Int) ≤ (c.toNat : Int) := by omega
    have a3 : (c.toNat : Int) ≤ 57 := by omega
    rw [e]
    clear hv e hc a1
    generalize (c.toNat : Int) = x at *
    go_enter Tryd.func68, Tryd.ntmps68
    go_wp2
    go_ret
    exact ⟨rfl, rfl⟩
  · rw [if_neg a1] at hv
    have a4 : (c.toNat : Int) < 48 ∨ 57 < (c.toNat : Int) := by omega
    by_cases b1 : 97 ≤ c.toNat ∧ c.toNat ≤ 102
    · rw [if_pos b1] at hv
      have e : (v : Int) = (c.toNat : Int) - 97 + 10 := by omega
      have a2 : (97 : Int) ≤ (c.toNat : Int) := by omega
      have a3 : (c.toNat : Int) ≤ 102 := by omega
      rw [e]
      clear hv e hc a1 b1 a4
      generalize (c.toNat : Int) = x at *
      go_enter Tryd.func68, Tryd.ntmps68
      go_wp2
      go_ret
      exact ⟨rfl, rfl⟩
    · rw [if_neg b1] at hv
      subst hv
      have b4 : (c.toNat : Int) < 97 ∨ 102 < (c.toNat : Int) := by omega
      clear hc a1 b1
      generalize (c.toNat : Int) = x at *
      rcases a4 with a4 | a4
      · clear b4
        go_enter Tryd.func68, Tryd.ntmps68
        go_wp2
        go_ret
        exact ⟨rfl, rfl⟩
      · rcases b4 with b4 | b4
        · go_enter Tryd.func68, Tryd.ntmps68
          go_wp2
          go_ret
          exact ⟨rfl, rfl⟩
        · go_enter Tryd.func68, Tryd.ntmps68
          go_wp2
          go_ret
          exact ⟨rfl, rfl⟩
def numV : Option Nat → Int
  | some n => n
  | none => -1

set_option maxRecDepth 100000 in
set_option maxHeartbeats 8000000 in
theorem number_any (s : List UInt8) (b top : Nat) (w : World) (hb : 2 ≤ b) (hb2 : b ≤ 16) (ht : top ≤ 65535) (hl : s.length ≤ 100000) :
    Calls Tryd.prog 52 #[.string (strB s), .int .i64 b, .int .i64 top] w (RetI (numV (numR b top s)) w) := by
  have hsz := strB_size s
  have hb0 : (2 : Int) ≤ (b : Int) := by omega
  have hb1 : (b : Int) ≤ 16 := by omega
  have ht1 : (top : Int) ≤ 65535 := by omega
  have ht0 : (0 : Int) ≤ (top : Int) := Int.natCast_nonneg _
  have hat : ∀ (k : Nat) (h : k < (strB s).size), (strB s)[k]'h = s[k]'(by omega) := fun k h => rfl
  obtain ⟨S, hS⟩ : ∃ S, S = strB s := ⟨_, rfl⟩
  have hat2 : ∀ (k : Nat) (h : k < S.size) (h2 : k < s.length), S[k]'h = s[k]'h2 := by subst hS; intro k h h2; rfl
  clear hat
  rw [← hS] at hsz ⊢
  have HSB := Lib.hid hS
  clear hS
  go_enter Tryd.func52, Tryd.ntmps52
  go_wp2
  go_loopw [7, 8] (fun nv iv wr => ∃ (k n : Nat), nv = .int .i64 n ∧ iv = .int .i64 k ∧ k ≤ s.length ∧ n ≤ top ∧ Hid (numK b top true 0 s = numK b top (decide (k = 0)) n (s.drop k)) ∧ wr = w) (fun _ i _ => s.length - (intOf i).toNat)
  case atStart => exact ⟨0, 0, rfl, rfl, Nat.zero_le _, Nat.zero_le _, hide rfl, rfl⟩
  case round =>
    obtain ⟨k, n, rfl, rfl, hk, hn, HD, rfl⟩ := hrel
    by_cases hlt : k < s.length
    · have hks : k < S.size := by omega
      have hki : (k : Int) < (S.size : Int) := by omega
      have hak := hat2 k hks hlt
      have hk0 : (0 : Int) ≤ (k : Int) := Int.natCast_nonneg _
      have hs0 : s ≠ [] := fun h => by rw [h] at hlt; simp at hlt
      have hdrop : s.drop k = s[k] :: s.drop (k + 1) := List.drop_eq_getElem_cons hlt
      have hV := value_any s[k]
      have hd := HD.out
      rw [hdrop, numK] at hd
      generalize valC s[k] = d at *
      have HV := hide hV
      have hd0 : (0 : Int) ≤ (d : Int) := Int.natCast_nonneg _
      have hn0 : (0 : Int) ≤ (n : Int) := Int.natCast_nonneg _
      clear hdrop hV hat2
      by_cases hbd : b ≤ d
      · rw [if_pos hbd] at hd
        have hr : numR b top s = none := by unfold numR; rw [if_neg hs0]; exact hd
        have hbi : (b : Int) ≤ (d : Int) := by omega
        have HR := Lib.hid hr
        clear hd hr hbd HD
        go_wp2_with (go_at_call 68; refine (HV.out _).mono ?_; rintro e w1 ⟨rfl, rfl⟩)
        go_ret
        exact ⟨by rw [HR.out]; rfl, rfl⟩
      · rw [if_neg hbd] at hd
        have hbi : (d : Int) < (b : Int) := by omega
        have hPb : n * b ≤ 65535 * 16 := Nat.mul_le_mul (by omega) hb2
        obtain ⟨P, hP⟩ : ∃ P, P = n * b := ⟨_, rfl⟩
        rw [← hP] at hd hPb
        have hw1 : IntKind.i64.wrap ((n : Int) * (b : Int)) = (P : Int) := by
          rw [hP, Int.natCast_mul, IntKind.wrap_i64, ← Int.natCast_mul, ← hP]; omega
        have hw2 : IntKind.i64.wrap ((P : Int) + (d : Int)) = (P : Int) + (d : Int) := by rw [IntKind.wrap_i64]; omega
        have hp0 : (0 : Int) ≤ (P : Int) + (d : Int) := by omega
        have HP := Lib.hid hP
        clear hP hbd
        by_cases htop : top < P + d
        · rw [if_pos (.inl htop)] at hd
          have hr : numR b top s = none := by unfold numR; rw [if_neg hs0]; exact hd
          have hti : (top : Int) < (P : Int) + (d : Int) := by omega
          have HR := Lib.hid hr
          clear hd hr htop HD
          go_wp2_with (go_at_call 68; refine (HV.out _).mono ?_; rintro e w1 ⟨rfl, rfl⟩)
          go_ret
          exact ⟨by rw [HR.out]; rfl, rfl⟩
        · have hti : (P : Int) + (d : Int) ≤ (top : Int) := by omega
          by_cases hz : 0 < k
          · have hzi : (0 : Int) < (k : Int) := by omega
            by_cases hlo : P + d < b
            · rw [if_pos (.inr ⟨by simp; omega, hlo⟩)] at hd
              have hr : numR b top s = none := by unfold numR; rw [if_neg hs0]; exact hd
              have hli : (P : Int) + (d : Int) < (b : Int) := by omega
              have HR := Lib.hid hr
              clear hd hr htop HD hlo
              go_wp2_with (go_at_call 68; refine (HV.out _).mono ?_; rintro e w1 ⟨rfl, rfl⟩)
              go_ret
              exact ⟨by rw [HR.out]; rfl, rfl⟩
            · rw [if_neg (by omega)] at hd
              have hli : (b : Int) ≤ (P : Int) + (d : Int) := by omega
              have HR := hide hd
              clear hd htop HD hlo hz
              go_wp2_with (go_at_call 68; refine (HV.out _).mono ?_; rintro e w1 ⟨rfl, rfl⟩)
              go_roundw
              case rel => exact ⟨k + 1, P + d, by go_num, by go_num, by omega, by omega, hide (by rw [HR.out]; simp), trivial⟩
              case measure => simp [intOf]; omega
          · have hk00 : k = 0 := by omega
            subst hk00
            rw [if_neg (by simp; omega)] at hd
            have HR := hide hd
            clear hd htop HD hz hk0
            go_wp2_with (go_at_call 68; refine (HV.out _).mono ?_; rintro e w1 ⟨rfl, rfl⟩)
            go_roundw
            case rel => exact ⟨1, P + d, by go_num, by go_num, by omega, by omega, hide (by rw [HR.out]; simp), trivial⟩
            case measure => simp [intOf]; omega
    · have hkk : k = s.length := by omega
      subst hkk
      have hd := HD.out
      rw [List.drop_of_length_le (Nat.le_refl _), numK] at hd
      by_cases hs0 : s = []
      · have hem : S.toList.isEmpty = true := by rw [HSB.out, ByteArray.toList_eq, strB_list, hs0]; rfl
        have hr : numR b top s = none := by unfold numR; rw [if_pos hs0]
        have HR := Lib.hid hr
        clear hd hr HD hs0 hat2
        go_wp2
        go_ret
        exact ⟨by rw [HR.out]; rfl, rfl⟩
      · have hem : S.toList.isEmpty = false := by rw [HSB.out, ByteArray.toList_eq, strB_list]; simpa using hs0
        have hr : numR b top s = some n := by unfold numR; rw [if_neg hs0]; exact hd
        have HR := Lib.hid hr
        clear hd hr HD hs0 hat2
        go_wp2
        go_ret
        exact ⟨by rw [HR.out]; rfl, rfl⟩
end Go.Proofs.YtgegloplhlkafaaDoor
