/- slices.Equal at whole numbers: equal just where the lists are; no condition but sizes. -/
import Derived.Test.YtnfclcbhehbchaaGreatDoorLsA
set_option autoImplicit false
namespace Go.Proofs.YtnfclcbhehbchaaGreatDoor
open Go.RowKit

set_option maxRecDepth 100000 in
set_option maxHeartbeats 4000000 in
theorem equalI_any (A A2 : Option Addr) (c c2 : Nat) (a b : List Int) (w : World) (h : Reads w w.heap.size 1 A a.length (iV a)) (h2 : Reads w w.heap.size 1 A2 b.length (iV b)) (ha : a.length ≤ 140737488351232) :
    Calls Tryz.prog 10 #[.slice A a.length c, .slice A2 b.length c2] w fun e w' => e = .returned (.bool (decide (a = b))) ∧ Below w.heap.size w w' := by
  by_cases hlen : a.length = b.length
  · have hne : ((a.length : Int) != (b.length : Int)) = false := by simp [hlen]
    have HL := Lib.hid hlen
    clear hlen
    go_enter Tryz.func10, Tryz.ntmps10
    go_wp2_with fail
    go_loopw [13] (fun i wr => ∃ k : Nat, k ≤ a.length ∧ i = .int .i64 k ∧ Hid (a.take k = b.take k) ∧ Below w.heap.size w wr) (fun i _ => a.length - (intOf i).toNat)
    case atStart => exact ⟨0, Nat.zero_le _, rfl, by show _ = _; rfl, Below.refl _ _⟩
    case round =>
      obtain ⟨k, hk, rfl, hpre, hbel⟩ := hrel
      obtain ⟨wo, rfl⟩ : ∃ wo : World, wo = wr := ⟨_, rfl⟩
      by_cases hlt : k < a.length
      · have hlt2 : k < b.length := by have := HL.out; omega
        obtain ⟨ap, u, rfl, hap, hx, hc⟩ := (h.below hbel).at_ hlt
        obtain ⟨x, hx1, rfl⟩ := iV_get hx
        obtain ⟨bp, v, rfl, hbp, hy, hd⟩ := (h2.below hbel).at_ hlt2
        obtain ⟨y, hy1, rfl⟩ := iV_get hy
        have hx2 : a[k] = x := by rw [List.getElem?_eq_getElem hlt] at hx1; injection hx1
        have hy2 : b[k] = y := by rw [List.getElem?_eq_getElem hlt2] at hy1; injection hy1
        have HX := Lib.hid hx2
        have HY := Lib.hid hy2
        have HB := hide hbel
        have hi0 : (0 : Int) ≤ (k : Int) := Int.natCast_nonneg _
        have hi1 : (k : Int) < (a.length : Int) := by omega
        have hi2 : (k : Int) < (b.length : Int) := by omega
        clear hx hx1 hx2 hy hy1 hy2 h h2 hbel
        by_cases exy : x = y
        · have b3 : (x != y) = false := by simp [exy]
          have EXY := Lib.hid exy
          clear exy
          go_wp2_with fail
          go_quiet (fail)
          go_wp2
          go_roundw
          case rel => exact ⟨k + 1, by omega, by go_num, take_succ_eq _ _ k hlt hlt2 hpre.out (by rw [HX.out, HY.out, EXY.out]), below_drewN HB.out _⟩
          case measure => simp [intOf]; omega
        · have b3 : (x != y) = true := by simpa using exy
          have EXY := Lib.hid exy
          clear exy
          go_wp2_with fail
          go_quiet (fail)
          go_wp2
          go_ret
          refine ⟨ret_bool (decide_eq_false ?_).symm, below_drewN HB.out _⟩
          exact ne_of_get _ _ k hlt hlt2 (by rw [HX.out, HY.out]; exact EXY.out)
      · have HB := hide hbel
        clear hbel
        go_wp2
        go_ret
        refine ⟨ret_bool (decide_eq_true ?_).symm, HB.out⟩
        have e1 := hpre.out
        rw [List.take_of_length_le (by omega), List.take_of_length_le (by have := HL.out; omega)] at e1
        exact e1
  · have hne : ((a.length : Int) != (b.length : Int)) = true := by simp; omega
    have HL := Lib.hid hlen
    clear hlen
    go_enter Tryz.func10, Tryz.ntmps10
    go_wp2
    go_ret
    exact ⟨ret_bool (decide_eq_false (fun e => HL.out (by rw [e]))).symm, Below.refl _ _⟩
end Go.Proofs.YtnfclcbhehbchaaGreatDoor
