/- peerageref06.Same: two paths are the same exactly if their lists are; no condition but sizes. -/
import Derived.Test.YtnfclcbhehbchaaGreatDoorSeg
set_option autoImplicit false
namespace Go.Proofs.YtnfclcbhehbchaaGreatDoor
open Go.RowKit

theorem Below.drewN_ {B : Nat} {a w : World} (h : Below B a w) (n : Nat) : Below B a (w.drewN n) := ⟨h.os, h.tape, h.output, h.size, h.block⟩

theorem take_succ_eq {α : Type} (a b : List α) (k : Nat) (ha : k < a.length) (hb : k < b.length) (h : a.take k = b.take k) (he : a[k] = b[k]) : a.take (k + 1) = b.take (k + 1) := by
  rw [List.take_succ_eq_append_getElem ha, List.take_succ_eq_append_getElem hb, h, he]
theorem ne_of_get {α : Type} (a b : List α) (k : Nat) (ha : k < a.length) (hb : k < b.length) (h : a[k] ≠ b[k]) : a ≠ b := by
  intro e; subst e; exact h rfl

set_option maxRecDepth 100000 in
set_option maxHeartbeats 8000000 in
theorem same_any (A A2 : Option Addr) (c c2 : Nat) (a b : List Sg) (w : World) (h : Path w w.heap.size A a) (h2 : Path w w.heap.size A2 b) (ha : a.length ≤ 140737488351232)
    (hm : ∀ s ∈ a, s.2.length ≤ 140737488351232) (hm2 : ∀ s ∈ b, s.2.length ≤ 140737488351232) :
    Calls Tryz.prog 33 #[.slice A a.length c, .slice A2 b.length c2] w fun e w' => e = .returned (.bool (decide (a = b))) ∧ Below w.heap.size w w' := by
  by_cases hlen : a.length = b.length
  · have hne : ((a.length : Int) != (b.length : Int)) = false := by simp [hlen]
    have HL := Lib.hid hlen
    clear hlen
    go_enter Tryz.func33, Tryz.ntmps33
    go_wp2_with fail
    go_loopw [5] (fun i wr => ∃ k : Nat, k ≤ a.length ∧ i = .int .i64 k ∧ Hid (a.take k = b.take k) ∧ Below w.heap.size w wr) (fun i _ => a.length - (intOf i).toNat)
    case atStart => exact ⟨0, Nat.zero_le _, rfl, by show _ = _; rfl, Below.refl _ _⟩
    case round =>
      obtain ⟨k, hk, rfl, hpre, hbel⟩ := hrel
      obtain ⟨wo, rfl⟩ : ∃ wo : World, wo = wr := ⟨_, rfl⟩
      by_cases hlt : k < a.length
      · have hlt2 : k < b.length := by have := HL.out; omega
        obtain ⟨ad, A', c', rfl, had, hc0, hc1, hbk, g2, g3, g4⟩ := (h.below hbel).at_ hlt
        obtain ⟨ad2, A2', c2', rfl, had2, hd0, hd1, hbk2, f2, f3, f4⟩ := (h2.below hbel).at_ hlt2
        have hma := hm a[k] (List.getElem_mem hlt)
        have hmb := hm2 b[k] (List.getElem_mem hlt2)
        have hpair : a[k].1 = b[k].1 → a[k].2 = b[k].2 → a[k] = b[k] := fun x y => Prod.ext x y
        have hk1 : a[k].1 ≠ b[k].1 → a[k] ≠ b[k] := fun x y => x (by rw [y])
        have hk2 : a[k].2 ≠ b[k].2 → a[k] ≠ b[k] := fun x y => x (by rw [y])
        have HP := Lib.hid hpair
        have HK1 := Lib.hid hk1
        have HK2 := Lib.hid hk2
        have hi0 : (0 : Int) ≤ (k : Int) := Int.natCast_nonneg _
        have hi1 : (k : Int) < (a.length : Int) := by omega
        have hi2 : (k : Int) < (b.length : Int) := by omega
        clear hm hm2 h h2 hpair hk1 hk2
        by_cases ke : a[k].1 = b[k].1
        · by_cases le : a[k].2.length = b[k].2.length
          · have b1 : (a[k].1 != b[k].1) = false := by simp [ke]
            have b2 : ((a[k].2.length : Int) != (b[k].2.length : Int)) = false := by simp [le]
            have KE := Lib.hid ke
            have LE := Lib.hid le
            clear ke le
            go_wp2_with fail
            go_quiet (fail)
            go_wp2_with fail
            go_loopw [6] (fun i wr => ∃ j : Nat, j ≤ a[k].2.length ∧ i = .int .i64 j ∧ Hid (a[k].2.take j = b[k].2.take j) ∧ Below wo.heap.size wo wr) (fun i _ => a[k].2.length - (intOf i).toNat)
            case atStart => exact ⟨0, Nat.zero_le _, rfl, by show _ = _; rfl, below_drewN (Below.refl _ _) _⟩
            case round =>
              obtain ⟨j, hj, rfl, hpre2, hbel2⟩ := hrel
              have hsz := hbel.size
              have hc1' := (hbel2.cell (p := ⟨(ad.add (k * 2)).block, (ad.add (k * 2)).off + 1, none⟩) (by show (ad.add (k * 2)).block < _; omega)).trans hc1
              have hd1' := (hbel2.cell (p := ⟨(ad2.add (k * 2)).block, (ad2.add (k * 2)).off + 1, none⟩) (by show (ad2.add (k * 2)).block < _; omega)).trans hd1
              clear hc0 hc1 hd0 hd1
              by_cases jlt : j < a[k].2.length
              · have jlt2 : j < b[k].2.length := by have := LE.out; omega
                obtain ⟨ap, u, rfl, hap, hx, hc⟩ := ((g4.more hsz).below hbel2).at_ jlt
                obtain ⟨x, hx1, rfl⟩ := uV_get hx
                obtain ⟨bp, v, rfl, hbp, hy, hd⟩ := ((f4.more hsz).below hbel2).at_ jlt2
                obtain ⟨y, hy1, rfl⟩ := uV_get hy
                have hx2 : a[k].2[j] = x := by rw [List.getElem?_eq_getElem jlt] at hx1; injection hx1
                have hy2 : b[k].2[j] = y := by rw [List.getElem?_eq_getElem jlt2] at hy1; injection hy1
                have HX := Lib.hid hx2
                have HY := Lib.hid hy2
                have hj0 : (0 : Int) ≤ (j : Int) := Int.natCast_nonneg _
                have hj1 : (j : Int) < (a[k].2.length : Int) := by omega
                have hj2 : (j : Int) < (b[k].2.length : Int) := by omega
                clear hx hx1 hx2 hy hy1 hy2 g4 f4
                by_cases exy : x = y
                · have b3 : (x != y) = false := by simp [exy]
                  have EXY := Lib.hid exy
                  clear exy
                  go_wp2_with fail
                  go_quiet (fail)
                  go_wp2
                  go_roundw
                  case rel => exact ⟨j + 1, by omega, by go_num, take_succ_eq _ _ j jlt jlt2 hpre2.out (by rw [HX.out, HY.out, EXY.out]), below_drewN hbel2 _⟩
                  case measure => simp [intOf]; omega
                · have b3 : (x != y) = true := by simpa using exy
                  have EXY := Lib.hid exy
                  clear exy
                  go_wp2_with fail
                  go_quiet (fail)
                  go_wp2
                  go_ret
                  refine ⟨ret_bool (decide_eq_false ?_).symm, hbel.trans ((below_drewN hbel2 _).mono hsz)⟩
                  exact ne_of_get _ _ k hlt hlt2 (HK2.out (ne_of_get _ _ j jlt jlt2 (by rw [HX.out, HY.out]; exact EXY.out)))
              · go_wp2
                go_roundw
                case rel =>
                  refine ⟨k + 1, by omega, by go_num, take_succ_eq _ _ k hlt hlt2 hpre.out (HP.out KE.out ?_), hbel.trans (hbel2.mono hsz)⟩
                  have e1 := hpre2.out
                  rw [List.take_of_length_le (by omega), List.take_of_length_le (by have := LE.out; omega)] at e1
                  exact e1
                case measure => simp [intOf]; omega
          · have b1 : (a[k].1 != b[k].1) = false := by simp [ke]
            have b2 : ((a[k].2.length : Int) != (b[k].2.length : Int)) = true := by simp; omega
            have LE := Lib.hid le
            clear ke le
            go_wp2_with fail
            go_quiet (fail)
            go_wp2
            go_ret
            refine ⟨ret_bool (decide_eq_false ?_).symm, below_drewN hbel _⟩
            exact ne_of_get _ _ k hlt hlt2 (HK2.out (fun e => LE.out (by rw [e])))
        · have b1 : (a[k].1 != b[k].1) = true := by simpa using ke
          have KE := Lib.hid ke
          clear ke
          go_wp2_with fail
          go_quiet (fail)
          go_wp2
          go_ret
          refine ⟨ret_bool (decide_eq_false ?_).symm, below_drewN hbel _⟩
          exact ne_of_get _ _ k hlt hlt2 (HK1.out KE.out)
      · go_wp2
        go_ret
        refine ⟨ret_bool (decide_eq_true ?_).symm, hbel⟩
        have e1 := hpre.out
        rw [List.take_of_length_le (by omega), List.take_of_length_le (by have := HL.out; omega)] at e1
        exact e1
  · have hne : ((a.length : Int) != (b.length : Int)) = true := by simp; omega
    have HL := Lib.hid hlen
    clear hlen
    go_enter Tryz.func33, Tryz.ntmps33
    go_wp2
    go_ret
    exact ⟨ret_bool (decide_eq_false (fun e => HL.out (by rw [e]))).symm, Below.refl _ _⟩
end Go.Proofs.YtnfclcbhehbchaaGreatDoor
