/- Lists of whole numbers: slices.Index and slices.Contains, and whether a number is in a list of the reference's. -/
import Derived.Test.YtnfclcbhehbchaaGreatDoorRtG
set_option autoImplicit false
namespace Go.Proofs.YtnfclcbhehbchaaGreatDoor
open Go.RowKit

def iV (l : List Int) : List Value := l.map (Value.int .i64)
theorem iV_len (l : List Int) : (iV l).length = l.length := by simp [iV]
theorem iV_one (l : List Int) : ∀ u ∈ iV l, u.oneCell' = true := by
  intro u hu; simp only [iV, List.mem_map] at hu; obtain ⟨x, _, rfl⟩ := hu; rfl
theorem iV_get {l : List Int} {i : Nat} {u : Value} (h : (iV l)[i]? = some u) : ∃ x, l[i]? = some x ∧ u = .int .i64 x := by
  simp only [iV, List.getElem?_map] at h
  cases hx : l[i]? with
  | none => rw [hx] at h; cases h
  | some x => rw [hx] at h; injection h with h; exact ⟨x, rfl, h.symm⟩
theorem not_mem_succ {l : List Int} {n : Nat} {x k : Int} (h : k ∉ l.take n) (hx : l[n]? = some x) (hne : x ≠ k) : k ∉ l.take (n + 1) := by
  rw [List.take_add_one, hx]
  simp only [Option.toList_some, List.mem_append, List.mem_singleton, not_or]
  exact ⟨h, fun e => hne e.symm⟩
theorem mem_of_get {l : List Int} {n : Nat} {x k : Int} (hx : l[n]? = some x) (e : x = k) : k ∈ l := e ▸ List.mem_of_getElem? hx
set_option maxRecDepth 100000 in
set_option maxHeartbeats 4000000 in
theorem indexI_any (A : Option Addr) (c : Nat) (l : List Int) (k : Int) (w : World) (h : Reads w w.heap.size 1 A l.length (iV l)) (hl : l.length ≤ 140737488351232) :
    Calls Tryz.prog 46 #[.slice A l.length c, .int .i64 k] w fun e w' => ∃ j : Int, e = .returned (.int .i64 j) ∧ (k ∈ l ∧ 0 ≤ j ∨ k ∉ l ∧ j = -1) ∧ Below w.heap.size w w' := by
  go_enter Tryz.func46, Tryz.ntmps46
  go_wp2_with fail
  go_loop [8] (fun i => ∃ n : Nat, n ≤ l.length ∧ i = .int .i64 n ∧ Hid (k ∉ l.take n)) (fun i => l.length - (intOf i).toNat)
  case atStart => exact ⟨0, Nat.zero_le _, rfl, by show _ ∉ _; simp⟩
  case round =>
    obtain ⟨n, hn, rfl, hpre⟩ := hrel
    have hi0 : (0 : Int) ≤ (n : Int) := Int.natCast_nonneg _
    by_cases hlt : n < l.length
    · obtain ⟨ap, u, rfl, hap, hx, hc⟩ := h.at_ hlt
      obtain ⟨x, hx1, rfl⟩ := iV_get hx
      have hi1 : (n : Int) < (l.length : Int) := by omega
      have HX := Lib.hid hx1
      clear hx hx1 h
      by_cases exy : x = k
      · have b3 : (k == x) = true := by simp [exy]
        have EXY := Lib.hid exy
        clear exy
        go_wp2
        go_ret
        exact ⟨(n : Int), rfl, .inl ⟨mem_of_get HX.out EXY.out, hi0⟩, Below.refl _ _⟩
      · have b3 : (k == x) = false := by simp; exact fun e => exy e.symm
        have EXY := Lib.hid exy
        clear exy
        go_wp2
        go_round
        case rel => exact ⟨n + 1, by omega, by go_num, not_mem_succ hpre.out HX.out EXY.out⟩
        case measure => simp [intOf]; omega
    · have hk1 : ¬ (n : Int) < (l.length : Int) := by omega
      have hm : k ∉ l := by have := hpre.out; rwa [List.take_of_length_le (by omega)] at this
      have HM := Lib.hid hm
      clear hm h
      go_wp2
      go_ret
      exact ⟨-1, rfl, .inr ⟨HM.out, rfl⟩, Below.refl _ _⟩
set_option maxRecDepth 100000 in
theorem containsI_any (A : Option Addr) (c : Nat) (l : List Int) (k : Int) (w : World) (h : Reads w w.heap.size 1 A l.length (iV l)) (hl : l.length ≤ 140737488351232) :
    Calls Tryz.prog 25 #[.slice A l.length c, .int .i64 k] w fun e w' => e = .returned (.bool (decide (k ∈ l))) ∧ Below w.heap.size w w' := by
  have hx := indexI_any A c l k w h hl
  have HX := hide hx
  clear hx h
  go_enter Tryz.func25, Tryz.ntmps25
  go_wp2_with fail
  refine HX.out.mono ?_
  rintro e w1 ⟨j, rfl, hj, hb⟩
  have HB := hide hb
  clear hb
  rcases hj with ⟨hm, hj⟩ | ⟨hm, rfl⟩
  · have HM := Lib.hid hm
    clear hm
    go_wp2
    go_ret
    exact ⟨ret_bool (decide_eq_true HM.out).symm, HB.out⟩
  · have HM := Lib.hid hm
    clear hm
    go_wp2
    go_ret
    exact ⟨ret_bool (decide_eq_false HM.out).symm, HB.out⟩
set_option maxRecDepth 100000 in
set_option maxHeartbeats 4000000 in
theorem inI_any (A : Option Addr) (c : Nat) (l : List Int) (k : Int) (w : World) (h : Reads w w.heap.size 1 A l.length (iV l)) (hl : l.length ≤ 140737488351232) :
    Calls Tryz.prog 27 #[.slice A l.length c, .int .i64 k] w fun e w' => e = .returned (.bool (decide (k ∈ l))) ∧ Below w.heap.size w w' := by
  go_enter Tryz.func27, Tryz.ntmps27
  go_wp2_with fail
  go_loop [5] (fun i => ∃ n : Nat, n ≤ l.length ∧ i = .int .i64 n ∧ Hid (k ∉ l.take n)) (fun i => l.length - (intOf i).toNat)
  case atStart => exact ⟨0, Nat.zero_le _, rfl, by show _ ∉ _; simp⟩
  case round =>
    obtain ⟨n, hn, rfl, hpre⟩ := hrel
    have hi0 : (0 : Int) ≤ (n : Int) := Int.natCast_nonneg _
    by_cases hlt : n < l.length
    · obtain ⟨ap, u, rfl, hap, hx, hc⟩ := h.at_ hlt
      obtain ⟨x, hx1, rfl⟩ := iV_get hx
      have hi1 : (n : Int) < (l.length : Int) := by omega
      have HX := Lib.hid hx1
      clear hx hx1 h
      by_cases exy : x = k
      · have b3 : (x == k) = true := by simp [exy]
        have EXY := Lib.hid exy
        clear exy
        go_wp2
        go_ret
        exact ⟨ret_bool (decide_eq_true (mem_of_get HX.out EXY.out)).symm, Below.refl _ _⟩
      · have b3 : (x == k) = false := by simpa using exy
        have EXY := Lib.hid exy
        clear exy
        go_wp2
        go_round
        case rel => exact ⟨n + 1, by omega, by go_num, not_mem_succ hpre.out HX.out EXY.out⟩
        case measure => simp [intOf]; omega
    · have hk1 : ¬ (n : Int) < (l.length : Int) := by omega
      have hm : k ∉ l := by have := hpre.out; rwa [List.take_of_length_le (by omega)] at this
      have HM := Lib.hid hm
      clear hm h
      go_wp2
      go_ret
      exact ⟨ret_bool (decide_eq_false HM.out).symm, Below.refl _ _⟩
end Go.Proofs.YtnfclcbhehbchaaGreatDoor
