/- The reference's numerals: digits in base 10 and in base 16 (the second proof is the first, with 16 for 10). -/
import Derived.Test.YtgegloplhlkafaaDoorPfxXP
import Derived.RegionTactic
set_option autoImplicit false
namespace Go.Proofs.YtgegloplhlkafaaDoor
open Go.RowKit Go.Sort Go.Shelf

theorem strB_append (a b : List UInt8) : strB a ++ strB b = strB (a ++ b) := by
  apply ByteArray.ext
  simp [strB]
theorem hexS_at (d : Nat) (h : d < 16) : ByteArray.extract ⟨#[48, 49, 50, 51, 52, 53, 54, 55, 56, 57, 97, 98, 99, 100, 101, 102]⟩ d (d + 1) = strB [hx d] := by
  have key : ∀ d : Fin 16, (ByteArray.extract ⟨#[48, 49, 50, 51, 52, 53, 54, 55, 56, 57, 97, 98, 99, 100, 101, 102]⟩ d.1 (d.1 + 1)).data = #[hx d.1] := by decide
  exact ByteArray.ext (key ⟨d, h⟩)
def preD (b n : Nat) : List UInt8 := if n < b then [] else digL b (n / b)
theorem dig_pre (b n : Nat) (hb : 2 ≤ b) : digL b n = preD b n ++ [hx (n % b)] := by
  unfold preD
  by_cases h : n < b
  · rw [if_pos h, digL_one b n h, Nat.mod_eq_of_lt h]; rfl
  · rw [if_neg h, digL_more b n hb (by omega)]

set_option maxHeartbeats 4000000 in
theorem digits10_any (N : Nat) (hN : N < 4294967296) (w : World) :
    Calls Tryd.prog 57 #[.int .i64 N, .int .i64 10] w fun e w' => e = .returned (.string (strB (digL 10 N))) ∧ Below w.heap.size w w' := by
  have h0 : N % 10 < 10 := Nat.mod_lt _ (by omega)
  have hxx := hexS_at (N % 10) (by omega)
  have hdp := dig_pre 10 N (by omega)
  have HDP := Lib.hid hdp
  clear hdp
  go_enter Tryd.func57, Tryd.ntmps57
  go_wp2_with fail
  go_region
  rw [hxx]
  go_wp2_with fail
  go_loopw [0, 5] (fun n sv wi => ∃ (m : Nat) (tail : List UInt8), n = .int .i64 m ∧ m ≤ N ∧ sv = .string (strB (hx (m % 10) :: tail)) ∧ Hid (digL 10 N = preD 10 m ++ hx (m % 10) :: tail) ∧ tail.length + m ≤ N ∧ Below w.heap.size w wi) (fun n _ _ => (intOf n).toNat)
  case atStart => exact ⟨N, [], rfl, Nat.le_refl _, rfl, HDP, by simp, (Below.refl _ _).drew⟩
  case round =>
    obtain ⟨m, tail, rfl, hm, rfl, HD, htm, hb⟩ := hrel
    have HB := hide hb
    clear hb hxx
    by_cases h10 : 10 ≤ m
    · have hx2 := hexS_at (m / 10 % 10) (by omega)
      have hdp : preD 10 m = preD 10 (m / 10) ++ [hx (m / 10 % 10)] := by
        rw [← dig_pre 10 _ (by omega)]; unfold preD; rw [if_neg (by omega)]
      have HDP2 := Lib.hid hdp
      clear hdp
      have hsz : (strB (hx (m % 10) :: tail)).size = tail.length + 1 := by rw [strB_size]; rfl
      have hsz1 : (strB [hx (m / 10 % 10)]).size = 1 := by rw [strB_size]; rfl
      have hj3 : ¬ 9223372036854775807 < 1 + (tail.length + 1) := by omega
      have e1 : ((m : Int) / 10).tmod 10 = (m : Int) / 10 % 10 := Int.tmod_eq_emod_of_nonneg (by omega)
      have e2 : IntKind.i64.wrap ((m : Int) / 10 % 10 + 1) = (m : Int) / 10 % 10 + 1 := by rw [IntKind.wrap_i64]; omega
      have e3 : 0 ≤ (m : Int) / 10 % 10 + 1 := by omega
      have e4 : (m : Int) / 10 % 10 + 1 ≤ 16 := by omega
      have e5 : 0 ≤ (m : Int) / 10 % 10 := by omega
      have e6 : ((m : Int) / 10 % 10).toNat = m / 10 % 10 := by omega
      have e7 : ((m : Int) / 10 % 10 + 1).toNat = m / 10 % 10 + 1 := by omega
      have e8 : (m : Int) / 10 % 10 ≤ (m : Int) / 10 % 10 + 1 := by omega
      go_wp2_with fail
      go_region
      rw [strB_append]
      go_wp2_with fail
      go_roundw
      case rel => exact ⟨m / 10, hx (m % 10) :: tail, by simp, by omega, rfl, hide (by rw [HD.out, HDP2.out]; simp), by simp only [List.length_cons]; omega, HB.out.drew⟩
      case measure => simp [intOf]; omega
    · have hp : preD 10 m = [] := by unfold preD; rw [if_pos (by omega)]
      have HPR := Lib.hid hp
      clear hp
      go_wp2
      go_ret
      exact ⟨by rw [HD.out, HPR.out, List.nil_append]; rfl, HB.out⟩
set_option maxHeartbeats 4000000 in
theorem digits16_any (N : Nat) (hN : N < 4294967296) (w : World) :
    Calls Tryd.prog 57 #[.int .i64 N, .int .i64 16] w fun e w' => e = .returned (.string (strB (digL 16 N))) ∧ Below w.heap.size w w' := by
  have h0 : N % 16 < 16 := Nat.mod_lt _ (by omega)
  have hxx := hexS_at (N % 16) (by omega)
  have hdp := dig_pre 16 N (by omega)
  have HDP := Lib.hid hdp
  clear hdp
  go_enter Tryd.func57, Tryd.ntmps57
  go_wp2_with fail
  go_region
  rw [hxx]
  go_wp2_with fail
  go_loopw [0, 5] (fun n sv wi => ∃ (m : Nat) (tail : List UInt8), n = .int .i64 m ∧ m ≤ N ∧ sv = .string (strB (hx (m % 16) :: tail)) ∧ Hid (digL 16 N = preD 16 m ++ hx (m % 16) :: tail) ∧ tail.length + m ≤ N ∧ Below w.heap.size w wi) (fun n _ _ => (intOf n).toNat)
  case atStart => exact ⟨N, [], rfl, Nat.le_refl _, rfl, HDP, by simp, (Below.refl _ _).drew⟩
  case round =>
    obtain ⟨m, tail, rfl, hm, rfl, HD, htm, hb⟩ := hrel
    have HB := hide hb
    clear hb hxx
    by_cases h16 : 16 ≤ m
    · have hx2 := hexS_at (m / 16 % 16) (by omega)
      have hdp : preD 16 m = preD 16 (m / 16) ++ [hx (m / 16 % 16)] := by
        rw [← dig_pre 16 _ (by omega)]; unfold preD; rw [if_neg (by omega)]
      have HDP2 := Lib.hid hdp
      clear hdp
      have hsz : (strB (hx (m % 16) :: tail)).size = tail.length + 1 := by rw [strB_size]; rfl
      have hsz1 : (strB [hx (m / 16 % 16)]).size = 1 := by rw [strB_size]; rfl
      have hj3 : ¬ 9223372036854775807 < 1 + (tail.length + 1) := by omega
      have e1 : ((m : Int) / 16).tmod 16 = (m : Int) / 16 % 16 := Int.tmod_eq_emod_of_nonneg (by omega)
      have e2 : IntKind.i64.wrap ((m : Int) / 16 % 16 + 1) = (m : Int) / 16 % 16 + 1 := by rw [IntKind.wrap_i64]; omega
      have e3 : 0 ≤ (m : Int) / 16 % 16 + 1 := by omega
      have e4 : (m : Int) / 16 % 16 + 1 ≤ 16 := by omega
      have e5 : 0 ≤ (m : Int) / 16 % 16 := by omega
      have e6 : ((m : Int) / 16 % 16).toNat = m / 16 % 16 := by omega
      have e7 : ((m : Int) / 16 % 16 + 1).toNat = m / 16 % 16 + 1 := by omega
      have e8 : (m : Int) / 16 % 16 ≤ (m : Int) / 16 % 16 + 1 := by omega
      go_wp2_with fail
      go_region
      rw [strB_append]
      go_wp2_with fail
      go_roundw
      case rel => exact ⟨m / 16, hx (m % 16) :: tail, by simp, by omega, rfl, hide (by rw [HD.out, HDP2.out]; simp), by simp only [List.length_cons]; omega, HB.out.drew⟩
      case measure => simp [intOf]; omega
    · have hp : preD 16 m = [] := by unfold preD; rw [if_pos (by omega)]
      have HPR := Lib.hid hp
      clear hp
      go_wp2
      go_ret
      exact ⟨by rw [HD.out, HPR.out, List.nil_append]; rfl, HB.out⟩
end Go.Proofs.YtgegloplhlkafaaDoor
