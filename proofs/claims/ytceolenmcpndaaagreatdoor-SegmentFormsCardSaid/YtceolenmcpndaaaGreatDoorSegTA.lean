/- The reference's numerals: digits and Decimal at numbers of 32 bits. -/
import Derived.Test.YtceolenmcpndaaaGreatDoorSegPD
import Derived.RegionTactic
set_option autoImplicit false
namespace Go.Proofs.YtceolenmcpndaaaGreatDoor
open Go.RowKit Go.Sort Go.Shelf

theorem strB_append (a b : List UInt8) : strB a ++ strB b = strB (a ++ b) := by
  apply ByteArray.ext
  simp [strB]
def hexS : ByteArray := ⟨#[48, 49, 50, 51, 52, 53, 54, 55, 56, 57, 97, 98, 99, 100, 101, 102]⟩
def digC (d : Nat) : UInt8 := UInt8.ofNat (48 + d)
theorem hexS_at (d : Nat) (h : d < 10) : ByteArray.extract ⟨#[48, 49, 50, 51, 52, 53, 54, 55, 56, 57, 97, 98, 99, 100, 101, 102]⟩ d (d + 1) = strB [digC d] := by
  have key : ∀ d : Fin 10, (ByteArray.extract ⟨#[48, 49, 50, 51, 52, 53, 54, 55, 56, 57, 97, 98, 99, 100, 101, 102]⟩ d.1 (d.1 + 1)).data = #[digC d.1] := by decide
  exact ByteArray.ext (key ⟨d, h⟩)
def preD (n : Nat) : List UInt8 := if n < 10 then [] else Lib.decDigits (n / 10)
theorem dec_pre (n : Nat) : Lib.decDigits n = preD n ++ [digC (n % 10)] := by
  unfold preD
  by_cases h : n < 10
  · rw [if_pos h, Lib.decDigits_one h, Nat.mod_eq_of_lt h]; rfl
  · rw [if_neg h, Lib.decDigits, dif_neg h]; rfl

set_option maxHeartbeats 4000000 in
theorem digits_any (N : Nat) (hN : N < 4294967296) (w : World) :
    Calls Tryz.prog 45 #[.int .i64 N, .int .i64 10] w fun e w' => e = .returned (.string (strB (Lib.decDigits N))) ∧ Below w.heap.size w w' := by
  have h0 : N % 10 < 10 := Nat.mod_lt _ (by omega)
  have hx := hexS_at (N % 10) h0
  have hdp := dec_pre N
  have HDP := Lib.hid hdp
  clear hdp
  go_enter Tryz.func45, Tryz.ntmps45
  go_wp2_with fail
  go_region
  rw [hx]
  go_wp2_with fail
  go_loopw [0, 5] (fun n sv wi => ∃ (m : Nat) (tail : List UInt8), n = .int .i64 m ∧ m ≤ N ∧ sv = .string (strB (digC (m % 10) :: tail)) ∧ Hid (Lib.decDigits N = preD m ++ digC (m % 10) :: tail) ∧ tail.length + m ≤ N ∧ Below w.heap.size w wi) (fun n _ _ => (intOf n).toNat)
  case atStart => exact ⟨N, [], rfl, Nat.le_refl _, rfl, HDP, by simp, (Below.refl _ _).drew⟩
  case round =>
    obtain ⟨m, tail, rfl, hm, rfl, HD, htm, hb⟩ := hrel
    have HB := hide hb
    clear hb hx
    by_cases h10 : 10 ≤ m
    · have hx2 := hexS_at (m / 10 % 10) (Nat.mod_lt _ (by omega))
      have hdp : preD m = preD (m / 10) ++ [digC (m / 10 % 10)] := by
        rw [← dec_pre]; unfold preD; rw [if_neg (by omega)]
      have HDP2 := Lib.hid hdp
      clear hdp
      have hsz : (strB (digC (m % 10) :: tail)).size = tail.length + 1 := by rw [strB_size]; rfl
      have hsz1 : (strB [digC (m / 10 % 10)]).size = 1 := by rw [strB_size]; rfl
      have hj3 : ¬ 9223372036854775807 < 1 + (tail.length + 1) := by omega
      have e1 : ((m : Int) / 10).tmod 10 = (m : Int) / 10 % 10 := Int.tmod_eq_emod_of_nonneg (by omega)
      have e2 : IntKind.i64.wrap ((m : Int) / 10 % 10 + 1) = (m : Int) / 10 % 10 + 1 := by rw [IntKind.wrap_i64]; omega
      have e3 : 0 ≤ (m : Int) / 10 % 10 + 1 := by omega
      have e4 : (m : Int) / 10 % 10 + 1 ≤ 16 := by omega
      have e5 : 0 ≤ (m : Int) / 10 % 10 := by omega
      have e6 : ((m : Int) / 10 % 10).toNat = m / 10 % 10 := by omega
      have e7 : ((m : Int) / 10 % 10 + 1).toNat = m / 10 % 10 + 1 := by omega
      have e8 : (m : Int) / 10 % 10 ≤ (m : Int) / 10 % 10 + 1 := by omega
      go_wp2_with fail
      go_region
      rw [strB_append]
      go_wp2_with fail
      go_roundw
      case rel => exact ⟨m / 10, digC (m % 10) :: tail, by simp, by omega, rfl, hide (by rw [HD.out, HDP2.out]; simp), by simp only [List.length_cons]; omega, HB.out.drew⟩
      case measure => simp [intOf]; omega
    · have hp : preD m = [] := by unfold preD; rw [if_pos (by omega)]
      have HPR := Lib.hid hp
      clear hp
      go_wp2
      go_ret
      exact ⟨by rw [HD.out, HPR.out, List.nil_append]; rfl, HB.out⟩
theorem decimal_any (N : Nat) (hN : N < 4294967296) (w : World) :
    Calls Tryz.prog 27 #[.int .i64 N] w fun e w' => e = .returned (.string (strB (Lib.decDigits N))) ∧ Below w.heap.size w w' := by
  go_enter Tryz.func27, Tryz.ntmps27
  go_wp2_with (go_at_call 45; refine (digits_any N hN _).mono ?_; rintro e w1 ⟨rfl, hb⟩)
  go_ret
  exact ⟨rfl, hb⟩
end Go.Proofs.YtceolenmcpndaaaGreatDoor
