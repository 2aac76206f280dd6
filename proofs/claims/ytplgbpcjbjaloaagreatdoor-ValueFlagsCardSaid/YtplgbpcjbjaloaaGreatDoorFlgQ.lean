/- The law ValueFlags returns true, whatever its arguments are. -/
import Derived.Test.YtplgbpcjbjaloaaGreatDoorFlgP
set_option autoImplicit false
namespace Go.Proofs.YtplgbpcjbjaloaaGreatDoor
open Go.RowKit
theorem and_fin : ∀ n : Fin 256, 0 ≤ bits .andNot .i64 ((n.val : Nat) : Int) 16 ∧ bits .andNot .i64 ((n.val : Nat) : Int) 16 < 256 := by decide +kernel
theorem and_bd {x : Int} (h0 : 0 ≤ x) (h1 : x < 256) : 0 ≤ bits .andNot .i64 x 16 ∧ bits .andNot .i64 x 16 < 256 := by
  obtain ⟨n, rfl⟩ := Int.eq_ofNat_of_zero_le h0
  exact and_fin ⟨n, by omega⟩
theorem rclass_ex (k : Int) (w : World) (h0 : 0 ≤ k) (h1 : k < 256) : ∃ x b, Calls Tryz.prog 10 #[.int .i64 k] w fun e w' => e = .returned (.tuple #[.int .i64 x, .bool b]) ∧ w' = w := by
  cases h : clsF k with
  | none => exact ⟨0, false, rclass_no k w h⟩
  | some c => exact ⟨c, true, rclass_yes k c w h0 h1 h⟩
section
variable (o1 o2 o3 o4 o5 o6 : Bool) (h0 k : Int) (A : Option Addr) (cp : Nat) (l : List Int) (w : World) (h00 : 0 ≤ h0) (h01 : h0 < 256) (k0 : 0 ≤ k) (k1 : k < 256)
include h00 h01 k0 k1
def blocks3 (w : World) (o1 o2 o3 o4 o5 o6 : Bool) (h0 k f n : Int) : World := ((w.alloc (.cells #[.bool o1, .bool o2, .bool o3, .bool o4, .bool o5, .bool o6] 41)).alloc (.cells #[.int .u8 h0, .int .u8 k] 42)).alloc (.cells #[.int .i64 f, .int .i64 k, .int .i64 n] 44)
omit h00 h01 k0 k1 in
theorem blocks3_below (f n : Int) : Below w.heap.size w (blocks3 w o1 o2 o3 o4 o5 o6 h0 k f n) :=
  (((Below.refl _ _).alloc (Nat.le_refl _) _).alloc (by simp) _).alloc (by simp; omega) _
set_option maxRecDepth 100000 in
set_option maxHeartbeats 4000000 in
theorem flags_long (f : Int) (hf : bits .andNot .i64 h0 16 = f) (hn : 255 < l.length) :
    Calls Tryz.prog 4 #[.agg #[.bool o1, .bool o2, .bool o3, .bool o4, .bool o5, .bool o6], .agg #[.int .u8 h0, .int .u8 k], .slice A l.length cp] w fun e w' => e = .returned (.bool true) ∧ Below w.heap.size w w' := by
  obtain ⟨x, b, hC⟩ := rclass_ex k (blocks3 w o1 o2 o3 o4 o5 o6 h0 k f l.length) k0 k1
  have HC := hide hC
  have HB := hide (blocks3_below o1 o2 o3 o4 o5 o6 h0 k w f l.length)
  have hn1 : (255 : Int) < (l.length : Int) := by omega
  clear hC hn
  go_enter Tryz.func4, Tryz.ntmps4
  go_wp2_with (first
    | (go_at_call 10; refine HC.out.mono ?_; rintro e w1 ⟨rfl, rfl⟩)
    | (go_at_call 6; refine (alive_any _).mono ?_; rintro e w2 ⟨rfl, hb2⟩; have B2 := hide (HB.out.trans (hb2.mono HB.out.size)); clear hb2))
  go_ret
  exact ⟨rfl, B2.out⟩
set_option maxRecDepth 100000 in
set_option maxHeartbeats 4000000 in
theorem flags_none (f : Int) (hf : bits .andNot .i64 h0 16 = f) (hn : l.length ≤ 255) (hc : clsF k = none) :
    Calls Tryz.prog 4 #[.agg #[.bool o1, .bool o2, .bool o3, .bool o4, .bool o5, .bool o6], .agg #[.int .u8 h0, .int .u8 k], .slice A l.length cp] w fun e w' => e = .returned (.bool true) ∧ Below w.heap.size w w' := by
  have HC := hide (rclass_no k (blocks3 w o1 o2 o3 o4 o5 o6 h0 k f l.length) hc)
  have HB := hide (blocks3_below o1 o2 o3 o4 o5 o6 h0 k w f l.length)
  have hn1 : ¬ (255 : Int) < (l.length : Int) := by omega
  clear hc hn
  go_enter Tryz.func4, Tryz.ntmps4
  go_wp2_with (first
    | (go_at_call 10; refine HC.out.mono ?_; rintro e w1 ⟨rfl, rfl⟩)
    | (go_at_call 6; refine (alive_any _).mono ?_; rintro e w2 ⟨rfl, hb2⟩; have B2 := hide (HB.out.trans (hb2.mono HB.out.size)); clear hb2))
  go_ret
  exact ⟨rfl, B2.out⟩
set_option maxRecDepth 100000 in
set_option maxHeartbeats 4000000 in
theorem flags_right (f c : Int) (hf : bits .andNot .i64 h0 16 = f) (hn : l.length ≤ 255) (hc : clsF k = some c) (hr : rrB f c = true) :
    Calls Tryz.prog 4 #[.agg #[.bool o1, .bool o2, .bool o3, .bool o4, .bool o5, .bool o6], .agg #[.int .u8 h0, .int .u8 k], .slice A l.length cp] w fun e w' => e = .returned (.bool true) ∧ Below w.heap.size w w' := by
  have HC := hide (fun W => rclass_yes k c W k0 k1 hc)
  have HR := hide (fun W => rright_any f k c W k0 k1 hc)
  rw [hr] at HR
  have HB := hide (blocks3_below o1 o2 o3 o4 o5 o6 h0 k w f l.length)
  have hn1 : ¬ (255 : Int) < (l.length : Int) := by omega
  clear hc hn hr
  go_enter Tryz.func4, Tryz.ntmps4
  go_wp2_with (first
    | (go_at_call 10; refine (HC.out _).mono ?_; rintro e w1 ⟨rfl, rfl⟩)
    | (go_at_call 11; refine (HR.out _).mono ?_; rintro e w1 ⟨rfl, rfl⟩)
    | (go_at_call 6; refine (alive_any _).mono ?_; rintro e w2 ⟨rfl, hb2⟩; have B2 := hide (HB.out.trans (hb2.mono HB.out.size)); clear hb2))
  go_ret
  exact ⟨rfl, B2.out⟩
theorem flags_any (hb : Byts w w.heap.size A l) :
    Calls Tryz.prog 4 #[.agg #[.bool o1, .bool o2, .bool o3, .bool o4, .bool o5, .bool o6], .agg #[.int .u8 h0, .int .u8 k], .slice A l.length cp] w fun e w' => e = .returned (.bool true) ∧ Below w.heap.size w w' := by
  obtain ⟨f, hf⟩ : ∃ f, bits .andNot .i64 h0 16 = f := ⟨_, rfl⟩
  have hfb := and_bd h00 h01
  rw [hf] at hfb
  by_cases hn : 255 < l.length
  · exact flags_long o1 o2 o3 o4 o5 o6 h0 k A cp l w h00 h01 k0 k1 f hf hn
  · cases hc : clsF k with
    | none => exact flags_none o1 o2 o3 o4 o5 o6 h0 k A cp l w h00 h01 k0 k1 f hf (by omega) hc
    | some c =>
      cases hr : rrB f c with
      | true => exact flags_right o1 o2 o3 o4 o5 o6 h0 k A cp l w h00 h01 k0 k1 f c hf (by omega) hc hr
      | false => exact flags_core o1 o2 o3 o4 o5 o6 h0 k f c A cp l w h00 h01 k0 k1 hf hc hr (right_law k0 k1 hc hfb.1 hfb.2 hr) (by omega) hb
end
end Go.Proofs.YtplgbpcjbjaloaaGreatDoor
