/- strconv.ParseUint in base 16 at 16 bits: the number of the plain law; of the error no more than whether it is one. -/
import Derived.Test.YtgegloplhlkafaaDoorPfxXT
import Derived.Test.YtgegloplhlkafaaDoorShelfB
import Derived.Lib.ConvBytes
import Derived.Laws.Closers25
import Derived.Laws.Closers25b
set_option autoImplicit false
namespace Go.Proofs.YtgegloplhlkafaaDoor
open Go.RowKit Go.Sort Go.Shelf

structure TabsR (w : World) : Prop where
  six : Tab6 w
  max : ∃ m : Int, w.cell? ⟨0, 0, none⟩ = some (.int .i64 m)
  syn : ∃ t p, w.cell? ⟨1, 0, none⟩ = some (.iface t p)
  rng : ∃ t p, w.cell? ⟨2, 0, none⟩ = some (.iface t p)
theorem TabsR.below {w w' : World} (h : TabsR w) (hb : Below w.heap.size w w') : TabsR w' := by
  obtain ⟨m, hm⟩ := h.max
  obtain ⟨t, p, hs⟩ := h.syn
  obtain ⟨t', p', hr⟩ := h.rng
  exact ⟨h.six.below hb, ⟨m, (hb.cell (p := ⟨_, _, none⟩) (lt_cell hm)).trans hm⟩, ⟨t, p, (hb.cell (p := ⟨_, _, none⟩) (lt_cell hs)).trans hs⟩, ⟨t', p', (hb.cell (p := ⟨_, _, none⟩) (lt_cell hr)).trans hr⟩⟩

def lowB (c : UInt8) (l : Int) : Bool := match hexD c with
  | some d => decide ((48 ≤ c.toNat ∧ c.toNat ≤ 57 ∧ d = c.toNat - 48) ∨ (¬ (48 ≤ c.toNat ∧ c.toNat ≤ 57) ∧ l = d + 87 ∧ 10 ≤ d ∧ d < 16))
  | none => decide (¬ (48 ≤ c.toNat ∧ c.toNat ≤ 57) ∧ (l < 97 ∨ 102 < l))
theorem low_any (c : UInt8) : lowB c (bits .or .u8 (c.toNat : Int) 32) = true := by
  have key : ∀ x : Fin 256, lowB (UInt8.ofNat x.1) (bits .or .u8 ((UInt8.ofNat x.1).toNat : Int) 32) = true := by decide +kernel
  have h := key ⟨c.toNat, c.toNat_lt⟩
  rw [show UInt8.ofNat c.toNat = c by simp] at h
  exact h
theorem low_some {c : UInt8} {l : Int} {d : Nat} (h : lowB c l = true) (hd : hexD c = some d) : (48 ≤ c.toNat ∧ c.toNat ≤ 57 ∧ d = c.toNat - 48) ∨ (¬ (48 ≤ c.toNat ∧ c.toNat ≤ 57) ∧ l = d + 87 ∧ 10 ≤ d ∧ d < 16) := by
  unfold lowB at h; rw [hd] at h; exact of_decide_eq_true h
theorem low_none {c : UInt8} {l : Int} (h : lowB c l = true) (hd : hexD c = none) : ¬ (48 ≤ c.toNat ∧ c.toNat ≤ 57) ∧ (l < 97 ∨ 102 < l) := by
  unfold lowB at h; rw [hd] at h; exact of_decide_eq_true h

def errH : Nat → Value
  | 0 => .nilIface
  | k + 1 => .iface 108 (.int .i64 ((k + 1 : Nat) : Int))
def tupH (r : Nat × Nat) : Value := .tuple #[.int .u64 r.1, errH r.2]

theorem low_call (c : Int) (w : World) : Calls Tryd.prog 97 #[.int .u8 c] w fun e w' => e = .returned (.int .u8 (bits .or .u8 c 32)) ∧ w' = w :=
  AnyPu.internal_strconv_lower { Tryd.laysPu14 with } c w

set_option maxHeartbeats 32000000 in
set_option maxRecDepth 100000 in
theorem puI_any (t : ByteArray) (hne : t.size ≠ 0) (hmax : t.size ≤ 1000000) (w : World) :
    Calls Tryd.prog 81 #[.string t, .int .i64 16, .int .i64 16] w fun e w' => e = .returned (tupH (puH 0 t.data.toList)) ∧ w' = Lib.bytesWorld w 5 t := by
  have hemp : t.toList.isEmpty = false := by
    rw [← decide_eq_emptyBytes]
    exact decide_eq_false (fun h => hne (by rw [h]; rfl))
  have hcv := Lib.run_convert_string_bytes (P := Tryd.prog) w 9 22 5 t (u := .string) Tryd.underlying9 Tryd.underlying22 Tryd.underlying5
  have hB : ∀ j, j < t.size → (Lib.bytesWorld w 5 t).cell? ⟨w.heap.size, j, none⟩ = some (.int .u8 (t.data.toList.getD j 0).toNat) := fun j hj => Lib.bytesWorld_cell w 5 t j hj
  obtain ⟨W1, hW1⟩ : ∃ W1, W1 = Lib.bytesWorld w 5 t := ⟨_, rfl⟩
  rw [← hW1] at hcv hB ⊢
  clear hW1
  obtain ⟨bs, hL⟩ : ∃ bs, bs = t.data.toList := ⟨_, rfl⟩
  have hLn : bs.length = t.size := by rw [hL, Lib.size_eq]
  rw [← hL] at hB ⊢
  clear hL
  have hmv : IntKind.u64.wrap (IntKind.u64.wrap 65536 - 1) = 65535 := by
    rw [IntKind.wrap_u64, IntKind.wrap_u64]
    decide
  go_enter Tryd.func81, Tryd.ntmps81
  go_wp2
  go_loop [12, 13, 101] (fun vu vn vi => ∃ (k acc : Nat) (a : Int), vu = .bool false ∧ vn = .int .u64 a ∧ vi = .int .i64 k ∧ k ≤ t.size ∧ Hid (a = (acc : Int) ∧ acc ≤ 65535 ∧ puH 0 bs = puH acc (bs.drop k)))
    (fun _ _ vi => t.size - (intOf vi).toNat)
  case atStart => exact ⟨0, 0, 0, rfl, rfl, rfl, by omega, rfl, by omega, rfl⟩
  case round =>
    obtain ⟨k, acc, a, rfl, rfl, rfl, hk, hh⟩ := hrel
    obtain ⟨ha, hacc, hdec⟩ := hh.out
    clear hh
    have a0 : 0 ≤ a := by omega
    have a1 : a ≤ 65535 := by omega
    by_cases hkn : k < t.size
    · have hc := hB k hkn
      have hdrop : bs.drop k = bs[k]'(by omega) :: bs.drop (k + 1) := List.drop_eq_getElem_cons (by omega)
      have hget : bs.getD k 0 = bs[k]'(by omega) := by simp [List.getD, List.getElem?_eq_getElem (show k < bs.length by omega)]
      rw [hdrop] at hdec
      rw [hget] at hc
      generalize bs[k]'(by omega) = c at hc hdec
      have hc256 : c.toNat < 256 := c.toNat_lt
      clear hB hdrop hget
      have hlow := low_any c
      have hv0 := bits_lo_u8 .or (c.toNat : Int) 32
      have hv1 := bits_hi_u8 .or (c.toNat : Int) 32
      rcases hx : hexD c with _ | d
      · have hno := low_none hlow hx
        obtain ⟨hdig, hl⟩ := hno
        have hF : puH acc (c :: bs.drop (k + 1)) = (0, 2) := by simp [puH, hx]
        rw [hF] at hdec
        have HLW := hide (fun W => low_call (c.toNat : Int) W)
        have HDEC := Lib.hid hdec
        have hx0 : (0 : Int) ≤ (c.toNat : Int) := Int.natCast_nonneg _
        have hx1 : (c.toNat : Int) < 256 := by omega
        have hdi : (c.toNat : Int) < 48 ∨ 57 < (c.toNat : Int) := by omega
        have h95 : (c.toNat : Int) = 95 → bits .or .u8 (c.toNat : Int) 32 = 127 := fun h => by rw [h]; decide +kernel
        clear hF ha hacc hlow hx hdec hdig hc256
        generalize bits .or .u8 (c.toNat : Int) 32 = l at *
        generalize (c.toNat : Int) = x at *
        by_cases hx5 : x = 95
        · have hl5 := h95 hx5
          subst hx5
          subst hl5
          clear h95 hdi hl
          go_wp2_with (go_at_call 97; refine (HLW.out _).mono ?_; rintro e w' ⟨rfl, rfl⟩)
          go_ret2
          exact ⟨by rw [HDEC.out]; rfl, rfl⟩
        · clear h95
          rcases hdi with hdi | hdi
          · go_wp2_with (go_at_call 97; refine (HLW.out _).mono ?_; rintro e w' ⟨rfl, rfl⟩)
            all_goals go_ret2
            all_goals exact ⟨by rw [HDEC.out]; rfl, rfl⟩
          · rcases hl with hl | hl
            · go_wp2_with (go_at_call 97; refine (HLW.out _).mono ?_; rintro e w' ⟨rfl, rfl⟩)
              all_goals go_ret2
              all_goals exact ⟨by rw [HDEC.out]; rfl, rfl⟩
            · go_wp2_with (go_at_call 97; refine (HLW.out _).mono ?_; rintro e w' ⟨rfl, rfl⟩)
              all_goals go_ret2
              all_goals exact ⟨by rw [HDEC.out]; rfl, rfl⟩
      · have hd16 : d < 16 := hexD_lt c d hx
        have hlo := low_some hlow hx
        have HLW := hide (fun W => low_call (c.toNat : Int) W)
        have hdi0 : (0 : Int) ≤ (d : Int) := Int.natCast_nonneg _
        have hdi1 : (d : Int) < 16 := by omega
        by_cases hov : 65535 < acc * 16 + d
        · have hF : puH acc (c :: bs.drop (k + 1)) = (65535, 1) := by simp [puH, hx, hov]
          rw [hF] at hdec
          have HDEC := Lib.hid hdec
          have iov : 65535 < a * 16 + (d : Int) := by omega
          clear hF ha hacc hlow hx hdec hov
          rcases hlo with ⟨h1, h2, h3⟩ | ⟨h1, h2, h3, _⟩
          · have g1 : (48 : Int) ≤ (c.toNat : Int) := by omega
            have g2 : (c.toNat : Int) ≤ 57 := by omega
            have g3 : (d : Int) = (c.toNat : Int) - 48 := by omega
            clear h1 h2 h3 hc256
            generalize (c.toNat : Int) = x at *
            generalize bits .or .u8 x 32 = l at *
            rw [g3] at iov
            go_wp2_with (go_at_call 97; refine (HLW.out _).mono ?_; rintro e w' ⟨rfl, rfl⟩)
            go_ret2
            exact ⟨by rw [HDEC.out]; rfl, rfl⟩
          · have hdi : (c.toNat : Int) < 48 ∨ 57 < (c.toNat : Int) := by omega
            have h95 : (c.toNat : Int) = 95 → bits .or .u8 (c.toNat : Int) 32 = 127 := fun h => by rw [h]; decide +kernel
            have hx5 : ¬ (c.toNat : Int) = 95 := fun h => by have := h95 h; omega
            have g0 : (0 : Int) ≤ (c.toNat : Int) := Int.natCast_nonneg _
            have g4 : (c.toNat : Int) < 256 := by omega
            have h4 : (10 : Int) ≤ (d : Int) := by omega
            clear h1 h3 hc256 h95
            generalize (c.toNat : Int) = x at *
            generalize bits .or .u8 x 32 = l at *
            have g1 : (97 : Int) ≤ l := by omega
            have g2 : l ≤ 102 := by omega
            have g3 : (d : Int) = l - 97 + 10 := by omega
            rw [g3] at iov
            clear h2
            rcases hdi with hdi | hdi
            · go_wp2_with (go_at_call 97; refine (HLW.out _).mono ?_; rintro e w' ⟨rfl, rfl⟩)
              go_ret2
              exact ⟨by rw [HDEC.out]; rfl, rfl⟩
            · go_wp2_with (go_at_call 97; refine (HLW.out _).mono ?_; rintro e w' ⟨rfl, rfl⟩)
              go_ret2
              exact ⟨by rw [HDEC.out]; rfl, rfl⟩
        · have hF : puH acc (c :: bs.drop (k + 1)) = puH (acc * 16 + d) (bs.drop (k + 1)) := by simp [puH, hx, hov]
          have HN : Hid (a * 16 + (d : Int) = ((acc * 16 + d : Nat) : Int) ∧ acc * 16 + d ≤ 65535 ∧ puH 0 bs = puH (acc * 16 + d) (bs.drop (k + 1))) := Lib.hid ⟨by omega, by omega, hdec.trans hF⟩
          have iov : a * 16 + (d : Int) ≤ 65535 := by omega
          clear hF ha hacc hlow hx hdec hov
          rcases hlo with ⟨h1, h2, h3⟩ | ⟨h1, h2, h3, _⟩
          · have g1 : (48 : Int) ≤ (c.toNat : Int) := by omega
            have g2 : (c.toNat : Int) ≤ 57 := by omega
            have g3 : (d : Int) = (c.toNat : Int) - 48 := by omega
            clear h1 h2 h3 hc256
            generalize (c.toNat : Int) = x at *
            generalize bits .or .u8 x 32 = l at *
            rw [g3] at iov
            go_wp2_with (go_at_call 97; refine (HLW.out _).mono ?_; rintro e w' ⟨rfl, rfl⟩)
            refine ⟨⟨k + 1, acc * 16 + d, a * 16 + (d : Int), rfl, (by first | rfl | (congr 1; omega)), (by first | rfl | (congr 1; omega)), by omega, HN⟩, by simp [intOf]; omega⟩
          · have hdi : (c.toNat : Int) < 48 ∨ 57 < (c.toNat : Int) := by omega
            have h95 : (c.toNat : Int) = 95 → bits .or .u8 (c.toNat : Int) 32 = 127 := fun h => by rw [h]; decide +kernel
            have hx5 : ¬ (c.toNat : Int) = 95 := fun h => by have := h95 h; omega
            have g0 : (0 : Int) ≤ (c.toNat : Int) := Int.natCast_nonneg _
            have g4 : (c.toNat : Int) < 256 := by omega
            have h4 : (10 : Int) ≤ (d : Int) := by omega
            clear h1 h3 hc256 h95
            generalize (c.toNat : Int) = x at *
            generalize bits .or .u8 x 32 = l at *
            have g1 : (97 : Int) ≤ l := by omega
            have g2 : l ≤ 102 := by omega
            have g3 : (d : Int) = l - 97 + 10 := by omega
            rw [g3] at iov
            clear h2
            rcases hdi with hdi | hdi
            · go_wp2_with (go_at_call 97; refine (HLW.out _).mono ?_; rintro e w' ⟨rfl, rfl⟩)
              refine ⟨⟨k + 1, acc * 16 + d, a * 16 + (d : Int), rfl, (by first | rfl | (congr 1; omega)), (by first | rfl | (congr 1; omega)), by omega, HN⟩, by simp [intOf]; omega⟩
            · go_wp2_with (go_at_call 97; refine (HLW.out _).mono ?_; rintro e w' ⟨rfl, rfl⟩)
              refine ⟨⟨k + 1, acc * 16 + d, a * 16 + (d : Int), rfl, (by first | rfl | (congr 1; omega)), (by first | rfl | (congr 1; omega)), by omega, HN⟩, by simp [intOf]; omega⟩
    · have hkk : k = t.size := by omega
      subst hkk
      have hF : puH acc (bs.drop t.size) = (acc, 0) := by rw [List.drop_eq_nil_of_le (by omega)]; rfl
      rw [hF] at hdec
      subst ha
      have HDEC := Lib.hid hdec
      clear hacc hF a0 a1 hdec
      go_wp2
      go_ret2
      exact ⟨by rw [HDEC.out]; rfl, rfl⟩
end Go.Proofs.YtgegloplhlkafaaDoor
