/- strconv.FormatInt in base 16, at numbers of 16 bits. -/
import Derived.Test.YtgegloplhlkafaaDoorPfxS
import Derived.Laws.IdiomStrings
import Derived.Lib.Walk
set_option autoImplicit false
namespace Go.Proofs.YtgegloplhlkafaaDoor
open Go.RowKit Go.Sort Go.Shelf

theorem lt_cell {w : World} {a : Addr} {v : Value} (h : w.cell? a = some v) : a.block < w.heap.size := by
  rcases Nat.lt_or_ge a.block w.heap.size with h' | h'
  · exact h'
  · unfold World.cell? at h
    rw [Array.getElem?_eq_none h'] at h
    simp at h
theorem pow2_any (w : World) : Calls Tryd.prog 105 #[.int .i64 16] w (RetB true w) := by
  go_enter Tryd.func105, Tryd.ntmps105
  go_wp2
  go_ret
  exact ⟨rfl, rfl⟩
theorem tz64_any (w : World) (h : w.cell? ⟨7, 15, none⟩ = some (.int .u8 4)) : Calls Tryd.prog 113 #[.int .u64 16] w (RetI 4 w) := by
  have h1 : bits .and .u64 16 (IntKind.u64.wrap (-16)) = 16 := by decide +kernel
  have h2 : IntKind.u64.wrap 4573923408821661840 = 4573923408821661840 := by decide +kernel
  go_enter Tryd.func113, Tryd.ntmps113
  go_wp2
  go_ret
  exact ⟨rfl, rfl⟩
theorem tz_any (w : World) (h : w.cell? ⟨7, 15, none⟩ = some (.int .u8 4)) : Calls Tryd.prog 106 #[.int .u64 16] w (RetI 4 w) := by
  have H := hide (tz64_any w h)
  clear h
  go_enter Tryd.func106, Tryd.ntmps106
  go_wp2_with (go_at_call 113; refine H.out.mono ?_; rintro e w1 ⟨rfl, rfl⟩)
  go_ret
  exact ⟨rfl, rfl⟩
/-- The array of formatBits, with the last digits. -/
def hexC (T : List UInt8) : Array Value := (List.replicate (65 - T.length) (Value.int .u8 0) ++ T.map fun c => Value.int .u8 c.toNat).toArray
theorem hexC_size (T : List UInt8) (h : T.length ≤ 65) : (hexC T).size = 65 := by simp [hexC]; omega
theorem hexC_set (T : List UInt8) (c : UInt8) (k : Nat) (h : k + 1 + T.length = 65) : (hexC T).setIfInBounds k (.int .u8 c.toNat) = hexC (c :: T) := by
  have e1 : 65 - T.length = k + 1 := by omega
  have e2 : 65 - (c :: T).length = k := by simp; omega
  unfold hexC
  rw [e1, e2, List.setIfInBounds_toArray, List.replicate_succ', List.append_assoc, List.set_append, if_neg (by simp)]
  simp
theorem hexC_get (T : List UInt8) (k j : Nat) (h : k + T.length = 65) (hj : j < T.length) : (hexC T)[k + j]? = some (.int .u8 T[j].toNat) := by
  have e1 : 65 - T.length = k := by omega
  unfold hexC
  rw [e1]
  simp [hj]
theorem hexC_zero (T : List UInt8) (k : Nat) (h : k + 1 + T.length = 65) : (hexC T)[k]? = some (.int .u8 0) := by
  have e1 : 65 - T.length = k + 1 := by omega
  unfold hexC
  rw [e1]
  simp [List.getElem?_append_left]
def hexA : ByteArray := ByteArray.mk #[48, 49, 50, 51, 52, 53, 54, 55, 56, 57, 97, 98, 99, 100, 101, 102, 103, 104, 105, 106, 107, 108, 109, 110, 111, 112, 113, 114, 115, 116, 117, 118, 119, 120, 121, 122]
theorem digit_at (d : Nat) (h : d < 16) : (ByteArray.mk #[48, 49, 50, 51, 52, 53, 54, 55, 56, 57, 97, 98, 99, 100, 101, 102, 103, 104, 105, 106, 107, 108, 109, 110, 111, 112, 113, 114, 115, 116, 117, 118, 119, 120, 121, 122])[d]'(by show d < 36; omega) = hx d := by
  rcases d with _ | _ | _ | _ | _ | _ | _ | _ | _ | _ | _ | _ | _ | _ | _ | _ | d
  all_goals first | rfl | omega

set_option maxRecDepth 100000 in
set_option maxHeartbeats 4000000 in
theorem bits16_any (x : Nat) (hlt : x < 65536) (w : World) (ht : w.cell? ⟨7, 15, none⟩ = some (.int .u8 4)) :
    Calls Tryd.prog 87 #[.slice none 0 0, .int .u64 x, .int .i64 16, .bool false, .bool false] w fun e w' => e = .returned (.tuple #[.slice none 0 0, .string (strB (digL 16 x))]) ∧ Below w.heap.size w w' := by
  have hlen := digL_len 16 (by omega) 3 x hlt
  have hz : Tryd.zeroCells133 = hexC [] := rfl
  have hg : 7 < w.heap.size := lt_cell ht
  have HT := hide (fun W (hb : Below w.heap.size w W) => tz_any W ((hb.cell (p := ⟨_, _, none⟩) hg).trans ht))
  have HLEN := Lib.hid hlen
  clear ht hg hlen hz
  go_enter Tryd.func87, Tryd.ntmps87
  go_wp2_with (first
    | (go_at_call 105; refine (pow2_any _).mono ?_; rintro e w1 ⟨rfl, rfl⟩)
    | (go_at_call 106; refine (HT.out _ ((Below.refl _ _).alloc (Nat.le_refl _) _)).mono ?_; rintro e w1 ⟨rfl, rfl⟩))
  go_loopw [1, 13] (fun u i wr => ∃ (m k : Nat) (T : List UInt8), u = .int .u64 m ∧ i = .int .i64 k ∧ m < 65536 ∧ k + T.length = 65 ∧ Hid (digL 16 x = digL 16 m ++ T) ∧ Hid (wr.heap[w.heap.size]? = some (.cells (hexC T) 133 (0, 0))) ∧ Hid (Below w.heap.size w wr)) (fun u _ _ => (intOf u).toNat)
  case atStart => exact ⟨x, 65, [], rfl, rfl, hlt, rfl, hide (by simp), hide (heap_alloc_new _ _), hide ((Below.refl _ _).alloc (Nat.le_refl _) _)⟩
  case round =>
    obtain ⟨m, k, T, rfl, rfl, hm, hkT, HD, HG, HB⟩ := hrel
    have hT3 : T.length ≤ 3 := by
      have h1 := HLEN.out
      rw [HD.out, List.length_append] at h1
      have h2 := List.length_pos_iff.2 (digL_ne 16 m)
      omega
    obtain ⟨k, rfl⟩ : ∃ k', k = k' + 1 := ⟨k - 1, by omega⟩
    have hcz : wr.cell? ⟨w.heap.size, k, none⟩ = some (.int .u8 0) := by rw [cell_of_row _ _ k _ _ _ HG.out]; exact hexC_zero T k (by omega)
    have hfz : wr.frozen? ⟨w.heap.size, k, none⟩ = false := frozen_of_row _ _ k _ _ HG.out
    have hwz := lt_of_block HG.out
    have hkm : k < 65 := by omega
    by_cases h16 : 16 ≤ m
    · obtain ⟨d, hd⟩ : ∃ d, d = m % 16 := ⟨_, rfl⟩
      have hd16 : d < 16 := by omega
      have hdd : (d : Int) < 16 := by omega
      have hd0 : (0 : Int) ≤ (d : Int) := Int.natCast_nonneg _
      have hand : bits .and .u64 (m : Int) 15 = (d : Int) := by
        rw [show (15 : Int) = ((15 : Nat) : Int) from rfl, u64_and_nat m 15 (by omega) (by omega), show (15 : Nat) = 2 ^ 4 - 1 from rfl, Nat.and_two_pow_sub_one_eq_mod, hd]
      have hat := digit_at d hd16
      have hdm := digL_more 16 m (by omega) h16
      rw [← hd] at hdm
      have HDM := Lib.hid hdm
      have HAT := Lib.hid hat
      clear hdm hat hd
      go_wp2_with fail
      rw [HAT.out]
      go_roundw
      case rel =>
        exact ⟨m / 16, k, hx d :: T, by go_num, rfl, by omega, by simp; omega, hide (by rw [HD.out, HDM.out]; simp), hide (by rw [heap_setCell_same _ _ _ _ _ _ HG.out, hexC_set T _ k hkT]), hide (HB.out.setCell (Nat.le_refl _) _)⟩
      case measure => simp [intOf]; omega
    · have hat := digit_at m (by omega)
      have hm16 : (m : Int) < 16 := by omega
      have hal : Tryd.prog.arrayLen 133 = 65 := by kernel_rfl
      have hsl : ∀ W, (Instr.sliceAt 133 (.pointer (some ⟨w.heap.size, 0, none⟩)) (some (.int .i64 k)) none none).run Tryd.prog W = .ok (.slice (some ⟨w.heap.size, k, none⟩) (T.length + 1) (T.length + 1)) W := fun W => by
        rw [run_sliceAt_array_l W 133 ⟨w.heap.size, 0, none⟩ (by kernel_rfl) .i64 k (by omega) (by rw [hal]; omega), hal]
        have e1 : 65 - k = T.length + 1 := by omega
        go_simp
        omega
      have hgf : (wr.setCell ⟨w.heap.size, k, none⟩ (.int .u8 (hx m).toNat)).heap[w.heap.size]? = some (.cells (hexC (hx m :: T)) 133 (0, 0)) := by rw [heap_setCell_same _ _ _ _ _ _ HG.out, hexC_set T _ k hkT]
      have hdg : digL 16 x = hx m :: T := by rw [HD.out, digL_one 16 m (by omega)]; rfl
      have hcv : (convert 22 9 (.slice (some ⟨w.heap.size, k, none⟩) (T.length + 1) (T.length + 1))).run Tryd.prog (wr.setCell ⟨w.heap.size, k, none⟩ (.int .u8 (hx m).toNat)) = .ok (.string (strB (hx m :: T))) (wr.setCell ⟨w.heap.size, k, none⟩ (.int .u8 (hx m).toNat)) :=
        run_convert_bytes_back _ 22 9 5 ⟨w.heap.size, k, none⟩ (T.length + 1) (hx m :: T) Tryd.underlying22 Tryd.underlying5 Tryd.underlying9 fun j hj => by
          rw [Lib.add_plain, cell_of_row _ _ (k + j) _ _ _ hgf]
          exact hexC_get (hx m :: T) k j (by simp; omega) hj
      have hbf := HB.out.setCell (p := ⟨w.heap.size, k, none⟩) (Nat.le_refl _) (.int .u8 (hx m).toNat)
      have HBF := hide hbf
      have HDG := Lib.hid hdg
      clear hgf hdg hbf hal
      go_wp2
      go_ret2
      rw [HDG.out]
      exact ⟨rfl, HBF.out⟩
theorem fmtI_any (x : Nat) (hlt : x < 65536) (w : World) (ht : w.cell? ⟨7, 15, none⟩ = some (.int .u8 4)) :
    Calls Tryd.prog 70 #[.int .i64 x, .int .i64 16] w fun e w' => e = .returned (.string (strB (digL 16 x))) ∧ Below w.heap.size w w' := by
  have H := hide (bits16_any x hlt w ht)
  clear ht
  have h0 : ¬ (x : Int) < 0 := by omega
  have h1 : (x : Int) < 65536 := by omega
  have h2 : (0 : Int) ≤ x := by omega
  clear hlt
  generalize strB (digL 16 x) = S at *
  go_enter Tryd.func70, Tryd.ntmps70
  go_wp2_with (go_at_call 87; refine H.out.mono ?_; rintro e w1 ⟨rfl, hb⟩)
  go_ret
  exact ⟨rfl, hb⟩
theorem fmt16_any (x : Nat) (hlt : x < 65536) (w : World) (ht : w.cell? ⟨7, 15, none⟩ = some (.int .u8 4)) :
    Calls Tryd.prog 54 #[.int .i64 x, .int .i64 16] w fun e w' => e = .returned (.string (strB (digL 16 x))) ∧ Below w.heap.size w w' := by
  have H := hide (fmtI_any x hlt w ht)
  clear ht hlt
  generalize strB (digL 16 x) = S at *
  go_enter Tryd.func54, Tryd.ntmps54
  go_wp2_with (go_at_call 70; refine H.out.mono ?_; rintro e w1 ⟨rfl, hb⟩)
  go_ret
  exact ⟨rfl, hb⟩
end Go.Proofs.YtgegloplhlkafaaDoor
