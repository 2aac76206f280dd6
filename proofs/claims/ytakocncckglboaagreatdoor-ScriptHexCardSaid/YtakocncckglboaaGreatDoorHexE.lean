/- script.Bytes. -/
import Derived.Test.YtakocncckglboaaGreatDoorHexD
import Derived.Lib.OthersKept
set_option autoImplicit false
namespace Go.Proofs.YtakocncckglboaaGreatDoor
open Go.RowKit

theorem or_nib (a x : Nat) (h1 : a < 16) (h2 : x < 16) : bits .or .u8 ((a : Int) * 16) (x : Int) = ((16 * a + x : Nat) : Int) := by
  have key : ∀ a x : Fin 16, bits .or .u8 (((a.1 : Nat) : Int) * 16) ((x.1 : Nat) : Int) = ((16 * a.1 + x.1 : Nat) : Int) := by decide +kernel
  exact key ⟨a, h1⟩ ⟨x, h2⟩
theorem or_nib0 (x : Nat) (h2 : x < 16) : bits .or .u8 0 (x : Int) = (x : Int) := by
  have := or_nib 0 x (by omega) h2
  simpa using this
theorem made_zero (n : Nat) : (madeCells (Value.int .u8 0).cells (n * 1)) = (bV (List.replicate n 0)).toArray := by
  apply Array.ext'
  simp only [madeCells, Value.cells, bV]
  apply List.ext_getElem
  · simp
  · intro i h1 h2
    simp [Nat.mod_one]
theorem bV_set (l : List Int) (i : Nat) (v : Int) : (bV l).set i (.int .u8 v) = bV (l.set i v) := by simp [bV, List.map_set]

set_option maxRecDepth 100000 in
set_option maxHeartbeats 8000000 in
theorem bytes_any (s : List UInt8) (w : World) (hl : s.length ≤ 100000) :
    Calls Tryz.prog 6 #[.string (strB s)] w fun e w' => ∃ A c, e = .returned (.tuple #[.slice A ((bytF s).getD []).length c, .bool (bytF s).isSome]) ∧ Byts w' w'.heap.size A ((bytF s).getD []) ∧ Below w.heap.size w w' := by
  obtain ⟨iu, hu0, hu1, hu2, hu3⟩ := info_parts u8_info
  have hsz := strB_size s
  have hmk : (Instr.makeSlice 22 (.int .i64 ((s.length : Int) / 2)) (.int .i64 ((s.length : Int) / 2))).run Tryz.prog w = .ok (.slice (some ⟨w.heap.size, 0, none⟩) (s.length / 2) (s.length / 2)) (w.alloc (.cells (bV (outF s 0)).toArray 5)) := by
    have h := run_make_rowN (P := Tryz.prog) 22 5 iu (.int .u8 0) Tryz.underlying22 hu0 hu1 .i64 .i64 (s.length / 2) (s.length / 2) (Nat.le_refl _) (by rw [hu3]; omega) (by omega) w
    rw [hu2, made_zero, ← outF_zero] at h
    rw [show ((s.length : Int) / 2) = ((s.length / 2 : Nat) : Int) by omega]
    exact h
  have hat : ∀ (S : ByteArray), S = strB s → ∀ (k : Nat) (h : k < S.size) (h2 : k < s.length), S[k]'h = s[k]'h2 := by intro S hS k h h2; subst hS; rfl
  obtain ⟨S, hS⟩ : ∃ S, S = strB s := ⟨_, rfl⟩
  have HAT := hide (hat S hS)
  rw [← hS] at hsz ⊢
  clear hat hS
  obtain ⟨W0, hW0⟩ : ∃ W0, W0 = w.alloc (.cells (bV (outF s 0)).toArray 5) := ⟨_, rfl⟩
  have hz0 : W0.heap.size = w.heap.size + 1 := by rw [hW0]; simp
  have hg0 : W0.heap[w.heap.size]? = some (.cells (bV (outF s 0)).toArray 5 (0, 0)) := by rw [hW0]; exact heap_alloc_new _ _
  have hb0 : Below w.heap.size w W0 := by rw [hW0]; exact (Below.refl _ _).alloc (Nat.le_refl _) _
  rw [← hW0] at hmk
  have HG0 := Lib.hid hg0
  have HB0 := hide hb0
  have HZ0 := Lib.hid hz0
  clear hW0 hg0 hb0 hz0
  go_enter Tryz.func6, Tryz.ntmps6
  go_wp2_with fail
  have hI0 : (W0.iter S 0).heap[W0.heap.size]? = some (.stringIter S 0) := World.iter_heap W0 S 0
  have hG1 : (W0.iter S 0).heap[w.heap.size]? = some (.cells (bV (outF s 0)).toArray 5 (0, 0)) := (Below.heap_alloc W0 _ w.heap.size (by have := HZ0.out; omega)).trans HG0.out
  have hB1 : Below w.heap.size w (W0.iter S 0) := HB0.out.alloc (by have := HZ0.out; omega) _
  go_loopg [5] S.size (fun g _ wx => ∃ i : Nat, S.size ≤ i + g ∧ i ≤ s.length ∧ wx.heap[W0.heap.size]? = some (.stringIter S i) ∧ Hid (wx.heap[w.heap.size]? = some (.cells (bV (outF s i)).toArray 5 (0, 0))) ∧ Hid (∀ k, k < i → vA s k < 16) ∧ (0 < i → s.length % 2 = 0) ∧ Hid (Below w.heap.size w wx))
  case atStart => exact ⟨0, by omega, Nat.zero_le _, hI0, hide hG1, hide (fun k hk => by omega), fun h => absurd h (by omega), hide hB1⟩
  case round =>
    obtain ⟨i, hig, hil, hit, HG, HV, hev, HB⟩ := hrel
    clear hI0 hG1 hB1
    by_cases hi : i < s.length
    · have his : i < S.size := by omega
      obtain ⟨x, hx⟩ : ∃ x : UInt8, S[i]'his = x := ⟨_, rfl⟩
      have hxs : s[i] = x := by rw [← HAT.out i his hi]; exact hx
      have hva : vA s i = nib x := by rw [vA_get s i hi, hxs]
      obtain ⟨g, rfl⟩ : ∃ g, gk = g + 1 := ⟨gk - 1, by omega⟩
      have hi0 : (0 : Int) ≤ (i : Int) := Int.natCast_nonneg _
      by_cases hx8 : x.toNat < 128
      · have hnx := fun ty => Lib.run_next_ascii_at (P := Tryz.prog) wr W0.heap.size S i ty hit his (by rw [hx]; exact hx8)
        rw [hx] at hnx
        have hit2 := Lib.iterAt_heap wr W0.heap.size S i (i + 1) hit
        have hbel2 := Lib.below_iterAt HB.out (k := W0.heap.size) (by have := HZ0.out; omega) S (i + 1)
        have hg2 : (wr.iterAt W0.heap.size S (i + 1)).heap[w.heap.size]? = some (.cells (bV (outF s i)).toArray 5 (0, 0)) := (Lib.iterAt_other wr W0.heap.size w.heap.size S (i + 1) (by have := HZ0.out; omega)).trans HG.out
        have HI2 := Lib.hid hit2
        have HB2 := hide hbel2
        have HG2 := Lib.hid hg2
        clear hit hx hit2 hbel2
        by_cases hgood : x.toNat ≤ 102 ∧ nib x < 16
        · have HVL := hide (fun W => value_low x W hgood.1)
          have hnx16 := hgood.2
          by_cases hodd : s.length % 2 = 1
          · have hno : bytF s = none := by
              unfold bytF; rw [if_neg (by intro h; rw [h] at hi; simp at hi)]; exact pairF_bad _ s (Nat.le_refl _) (.inl hodd)
            have htm : ((s.length : Int) % 2 != 0) = true := by simp; omega
            have HNO := Lib.hid hno
            have HVA := Lib.hid hva
            clear hno hodd hg2 hxs hva hgood
            generalize (x.toNat : Int) = r at *
            go_wp2_with (go_at_call 13; refine (HVL.out _).mono ?_; rintro e w1 ⟨⟨v, rfl, hv⟩, rfl⟩
                         have hv0 : ¬ v < 0 := by omega
                         clear hv)
            go_ret2
            exact ⟨none, 0, by rw [HNO.out]; rfl, by rw [HNO.out]; exact Reads.none_, HB2.out⟩
          · have htm : ((s.length : Int) % 2 != 0) = false := by simp; omega
            have hj : i / 2 < (outF s i).length := by rw [outF_len]; omega
            have hc0 : (wr.iterAt W0.heap.size S (i + 1)).cell? ⟨w.heap.size, i / 2, none⟩ = some (.int .u8 (outF s i)[i / 2]) := by
              rw [cell_of_row _ _ _ _ _ _ HG2.out]; simp [bV, hj]
            have hf0 : (wr.iterAt W0.heap.size S (i + 1)).frozen? ⟨w.heap.size, i / 2, none⟩ = false := frozen_of_row _ _ _ _ _ HG2.out
            have hlt0 : w.heap.size < (wr.iterAt W0.heap.size S (i + 1)).heap.size := lt_of_block HG2.out
            have hn16 : nib x < 16 := hnx16
            obtain ⟨d, hd⟩ : ∃ d : Nat, nib x = d := ⟨_, rfl⟩
            rw [hd] at hn16 hva
            have hset := outF_set s i
            have hi2 : ((i : Int).tdiv 2) = (i : Int) / 2 := Int.tdiv_eq_ediv_of_nonneg (by omega)
            have hi3 : ((i : Int) / 2).toNat = i / 2 := by omega
            have hi4 : (0 : Int) ≤ (i : Int) / 2 := by omega
            have hi5 : (i : Int) / 2 < ((s.length / 2 : Nat) : Int) := by omega
            have hV2 : Hid (∀ k, k < i + 1 → vA s k < 16) := hide fun k hk => by
              by_cases h : k < i
              · exact HV.out k h
              · have : k = i := by omega
                subst this; rw [hva]; exact hn16
            obtain ⟨o, r, ho, hor, hr⟩ : ∃ (o r : Int), (outF s i)[i / 2] = o ∧ (0 ≤ o ∧ o < 16 ∧ bits .or .u8 (o * 16) (d : Int) = r) ∧ outF s (i + 1) = (outF s i).set (i / 2) r := by
              rw [outF_get]
              by_cases h0 : i % 2 = 0
              · rw [if_pos h0] at hset
                refine ⟨_, (d : Int), rfl, ?_, by rw [hset, hva]⟩
                rw [if_neg (by omega), if_neg (by omega)]
                exact ⟨by decide, by decide, or_nib0 d hn16⟩
              · rw [if_neg h0] at hset
                have hp : vA s (i - 1) < 16 := HV.out (i - 1) (by omega)
                have h2j : 2 * (i / 2) = i - 1 := by omega
                refine ⟨_, _, rfl, ?_, hset⟩
                rw [if_neg (by omega), if_pos (by omega), h2j, hva]
                exact ⟨by omega, by omega, or_nib _ d hp hn16⟩
            rw [ho] at hc0
            obtain ⟨ho0, ho1, hor⟩ := hor
            have hw1 : IntKind.u8.wrap (o * 16) = o * 16 := by rw [IntKind.wrap_u8]; omega
            have hw2 : IntKind.u8.wrap (d : Int) = (d : Int) := by rw [IntKind.wrap_u8]; omega
            have HR := Lib.hid hr
            have HVA := Lib.hid hva
            have HD := Lib.hid hd
            have hd0 : (0 : Int) ≤ (d : Int) := Int.natCast_nonneg _
            have HE : Hid (0 < i + 1 → s.length % 2 = 0) := hide fun _ => by omega
            clear hset hr ho hva hd hxs hg2 hj hgood hnx16 hev
            generalize (x.toNat : Int) = rr at *
            go_wp2_with (go_at_call 13; refine (HVL.out _).mono ?_; rintro e w1 ⟨⟨v, rfl, hv⟩, rfl⟩
                         have hv1 : v = (d : Int) := by have := HD.out; omega
                         subst hv1
                         clear hv)
            go_roundg g
            case measure => omega
            case rel =>
              refine ⟨i + 1, by omega, by omega, (Below.heap_setCell _ _ _ W0.heap.size (by show W0.heap.size ≠ w.heap.size; have := HZ0.out; omega)).trans HI2.out, hide ?_, hV2, HE.out, hide (HB2.out.setCell (p := ⟨w.heap.size, i / 2, none⟩) (Nat.le_refl _) _)⟩
              rw [heap_setCell_same _ _ _ _ _ _ HG2.out, HR.out, List.setIfInBounds_toArray, bV_set]
        · have hno : bytF s = none := by
            unfold bytF; rw [if_neg (by intro h; rw [h] at hi; simp at hi)]
            refine pairF_bad _ s (Nat.le_refl _) (.inr ⟨i, hi, ?_⟩)
            rw [hva]
            have := nib_le x
            by_cases h : x.toNat ≤ 102
            · have h2 : ¬ nib x < 16 := fun h3 => hgood ⟨h, h3⟩
              omega
            · unfold nib; rw [if_neg (by omega), if_neg (by omega)]; omega
          have hbad : ∀ W, Calls Tryz.prog 13 #[.int .i32 x.toNat] W fun e w' => (∃ v : Int, e = .returned (.int .i64 v) ∧ v < 0) ∧ w' = W := fun W => by
            by_cases h : x.toNat ≤ 102
            · refine (value_low x W h).mono ?_
              rintro e w' ⟨⟨v, rfl, hv⟩, rfl⟩
              refine ⟨⟨v, rfl, ?_⟩, rfl⟩
              rcases hv with ⟨h1, _⟩ | ⟨_, h2⟩
              · exact absurd ⟨h, h1⟩ hgood
              · exact h2
            · exact value_high (x.toNat : Int) W (by omega)
          have HNO := Lib.hid hno
          have HVL := hide hbad
          clear hno hbad hg2 hxs hva hgood
          generalize (x.toNat : Int) = r at *
          go_wp2_with (go_at_call 13; refine (HVL.out _).mono ?_; rintro e w1 ⟨⟨v, rfl, hv⟩, rfl⟩)
          go_ret2
          exact ⟨none, 0, by rw [HNO.out]; rfl, by rw [HNO.out]; exact Reads.none_, HB2.out⟩
      · have hnx := fun ty => Lib.run_next_any_at (P := Tryz.prog) wr W0.heap.size S i ty hit his
        obtain ⟨d1, _⟩ := decode_high S i his (by rw [hx]; omega)
        obtain ⟨n, hn⟩ : ∃ n, (Utf8.decode S i).2 = n := ⟨_, rfl⟩
        obtain ⟨r, hr⟩ : ∃ r, (Utf8.decode S i).1 = r := ⟨_, rfl⟩
        rw [hr] at d1
        simp only [hn, hr] at hnx
        have hbel2 := Lib.below_iterAt HB.out (k := W0.heap.size) (by have := HZ0.out; omega) S (i + n)
        have hno : bytF s = none := by
          unfold bytF; rw [if_neg (by intro h; rw [h] at hi; simp at hi)]
          refine pairF_bad _ s (Nat.le_refl _) (.inr ⟨i, hi, ?_⟩)
          rw [hva]; unfold nib; rw [if_neg (by omega), if_neg (by omega)]; omega
        have HVL := hide (fun W => value_high (r : Int) W (by omega))
        have HNO := Lib.hid hno
        have HB2 := hide hbel2
        clear hit hx hno hbel2 hn hr hva hxs
        go_wp2_with (go_at_call 13; refine (HVL.out _).mono ?_; rintro e w1 ⟨⟨v, rfl, hv⟩, rfl⟩)
        go_ret2
        exact ⟨none, 0, by rw [HNO.out]; rfl, by rw [HNO.out]; exact Reads.none_, HB2.out⟩
    · have hnx := fun ty => Lib.run_next_end_at (P := Tryz.prog) wr W0.heap.size S i ty hit (by omega)
      have hie : i = s.length := by omega
      subst hie
      by_cases h0 : s.length = 0
      · have hs : s = [] := List.length_eq_zero_iff.1 h0
        have hno : (bytF s).getD [] = [] ∧ (bytF s).isSome = false := by rw [hs]; exact ⟨rfl, rfl⟩
        have hgt : decide ((0 : Int) < (s.length : Int) / 2) = false := by rw [h0]; decide
        have HGT := Lib.hid hgt
        clear hgt
        have hz2 : s.length / 2 = 0 := by rw [h0]
        have HNO := Lib.hid hno
        have HZ2 := Lib.hid hz2
        clear hno hs h0 hz2 hig
        go_wp2
        go_ret2
        refine ⟨some ⟨w.heap.size, 0, none⟩, 0, ?_, ?_, HB.out⟩
        · rw [HNO.out.1, HNO.out.2, HZ2.out, HGT.out]; rfl
        · rw [HNO.out.1]; exact ⟨rfl, fun h => absurd h (by decide)⟩
      · have hsome : bytF s = some (outF s s.length) := by
          unfold bytF; rw [if_neg (by intro h; exact h0 (by rw [h]; rfl))]
          exact outF_end s (hev (by omega)) HV.out
        have hgt : decide ((0 : Int) < (s.length : Int) / 2) = true := decide_eq_true (by have := hev (by omega); omega)
        have HGT := Lib.hid hgt
        clear hgt
        have HSO := Lib.hid hsome
        clear hsome h0 hig hev
        go_wp2
        go_ret2
        have hlo := outF_len s s.length
        refine ⟨some ⟨w.heap.size, 0, none⟩, s.length / 2, ?_, ?_, HB.out⟩
        · rw [HSO.out, Option.getD_some, hlo, HGT.out]; rfl
        · rw [HSO.out, Option.getD_some]
          refine ⟨by simp [bV], fun _ => ⟨_, rfl, lt_of_block HG.out, fun j u hu => ?_⟩⟩
          exact World.news_of_block (cs := (bV (outF s s.length)).toArray) HG.out j u (by simpa using hu)
end Go.Proofs.YtakocncckglboaaGreatDoor
