/- The reference's bit and Valid. -/
import Derived.Test.YtgegloplhlkafaaDoorPfxO
set_option autoImplicit false
namespace Go.Proofs.YtgegloplhlkafaaDoor
open Go.RowKit

theorem and1_i64 (x : Int) (r : Nat) (h0 : 0 ≤ x) (h1 : x < 256) (hr : r ≤ 7) : bits .and .i64 (wrap64 (x / 2 ^ (7 - r))) 1 = bit8 x r := by
  obtain ⟨n, rfl⟩ := Int.eq_ofNat_of_zero_le h0
  have key : ∀ r : Fin 8, ∀ n : Fin 256, bits .and .i64 (wrap64 (((n.val : Nat) : Int) / 2 ^ (7 - r.val))) 1 = bit8 ((n.val : Nat) : Int) r.val := by decide +kernel
  exact key ⟨r, by omega⟩ ⟨n, by omega⟩

set_option maxHeartbeats 1000000 in
theorem rbit_any (a : List Int) (ha : a.length = 16) (hb : Bs a) (i : Nat) (hi : i < 128) (w : World) :
    Calls Tryd.prog 34 #[.agg (bytesV a), .int .i64 i] w fun e w' => e = .returned (.int .i64 (bitF a i)) ∧ Below w.heap.size w w' := by
  obtain ⟨j, hj⟩ : ∃ j, j = i / 8 := ⟨_, rfl⟩
  obtain ⟨r, hr⟩ : ∃ r, r = i % 8 := ⟨_, rfl⟩
  have hja : j < a.length := by omega
  have hr7 : r ≤ 7 := by omega
  have hq : (i : Int) / 8 = (j : Int) := by omega
  have hm : (i : Int) % 8 = (r : Int) := by omega
  have hxb := hb.get hja
  have hc : (w.alloc (.cells (bytesV a) 24)).cell? ⟨w.heap.size, j, none⟩ = some (.int .u8 a[j]) := by
    rw [cell_of_row _ _ j _ _ _ (heap_alloc_new w _)]; exact bytesV_get a j hja
  have hand := and1_i64 a[j] r hxb.1 hxb.2 hr7
  have hres : bitF a i = bit8 a[j] r := by unfold bitF; rw [← hj, ← hr, getD_get _ _ hja]
  rw [hres]
  have hsz : (bytesV a).size = 16 := by rw [bytesV_size, ha]
  have hi0 : (0 : Int) ≤ (i : Int) := Int.natCast_nonneg _
  have hj0 : (0 : Int) ≤ (j : Int) := Int.natCast_nonneg _
  have hj1 : (j : Int) < 16 := by omega
  have hr0 : (0 : Int) ≤ (r : Int) := Int.natCast_nonneg _
  have hr1 : (r : Int) ≤ 7 := by omega
  generalize a[j] = x at *
  have HB := hide ((Below.refl w.heap.size w).alloc (Nat.le_refl _) (Obj.cells (bytesV a) 24))
  clear hb hj hr hres ha hi hja
  go_enter Tryd.func34, Tryd.ntmps34
  go_wp2
  go_ret
  refine ⟨?_, HB.out⟩
  rw [← hand]
  rfl

theorem ranged_lo (fam len : Int) (h : len < 0) : rangedF fam len = false := by rw [ranged_most, decide_eq_false_iff_not]; omega
theorem ranged_hi (fam len : Int) (h : mostF fam < len) : rangedF fam len = false := by rw [ranged_most, decide_eq_false_iff_not]; omega

set_option maxRecDepth 100000 in
set_option maxHeartbeats 4000000 in
theorem rvalid_any (fam len : Int) (a : List Int) (ha : a.length = 16) (hb : Bs a) (w : World) :
    Calls Tryd.prog 14 #[.agg (pvL fam len a).toArray] w fun e w' => e = .returned (.bool (vF fam len a)) ∧ Below w.heap.size w w' := by
  have hg : (w.alloc (.cells (pvL fam len a).toArray 26)).heap[w.heap.size]? = some (.cells (pvL fam len a).toArray 26 (0, 0)) := heap_alloc_new _ _
  have hF : (w.alloc (.cells (pvL fam len a).toArray 26)).cell? ⟨w.heap.size, 0, none⟩ = some (.int .i64 fam) := by rw [cell_of_row _ _ 0 _ _ _ hg]; rfl
  have hL : (w.alloc (.cells (pvL fam len a).toArray 26)).cell? ⟨w.heap.size, 1, none⟩ = some (.int .i64 len) := by rw [cell_of_row _ _ 1 _ _ _ hg]; rfl
  have hbe : Below w.heap.size w (w.alloc (.cells (pvL fam len a).toArray 26)) := (Below.refl _ _).alloc (Nat.le_refl _) _
  have HMO := hide (most_any fam)
  have hmle := (most_width fam).2
  have hvr : rangedF fam len = decide (0 ≤ len ∧ len ≤ mostF fam) := ranged_most fam len
  have hvf : vF fam len a = (rangedF fam len && decide (mTo len 16 a = a)) := rfl
  have hiff := mTo_same_iff len a ha hb
  have HBIT := hide (fun i hi w => rbit_any a ha hb i hi w)
  have hsz : (pvL fam len a).toArray.size = 18 := by simp [pvL_len, ha]
  have hex : (pvL fam len a).toArray.extract 2 (2 + 16) = bytesV a := by
    have : (pvL fam len a).length = 18 := by simp [pvL_len, ha]
    simp [pvL, bytesV, bV_len, ha, List.take_of_length_le]
  generalize mostF fam = MO at *
  have HVR := hide hvr
  have HVF := hide hvf
  have HIFF := hide hiff
  have HSZ := Lib.hid hsz
  have HEX := Lib.hid hex
  have HAI := Lib.hid arr_info
  clear hvr hvf hiff hsz hex
  obtain ⟨W, hW⟩ : ∃ W, W = w.alloc (.cells (pvL fam len a).toArray 26) := ⟨_, rfl⟩
  rw [← hW] at hg hF hL hbe
  have G := hide hg
  have HF := hide hF
  have HL := hide hL
  have HBE := hide hbe
  clear hg hF hL hbe
  by_cases h0 : len < 0
  · have hlt : decide (len < 0) = true := by simpa using h0
    have hres : vF fam len a = false := by rw [HVF.out, HVR.out]; simp; omega
    rw [hres]
    go_enter Tryd.func14, Tryd.ntmps14
    go_wp2_with fail
    rw [← hW]
    clear hW
    refine wp_region_quietC (fun w' => Below W.heap.size W w') (by kernel_rfl) (by kernel_rfl) (Below.refl _ _ |>.drew) ?_
    repeat (first
      | go_big_quiet_skip
      | (go_big_quiet_want
         first
         | (refine quiet_load _ _ rfl ⟨w.heap.size, 0, none⟩ rfl _ Tryd.underlying3 rfl _ (fun w' hw' => cell_below HF.out hw') ?_; go_big_quiet_on; simp only [Act.put, List.setIfInBounds_toArray, List.set_cons_zero, List.set_cons_succ])
         | (refine quiet_load _ _ rfl ⟨w.heap.size, 1, none⟩ rfl _ Tryd.underlying3 rfl _ (fun w' hw' => cell_below HL.out hw') ?_; go_big_quiet_on; simp only [Act.put, List.setIfInBounds_toArray, List.set_cons_zero, List.set_cons_succ])
         | (go_big_quiet_op
            first
              | go_big_quiet_on
              | (refine ⟨_, fun _ _ => rfl, ?_⟩; go_big_quiet_on)
              | (refine ⟨_, fun w' hw' => (HMO.out _).mono (fun e w1 h => ⟨h.1, by rw [← h.2]; exact hw'⟩), ?_⟩; go_big_quiet_on))))
    refine wpQuiet_nil ?_
    intro w' hw'
    go_wp2
    go_ret
    exact ⟨rfl, HBE.out.trans (hw'.mono HBE.out.size)⟩
  · by_cases h1 : MO < len
    · have hres : vF fam len a = false := by rw [HVF.out, HVR.out]; simp; omega
      have hlt0 : decide (len < 0) = false := by simpa using h0
      have hlt1 : decide (MO < len) = true := by simpa using h1
      rw [hres]
      go_enter Tryd.func14, Tryd.ntmps14
      go_wp2_with fail
      rw [← hW]
      clear hW
      refine wp_region_quietC (fun w' => Below W.heap.size W w') (by kernel_rfl) (by kernel_rfl) (Below.refl _ _ |>.drew) ?_
      repeat (first
        | go_big_quiet_skip
        | (go_big_quiet_want
           first
           | (refine quiet_load _ _ rfl ⟨w.heap.size, 0, none⟩ rfl _ Tryd.underlying3 rfl _ (fun w' hw' => cell_below HF.out hw') ?_; go_big_quiet_on; simp only [Act.put, List.setIfInBounds_toArray, List.set_cons_zero, List.set_cons_succ])
           | (refine quiet_load _ _ rfl ⟨w.heap.size, 1, none⟩ rfl _ Tryd.underlying3 rfl _ (fun w' hw' => cell_below HL.out hw') ?_; go_big_quiet_on; simp only [Act.put, List.setIfInBounds_toArray, List.set_cons_zero, List.set_cons_succ])
           | (go_big_quiet_op
              first
                | go_big_quiet_on
                | (refine ⟨_, fun _ _ => rfl, ?_⟩; go_big_quiet_on)
                | (refine ⟨_, fun w' hw' => (HMO.out _).mono (fun e w1 h => ⟨h.1, by rw [← h.2]; exact hw'⟩), ?_⟩; go_big_quiet_on))))
      refine wpQuiet_nil ?_
      intro w' hw'
      go_wp2
      go_ret
      exact ⟨rfl, HBE.out.trans (hw'.mono HBE.out.size)⟩
    · have hlt0 : decide (len < 0) = false := by simpa using h0
      have hlt1 : decide (MO < len) = false := by simpa using h1
      obtain ⟨n, rfl⟩ := Int.eq_ofNat_of_zero_le (show 0 ≤ len by omega)
      have hvf2 : vF fam (n : Int) a = decide (∀ i : Nat, i < 128 → (n : Int) ≤ (i : Int) → bitF a i = 0) := by
        rw [HVF.out, HVR.out]
        simp only [HIFF.out]
        simp; omega
      have HV2 := hide hvf2
      have hn : n ≤ 128 := by omega
      clear HVF HVR HIFF hvf2
      go_enter Tryd.func14, Tryd.ntmps14
      go_wp2_with fail
      rw [← hW]
      clear hW
      refine wp_region_quietC (fun w' => Below W.heap.size W w') (by kernel_rfl) (by kernel_rfl) (Below.refl _ _ |>.drew) ?_
      repeat (first
        | go_big_quiet_skip
        | (go_big_quiet_want
           first
           | (refine quiet_load _ _ rfl ⟨w.heap.size, 0, none⟩ rfl _ Tryd.underlying3 rfl _ (fun w' hw' => cell_below HF.out hw') ?_; go_big_quiet_on; simp only [Act.put, List.setIfInBounds_toArray, List.set_cons_zero, List.set_cons_succ])
           | (refine quiet_load _ _ rfl ⟨w.heap.size, 1, none⟩ rfl _ Tryd.underlying3 rfl _ (fun w' hw' => cell_below HL.out hw') ?_; go_big_quiet_on; simp only [Act.put, List.setIfInBounds_toArray, List.set_cons_zero, List.set_cons_succ])
           | (go_big_quiet_op
              first
                | go_big_quiet_on
                | (refine ⟨_, fun _ _ => rfl, ?_⟩; go_big_quiet_on)
                | (refine ⟨_, fun w' hw' => (HMO.out _).mono (fun e w1 h => ⟨h.1, by rw [← h.2]; exact hw'⟩), ?_⟩; go_big_quiet_on))))
      refine wpQuiet_nil ?_
      intro w' hw'
      have hl1 := cell_below HL.out hw'
      have g1 := (hw'.block _ (lt_of_block G.out)).trans G.out
      have G1 := hide g1
      have HB1 := hide (HBE.out.trans (hw'.mono HBE.out.size))
      clear g1 G HF HL HBE
      clear hw' h0 h1 hlt0 hlt1 HMO
      go_wp2
      go_loopw [3] (fun i wr => ∃ k : Nat, n ≤ k ∧ k ≤ 128 ∧ i = .int .i64 k ∧ (∀ t : Nat, n ≤ t → t < k → bitF a t = 0) ∧ Hid (wr.heap[w.heap.size]? = some (.cells (pvL fam (n : Int) a).toArray 26 (0, 0))) ∧ Below w.heap.size w wr) (fun i _ => 128 - (intOf i).toNat)
      case atStart => exact ⟨n, by omega, hn, rfl, fun t h1 h2 => by omega, G1, HB1.out⟩
      case round =>
        obtain ⟨k, hk0, hk1, rfl, hz, hg, hbel⟩ := hrel
        have HBL := hide hbel
        have HZ := hide hz
        have hk2 : (0 : Int) ≤ (k : Int) := Int.natCast_nonneg _
        clear hbel hz
        by_cases hlt : k < 128
        · have HB2 := hide (HBIT.out k hlt)
          have hlt' : (k : Int) < 128 := by omega
          by_cases hbz : bitF a k = 0
          · have ht : (bitF a k != 0) = false := by simp [hbz]
            have HKZ := Lib.hid hbz
            clear hbz
            generalize hBT : bitF a k = BT at ht HB2
            clear hBT
            go_wp2_with (first
              | (refine wpList_load_mid rfl _ (.tmp 21) rfl w.heap.size 2 16 rfl 26 _ (0, 0) _ hg.out Tryd.underlying24 rfl HAI.out (by rw [HSZ.out]; exact Nat.le_refl _) ?_
                 rw [HEX.out])
              | (go_at_call 34
                 refine (HB2.out _).mono ?_
                 rintro e w2 ⟨rfl, hb2⟩
                 have hg2 := (hb2.block _ (lt_of_block hg.out)).trans hg.out
                 have HG2 := hide hg2
                 have HBL2 := hide (HBL.out.trans (hb2.mono HBL.out.size))
                 clear hb2 hg2))
            go_roundw
            case rel => exact ⟨k + 1, by omega, by omega, by go_num, fun t h1 h2 => by
              by_cases e : t = k
              · subst e; exact HKZ.out
              · exact HZ.out t h1 (by omega), HG2, HBL2.out⟩
            case measure => simp [intOf]; omega
          · have ht : (bitF a k != 0) = true := by simpa using hbz
            have hres : vF fam (n : Int) a = false := by rw [HV2.out, decide_eq_false_iff_not]; intro h; exact hbz (h k hlt (by omega))
            have HRES := Lib.hid hres
            clear hbz hres
            generalize bitF a k = BT at ht HB2
            go_wp2_with (first
              | (refine wpList_load_mid rfl _ (.tmp 21) rfl w.heap.size 2 16 rfl 26 _ (0, 0) _ hg.out Tryd.underlying24 rfl HAI.out (by rw [HSZ.out]; exact Nat.le_refl _) ?_
                 rw [HEX.out])
              | (go_at_call 34
                 refine (HB2.out _).mono ?_
                 rintro e w2 ⟨rfl, hb2⟩
                 have hg2 := (hb2.block _ (lt_of_block hg.out)).trans hg.out
                 have HG2 := hide hg2
                 have HBL2 := hide (HBL.out.trans (hb2.mono HBL.out.size))
                 clear hb2 hg2))
            go_ret
            exact ⟨by rw [HRES.out]; rfl, HBL2.out⟩
        · have hres : vF fam (n : Int) a = true := by rw [HV2.out, decide_eq_true_eq]; exact fun i h1 h2 => HZ.out i (by omega) (by omega)
          have HRES := Lib.hid hres
          clear hres
          go_wp2
          go_ret
          exact ⟨by rw [HRES.out]; rfl, HBL.out⟩
end Go.Proofs.YtgegloplhlkafaaDoor
