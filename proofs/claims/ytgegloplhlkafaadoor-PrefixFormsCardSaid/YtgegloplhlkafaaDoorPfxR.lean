/- The reference of layer 2: most, Make. -/
import Derived.Test.YtgegloplhlkafaaDoorPfxD
set_option autoImplicit false
namespace Go.Proofs.YtgegloplhlkafaaDoor
open Go.RowKit

def mostF (fam : Int) : Int := if fam = 1 then 32 else if fam = 2 then 128 else -1
theorem most_any (fam : Int) (w : World) : Calls Tryd.prog 33 #[.int .i64 fam] w (RetI (mostF fam) w) := by
  by_cases h1 : fam = 1
  · subst h1
    go_enter Tryd.func33, Tryd.ntmps33
    go_wp2
    go_ret
    exact ⟨rfl, rfl⟩
  · by_cases h2 : fam = 2
    · subst h2
      go_enter Tryd.func33, Tryd.ntmps33
      go_wp2
      go_ret
      exact ⟨rfl, rfl⟩
    · have e1 : (fam == 1) = false := by simpa using h1
      have e2 : (fam == 2) = false := by simpa using h2
      have e : mostF fam = -1 := by simp [mostF, h1, h2]
      rw [e]
      clear h1 h2 e
      go_enter Tryd.func33, Tryd.ntmps33
      go_wp2
      go_ret
      exact ⟨rfl, rfl⟩
theorem most_width (fam : Int) : mostF fam = (if widthF fam = 0 then -1 else 8 * widthF fam) ∧ (mostF fam = 32 ∨ mostF fam = 128 ∨ mostF fam = -1) := by
  unfold mostF widthF
  by_cases h1 : fam = 1
  · simp [h1]
  · by_cases h2 : fam = 2
    · simp [h2]
    · simp [h1, h2]
theorem ranged_most (fam len : Int) : rangedF fam len = decide (0 ≤ len ∧ len ≤ mostF fam) := by
  have h := most_width fam
  have hc := widthF_cases fam
  rw [h.1]
  unfold rangedF
  refine decide_eq_decide.2 ?_
  rcases hc with e | e | e <;> rw [e] <;> simp
  all_goals omega
theorem mkOk_most (fam len : Int) (d : List Int) : mkOk fam len d = decide (0 ≤ len ∧ len ≤ mostF fam ∧ 8 * (d.length : Int) ≤ mostF fam) := by
  unfold mkOk
  rw [ranged_most]
  have h := most_width fam
  have hc := widthF_cases fam
  rw [h.1, ← Bool.decide_and]
  refine decide_eq_decide.2 ?_
  rcases hc with e | e | e <;> rw [e] <;> simp
  all_goals omega

theorem and1_bit (x : Int) (r : Nat) (h0 : 0 ≤ x) (h1 : x < 256) (hr : r ≤ 7) : bits .and .u8 (x / 2 ^ (7 - r)) 1 = bit8 x r := by
  obtain ⟨n, rfl⟩ := Int.eq_ofNat_of_zero_le h0
  have key : ∀ r : Fin 8, ∀ n : Fin 256, bits .and .u8 (((n.val : Nat) : Int) / 2 ^ (7 - r.val)) 1 = bit8 ((n.val : Nat) : Int) r.val := by decide +kernel
  exact key ⟨r, by omega⟩ ⟨n, by omega⟩
theorem or1_bit (x : Int) (r : Nat) (h0 : 0 ≤ x) (h1 : x < 256) (hr : r ≤ 7) (hb : bit8 x r = 0) : bits .or .u8 x (2 ^ (7 - r) % 256) = x + 2 ^ (7 - r) := by
  obtain ⟨n, rfl⟩ := Int.eq_ofNat_of_zero_le h0
  have key : ∀ r : Fin 8, ∀ n : Fin 256, bit8 ((n.val : Nat) : Int) r.val = 0 → bits .or .u8 ((n.val : Nat) : Int) (2 ^ (7 - r.val) % 256) = ((n.val : Nat) : Int) + 2 ^ (7 - r.val) := by decide +kernel
  exact key ⟨r, by omega⟩ ⟨n, by omega⟩ hb

set_option maxRecDepth 100000 in
set_option maxHeartbeats 4000000 in
theorem rmake_yes (fam len : Int) (A : Option Addr) (c : Nat) (d : List Int) (w : World) (hok : mkOk fam len d = true) (hb : Byts w w.heap.size A d) (hbs : Bs d) :
    Calls Tryd.prog 11 #[.int .i64 fam, .int .i64 len, .slice A d.length c] w fun e w' => e = .returned (.tuple #[.agg (pvL fam len (mTo len 16 (padA d))).toArray, .bool true]) ∧ Below w.heap.size w w' := by
  have hm := hok
  rw [mkOk_most, decide_eq_true_eq] at hm
  obtain ⟨hl0, hl1, hl2⟩ := hm
  have hmc := (most_width fam).2
  have hM := most_any fam
  generalize mostF fam = X at *
  have HM := hide hM
  have hX0 : X ≤ 128 := by omega
  have hd16 : d.length ≤ 16 := by omega
  obtain ⟨P0, hP0⟩ : ∃ P0, P0 = padA d := ⟨_, rfl⟩
  have hpl : P0.length = 16 := by rw [hP0]; exact padA_len d hd16
  have hpb : Bs P0 := by rw [hP0]; exact padA_bs d hbs
  have hfin : ∀ m : Int, (m = len ∨ m = 8 * d.length ∧ m ≤ len) → mTo m 16 P0 = mTo len 16 P0 := fun m hm => by rw [hP0]; exact mTo_min len d hd16 hbs m hm
  have hbit : ∀ i : Nat, bitF P0 i = bitF d i := fun i => by rw [hP0]; exact padA_bit d i
  rw [← hP0]
  have HBY := hide hb
  have HPL := Lib.hid hpl
  have HPB := hide hpb
  have HFIN := hide hfin
  have HBIT := hide hbit
  have hh1 : (Tryd.prog.info? 26).map (·.size) = some (pvL fam len zeroA).toArray.size := by rw [pfx_info]; rfl
  have hh2 : 0 + (pvL fam len zeroA).toArray.size ≤ (pvL 0 0 zeroA).toArray.size := by simp [pvL_len, zeroA]
  have hh3 : ∀ v ∈ (pvL fam len zeroA).toArray.toList, v.oneCell' = true := by simpa using pvL_one fam len zeroA
  have HH1 := hide hh1
  have HH2 := hide hh2
  have HH3 := hide hh3
  clear hM hmc hok hpl hpb hfin hbit hP0 hb hh1 hh2 hh3
  go_enter Tryd.func11, Tryd.ntmps11
  go_wp2_with (first
    | (go_at_call 33; refine (HM.out _).mono ?_; rintro e w1 ⟨rfl, rfl⟩)
    | (refine wpList_store_mid rfl _ (.tmp 8) _ rfl (w.heap.size + 1) 0 rfl 26 (pvL 0 0 zeroA).toArray (pvL fam len zeroA).toArray rfl (heap_alloc2_new _ _ _) HH1.out HH2.out HH3.out ?_
       rw [whole_store (pvL 0 0 zeroA).toArray (pvL fam len zeroA).toArray rfl]
       have g1 : (((w.alloc (Obj.cells (pvL 0 0 zeroA).toArray 26)).alloc (Obj.cells (pvL 0 0 zeroA).toArray 26)).setRow (w.heap.size + 1) (pvL fam len zeroA).toArray).heap[w.heap.size + 1]? = some (.cells (pvL fam len zeroA).toArray 26 (0, 0)) := setRow_heap _ _ _ _ _ _ (heap_alloc2_new _ _ _)
       have g0 : (((w.alloc (Obj.cells (pvL 0 0 zeroA).toArray 26)).alloc (Obj.cells (pvL 0 0 zeroA).toArray 26)).setRow (w.heap.size + 1) (pvL fam len zeroA).toArray).heap[w.heap.size]? = some (.cells (pvL 0 0 zeroA).toArray 26 (0, 0)) := (setRow_other _ _ _ _ (by omega)).trans (heap_alloc2_old _ _ _)
       have hbe := below_setRow (((Below.refl w.heap.size w).alloc (Nat.le_refl _) (Obj.cells (pvL 0 0 zeroA).toArray 26)).alloc (by simp) (Obj.cells (pvL 0 0 zeroA).toArray 26)) (show w.heap.size ≤ w.heap.size + 1 by omega) (pvL fam len zeroA).toArray
       obtain ⟨W1, hW1⟩ : ∃ W1, W1 = (((w.alloc (Obj.cells (pvL 0 0 zeroA).toArray 26)).alloc (Obj.cells (pvL 0 0 zeroA).toArray 26)).setRow (w.heap.size + 1) (pvL fam len zeroA).toArray) := ⟨_, rfl⟩
       rw [← hW1] at g1 g0 hbe
       rw [zero_pv] at hW1
       rw [← hW1]
       have G1 := Lib.hid g1
       have G0 := Lib.hid g0
       have HB1 := hide hbe
       clear hW1 g1 g0 hbe))
  go_loopw [9] (fun i wr => ∃ k : Nat, k ≤ 8 * d.length ∧ (k : Int) ≤ len ∧ i = .int .i64 k ∧ Hid (wr.heap[w.heap.size + 1]? = some (.cells (pvL fam len (mTo k 16 P0)).toArray 26 (0, 0))) ∧
    Hid (wr.heap[w.heap.size]? = some (.cells (pvL 0 0 zeroA).toArray 26 (0, 0))) ∧ Below w.heap.size w wr) (fun i _ => 8 * d.length - (intOf i).toNat)
  case atStart => exact ⟨0, by omega, by omega, rfl, by have := G1.out; rw [← show mTo 0 16 P0 = zeroA from mTo_zeroA P0 HPL.out HPB.out] at this; exact this, G0.out, HB1.out⟩
  case round =>
    obtain ⟨k, hk, hkl, rfl, hg1, hg0, hbel⟩ := hrel
    have hbz := hbel.size
    by_cases hlt : k < 8 * d.length ∧ (k : Int) < len
    · obtain ⟨j, hj⟩ : ∃ j, j = k / 8 := ⟨_, rfl⟩
      obtain ⟨r, hr⟩ : ∃ r, r = k % 8 := ⟨_, rfl⟩
      have hjd : j < d.length := by omega
      have hr7 : r ≤ 7 := by omega
      have hq : (k : Int) / 8 = (j : Int) := by omega
      have hm : (k : Int) % 8 = (r : Int) := by omega
      obtain ⟨ad, u, rfl, had, hu, hc⟩ := (Reads.below HBY.out hbel).at_ hjd
      obtain ⟨x, hx, rfl⟩ := bV_get hu
      have hxd : d[j] = x := by rw [List.getElem?_eq_getElem hjd] at hx; injection hx
      have hxb := hbs.get hjd
      rw [hxd] at hxb
      have hr0 : (0 : Int) ≤ (r : Int) := Int.natCast_nonneg _
      have hr1 : (r : Int) ≤ 7 := by omega
      have hk1 : (k : Int) < 8 * (d.length : Int) := by omega
      have hk2 : (k : Int) < len := hlt.2
      have hk0 : (0 : Int) ≤ (k : Int) := Int.natCast_nonneg _
      have hj0 : (0 : Int) ≤ (j : Int) := Int.natCast_nonneg _
      have hj1 : (j : Int) < (d.length : Int) := by omega
      have HJ := Lib.hid hj
      have HR := Lib.hid hr
      have HX := Lib.hid hxd
      have HB := hide hbel
      have hk128 : k < 128 := by omega
      have hml : (mTo k 16 P0).length = 16 := by rw [mTo_length, HPL.out]
      have hj16 : j < (mTo k 16 P0).length := by omega
      have hmb := (mTo_bs k 16 P0 HPB.out).get hj16
      have hcm : wr.cell? ⟨w.heap.size + 1, 2 + j, none⟩ = some (.int .u8 ((mTo k 16 P0)[j]'hj16)) := by
        rw [cell_of_row _ _ _ _ _ _ hg1.out, show 2 + j = j + 1 + 1 by omega]
        simp [pvL, bV, hj16]
      have hfm : wr.frozen? ⟨w.heap.size + 1, 2 + j, none⟩ = false := frozen_of_row _ _ _ _ _ hg1.out
      have hmz : bit8 ((mTo k 16 P0)[j]'hj16) r = 0 := by
        have := mTo_bit k P0 HPL.out HPB.out k hk128
        rw [if_neg (by omega)] at this
        unfold bitF at this
        rw [← hj, ← hr, getD_get _ _ hj16] at this
        exact this
      have hbk : bitF P0 k = bit8 x r := by rw [HBIT.out k]; unfold bitF; rw [← hj, ← hr, getD_get _ _ hjd, hxd]
      have hst := mTo_step k P0 HPL.out HPB.out hk128
      rw [hbk, ← hj, ← hr, getD_get _ _ hj16] at hst
      have hand := and1_bit x r hxb.1 hxb.2 hr7
      have horr := or1_bit ((mTo k 16 P0)[j]'hj16) r hmb.1 hmb.2 hr7 hmz
      have hset : ∀ v : Int, (pvL fam len (mTo k 16 P0)).toArray.setIfInBounds (2 + j) (.int .u8 v) = (pvL fam len ((mTo k 16 P0).set j v)).toArray := fun v => by
        rw [show 2 + j = j + 1 + 1 by omega]
        simp [pvL, bV, List.map_set]
      have HST := Lib.hid hst
      have HOR := Lib.hid horr
      have HSET := hide hset
      clear hlt hj hr hu hx hxd hbel hst horr hset hmz hbk
      by_cases hbit : bit8 x r = 1
      · have htest : (bits .and .u8 (x / 2 ^ (7 - r)) 1 == 1) = true := by rw [hand, hbit]; rfl
        have HBIT1 := Lib.hid hbit
        clear hand hbit
        generalize (mTo k 16 P0)[j]'hj16 = m at *
        go_wp2
        go_roundw
        case rel =>
          have e1 := HST.out
          rw [if_pos HBIT1.out] at e1
          refine ⟨k + 1, by omega, by omega, by go_num, ?_, ?_, HB.out.setCell (by simp) _⟩
          · show _ = _
            rw [e1, heap_setCell_same wr _ _ _ _ _ hg1.out, HSET.out, HOR.out]
          · show _ = _
            rw [heap_setCell_other wr _ _ _ (by simp)]; exact hg0.out
        case measure => simp [intOf]; omega
      · have htest : (bits .and .u8 (x / 2 ^ (7 - r)) 1 == 1) = false := by rw [hand]; simpa using hbit
        have HBIT1 := Lib.hid hbit
        clear hand hbit
        go_wp2
        go_roundw
        case rel =>
          refine ⟨k + 1, by omega, by omega, by go_num, ?_, hg0, HB.out⟩
          have := HST.out
          rw [if_neg HBIT1.out] at this
          rw [this]; exact hg1
        case measure => simp [intOf]; omega
    · have hend : mTo k 16 P0 = mTo len 16 P0 := HFIN.out k (by omega)
      have hml : (mTo len 16 P0).length = 16 := by rw [mTo_length, HPL.out]
      have hg1' := hg1.out
      rw [hend] at hg1'
      obtain ⟨M0, hM0⟩ : ∃ M0, M0 = mTo len 16 P0 := ⟨_, rfl⟩
      rw [← hM0] at hml hg1'
      have HM0 := Lib.hid hM0
      clear hM0
      have hsz : (pvL fam len M0).toArray.size = 18 := by simp [pvL_len, hml]
      have hx2 : (pvL fam len M0).toArray.extract 0 (0 + 18) = (pvL fam len M0).toArray := extract_all _ _ hsz
      have hs0 : (pvL 0 0 zeroA).toArray.size = (pvL fam len M0).toArray.size := by rw [hsz]; rfl
      have HZ := Lib.hid hsz
      have HX2 := Lib.hid hx2
      have HS0 := Lib.hid hs0
      have HG1 := Lib.hid hg1'
      have HB := hide hbel
      have hk0 : (0 : Int) ≤ (k : Int) := Int.natCast_nonneg _
      clear hsz hx2 hs0 hg1' hg1 hend hml hbel
      by_cases hk8 : k < 8 * d.length
      all_goals
        go_wp2_with (first
          | (refine wpList_load_mid rfl _ (.tmp 8) rfl (w.heap.size + 1) 0 18 rfl 26 _ (0, 0) _ HG1.out Tryd.underlying26 rfl pfx_info (by rw [HZ.out]; exact Nat.le_refl _) ?_
             rw [HX2.out])
          | (refine wpList_store_mid rfl _ (.tmp 6) _ rfl w.heap.size 0 rfl 26 (pvL 0 0 zeroA).toArray (pvL fam len M0).toArray rfl hg0.out (by rw [pfx_info, HZ.out]) (by rw [HZ.out]; exact Nat.le_refl _) (by simpa using pvL_one fam len M0) ?_
             rw [whole_store (pvL 0 0 zeroA).toArray (pvL fam len M0).toArray HS0.out]
             have hg5 := setRow_heap wr w.heap.size _ (pvL fam len M0).toArray _ _ hg0.out
             have B5 := hide (below_setRow (g := w.heap.size) HB.out (Nat.le_refl _) (pvL fam len M0).toArray)
             obtain ⟨w5, hw5⟩ : ∃ w5, w5 = wr.setRow w.heap.size (pvL fam len M0).toArray := ⟨_, rfl⟩
             rw [← hw5] at hg5 B5 ⊢
             have G5 := Lib.hid hg5
             clear hg5 hw5))
        exact bodyPost_ret (v := .tuple #[.agg (pvL fam len M0).toArray, .bool true]) (results_cell_tmp (p := 6) (t := 7) (ty := 26) rfl _ _ w.heap.size 26 _ (0, 0) _ _ rfl rfl G5.out Tryd.underlying26 rfl (by rw [pfx_info, HZ.out])) rfl ⟨by rw [HM0.out], B5.out⟩

set_option maxRecDepth 100000 in
set_option maxHeartbeats 4000000 in
theorem rmake_no (fam len : Int) (A : Option Addr) (c n : Nat) (w : World) (hok : (decide (0 ≤ len ∧ len ≤ mostF fam ∧ 8 * (n : Int) ≤ mostF fam)) = false) (hn : n ≤ 140737488351232) (hl0 : -9223372036854775808 ≤ len) (hl1 : len ≤ 9223372036854775807) :
    Calls Tryd.prog 11 #[.int .i64 fam, .int .i64 len, .slice A n c] w fun e w' => e = .returned (.tuple #[.agg (pvL 0 0 zeroA).toArray, .bool false]) ∧ Below w.heap.size w w' := by
  have hM := most_any fam
  have hmc := (most_width fam).2
  generalize mostF fam = X at *
  have HM := hide hM
  have hne : ¬ (0 ≤ len ∧ len ≤ X ∧ 8 * (n : Int) ≤ X) := by simpa using hok
  have hX0 : X ≤ 128 := by omega
  have hX1 : -1 ≤ X := by omega
  clear hM hok hmc
  have hg : (w.alloc (Obj.cells (pvL 0 0 zeroA).toArray 26)).heap[w.heap.size]? = some (.cells (pvL 0 0 zeroA).toArray 26 (0, 0)) := heap_alloc_new _ _
  have hb := (Below.refl w.heap.size w).alloc (Nat.le_refl _) (Obj.cells (pvL 0 0 zeroA).toArray 26)
  have HG := Lib.hid hg
  have HB := hide hb
  clear hg hb
  by_cases h1 : len < 0
  · clear hne
    go_enter Tryd.func11, Tryd.ntmps11
    go_wp2_with (go_at_call 33; refine (HM.out _).mono ?_; rintro e w1 ⟨rfl, rfl⟩)
    exact bodyPost_ret (results_cell_tmp (p := 6) (t := 7) (ty := 26) rfl _ _ w.heap.size 26 _ (0, 0) _ _ rfl rfl HG.out Tryd.underlying26 rfl (by rw [pfx_info]; rfl)) rfl ⟨rfl, HB.out⟩
  · by_cases h2 : X < len
    · clear hne
      go_enter Tryd.func11, Tryd.ntmps11
      go_wp2_with (go_at_call 33; refine (HM.out _).mono ?_; rintro e w1 ⟨rfl, rfl⟩)
      exact bodyPost_ret (results_cell_tmp (p := 6) (t := 7) (ty := 26) rfl _ _ w.heap.size 26 _ (0, 0) _ _ rfl rfl HG.out Tryd.underlying26 rfl (by rw [pfx_info]; rfl)) rfl ⟨rfl, HB.out⟩
    · have h3 : X < 8 * (n : Int) := by omega
      clear hne
      go_enter Tryd.func11, Tryd.ntmps11
      go_wp2_with (go_at_call 33; refine (HM.out _).mono ?_; rintro e w1 ⟨rfl, rfl⟩)
      exact bodyPost_ret (results_cell_tmp (p := 6) (t := 7) (ty := 26) rfl _ _ w.heap.size 26 _ (0, 0) _ _ rfl rfl HG.out Tryd.underlying26 rfl (by rw [pfx_info]; rfl)) rfl ⟨rfl, HB.out⟩

theorem rmake_any (fam len : Int) (A : Option Addr) (c : Nat) (d : List Int) (w : World) (hb : Byts w w.heap.size A d) (hbs : Bs d) (hn : d.length ≤ 140737488351232) (hl0 : -9223372036854775808 ≤ len) (hl1 : len ≤ 9223372036854775807) :
    Calls Tryd.prog 11 #[.int .i64 fam, .int .i64 len, .slice A d.length c] w fun e w' => e = .returned (.tuple #[.agg (pvT (mkP fam len d)).toArray, .bool (mkOk fam len d)]) ∧ Below w.heap.size w w' := by
  by_cases h : mkOk fam len d = true
  · unfold mkP
    rw [h, if_pos rfl]
    exact rmake_yes fam len A c d w h hb hbs
  · have h : mkOk fam len d = false := by simpa using h
    unfold mkP
    rw [h, if_neg (by decide)]
    exact rmake_no fam len A c d.length w (by rw [← mkOk_most]; exact h) hn hl0 hl1
end Go.Proofs.YtgegloplhlkafaaDoor
