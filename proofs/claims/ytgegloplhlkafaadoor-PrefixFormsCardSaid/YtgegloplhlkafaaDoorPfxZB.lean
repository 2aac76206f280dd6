/- The reference's Text of a prefix. -/
import Derived.Test.YtgegloplhlkafaaDoorPfxZA
import Derived.Test.YtgegloplhlkafaaDoorPfxV
set_option autoImplicit false
namespace Go.Proofs.YtgegloplhlkafaaDoor
open Go.RowKit Go.Sort Go.Shelf

def sepL (b : UInt8) (k : Nat) : List UInt8 := if 0 < k then [b] else []
theorem join_snoc (b : UInt8) (xs : List (List UInt8)) (x : List UInt8) : Lib.join (xs ++ [x]) [b] = Lib.join xs [b] ++ sepL b xs.length ++ x := by
  cases xs with
  | nil => rw [List.nil_append, Lib.join_one, Lib.join_nil]; rfl
  | cons y r =>
    rw [List.cons_append, Lib.join_cons, Lib.join_cons]
    have e : sepL b (y :: r).length = [b] := by unfold sepL; rw [if_pos (by simp)]
    rw [e]
    simp [Lib.joinTail]
def jK (b : UInt8) (l : List (List UInt8)) (k : Nat) : List UInt8 := Lib.join (l.take k) [b]
theorem jK_zero (b : UInt8) (l : List (List UInt8)) : jK b l 0 = [] := by unfold jK; rw [List.take_zero, Lib.join_nil]
theorem jK_succ (b : UInt8) (l : List (List UInt8)) (k : Nat) (h : k < l.length) : jK b l (k + 1) = jK b l k ++ sepL b k ++ l[k] := by
  unfold jK
  rw [List.take_succ_eq_append_getElem h, join_snoc, List.length_take, Nat.min_eq_left (by omega)]
theorem s46_eq : (⟨#[46]⟩ : ByteArray) = strB [46] := rfl
theorem s58_eq : (⟨#[58]⟩ : ByteArray) = strB [58] := rfl
theorem s47_eq : (⟨#[47]⟩ : ByteArray) = strB [47] := rfl
theorem sz46 : (⟨#[46]⟩ : ByteArray).size = 1 := rfl
theorem sz58 : (⟨#[58]⟩ : ByteArray).size = 1 := rfl
theorem sz47 : (⟨#[47]⟩ : ByteArray).size = 1 := rfl

set_option maxRecDepth 100000 in
set_option maxHeartbeats 8000000 in
theorem rtext4_any (len : Int) (a : List Int) (ha : a.length = 16) (hb : Bs a) (w : World) (hv : vF 1 len a = true) :
    Calls Tryd.prog 28 #[.agg (pvL 1 len a).toArray] w fun e w' => e = .returned (.string (strB (text4 len a))) ∧ Below w.heap.size w w' := by
  have hr : rangedF 1 len = true := by unfold vF at hv; simp at hv; exact hv.1
  obtain ⟨_, h0, _, h1, _⟩ := ranged_bd hr
  have hva := rvalid_any 1 len a ha hb
  rw [hv] at hva
  have HV := hide hva
  have hx0 : (pvL 1 len a).toArray.extract 0 (0 + 18) = (pvL 1 len a).toArray := extract_all _ _ (by simp [pvL_len, ha])
  have hsz : (pvL 1 len a).toArray.size = 18 := by simp [pvL_len, ha]
  have HX0 := Lib.hid hx0
  have HSZ := Lib.hid hsz
  have HA := Lib.hid ha
  have HBS := hide hb
  clear hva hv hr hx0 hsz ha hb
  go_enter Tryd.func28, Tryd.ntmps28
  go_wp2_with (first
    | (refine wpList_load_mid rfl _ (.tmp 1) rfl w.heap.size 0 18 rfl 26 _ (0, 0) _ (heap_alloc_new _ _) Tryd.underlying26 rfl pfx_info (by rw [HSZ.out]; exact Nat.le_refl _) ?_
       rw [HX0.out])
    | (go_at_call 14
       refine (HV.out _).mono ?_
       rintro e w1 ⟨rfl, hb1⟩
       have hg1 : w1.heap[w.heap.size]? = some (.cells (pvL 1 len a).toArray 26 (0, 0)) := (hb1.block w.heap.size (by simp)).trans (heap_alloc_new _ _)
       have hF : w1.cell? ⟨w.heap.size, 0, none⟩ = some (.int .i64 1) := by rw [cell_of_row _ _ 0 _ _ _ hg1]; rfl
       have B1 := hide (((Below.refl _ _).alloc (Nat.le_refl _) _).trans (hb1.mono (by simp)))
       have hz1 : w.heap.size < w1.heap.size := lt_of_block hg1
       have G1 := Lib.hid hg1
       clear hg1 hb1))
  go_loopw [3, 4] (fun sv i wr => ∃ (k : Nat) (S : ByteArray), k ≤ 4 ∧ i = .int .i64 k ∧ sv = .string S ∧ Hid (S = strB (jK 46 ((a.take 4).map numL) k)) ∧ S.size ≤ k * 21 ∧ Hid (Below w1.heap.size w1 wr)) (fun _ i _ => 4 - (intOf i).toNat)
  case atStart => exact ⟨0, _, Nat.zero_le _, rfl, rfl, hide (by rw [jK_zero]; rfl), Nat.le_refl 0, hide (Below.refl _ _)⟩
  case round =>
    obtain ⟨k, S, hk, rfl, rfl, HS, hsz, HB⟩ := hrel
    have hbz := HB.out.size
    have hgr := (HB.out.block w.heap.size hz1).trans G1.out
    by_cases hlt : k < 4
    · have hka : k < a.length := by have := HA.out; omega
      have hxb := HBS.out.get hka
      have hc : wr.cell? ⟨w.heap.size, 2 + k, none⟩ = some (.int .u8 a[k]) := by
        rw [cell_of_row _ _ _ _ _ _ hgr, show 2 + k = k + 1 + 1 by omega]
        simp [pvL, bV, hka]
      have hk4 : k < ((a.take 4).map numL).length := by simp; omega
      have hsu := jK_succ 46 ((a.take 4).map numL) k hk4
      have hel : ((a.take 4).map numL)[k] = digL 10 a[k].toNat := by simp [numL_dig]
      rw [hel] at hsu
      obtain ⟨x, hx⟩ : ∃ x : Nat, a[k] = (x : Int) := ⟨a[k].toNat, by omega⟩
      rw [hx] at hc hxb hsu
      rw [Int.toNat_natCast] at hsu
      have hD := digits10_any x (by omega)
      have hds : (strB (digL 10 x)).size ≤ 20 := by
        rw [strB_size]
        exact Nat.le_trans (digL_len 10 (by omega) 19 x (by omega)) (Nat.le_refl _)
      generalize digL 10 x = DL at *
      obtain ⟨D, hDD⟩ : ∃ D, D = strB DL := ⟨_, rfl⟩
      rw [← hDD] at hD hds
      have HD := hide hD
      have HSU := Lib.hid hsu
      have HDD := Lib.hid hDD
      have hx0 : (0 : Int) ≤ (x : Int) := Int.natCast_nonneg _
      have hi0 : (0 : Int) ≤ (k : Int) := Int.natCast_nonneg _
      clear hD hsu hel hk4 hgr hx hDD
      rcases Nat.eq_zero_or_pos k with hk0 | hkp
      · subst hk0
        have hsj : sepL 46 0 = [] := rfl
        have HSJ := Lib.hid hsj
        clear hsj hi0
        go_wp2_with (go_at_call 57; refine (HD.out _).mono ?_; rintro e w3 ⟨rfl, hb3⟩)
        go_roundw
        case rel => exact ⟨1, _, by omega, by go_num, rfl, hide (by rw [HS.out, HDD.out, HSU.out, HSJ.out]; simp only [strB_append]; simp), by simp only [ByteArray.size_append]; omega, hide (HB.out.trans (hb3.mono HB.out.size))⟩
        case measure => simp [intOf]
      · have hsj : sepL 46 k = [46] := by unfold sepL; rw [if_pos hkp]
        have HSJ := Lib.hid hsj
        clear hsj
        go_wp2_with (go_at_call 57; refine (HD.out _).mono ?_; rintro e w3 ⟨rfl, hb3⟩)
        go_roundw
        case rel => exact ⟨k + 1, _, by omega, by go_num, rfl, hide (by rw [HS.out, HDD.out, HSU.out, HSJ.out]; simp only [s46_eq, strB_append]), by simp only [ByteArray.size_append, sz46]; omega, hide (HB.out.trans (hb3.mono HB.out.size))⟩
        case measure => simp [intOf]; omega
    · have hk4 : k = 4 := by omega
      subst hk4
      have hL : wr.cell? ⟨w.heap.size, 1, none⟩ = some (.int .i64 len) := by rw [cell_of_row _ _ 1 _ _ _ hgr]; rfl
      obtain ⟨x, rfl⟩ : ∃ x : Nat, len = (x : Int) := ⟨len.toNat, by omega⟩
      have hD := digits10_any x (by omega)
      have hds : (strB (digL 10 x)).size ≤ 20 := by
        rw [strB_size]
        exact Nat.le_trans (digL_len 10 (by omega) 19 x (by omega)) (Nat.le_refl _)
      have hts : strB (text4 x a) = strB (jK 46 ((a.take 4).map numL) 4) ++ ⟨#[47]⟩ ++ strB (digL 10 x) := by
        have e1 : ((a.take 4).map numL).take 4 = (a.take 4).map numL := List.take_of_length_le (by simp only [List.length_map, List.length_take]; omega)
        rw [s47_eq, strB_append, strB_append]
        unfold text4 jK
        rw [e1, numL_dig, Int.toNat_natCast]
      have HTS := Lib.hid hts
      have HD := hide hD
      have hx0 : (0 : Int) ≤ (x : Int) := Int.natCast_nonneg _
      clear hts hD hgr
      generalize strB (digL 10 x) = D at *
      go_wp2_with (go_at_call 57; refine (HD.out _).mono ?_; rintro e w3 ⟨rfl, hb3⟩)
      go_ret
      exact ⟨by rw [HTS.out, HS.out]; rfl, B1.out.trans ((HB.out.trans (hb3.mono HB.out.size)).mono (by have := B1.out.size; omega))⟩
set_option maxRecDepth 100000 in
set_option maxHeartbeats 8000000 in
theorem rtext6_any (len : Int) (a : List Int) (ha : a.length = 16) (hb : Bs a) (w : World) (hv : vF 2 len a = true) :
    Calls Tryd.prog 28 #[.agg (pvL 2 len a).toArray] w fun e w' => e = .returned (.string (strB (text6 len a))) ∧ Below w.heap.size w w' := by
  have hr : rangedF 2 len = true := by unfold vF at hv; simp at hv; exact hv.1
  obtain ⟨_, h0, _, h1, _⟩ := ranged_bd hr
  have hva := rvalid_any 2 len a ha hb
  rw [hv] at hva
  have HV := hide hva
  have hx0 : (pvL 2 len a).toArray.extract 0 (0 + 18) = (pvL 2 len a).toArray := extract_all _ _ (by simp [pvL_len, ha])
  have hsz : (pvL 2 len a).toArray.size = 18 := by simp [pvL_len, ha]
  have HX0 := Lib.hid hx0
  have HSZ := Lib.hid hsz
  have HA := Lib.hid ha
  have HBS := hide hb
  clear hva hv hr hx0 hsz ha hb
  go_enter Tryd.func28, Tryd.ntmps28
  go_wp2_with (first
    | (refine wpList_load_mid rfl _ (.tmp 1) rfl w.heap.size 0 18 rfl 26 _ (0, 0) _ (heap_alloc_new _ _) Tryd.underlying26 rfl pfx_info (by rw [HSZ.out]; exact Nat.le_refl _) ?_
       rw [HX0.out])
    | (go_at_call 14
       refine (HV.out _).mono ?_
       rintro e w1 ⟨rfl, hb1⟩
       have hg1 : w1.heap[w.heap.size]? = some (.cells (pvL 2 len a).toArray 26 (0, 0)) := (hb1.block w.heap.size (by simp)).trans (heap_alloc_new _ _)
       have hF : w1.cell? ⟨w.heap.size, 0, none⟩ = some (.int .i64 2) := by rw [cell_of_row _ _ 0 _ _ _ hg1]; rfl
       have B1 := hide (((Below.refl _ _).alloc (Nat.le_refl _) _).trans (hb1.mono (by simp)))
       have hz1 : w.heap.size < w1.heap.size := lt_of_block hg1
       have G1 := Lib.hid hg1
       clear hg1 hb1))
  go_loopw [3, 5] (fun sv i wr => ∃ (k j : Nat) (S : ByteArray), k ≤ 8 ∧ j = 2 * k ∧ i = .int .i64 j ∧ sv = .string S ∧ Hid (S = strB (jK 58 (grpL a) k)) ∧ S.size ≤ k * 5 ∧ Hid (Below w1.heap.size w1 wr)) (fun _ i _ => 16 - (intOf i).toNat)
  case atStart => exact ⟨0, 0, _, Nat.zero_le _, rfl, rfl, rfl, hide (by rw [jK_zero]; rfl), Nat.le_refl 0, hide (Below.refl _ _)⟩
  case round =>
    obtain ⟨k, j, S, hk, hjk, rfl, rfl, HS, hsz, HB⟩ := hrel
    have hbz := HB.out.size
    have hgr := (HB.out.block w.heap.size hz1).trans G1.out
    by_cases hlt : k < 8
    · have hj16 : j < 16 := by omega
      have hka : j < a.length := by have := HA.out; omega
      have hkb : j + 1 < a.length := by have := HA.out; omega
      have hxa := HBS.out.get hka
      have hxb := HBS.out.get hkb
      have hc : wr.cell? ⟨w.heap.size, 2 + j, none⟩ = some (.int .u8 a[j]) := by
        rw [cell_of_row _ _ _ _ _ _ hgr, show 2 + j = j + 1 + 1 by omega]
        simp [pvL, bV, hka]
      have hc2 : wr.cell? ⟨w.heap.size, 2 + (j + 1), none⟩ = some (.int .u8 a[j + 1]) := by
        rw [cell_of_row _ _ _ _ _ _ hgr, show 2 + (j + 1) = j + 1 + 1 + 1 by omega]
        simp [pvL, bV, hkb]
      have hgn : (grpN a k : Int) = a[j] * 256 + a[j + 1] := by
        unfold grpN; rw [← hjk]; rw [getD_get a _ hka, getD_get a _ hkb]; omega
      have hn : grpN a k < 65536 := by omega
      have hft := digits16_any (grpN a k) (by omega)
      rw [hgn] at hft
      have hsu := jK_succ 58 (grpL a) k (by rw [grpL_len]; exact hlt)
      rw [grpL_get] at hsu
      obtain ⟨x, hx⟩ : ∃ x : Nat, a[j] = (x : Int) := ⟨a[j].toNat, by omega⟩
      obtain ⟨y, hy⟩ : ∃ y : Nat, a[j + 1] = (y : Int) := ⟨a[j + 1].toNat, by omega⟩
      rw [hx] at hc hxa hft
      rw [hy] at hc2 hxb hft
      have hds : (strB (digL 16 (grpN a k))).size ≤ 4 := by
        rw [strB_size]; exact digL_len 16 (by omega) 3 _ (by omega)
      generalize digL 16 (grpN a k) = DL at *
      obtain ⟨D, hDD⟩ : ∃ D, D = strB DL := ⟨_, rfl⟩
      rw [← hDD] at hft hds
      have hw1 : IntKind.i64.wrap ((j : Int) + 1) = (j : Int) + 1 := by rw [IntKind.wrap_i64]; omega
      have hw2 : IntKind.i64.wrap (x : Int) = (x : Int) := by rw [IntKind.wrap_i64]; omega
      have hw3 : IntKind.i64.wrap (y : Int) = (y : Int) := by rw [IntKind.wrap_i64]; omega
      have hw4 : IntKind.i64.wrap ((x : Int) * 256) = (x : Int) * 256 := by rw [IntKind.wrap_i64]; omega
      have hw5 : IntKind.i64.wrap ((x : Int) * 256 + y) = (x : Int) * 256 + y := by rw [IntKind.wrap_i64]; omega
      have hj1 : (0 : Int) ≤ (j : Int) + 1 := by omega
      have hj2 : (j : Int) + 1 < 16 := by omega
      have hj3 : ((j : Int) + 1).toNat = j + 1 := by omega
      have HF := hide (fun W => hft W)
      have HSU := Lib.hid hsu
      have HDD := Lib.hid hDD
      have hi0 : (0 : Int) ≤ (j : Int) := Int.natCast_nonneg _
      have hzr : w.heap.size < wr.heap.size := by omega
      have HJK := Lib.hid hjk
      have HC := hide hc
      have HC2 := hide hc2
      clear hft hsu hgr hgn hx hy hn hDD hjk hc hc2
      rcases Nat.eq_zero_or_pos j with hj00 | hjp
      · have hk00 : k = 0 := by have := HJK.out; omega
        subst hk00
        have hsj : sepL 58 0 = [] := rfl
        have HSJ := Lib.hid hsj
        have hjn : ¬ (0 : Int) < (j : Int) := by omega
        clear hsj hj00
        go_wp2_with fail
        refine wp_region_quietC (fun w' => Below wr.heap.size wr w') (by kernel_rfl) (by kernel_rfl) (Below.refl _ _ |>.drew) ?_
        repeat (first
          | go_big_quiet_skip
          | (go_big_quiet_want
             first
             | (refine quiet_load _ _ rfl ⟨w.heap.size, 2 + j, none⟩ rfl _ Tryd.underlying5 rfl _ (fun w' hw' => cell_below HC.out hw') ?_; go_big_quiet_on; simp only [Act.put, List.setIfInBounds_toArray, List.set_cons_zero, List.set_cons_succ])
             | (refine quiet_load _ _ rfl ⟨w.heap.size, 2 + (j + 1), none⟩ rfl _ Tryd.underlying5 rfl _ (fun w' hw' => cell_below HC2.out hw') ?_; go_big_quiet_on; simp only [Act.put, List.setIfInBounds_toArray, List.set_cons_zero, List.set_cons_succ])
             | (go_big_quiet_op
                first
                  | go_big_quiet_on
                  | (refine ⟨_, fun _ _ => rfl, ?_⟩; go_big_quiet_on)
                  | (refine ⟨_, fun w' hw' => (HF.out w').mono (fun e w1 h => ⟨h.1, hw'.trans (h.2.mono hw'.size)⟩), ?_⟩; go_big_quiet_on))))
        refine wpQuiet_nil ?_
        intro w' hw'
        have HW' := hide hw'
        clear hw'
        go_wp2_with fail
        go_roundw
        case rel => exact ⟨1, j + 2, _, by omega, by have := HJK.out; omega, by go_num, rfl, hide (by rw [HS.out, HDD.out, HSU.out, HSJ.out]; simp only [strB_append]; simp), by simp only [ByteArray.size_append]; omega, hide (HB.out.trans (HW'.out.mono HB.out.size))⟩
        case measure => simp [intOf]; omega
      · have hsj : sepL 58 k = [58] := by unfold sepL; rw [if_pos (by have := HJK.out; omega)]
        have HSJ := Lib.hid hsj
        have hjn : (0 : Int) < (j : Int) := by omega
        clear hsj hjp
        go_wp2_with fail
        refine wp_region_quietC (fun w' => Below wr.heap.size wr w') (by kernel_rfl) (by kernel_rfl) (Below.refl _ _ |>.drew) ?_
        repeat (first
          | go_big_quiet_skip
          | (go_big_quiet_want
             first
             | (refine quiet_load _ _ rfl ⟨w.heap.size, 2 + j, none⟩ rfl _ Tryd.underlying5 rfl _ (fun w' hw' => cell_below HC.out hw') ?_; go_big_quiet_on; simp only [Act.put, List.setIfInBounds_toArray, List.set_cons_zero, List.set_cons_succ])
             | (refine quiet_load _ _ rfl ⟨w.heap.size, 2 + (j + 1), none⟩ rfl _ Tryd.underlying5 rfl _ (fun w' hw' => cell_below HC2.out hw') ?_; go_big_quiet_on; simp only [Act.put, List.setIfInBounds_toArray, List.set_cons_zero, List.set_cons_succ])
             | (go_big_quiet_op
                first
                  | go_big_quiet_on
                  | (refine ⟨_, fun _ _ => rfl, ?_⟩; go_big_quiet_on)
                  | (refine ⟨_, fun w' hw' => (HF.out w').mono (fun e w1 h => ⟨h.1, hw'.trans (h.2.mono hw'.size)⟩), ?_⟩; go_big_quiet_on))))
        refine wpQuiet_nil ?_
        intro w' hw'
        have HW' := hide hw'
        clear hw'
        go_wp2_with fail
        go_roundw
        case rel => exact ⟨k + 1, j + 2, _, by omega, by have := HJK.out; omega, by go_num, rfl, hide (by rw [HS.out, HDD.out, HSU.out, HSJ.out]; simp only [s58_eq, strB_append]), by simp only [ByteArray.size_append, sz58]; omega, hide (HB.out.trans (HW'.out.mono HB.out.size))⟩
        case measure => simp [intOf]; omega
    · have hk8 : k = 8 := by omega
      subst hk8
      have hL : wr.cell? ⟨w.heap.size, 1, none⟩ = some (.int .i64 len) := by rw [cell_of_row _ _ 1 _ _ _ hgr]; rfl
      obtain ⟨x, rfl⟩ : ∃ x : Nat, len = (x : Int) := ⟨len.toNat, by omega⟩
      have hD := digits10_any x (by omega)
      have hds : (strB (digL 10 x)).size ≤ 20 := by
        rw [strB_size]
        exact Nat.le_trans (digL_len 10 (by omega) 19 x (by omega)) (Nat.le_refl _)
      have hts : strB (text6 x a) = strB (jK 58 (grpL a) 8) ++ ⟨#[47]⟩ ++ strB (digL 10 x) := by
        have e1 : (grpL a).take 8 = grpL a := List.take_of_length_le (by rw [grpL_len]; omega)
        rw [s47_eq, strB_append, strB_append]
        unfold text6 jK
        rw [e1, numL_dig, Int.toNat_natCast]
      have HTS := Lib.hid hts
      have HD := hide hD
      have hx0 : (0 : Int) ≤ (x : Int) := Int.natCast_nonneg _
      clear hts hD hgr
      subst hjk
      generalize strB (digL 10 x) = D at *
      go_wp2_with (go_at_call 57; refine (HD.out _).mono ?_; rintro e w3 ⟨rfl, hb3⟩)
      go_ret
      exact ⟨by rw [HTS.out, HS.out]; rfl, B1.out.trans ((HB.out.trans (hb3.mono HB.out.size)).mono (by have := B1.out.size; omega))⟩
theorem rtextN_any (fam len : Int) (a : List Int) (ha : a.length = 16) (hb : Bs a) (w : World) (hv : vF fam len a = false) :
    Calls Tryd.prog 28 #[.agg (pvL fam len a).toArray] w fun e w' => e = .returned (.string ⟨#[]⟩) ∧ Below w.heap.size w w' := by
  have hva := rvalid_any fam len a ha hb
  rw [hv] at hva
  have HV := hide hva
  have hx0 : (pvL fam len a).toArray.extract 0 (0 + 18) = (pvL fam len a).toArray := extract_all _ _ (by simp [pvL_len, ha])
  have hsz : (pvL fam len a).toArray.size = 18 := by simp [pvL_len, ha]
  have HX0 := Lib.hid hx0
  have HSZ := Lib.hid hsz
  clear hva hv hx0 hsz ha hb
  go_enter Tryd.func28, Tryd.ntmps28
  go_wp2_with (first
    | (refine wpList_load_mid rfl _ (.tmp 1) rfl w.heap.size 0 18 rfl 26 _ (0, 0) _ (heap_alloc_new _ _) Tryd.underlying26 rfl pfx_info (by rw [HSZ.out]; exact Nat.le_refl _) ?_
       rw [HX0.out])
    | (go_at_call 14
       refine (HV.out _).mono ?_
       rintro e w1 ⟨rfl, hb1⟩
       have B1 := hide (((Below.refl _ _).alloc (Nat.le_refl _) _).trans (hb1.mono (by simp)))
       clear hb1))
  go_ret
  exact ⟨rfl, B1.out⟩
theorem rtext_any (p : Int × Int × List Int) (ha : p.2.2.length = 16) (hb : Bs p.2.2) (w : World) :
    Calls Tryd.prog 28 #[.agg (pvT p).toArray] w fun e w' => e = .returned (.string (strB (textP p))) ∧ Below w.heap.size w w' := by
  obtain ⟨fam, len, a⟩ := p
  by_cases hv : vF fam len a = true
  · have hr : rangedF fam len = true := by unfold vF at hv; simp at hv; exact hv.1
    obtain ⟨hf, _⟩ := ranged_bd hr
    rcases hf with rfl | rfl
    · have e : textP (1, len, a) = text4 len a := by simp [textP, vT, hv]
      rw [e]; exact rtext4_any len a ha hb w hv
    · have e : textP (2, len, a) = text6 len a := by simp [textP, vT, hv]
      rw [e]; exact rtext6_any len a ha hb w hv
  · have e : textP (fam, len, a) = [] := by simp [textP, vT, hv]
    rw [e]; exact rtextN_any fam len a ha hb w (by simpa using hv)
end Go.Proofs.YtgegloplhlkafaaDoor
