/- The law AttrsLists returns true at every list of attributes and every list of types. -/
import Derived.Test.YtnfclcbhehbchaaGreatDoorLsD
import Derived.Test.YtnfclcbhehbchaaGreatDoorLsH
import Derived.Test.YtnfclcbhehbchaaGreatDoorEquI
import Derived.Test.YtnfclcbhehbchaaGreatDoorUpB
set_option autoImplicit false
namespace Go.Proofs.YtnfclcbhehbchaaGreatDoor
open Go.RowKit

theorem zeroA_ok : AttrOk zeroA := by
  constructor <;> simp [zeroA, Bs, Rts]
theorem small_of_few {d : AttrD} (h : FewA d = true) : Small d := by
  have fb := few_bounds h
  exact ⟨by omega, fun s hs => by have := fb.2.1 s hs; omega, by omega, by omega, by omega⟩
theorem keep_ok {l : List AttrD} {ks : List Int} (h : AttrsOk l) : AttrsOk (keepD l ks) := ⟨Nat.le_trans (keep_len l ks) h.1, fun d hd => h.2 d (keep_mem hd)⟩
theorem findD_ok {l : List AttrD} {k : Int} (h : AttrsOk l) : AttrOk ((findD l k).getD zeroA) := by
  cases e : findD l k with
  | none => exact zeroA_ok
  | some d => exact h.2 d (find_get e)
set_option maxRecDepth 100000 in
set_option maxHeartbeats 4000000 in
theorem alists_large (A K : Option Addr) (c ck : Nat) (l : List AttrD) (ks : List Int) (w : World) (h : AttrsC w w.heap.size A l) (ok : AttrsOk l) (hf : FewL l = false ∨ 30 < ks.length) :
    Calls Tryz.prog 3 #[.slice A l.length c, .slice K ks.length ck] w fun e w' => e = .returned (.bool true) ∧ Below w.heap.size w w' := by
  have hx := rfewL_any A c l w h ok
  have HX := hide hx
  clear hx h
  generalize FewL l = q at HX hf
  cases q
  · go_enter Tryz.func3, Tryz.ntmps3
    go_wp2_with (first
      | (go_at_call 5; refine HX.out.mono ?_; rintro e w1 ⟨rfl, hb1⟩; have B1 := hide hb1; clear hb1)
      | (go_at_call 6; refine (alive14_any _).mono ?_; rintro e w2 ⟨rfl, hb2⟩; have B2 := hide (B1.out.trans (hb2.mono B1.out.size)); clear hb2))
    go_ret
    exact ⟨rfl, B2.out⟩
  · have hq : 30 < ks.length := by rcases hf with h | h; · cases h
                                   · exact h
    have hq1 : (30 : Int) < (ks.length : Int) := by omega
    clear hf
    go_enter Tryz.func3, Tryz.ntmps3
    go_wp2_with (first
      | (go_at_call 5; refine HX.out.mono ?_; rintro e w1 ⟨rfl, hb1⟩; have B1 := hide hb1; clear hb1)
      | (go_at_call 6; refine (alive14_any _).mono ?_; rintro e w2 ⟨rfl, hb2⟩; have B2 := hide (B1.out.trans (hb2.mono B1.out.size)); clear hb2))
    go_ret
    exact ⟨rfl, B2.out⟩
set_option maxRecDepth 100000 in
set_option maxHeartbeats 8000000 in
theorem alists_main (A K : Option Addr) (c ck : Nat) (l : List AttrD) (ks : List Int) (w : World) (h : AttrsC w w.heap.size A l) (ok : AttrsOk l) (hk : Reads w w.heap.size 1 K ks.length (iV ks)) (hf : FewL l = true) (hkl : ks.length ≤ 30) :
    Calls Tryz.prog 3 #[.slice A l.length c, .slice K ks.length ck] w fun e w' => e = .returned (.bool true) ∧ Below w.heap.size w w' := by
  have hx := rfewL_any A c l w h ok
  rw [hf] at hx
  have hfb := few_boundsL hf
  have hm : ∀ d ∈ l, Small d := fun d hd => small_of_few (hfb.2 d hd)
  have hl : l.length ≤ 1000 := by omega
  have hq1 : ¬ (30 : Int) < (ks.length : Int) := by omega
  have H : Hid (∀ W, Below w.heap.size w W → AttrsC W W.heap.size A l) := Lib.hid (fun W hW => (h.below hW).more hW.size)
  have HK : Hid (∀ W, Below w.heap.size w W → Reads W W.heap.size 1 K ks.length (iV ks)) := Lib.hid (fun W hW => (hk.below hW).more hW.size)
  have HM := Lib.hid hm
  have OK := Lib.hid ok
  have HX := hide hx
  have has := attr_size
  have HAS := Lib.hid has
  clear hx h hk hm ok hf hfb has
  go_enter Tryz.func3, Tryz.ntmps3
  go_wp2_with (first
    | (go_at_call 5; refine HX.out.mono ?_; rintro e w1 ⟨rfl, hb1⟩; have B1 := hide hb1; clear hb1)
    | (go_at_call 8
       refine (withoutK_any A K c ck l ks w1 (H.out w1 B1.out) hl (HK.out w1 B1.out) (by omega) HM.out).mono ?_
       rintro e w2 ⟨v2, rfl, ho, hb2⟩
       obtain ⟨A2, c2, rfl, ha2⟩ := ho.attrsC
       have HA2 := Lib.hid ha2
       have B2 := hide (B1.out.trans (hb2.mono B1.out.size))
       clear ho hb2 ha2)
    | (go_at_call 9
       refine (rwithout_any A K c ck l ks w2 (H.out w2 B2.out) hl (HK.out w2 B2.out) (by omega)).mono ?_
       rintro e w3 ⟨v3, rfl, ⟨A3, c3, rfl, ha3⟩, hb3⟩
       have ha23 := (HA2.out.below hb3).more hb3.size
       have hs := rsameL_any A2 A3 c2 c3 (keepD l ks) (keepD l ks) w3 ha23 ha3 (keep_ok OK.out) (keep_ok OK.out)
       rw [decide_eq_true rfl] at hs
       have HS := hide hs
       have B3 := hide (B2.out.trans (hb3.mono B2.out.size))
       clear hb3 ha23 ha3 hs)
    | (go_at_call 7; refine HS.out.mono ?_; rintro e w4 ⟨rfl, hb4⟩; have B4 := hide (B3.out.trans (hb4.mono B3.out.size)); clear hb4)
    | (go_at_call 11
       refine (missing_any A K c ck l ks w4 (H.out w4 B4.out) hl HM.out (HK.out w4 B4.out) (by omega)).mono ?_
       rintro e w5 ⟨v5, rfl, ⟨A5, c5, rfl, hr5⟩, hb5⟩
       have HR5 := Lib.hid hr5
       have B5 := hide (B4.out.trans (hb5.mono B4.out.size))
       clear hb5 hr5)
    | (go_at_call 12
       refine (rmissing_any A K c ck l ks w5 (H.out w5 B5.out) hl (HK.out w5 B5.out) (by omega)).mono ?_
       rintro e w6 ⟨v6, rfl, ⟨A6, c6, rfl, hr6⟩, hb6⟩
       have hr56 := (HR5.out.below hb6).more hb6.size
       have hs := equalI_any A5 A6 c5 c6 (missD l ks) (missD l ks) w6 hr56 hr6 (by have := List.length_filter_le (fun k => !hasD l k) ks; have e : (missD l ks).length = (ks.filter (fun k => !hasD l k)).length := rfl; omega)
       rw [decide_eq_true rfl] at hs
       have HS6 := hide hs
       have B6 := hide (B5.out.trans (hb6.mono B5.out.size))
       clear hb6 hr56 hr6 hs)
    | (go_at_call 10; refine HS6.out.mono ?_; rintro e w7 ⟨rfl, hb7⟩; have B7 := hide (B6.out.trans (hb7.mono B6.out.size)); clear hb7))
  clear HX HS HS6 HA2 HR5
  go_loopw [40] (fun i wr => ∃ k : Nat, k ≤ ks.length ∧ i = .int .i64 k ∧ Below w.heap.size w wr) (fun i _ => ks.length - (intOf i).toNat)
  case atStart => exact ⟨0, Nat.zero_le _, rfl, B7.out⟩
  case round =>
    clear B1 B2 B3 B4 B5 B6 B7
    obtain ⟨k, hk, rfl, hbel⟩ := hrel
    obtain ⟨wo, rfl⟩ : ∃ wo : World, wo = wr := ⟨_, rfl⟩
    have hk0 : (0 : Int) ≤ (k : Int) := Int.natCast_nonneg _
    by_cases hlt : k < ks.length
    · obtain ⟨ap, u, rfl, hap, hxu, hc⟩ := (HK.out wo hbel).at_ hlt
      obtain ⟨x, hx1, rfl⟩ := iV_get hxu
      have hk1 : (k : Int) < (ks.length : Int) := by omega
      have hwz := hbel.size
      have hf := find_any A c l x wo (H.out wo hbel) hl HM.out
      have hg := fun W (hW : Below w.heap.size w W) => rfind_any A c l x W (H.out W hW) hl
      have hdo : AttrOk ((findD l x).getD zeroA) := findD_ok OK.out
      generalize (findD l x).getD zeroA = dd at hf hg hdo
      generalize (findD l x).isSome = q at hf hg
      have HF := hide hf
      have HG := hide hg
      have HDO := Lib.hid hdo
      have HBE := hide hbel
      clear hf hg hdo hbel hxu hx1
      have hqq : (q != q) = false := by simp
      go_wp2_with (first
        | (go_at_call 13; refine HF.out.mono ?_; rintro e w1 ⟨cs, rfl, ha, hb1⟩
           have hn := (attrC_type ha).2
           have h9 : (Tryz.prog.info? 38).map (·.size) = some cs.size := by rw [hn]; exact attr_size
           have HN := Lib.hid hn
           have H9 := Lib.hid h9
           have ho := attrC_one ha
           have HO := Lib.hid ho
           have HA1 := Lib.hid ha
           have HB1 := hide (HBE.out.trans (hb1.mono HBE.out.size))
           clear hb1 hn h9 ho ha)
        | ((with_reducible refine wpList_store_whole (w1.alloc (.cells #[.int .i64 0, .bool false, .int .u32 0, .int .u32 0, .slice none 0 0, .slice none 0 0, .slice none 0 0, .int .i64 0, .slice none 0 0] 38)) ?hg2 38 (.tmp 7) (.tmp 48) ?ho2 w1.heap.size 38 #[.int .i64 0, .bool false, .int .u32 0, .int .u32 0, .slice none 0 0, .slice none 0 0, .slice none 0 0, .int .i64 0, .slice none 0 0] cs ?hx2 ?hp2 (heap_alloc_new _ _) ?hi2 ?hs2 ?hq2 ?_); (case hg2 => rfl); (case ho2 => rfl); (case hx2 => rfl); (case hp2 => rfl); (case hs2 => exact HN.out.symm); (case hi2 => exact H9.out); (case hq2 => exact HO.out)
           intro W2 G2 O2
           have b2 : Below w1.heap.size w1 W2 := ((Below.refl w1.heap.size w1).alloc (Nat.le_refl _) (.cells #[.int .i64 0, .bool false, .int .u32 0, .int .u32 0, .slice none 0 0, .slice none 0 0, .slice none 0 0, .int .i64 0, .slice none 0 0] 38)).grown O2.out (by simp) (fun x hx => by injection hx; omega)
           have B2 := hide (HB1.out.trans (b2.mono HB1.out.size))
           have HA2 := Lib.hid ((HA1.out.below b2).more b2.size)
           clear O2 b2)
        | (go_at_call 14; refine (HG.out W2 B2.out).mono ?_; rintro e w3 ⟨cs3, rfl, ha, hb3⟩
           have hn := (attrC_type ha).2
           have h9 : (Tryz.prog.info? 38).map (·.size) = some cs3.size := by rw [hn]; exact attr_size
           have HN3 := Lib.hid hn
           have H93 := Lib.hid h9
           have ho := attrC_one ha
           have HO3 := Lib.hid ho
           have HA3 := Lib.hid ha
           have HA23 := Lib.hid ((HA2.out.below hb3).more hb3.size)
           have G23 := Lib.hid ((hb3.block _ (lt_of_heapF G2.out)).trans G2.out)
           have lt23 := lt_of_heapF G23.out
           have HB3 := hide (B2.out.trans (hb3.mono B2.out.size))
           clear hb3 hn h9 ho ha)
        | ((with_reducible refine wpList_store_whole (w3.alloc (.cells #[.int .i64 0, .bool false, .int .u32 0, .int .u32 0, .slice none 0 0, .slice none 0 0, .slice none 0 0, .int .i64 0, .slice none 0 0] 38)) ?hg4 38 (.tmp 9) (.tmp 54) ?ho4 w3.heap.size 38 #[.int .i64 0, .bool false, .int .u32 0, .int .u32 0, .slice none 0 0, .slice none 0 0, .slice none 0 0, .int .i64 0, .slice none 0 0] cs3 ?hx4 ?hp4 (heap_alloc_new _ _) ?hi4 ?hs4 ?hq4 ?_); (case hg4 => rfl); (case ho4 => rfl); (case hx4 => rfl); (case hp4 => rfl); (case hs4 => exact HN3.out.symm); (case hi4 => exact H93.out); (case hq4 => exact HO3.out)
           intro W4 G4 O4
           have b4 : Below w3.heap.size w3 W4 := ((Below.refl w3.heap.size w3).alloc (Nat.le_refl _) (.cells #[.int .i64 0, .bool false, .int .u32 0, .int .u32 0, .slice none 0 0, .slice none 0 0, .slice none 0 0, .int .i64 0, .slice none 0 0] 38)).grown O4.out (by simp) (fun x hx => by injection hx; omega)
           have B4 := hide (HB3.out.trans (b4.mono HB3.out.size))
           have G24 := Lib.hid ((b4.block _ lt23).trans G23.out)
           have hs := rsameA_any cs cs3 dd dd W4 ((HA23.out.below b4).more b4.size) ((HA3.out.below b4).more b4.size) HDO.out HDO.out
           rw [decide_eq_true rfl] at hs
           have HS4 := hide hs
           clear O4 b4 hs)
        | ((with_reducible refine wpList_load_wholeL W4 ?hg5 38 (.tmp 7) ?ho5 w1.heap.size 38 cs _ ?hx5 G24.out Tryz.underlying38 ?hd5 ?hi5 ?_); (case hg5 => rfl); (case ho5 => rfl); (case hx5 => rfl); (case hd5 => rfl); (case hi5 => exact H9.out))
        | ((with_reducible refine wpList_load_wholeL W4 ?hg6 38 (.tmp 9) ?ho6 w3.heap.size 38 cs3 _ ?hx6 G4.out Tryz.underlying38 ?hd6 ?hi6 ?_); (case hg6 => rfl); (case ho6 => rfl); (case hx6 => rfl); (case hd6 => rfl); (case hi6 => exact H93.out))
        | (go_at_call 15; refine HS4.out.mono ?_; rintro e w5 ⟨rfl, hb5⟩; have B5 := hide (B4.out.trans (hb5.mono B4.out.size)); clear hb5))
      go_roundw
      case rel => exact ⟨k + 1, by omega, by go_num, B5.out⟩
      case measure => simp [intOf]; omega
    · have hk1 : ¬ (k : Int) < (ks.length : Int) := by omega
      have HBE := hide hbel
      clear hbel
      go_wp2_with (go_at_call 6; refine (alive14_any _).mono ?_; rintro e w2 ⟨rfl, hb2⟩; have B2 := hide (HBE.out.trans (hb2.mono HBE.out.size)); clear hb2)
      go_ret
      exact ⟨rfl, B2.out⟩
theorem alists_any (A K : Option Addr) (c ck : Nat) (l : List AttrD) (ks : List Int) (w : World) (h : AttrsC w w.heap.size A l) (ok : AttrsOk l) (hk : Reads w w.heap.size 1 K ks.length (iV ks)) :
    Calls Tryz.prog 3 #[.slice A l.length c, .slice K ks.length ck] w fun e w' => e = .returned (.bool true) ∧ Below w.heap.size w w' := by
  cases h1 : FewL l with
  | false => exact alists_large A K c ck l ks w h ok (.inl h1)
  | true =>
    by_cases h2 : 30 < ks.length
    · exact alists_large A K c ck l ks w h ok (.inr h2)
    · exact alists_main A K c ck l ks w h ok hk h1 (by omega)
end Go.Proofs.YtnfclcbhehbchaaGreatDoor
