/- prefix.Text at a valid prefix of IPv6, and at every prefix. -/
import Derived.Test.YtgegloplhlkafaaDoorPfxX
import Derived.Test.YtgegloplhlkafaaDoorPfxY
set_option autoImplicit false
namespace Go.Proofs.YtgegloplhlkafaaDoor
open Go.RowKit Go.Sort Go.Shelf

theorem grp_take (l : List (List UInt8)) (j : Nat) (h : j < l.length) : strV (l.take (j + 1)) = strV (l.take j) ++ [.string (strB l[j])] := by
  rw [List.take_succ_eq_append_getElem h]
  simp only [strV, List.map_append, List.map_cons, List.map_nil]
theorem grpL_len (a : List Int) : (grpL a).length = 8 := by simp [grpL]
theorem grpL_get (a : List Int) (k : Nat) (h : k < (grpL a).length) : (grpL a)[k] = digL 16 (grpN a k) := by simp [grpL]
theorem or_bytes (hi lo : Nat) (h2 : lo < 256) : (hi * 256) ||| lo = hi * 256 + lo := by
  rw [show (256 : Nat) = 2 ^ 8 from rfl, Nat.mul_comm hi, ← Nat.two_pow_add_eq_or_of_lt (by simpa using h2)]

set_option maxRecDepth 100000 in
set_option maxHeartbeats 8000000 in
theorem text6_any (len : Int) (a : List Int) (ha : a.length = 16) (hb : Bs a) (w : World) (hv : vF 2 len a = true) (ht : Tab w) (hd : w.cell? ⟨7, 15, none⟩ = some (.int .u8 4)) :
    Calls Tryd.prog 24 #[.agg (pvL 2 len a).toArray] w fun e w' => e = .returned (.string (strB (text6 len a))) ∧ Below w.heap.size w w' := by
  obtain ⟨iu, hu0, hu1, hu2, hu3⟩ := info_parts str_info
  have hr : rangedF 2 len = true := by unfold vF at hv; simp at hv; exact hv.1
  obtain ⟨_, h0, _, _, h1⟩ := ranged_bd hr
  have hva := valid_any 2 len a ha hb
  rw [hv] at hva
  have HV := hide hva
  have hx0 : (pvL 2 len a).toArray.extract 0 (0 + 18) = (pvL 2 len a).toArray := extract_all _ _ (by simp [pvL_len, ha])
  have hsz : (pvL 2 len a).toArray.size = 18 := by simp [pvL_len, ha]
  have hgd : 7 < w.heap.size := lt_cell hd
  have HX0 := Lib.hid hx0
  have HSZ := Lib.hid hsz
  have HA := Lib.hid ha
  have HBS := hide hb
  have HT := hide ht
  have HD := hide (fun W (hb : Below w.heap.size w W) => (hb.cell (p := ⟨7, 15, none⟩) hgd).trans hd)
  clear hva hv hr hx0 hsz ha hb ht hd hgd
  go_enter Tryd.func24, Tryd.ntmps24
  go_wp2_with (first
    | (refine wpList_load_mid rfl _ (.tmp 1) rfl w.heap.size 0 18 rfl 26 _ (0, 0) _ (heap_alloc_new _ _) Tryd.underlying26 rfl pfx_info (by rw [HSZ.out]; exact Nat.le_refl _) ?_
       rw [HX0.out])
    | (go_at_call 19
       refine (HV.out _).mono ?_
       rintro e w1 ⟨rfl, hb1⟩
       have hg1 : w1.heap[w.heap.size]? = some (.cells (pvL 2 len a).toArray 26 (0, 0)) := (hb1.block w.heap.size (by simp)).trans (heap_alloc_new _ _)
       have hF : w1.cell? ⟨w.heap.size, 0, none⟩ = some (.int .i64 2) := by rw [cell_of_row _ _ 0 _ _ _ hg1]; rfl
       have B1 := hide (((Below.refl _ _).alloc (Nat.le_refl _) _).trans (hb1.mono (by simp)))
       have hz1 : w.heap.size < w1.heap.size := lt_of_block hg1
       have G1 := Lib.hid hg1
       clear hg1 hb1))
  go_loopw [3, 7] (fun v i wr => ∃ k j : Nat, k ≤ 8 ∧ j = 2 * k ∧ i = .int .i64 j ∧ wr.ownsRow w1.heap.size 9 1 v k (strV ((grpL a).take k)) ∧ Below w1.heap.size w1 wr) (fun _ i _ => 16 - (intOf i).toNat)
  case atStart => exact ⟨0, 0, Nat.zero_le _, rfl, rfl, by simpa [strV] using World.ownsRow_nil _ _ _ _, Below.refl _ _⟩
  case round =>
    obtain ⟨k, j, hk, hjk, rfl, hown, hbel⟩ := hrel
    have hbz := hbel.size
    have hgr := (hbel.block w.heap.size hz1).trans G1.out
    by_cases hlt : k < 8
    · have hj16 : j < 16 := by omega
      have hka : j < a.length := by have := HA.out; omega
      have hkb : j + 1 < a.length := by have := HA.out; omega
      have hxa := HBS.out.get hka
      have hxb := HBS.out.get hkb
      have hc : wr.cell? ⟨w.heap.size, 2 + j, none⟩ = some (.int .u8 a[j]) := by
        rw [cell_of_row _ _ _ _ _ _ hgr, show 2 + j = j + 1 + 1 by omega]
        simp [pvL, bV, hka]
      have hc2 : wr.cell? ⟨w.heap.size, 2 + (j + 1), none⟩ = some (.int .u8 a[j + 1]) := by
        rw [cell_of_row _ _ _ _ _ _ hgr, show 2 + (j + 1) = j + 1 + 1 + 1 by omega]
        simp [pvL, bV, hkb]
      have hgn : (grpN a k : Int) = a[j] * 256 + a[j + 1] := by
        unfold grpN; rw [← hjk]; rw [getD_get a _ hka, getD_get a _ hkb]; omega
      have hn : grpN a k < 65536 := by omega
      have hft := fun (W : World) (hW : Below w.heap.size w W) => fmt16_any (grpN a k) hn W (HD.out W hW)
      rw [hgn] at hft
      have hsu := grp_take (grpL a) k (by rw [grpL_len]; exact hlt)
      rw [grpL_get] at hsu
      obtain ⟨x, hx⟩ : ∃ x : Nat, a[j] = (x : Int) := ⟨a[j].toNat, by omega⟩
      obtain ⟨y, hy⟩ : ∃ y : Nat, a[j + 1] = (y : Int) := ⟨a[j + 1].toNat, by omega⟩
      rw [hx] at hc hxa hft
      rw [hy] at hc2 hxb hft
      have hor : bits .or .i64 ((x : Int) * 256) (y : Int) = (x : Int) * 256 + y := by
        have hxn : x < 256 := by omega
        have e := i64_or_nat (x * 256) y (by omega) (by omega)
        rw [or_bytes x y (by omega)] at e
        push_cast at e
        exact e
      have hw1 : IntKind.i64.wrap ((j : Int) + 1) = (j : Int) + 1 := by rw [IntKind.wrap_i64]; omega
      have hw2 : IntKind.i64.wrap (x : Int) = (x : Int) := by rw [IntKind.wrap_i64]; omega
      have hw3 : IntKind.i64.wrap (y : Int) = (y : Int) := by rw [IntKind.wrap_i64]; omega
      have hw4 : IntKind.i64.wrap ((x : Int) * 256) = (x : Int) * 256 := by rw [IntKind.wrap_i64]; omega
      have hj1 : (0 : Int) ≤ (j : Int) + 1 := by omega
      have hj2 : (j : Int) + 1 < 16 := by omega
      have hj3 : ((j : Int) + 1).toNat = j + 1 := by omega
      have HF := hide hft
      have HSU := Lib.hid hsu
      have HOWN := hide hown
      have HBEL := hide hbel
      have hb0 : Below w.heap.size w wr := B1.out.trans (hbel.mono (by have := B1.out.size; omega))
      have HB0 := hide hb0
      have hx0 : (0 : Int) ≤ (x : Int) := Int.natCast_nonneg _
      have hy0 : (0 : Int) ≤ (y : Int) := Int.natCast_nonneg _
      have hi0 : (0 : Int) ≤ (j : Int) := Int.natCast_nonneg _
      have hzr : w.heap.size < wr.heap.size := by omega
      have HJK := Lib.hid hjk
      clear hft hsu hown hbel hgr hb0 hgn hx hy hn hjk
      generalize strB (digL 16 (grpN a k)) = S at *
      go_wp2_with fail
      go_region_law (first
        | (go_simp; go_at_call 54; refine (HF.out _ HB0.out.drew).mono ?_; rintro e w6 ⟨rfl, hb6⟩
           have hr6 : w6.ownsRow w1.heap.size 9 1 u3 k (strV ((grpL a).take k)) := own_keep HOWN.out fun b hb => hb6.block b (HOWN.out.lt b hb).2
           have hb06 : Below w1.heap.size w1 w6 := HBEL.out.trans (Below.mono (w := wr) ⟨hb6.os, hb6.tape, hb6.output, hb6.size, hb6.block⟩ hbz)
           have HR6 := hide hr6
           have HB6 := hide hb06
           clear hr6 hb06 hb6)
        | (refine step_append_lies _ rfl (.tmp 32) (.tmp 47) _ rfl w1.heap.size 9 iu _ 1 16 Tryd.underlying79 hu0 hu1 hu2 hu3 rfl (by omega) u3 k _ rfl (HR6.out.alloc _)
             ⟨w6.heap.size, 0, none⟩ 1 1 [.string S] rfl rfl (World.news_of_block (cs := #[.string S]) (t := 9) (fr := (0, 0)) (heap_alloc_new w6 _)) (by simp [Value.oneCell'])
             (by omega) (by simp only [maxLen]; omega) (by omega) (by have := HB6.out.size; simp; omega) _ rfl ?_
           intro g cap w7 hown7 hgrow hat hltg
           have hb7 : Below w1.heap.size w1 w7 := (HB6.out.alloc HB6.out.size _).grown hgrow (by have := HB6.out.size; simp; omega) (fun x hx => (HR6.out.lt x hx).1)
           have Q1 := hide hown7
           have Q3 := hide hb7
           clear hown7 hgrow hat hb7)
        | (trace_state; fail))
      all_goals
        go_wp2
        go_roundw
        case rel => exact ⟨k + 1, j + 2, by omega, by have := HJK.out; omega, by go_num, by rw [HSU.out]; exact Q1.out, Q3.out⟩
        case measure => simp [intOf]; omega
    · have hk8 : k = 8 := by omega
      subst hk8
      have hL : wr.cell? ⟨w.heap.size, 1, none⟩ = some (.int .i64 len) := by rw [cell_of_row _ _ 1 _ _ _ hgr]; rfl
      have htl : (grpL a).length = 8 := grpL_len a
      have htk : (grpL a).take 8 = grpL a := List.take_of_length_le (by omega)
      rw [htk] at hown
      have hjb : ∀ x ∈ grpL a, x.length ≤ 4 := by
        intro x hx
        simp only [grpL, List.mem_map, List.mem_range] at hx
        obtain ⟨y, hy, rfl⟩ := hx
        have := grpN_le a HBS.out y
        exact digL_len 16 (by omega) 3 _ (by omega)
      have hjl := join_le 4 1 (grpL a) [58] (by simp) hjb
      rw [htl] at hjl
      have hb0 : Below w.heap.size w wr := B1.out.trans (hbel.mono (by have := B1.out.size; omega))
      have hJ : ∀ w', Below wr.heap.size wr w' → Calls Tryd.prog 55 #[u3, .string (strB [58])] w' fun e w'' => e = .returned (.string (strB (Lib.join (grpL a) [58]))) ∧ Below wr.heap.size wr w'' := fun w' hb' =>
        (join_own (grpL a) [58] (own_keep hown fun b hb => hb'.block b (hown.lt b hb).2) htl.symm (by omega) (by omega)).mono fun e w'' ⟨h1, h2⟩ => ⟨h1, hb'.trans (h2.mono hb'.size)⟩
      have hI : ∀ w', Below wr.heap.size wr w' → Calls Tryd.prog 53 #[.int .i64 len] w' fun e w'' => e = .returned (.string (strB (numL len))) ∧ Below wr.heap.size wr w'' := fun w' hb' =>
        (itoa_any len h0 (by omega) w' (HT.out.below (hb0.trans (hb'.mono hb0.size)))).mono fun e w'' ⟨h1, h2⟩ => ⟨h1, hb'.trans (h2.mono hb'.size)⟩
      have hS : strB [58] = ⟨#[58]⟩ := rfl
      have hnl := numL_le len (by omega)
      have hts : strB (text6 len a) = strB (Lib.join (grpL a) [58]) ++ ⟨#[47]⟩ ++ strB (numL len) := by
        apply ByteArray.ext; simp [text6, strB, ByteArray.data_append]
      rw [hS] at hJ
      have hz1J : (strB (Lib.join (grpL a) [58])).size ≤ 40 := by show (Lib.join (grpL a) [58]).length ≤ _; omega
      have hz2J : (strB (numL len)).size ≤ 20 := hnl
      have HTS := Lib.hid hts
      generalize strB (Lib.join (grpL a) [58]) = SJ at *
      generalize strB (numL len) = SN at *
      have HJ := hide hJ
      have HI := hide hI
      have HL := hide hL
      have HB0 := hide hb0
      clear hJ hI hL htl hjb hjl hS hts hown hbel hgr hb0 hnl htk
      subst hjk
      go_wp2_with fail
      refine wp_region_quietC (fun w' => Below wr.heap.size wr w') (by kernel_rfl) (by kernel_rfl) (Below.refl _ _ |>.drew) ?_
      repeat (first
        | go_big_quiet_skip
        | (go_big_quiet_want
           first
           | (refine quiet_load _ _ rfl ⟨w.heap.size, 1, none⟩ rfl _ Tryd.underlying3 rfl _ (fun w' hw' => cell_below HL.out hw') ?_; go_big_quiet_on; simp only [Act.put, List.setIfInBounds_toArray, List.set_cons_zero, List.set_cons_succ])
           | (go_big_quiet_op
              first
                | go_big_quiet_on
                | (refine ⟨_, fun _ _ => rfl, ?_⟩; go_big_quiet_on)
                | (refine ⟨_, fun _ hw' => HJ.out _ hw', ?_⟩; go_big_quiet_on)
                | (refine ⟨_, fun _ hw' => HI.out _ hw', ?_⟩; go_big_quiet_on))))
      refine wpQuiet_nil ?_
      intro w' hw'
      have HW' := hide hw'
      clear hw'
      go_wp2
      go_ret
      exact ⟨by rw [HTS.out]; rfl, HB0.out.trans (HW'.out.mono HB0.out.size)⟩

/-- What prefix.Text needs of the world. -/
def Tab6 (w : World) : Prop := Tab w ∧ w.cell? ⟨7, 15, none⟩ = some (.int .u8 4)
theorem Tab6.below {w w' : World} (h : Tab6 w) (hb : Below w.heap.size w w') : Tab6 w' :=
  ⟨h.1.below hb, (hb.cell (p := ⟨7, 15, none⟩) (lt_cell h.2)).trans h.2⟩
theorem textN_any (fam len : Int) (a : List Int) (ha : a.length = 16) (hb : Bs a) (w : World) (hv : vF fam len a = false) :
    Calls Tryd.prog 24 #[.agg (pvL fam len a).toArray] w fun e w' => e = .returned (.string ⟨#[]⟩) ∧ Below w.heap.size w w' := by
  have hva := valid_any fam len a ha hb
  rw [hv] at hva
  have HV := hide hva
  have hx0 : (pvL fam len a).toArray.extract 0 (0 + 18) = (pvL fam len a).toArray := extract_all _ _ (by simp [pvL_len, ha])
  have hsz : (pvL fam len a).toArray.size = 18 := by simp [pvL_len, ha]
  have HX0 := Lib.hid hx0
  have HSZ := Lib.hid hsz
  clear hva hv hx0 hsz ha hb
  go_enter Tryd.func24, Tryd.ntmps24
  go_wp2_with (first
    | (refine wpList_load_mid rfl _ (.tmp 1) rfl w.heap.size 0 18 rfl 26 _ (0, 0) _ (heap_alloc_new _ _) Tryd.underlying26 rfl pfx_info (by rw [HSZ.out]; exact Nat.le_refl _) ?_
       rw [HX0.out])
    | (go_at_call 19
       refine (HV.out _).mono ?_
       rintro e w1 ⟨rfl, hb1⟩
       have B1 := hide (((Below.refl _ _).alloc (Nat.le_refl _) _).trans (hb1.mono (by simp)))
       clear hb1))
  go_ret
  exact ⟨rfl, B1.out⟩
theorem text_any (p : Int × Int × List Int) (ha : p.2.2.length = 16) (hb : Bs p.2.2) (w : World) (ht : Tab6 w) :
    Calls Tryd.prog 24 #[.agg (pvL p.1 p.2.1 p.2.2).toArray] w fun e w' => e = .returned (.string (strB (textP p))) ∧ Below w.heap.size w w' := by
  obtain ⟨fam, len, a⟩ := p
  by_cases hv : vF fam len a = true
  · have hr : rangedF fam len = true := by unfold vF at hv; simp at hv; exact hv.1
    obtain ⟨hf, _⟩ := ranged_bd hr
    rcases hf with rfl | rfl
    · have e : textP (1, len, a) = text4 len a := by simp [textP, vT, hv]
      rw [e]; exact text4_any len a ha hb w hv ht.1
    · have e : textP (2, len, a) = text6 len a := by simp [textP, vT, hv]
      rw [e]; exact text6_any len a ha hb w hv ht.1 ht.2
  · have e : textP (fam, len, a) = [] := by simp [textP, vT, hv]
    rw [e]; exact textN_any fam len a ha hb w (by simpa using hv)
end Go.Proofs.YtgegloplhlkafaaDoor
