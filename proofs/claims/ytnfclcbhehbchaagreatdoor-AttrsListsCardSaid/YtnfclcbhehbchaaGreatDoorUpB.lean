/- Lists of attributes and of routes compared: by the reference and by the program. -/
import Derived.Test.YtnfclcbhehbchaaGreatDoorUpA
set_option autoImplicit false
namespace Go.Proofs.YtnfclcbhehbchaaGreatDoor
open Go.RowKit

set_option maxRecDepth 100000 in
set_option maxHeartbeats 8000000 in
theorem rsameL_any (A A2 : Option Addr) (c c2 : Nat) (a b : List AttrD) (w : World) (h : AttrsC w w.heap.size A a) (h2 : AttrsC w w.heap.size A2 b) (oka : AttrsOk a) (okb : AttrsOk b) :
    Calls Tryz.prog 7 #[.slice A a.length c, .slice A2 b.length c2] w fun e w' => e = .returned (.bool (decide (a = b))) ∧ Below w.heap.size w w' := by
  have H1 := Lib.hid h
  have H2 := Lib.hid h2
  have OKA := Lib.hid oka
  have OKB := Lib.hid okb
  clear h h2 oka okb
  by_cases hlen : a.length = b.length
  · have hne : ((a.length : Int) != (b.length : Int)) = false := by simp [hlen]
    have HL := Lib.hid hlen
    clear hlen
    go_enter Tryz.func7, Tryz.ntmps7
    go_wp2_with fail
    go_loopw [5] (fun i wr => ∃ k : Nat, k ≤ a.length ∧ i = .int .i64 k ∧ Hid (a.take k = b.take k) ∧ Below w.heap.size w wr) (fun i _ => a.length - (intOf i).toNat)
    case atStart => exact ⟨0, Nat.zero_le _, rfl, by show _ = _; rfl, Below.refl _ _⟩
    case round =>
      obtain ⟨k, hk, rfl, hpre, hbel⟩ := hrel
      obtain ⟨wo, rfl⟩ : ∃ wo : World, wo = wr := ⟨_, rfl⟩
      by_cases hlt : k < a.length
      · have hlt2 : k < b.length := by have := HL.out; omega
        obtain ⟨ap, ca, rfl, hap, hca, haa, h9a⟩ := (H1.out.below hbel).at_ hlt
        obtain ⟨bp, cb, rfl, hbp, hcb, hab, h9b⟩ := (H2.out.below hbel).at_ hlt2
        have ok1 := OKA.out.2 _ (List.getElem_mem hlt)
        have ok2 := OKB.out.2 _ (List.getElem_mem hlt2)
        have hl := OKA.out.1
        have hsa : (Tryz.prog.info? 38).map (·.size) = some ca.length := by rw [h9a]; exact attr_size
        have hsb : (Tryz.prog.info? 38).map (·.size) = some cb.length := by rw [h9b]; exact attr_size
        have hbz := hbel.size

        have hmv : ∀ (w' : World), Below wo.heap.size wo w' → ∀ (p : Addr) (cs : List Value), p.block < w.heap.size → (∀ (j : Nat) (v : Value), cs[j]? = some v → wo.cell? (p.add j) = some v) → ∀ (j : Nat) (v : Value), cs[j]? = some v → w'.cell? (p.add j) = some v := fun w' hw' p cs hp hc j v hv =>
          (hw'.cell (p := p.add j) (by rw [block_of_add]; omega)).trans (hc j v hv)
        have hcon : ∀ w', Below wo.heap.size wo w' → Calls Tryz.prog 15 #[.agg ca.toArray, .agg cb.toArray] w' fun e w'' => e = .returned (.bool (decide (a[k] = b[k]))) ∧ Below w'.heap.size w' w'' := fun w' hw' =>
          rsameA_any ca.toArray cb.toArray a[k] b[k] w' ((haa.below (hw'.mono hbz)).more (Nat.le_trans hbz hw'.size)) ((hab.below (hw'.mono hbz)).more (Nat.le_trans hbz hw'.size)) ok1 ok2
        have HSA := Lib.hid hsa
        have HSB := Lib.hid hsb
        have HCA := Lib.hid (fun w' hw' => hmv w' hw' (ap.add (k * 9)) ca (by rw [block_of_add]; exact hap) hca)
        have HCB := Lib.hid (fun w' hw' => hmv w' hw' (bp.add (k * 9)) cb (by rw [block_of_add]; exact hbp) hcb)
        have HBE := hide hbel
        clear hsa hsb hca hcb haa hab h9a h9b hbel hmv ok1 ok2
        have hi0 : (0 : Int) ≤ (k : Int) := Int.natCast_nonneg _
        have hi1 : (k : Int) < (a.length : Int) := by omega
        have hi2 : (k : Int) < (b.length : Int) := by omega
        by_cases exy : a[k] = b[k]
        · rw [decide_eq_true exy] at hcon
          have HCON := Lib.hid hcon
          have EXY := Lib.hid exy
          clear exy hcon 
          go_wp2_with fail
          refine wp_region_quietC (fun w' => Below wo.heap.size wo w') (by kernel_rfl) (by kernel_rfl) (Below.refl _ _ |>.drew) ?_
          repeat (first
            | go_big_quiet_skip
            | (go_big_quiet_want
               first
               | (refine quiet_loadA _ _ rfl (ap.add (k * 9)) rfl (.agg ca.toArray) (fun w' hw' => run_loadVar_at w' _ _ _ _ (HCA.out w' hw') Tryz.underlying38 rfl HSA.out) ?_; go_big_quiet_on; simp only [Act.put, List.setIfInBounds_toArray, List.set_cons_zero, List.set_cons_succ])
               | (refine quiet_loadA _ _ rfl (bp.add (k * 9)) rfl (.agg cb.toArray) (fun w' hw' => run_loadVar_at w' _ _ _ _ (HCB.out w' hw') Tryz.underlying38 rfl HSB.out) ?_; go_big_quiet_on; simp only [Act.put, List.setIfInBounds_toArray, List.set_cons_zero, List.set_cons_succ])
               | (go_big_quiet_op
                  first
                    | go_big_quiet_on
                    | (refine ⟨_, fun _ _ => rfl, ?_⟩; go_big_quiet_on)
                    | (with_reducible refine ⟨.bool true, fun w' hw' => (HCON.out w' hw').mono ?_, ?_⟩; exact (fun e w1 h => ⟨h.1, hw'.trans (h.2.mono hw'.size)⟩); go_big_quiet_on)
                    | (with_reducible refine ⟨.bool false, fun w' hw' => (HCON.out w' hw').mono ?_, ?_⟩; exact (fun e w1 h => ⟨h.1, hw'.trans (h.2.mono hw'.size)⟩); go_big_quiet_on))))
          refine wpQuiet_nil ?_
          intro wq hwq
          have HBF := hide (HBE.out.trans (hwq.mono HBE.out.size))
          clear hwq
          go_wp2
          go_roundw
          case rel => exact ⟨k + 1, by omega, by go_num, take_succ_eq _ _ k hlt hlt2 hpre.out EXY.out, HBF.out⟩
          case measure => simp [intOf]; omega
        · rw [decide_eq_false exy] at hcon
          have HCON := Lib.hid hcon
          have EXY := Lib.hid exy
          clear exy hcon 
          go_wp2_with fail
          refine wp_region_quietC (fun w' => Below wo.heap.size wo w') (by kernel_rfl) (by kernel_rfl) (Below.refl _ _ |>.drew) ?_
          repeat (first
            | go_big_quiet_skip
            | (go_big_quiet_want
               first
               | (refine quiet_loadA _ _ rfl (ap.add (k * 9)) rfl (.agg ca.toArray) (fun w' hw' => run_loadVar_at w' _ _ _ _ (HCA.out w' hw') Tryz.underlying38 rfl HSA.out) ?_; go_big_quiet_on; simp only [Act.put, List.setIfInBounds_toArray, List.set_cons_zero, List.set_cons_succ])
               | (refine quiet_loadA _ _ rfl (bp.add (k * 9)) rfl (.agg cb.toArray) (fun w' hw' => run_loadVar_at w' _ _ _ _ (HCB.out w' hw') Tryz.underlying38 rfl HSB.out) ?_; go_big_quiet_on; simp only [Act.put, List.setIfInBounds_toArray, List.set_cons_zero, List.set_cons_succ])
               | (go_big_quiet_op
                  first
                    | go_big_quiet_on
                    | (refine ⟨_, fun _ _ => rfl, ?_⟩; go_big_quiet_on)
                    | (with_reducible refine ⟨.bool true, fun w' hw' => (HCON.out w' hw').mono ?_, ?_⟩; exact (fun e w1 h => ⟨h.1, hw'.trans (h.2.mono hw'.size)⟩); go_big_quiet_on)
                    | (with_reducible refine ⟨.bool false, fun w' hw' => (HCON.out w' hw').mono ?_, ?_⟩; exact (fun e w1 h => ⟨h.1, hw'.trans (h.2.mono hw'.size)⟩); go_big_quiet_on))))
          refine wpQuiet_nil ?_
          intro wq hwq
          have HBF := hide (HBE.out.trans (hwq.mono HBE.out.size))
          clear hwq
          go_wp2
          go_ret
          exact ⟨ret_bool (decide_eq_false (ne_of_get _ _ k hlt hlt2 EXY.out)).symm, HBF.out⟩
      · have HB := hide hbel
        clear hbel
        go_wp2
        go_ret
        refine ⟨ret_bool (decide_eq_true ?_).symm, HB.out⟩
        have e1 := hpre.out
        rw [List.take_of_length_le (by omega), List.take_of_length_le (by have := HL.out; omega)] at e1
        exact e1
  · have hne : ((a.length : Int) != (b.length : Int)) = true := by simp; omega
    have HL := Lib.hid hlen
    clear hlen
    go_enter Tryz.func7, Tryz.ntmps7
    go_wp2
    go_ret
    exact ⟨ret_bool (decide_eq_false (fun e => HL.out (by rw [e]))).symm, Below.refl _ _⟩
theorem attrC_one {w : World} {B : Nat} {cs : Array Value} {d : AttrD} (h : AttrC w B cs d) : ∀ v ∈ cs.toList, v.oneCell' = true := by
  obtain ⟨A1, c1, A2, c2, A3, c3, A4, c4, rfl, _⟩ := h; simp [Value.oneCell']
set_option maxRecDepth 100000 in
set_option maxHeartbeats 8000000 in
theorem route_any (x y : Rt) (hx : x.2.2.2.length = 16 ∧ WfR x) (hy : y.2.2.2.length = 16 ∧ WfR y) (w : World) : Calls Tryz.prog 40 #[.agg (rtV x).toArray, .agg (rtV y).toArray] w fun e w' => e = .returned (.bool (decide (x = y))) ∧ Below w.heap.size w w' := by
  obtain ⟨W0, hW0⟩ : ∃ W0, W0 = (w.alloc (.cells (rtV x).toArray 55)).alloc (.cells (rtV y).toArray 55) := ⟨_, rfl⟩
  have g0 : W0.heap[w.heap.size]? = some (.cells (rtV x).toArray 55 (0, 0)) := by rw [hW0]; exact heap_alloc2_old _ _ _
  have g1 : W0.heap[w.heap.size + 1]? = some (.cells (rtV y).toArray 55 (0, 0)) := by rw [hW0]; exact heap_alloc2_new _ _ _
  have hb : Below w.heap.size w W0 := by rw [hW0]; exact ((Below.refl _ _).alloc (Nat.le_refl _) _).alloc (by simp) _
  have heq := fun w => rt_eq x y hx hy w
  have hsx : (Tryz.prog.info? 55).map (·.size) = some (rtV x).toArray.size := by rw [List.size_toArray, rtV_len hx.1]; exact rt_size
  have hsy : (Tryz.prog.info? 55).map (·.size) = some (rtV y).toArray.size := by rw [List.size_toArray, rtV_len hy.1]; exact rt_size
  have G0 := Lib.hid g0
  have G1 := Lib.hid g1
  have HB := hide hb
  have HW := Lib.hid hW0
  have HSX := Lib.hid hsx
  have HSY := Lib.hid hsy
  generalize decide (x = y) = q at *
  clear g0 g1 hb hW0 hsx hsy hx hy
  generalize (rtV x).toArray = VX at *
  generalize (rtV y).toArray = VY at *
  go_enter Tryz.func40, Tryz.ntmps40
  go_wp2_with (first
    | (rw [← HW.out]; (with_reducible refine wpList_load_wholeF W0 ?hg1 55 (.tmp 2) ?ho1 w.heap.size 55 VX _ ?hx1 G0.out Tryz.underlying55 ?hd1 ?hi1 ?_); (case hg1 => rfl); (case ho1 => rfl); (case hx1 => rfl); (case hd1 => rfl); (case hi1 => exact HSX.out))
    | ((with_reducible refine wpList_load_wholeF W0 ?hg2 55 (.tmp 3) ?ho2 (w.heap.size + 1) 55 VY _ ?hx2 G1.out Tryz.underlying55 ?hd2 ?hi2 ?_); (case hg2 => rfl); (case ho2 => rfl); (case hx2 => rfl); (case hd2 => rfl); (case hi2 => exact HSY.out)))
  go_ret
  exact ⟨rfl, HB.out⟩
set_option maxRecDepth 100000 in
set_option maxHeartbeats 8000000 in
theorem equalA_any (A A2 : Option Addr) (c c2 : Nat) (a b : List AttrD) (w : World) (h : AttrsC w w.heap.size A a) (h2 : AttrsC w w.heap.size A2 b) (oka : AttrsOk a) (okb : AttrsOk b) :
    Calls Tryz.prog 58 #[.slice A a.length c, .slice A2 b.length c2, .func (.func 42) #[] #[]] w fun e w' => e = .returned (.bool (decide (a = b))) ∧ Below w.heap.size w w' := by
  have H1 := Lib.hid h
  have H2 := Lib.hid h2
  have OKA := Lib.hid oka
  have OKB := Lib.hid okb
  clear h h2 oka okb
  by_cases hlen : a.length = b.length
  · have hne : ((a.length : Int) != (b.length : Int)) = false := by simp [hlen]
    have HL := Lib.hid hlen
    clear hlen
    go_enter Tryz.func58, Tryz.ntmps58
    go_wp2_with fail
    go_loopw [17] (fun i wr => ∃ k : Nat, k ≤ a.length ∧ i = .int .i64 k ∧ Hid (a.take k = b.take k) ∧ Below w.heap.size w wr) (fun i _ => a.length - (intOf i).toNat)
    case atStart => exact ⟨0, Nat.zero_le _, rfl, by show _ = _; rfl, Below.refl _ _⟩
    case round =>
      obtain ⟨k, hk, rfl, hpre, hbel⟩ := hrel
      obtain ⟨wo, rfl⟩ : ∃ wo : World, wo = wr := ⟨_, rfl⟩
      by_cases hlt : k < a.length
      · have hlt2 : k < b.length := by have := HL.out; omega
        obtain ⟨ap, ca, rfl, hap, hca, haa, h9a⟩ := (H1.out.below hbel).at_ hlt
        obtain ⟨bp, cb, rfl, hbp, hcb, hab, h9b⟩ := (H2.out.below hbel).at_ hlt2
        have ok1 := OKA.out.2 _ (List.getElem_mem hlt)
        have ok2 := OKB.out.2 _ (List.getElem_mem hlt2)
        have hl := OKA.out.1
        have hsa : (Tryz.prog.info? 38).map (·.size) = some ca.length := by rw [h9a]; exact attr_size
        have hsb : (Tryz.prog.info? 38).map (·.size) = some cb.length := by rw [h9b]; exact attr_size
        have hbz := hbel.size

        have hmv : ∀ (w' : World), Below wo.heap.size wo w' → ∀ (p : Addr) (cs : List Value), p.block < w.heap.size → (∀ (j : Nat) (v : Value), cs[j]? = some v → wo.cell? (p.add j) = some v) → ∀ (j : Nat) (v : Value), cs[j]? = some v → w'.cell? (p.add j) = some v := fun w' hw' p cs hp hc j v hv =>
          (hw'.cell (p := p.add j) (by rw [block_of_add]; omega)).trans (hc j v hv)
        have hcon : ∀ w', Below wo.heap.size wo w' → Calls Tryz.prog 42 #[.agg ca.toArray, .agg cb.toArray] w' fun e w'' => e = .returned (.bool (decide (a[k] = b[k]))) ∧ Below w'.heap.size w' w'' := fun w' hw' => vsameA_any ca.toArray cb.toArray a[k] b[k] w' ((haa.below (hw'.mono hbz)).more (Nat.le_trans hbz hw'.size)) ((hab.below (hw'.mono hbz)).more (Nat.le_trans hbz hw'.size)) ok1 ok2
        have HSA := Lib.hid hsa
        have HSB := Lib.hid hsb
        have HCA := Lib.hid (fun w' hw' => hmv w' hw' (ap.add (k * 9)) ca (by rw [block_of_add]; exact hap) hca)
        have HCB := Lib.hid (fun w' hw' => hmv w' hw' (bp.add (k * 9)) cb (by rw [block_of_add]; exact hbp) hcb)
        have HBE := hide hbel
        have HZ := Lib.hid attr_size
        have H9A := Lib.hid h9a
        have H9B := Lib.hid h9b
        have HAA := Lib.hid haa
        have HAB := Lib.hid hab
        clear hsa hsb hca hcb haa hab h9a h9b hbel hmv ok1 ok2 HZ
        have hi0 : (0 : Int) ≤ (k : Int) := Int.natCast_nonneg _
        have hi1 : (k : Int) < (a.length : Int) := by omega
        have hi2 : (k : Int) < (b.length : Int) := by omega
        by_cases exy : a[k] = b[k]
        · rw [decide_eq_true exy] at hcon
          have HCON := Lib.hid hcon
          have EXY := Lib.hid exy
          clear exy hcon 
          go_wp2_with (first
            | ((with_reducible refine wpList_load_at wo ?hga1 38 (.tmp 20) ?hoa1 (ap.add (k * 9)) ca _ ?hxa1 (HCA.out wo (Below.refl _ _)) Tryz.underlying38 ?hda1 ?hia1 ?_); (case hga1 => rfl); (case hoa1 => rfl); (case hxa1 => rfl); (case hda1 => rfl); (case hia1 => exact HSA.out))
            | ((with_reducible refine wpList_store_whole (wo.alloc (.cells #[.int .i64 0, .bool false, .int .u32 0, .int .u32 0, .slice none 0 0, .slice none 0 0, .slice none 0 0, .int .i64 0, .slice none 0 0] 38)) ?hgb1 38 (.tmp 8) (.tmp 21) ?hob1 wo.heap.size 38 #[.int .i64 0, .bool false, .int .u32 0, .int .u32 0, .slice none 0 0, .slice none 0 0, .slice none 0 0, .int .i64 0, .slice none 0 0] ca.toArray ?hxb1 ?hpb1 (heap_alloc_new _ _) ?hib1 ?hsb1 ?hqb1 ?_); (case hgb1 => rfl); (case hob1 => rfl); (case hxb1 => rfl); (case hpb1 => rfl); (case hsb1 => exact (by show 9 = ca.toArray.size; simp [H9A.out])); (case hib1 => exact (by simpa using HSA.out)); (case hqb1 => exact (attrC_one HAA.out))
               intro W1 G1 O1
               have hb1 : Below wo.heap.size wo W1 := ((Below.refl _ _).alloc (Nat.le_refl _) _).grown O1.out (by simp) (fun x hx => by injection hx; omega)
               have B1 := hide hb1
               have hz1 := lt_of_heapF G1.out
               clear hb1)
            | ((with_reducible refine wpList_load_at W1 ?hgc1 38 (.tmp 24) ?hoc1 (bp.add (k * 9)) cb _ ?hxc1 (HCB.out W1 B1.out) Tryz.underlying38 ?hdc1 ?hic1 ?_); (case hgc1 => rfl); (case hoc1 => rfl); (case hxc1 => rfl); (case hdc1 => rfl); (case hic1 => exact HSB.out))
            | ((with_reducible refine wpList_store_whole (W1.alloc (.cells #[.int .i64 0, .bool false, .int .u32 0, .int .u32 0, .slice none 0 0, .slice none 0 0, .slice none 0 0, .int .i64 0, .slice none 0 0] 38)) ?hgd1 38 (.tmp 9) (.tmp 25) ?hod1 W1.heap.size 38 #[.int .i64 0, .bool false, .int .u32 0, .int .u32 0, .slice none 0 0, .slice none 0 0, .slice none 0 0, .int .i64 0, .slice none 0 0] cb.toArray ?hxd1 ?hpd1 (heap_alloc_new _ _) ?hid1 ?hsd1 ?hqd1 ?_); (case hgd1 => rfl); (case hod1 => rfl); (case hxd1 => rfl); (case hpd1 => rfl); (case hsd1 => exact (by show 9 = cb.toArray.size; simp [H9B.out])); (case hid1 => exact (by simpa using HSB.out)); (case hqd1 => exact (attrC_one HAB.out))
               intro W2 G2 O2
               have hb2 : Below W1.heap.size W1 W2 := ((Below.refl _ _).alloc (Nat.le_refl _) _).grown O2.out (by simp) (fun x hx => by injection hx; omega)
               have g1 := (hb2.block _ hz1).trans G1.out
               have G1' := Lib.hid g1
               have B2 := hide (B1.out.trans (hb2.mono B1.out.size))
               clear hb2 g1)
            | ((with_reducible refine wpList_load_wholeF W2 ?hge1 38 (.tmp 8) ?hoe1 wo.heap.size 38 ca.toArray _ ?hxe1 G1'.out Tryz.underlying38 ?hde1 ?hie1 ?_); (case hge1 => rfl); (case hoe1 => rfl); (case hxe1 => rfl); (case hde1 => rfl); (case hie1 => exact (by simpa using HSA.out)))
            | ((with_reducible refine wpList_load_wholeF W2 ?hgf1 38 (.tmp 9) ?hof1 W1.heap.size 38 cb.toArray _ ?hxf1 G2.out Tryz.underlying38 ?hdf1 ?hif1 ?_); (case hgf1 => rfl); (case hof1 => rfl); (case hxf1 => rfl); (case hdf1 => rfl); (case hif1 => exact (by simpa using HSB.out)))
            | (go_at_call 42; refine (HCON.out W2 B2.out).mono ?_; rintro e w3 ⟨rfl, hb3⟩
               have HBF := hide (HBE.out.trans ((B2.out.trans (hb3.mono B2.out.size)).mono HBE.out.size))
               clear hb3))
          go_roundw
          case rel => exact ⟨k + 1, by omega, by go_num, take_succ_eq _ _ k hlt hlt2 hpre.out EXY.out, HBF.out⟩
          case measure => simp [intOf]; omega
        · rw [decide_eq_false exy] at hcon
          have HCON := Lib.hid hcon
          have EXY := Lib.hid exy
          clear exy hcon 
          go_wp2_with (first
            | ((with_reducible refine wpList_load_at wo ?hga2 38 (.tmp 20) ?hoa2 (ap.add (k * 9)) ca _ ?hxa2 (HCA.out wo (Below.refl _ _)) Tryz.underlying38 ?hda2 ?hia2 ?_); (case hga2 => rfl); (case hoa2 => rfl); (case hxa2 => rfl); (case hda2 => rfl); (case hia2 => exact HSA.out))
            | ((with_reducible refine wpList_store_whole (wo.alloc (.cells #[.int .i64 0, .bool false, .int .u32 0, .int .u32 0, .slice none 0 0, .slice none 0 0, .slice none 0 0, .int .i64 0, .slice none 0 0] 38)) ?hgb2 38 (.tmp 8) (.tmp 21) ?hob2 wo.heap.size 38 #[.int .i64 0, .bool false, .int .u32 0, .int .u32 0, .slice none 0 0, .slice none 0 0, .slice none 0 0, .int .i64 0, .slice none 0 0] ca.toArray ?hxb2 ?hpb2 (heap_alloc_new _ _) ?hib2 ?hsb2 ?hqb2 ?_); (case hgb2 => rfl); (case hob2 => rfl); (case hxb2 => rfl); (case hpb2 => rfl); (case hsb2 => exact (by show 9 = ca.toArray.size; simp [H9A.out])); (case hib2 => exact (by simpa using HSA.out)); (case hqb2 => exact (attrC_one HAA.out))
               intro W1 G1 O1
               have hb1 : Below wo.heap.size wo W1 := ((Below.refl _ _).alloc (Nat.le_refl _) _).grown O1.out (by simp) (fun x hx => by injection hx; omega)
               have B1 := hide hb1
               have hz1 := lt_of_heapF G1.out
               clear hb1)
            | ((with_reducible refine wpList_load_at W1 ?hgc2 38 (.tmp 24) ?hoc2 (bp.add (k * 9)) cb _ ?hxc2 (HCB.out W1 B1.out) Tryz.underlying38 ?hdc2 ?hic2 ?_); (case hgc2 => rfl); (case hoc2 => rfl); (case hxc2 => rfl); (case hdc2 => rfl); (case hic2 => exact HSB.out))
            | ((with_reducible refine wpList_store_whole (W1.alloc (.cells #[.int .i64 0, .bool false, .int .u32 0, .int .u32 0, .slice none 0 0, .slice none 0 0, .slice none 0 0, .int .i64 0, .slice none 0 0] 38)) ?hgd2 38 (.tmp 9) (.tmp 25) ?hod2 W1.heap.size 38 #[.int .i64 0, .bool false, .int .u32 0, .int .u32 0, .slice none 0 0, .slice none 0 0, .slice none 0 0, .int .i64 0, .slice none 0 0] cb.toArray ?hxd2 ?hpd2 (heap_alloc_new _ _) ?hid2 ?hsd2 ?hqd2 ?_); (case hgd2 => rfl); (case hod2 => rfl); (case hxd2 => rfl); (case hpd2 => rfl); (case hsd2 => exact (by show 9 = cb.toArray.size; simp [H9B.out])); (case hid2 => exact (by simpa using HSB.out)); (case hqd2 => exact (attrC_one HAB.out))
               intro W2 G2 O2
               have hb2 : Below W1.heap.size W1 W2 := ((Below.refl _ _).alloc (Nat.le_refl _) _).grown O2.out (by simp) (fun x hx => by injection hx; omega)
               have g1 := (hb2.block _ hz1).trans G1.out
               have G1' := Lib.hid g1
               have B2 := hide (B1.out.trans (hb2.mono B1.out.size))
               clear hb2 g1)
            | ((with_reducible refine wpList_load_wholeF W2 ?hge2 38 (.tmp 8) ?hoe2 wo.heap.size 38 ca.toArray _ ?hxe2 G1'.out Tryz.underlying38 ?hde2 ?hie2 ?_); (case hge2 => rfl); (case hoe2 => rfl); (case hxe2 => rfl); (case hde2 => rfl); (case hie2 => exact (by simpa using HSA.out)))
            | ((with_reducible refine wpList_load_wholeF W2 ?hgf2 38 (.tmp 9) ?hof2 W1.heap.size 38 cb.toArray _ ?hxf2 G2.out Tryz.underlying38 ?hdf2 ?hif2 ?_); (case hgf2 => rfl); (case hof2 => rfl); (case hxf2 => rfl); (case hdf2 => rfl); (case hif2 => exact (by simpa using HSB.out)))
            | (go_at_call 42; refine (HCON.out W2 B2.out).mono ?_; rintro e w3 ⟨rfl, hb3⟩
               have HBF := hide (HBE.out.trans ((B2.out.trans (hb3.mono B2.out.size)).mono HBE.out.size))
               clear hb3))
          go_ret
          exact ⟨ret_bool (decide_eq_false (ne_of_get _ _ k hlt hlt2 EXY.out)).symm, HBF.out⟩
      · have HB := hide hbel
        clear hbel
        go_wp2
        go_ret
        refine ⟨ret_bool (decide_eq_true ?_).symm, HB.out⟩
        have e1 := hpre.out
        rw [List.take_of_length_le (by omega), List.take_of_length_le (by have := HL.out; omega)] at e1
        exact e1
  · have hne : ((a.length : Int) != (b.length : Int)) = true := by simp; omega
    have HL := Lib.hid hlen
    clear hlen
    go_enter Tryz.func58, Tryz.ntmps58
    go_wp2
    go_ret
    exact ⟨ret_bool (decide_eq_false (fun e => HL.out (by rw [e]))).symm, Below.refl _ _⟩
set_option maxRecDepth 100000 in
set_option maxHeartbeats 8000000 in
theorem equalRF_any (A A2 : Option Addr) (c c2 : Nat) (a b : List Rt) (w : World) (h : Reads w w.heap.size 19 A a.length (rtsV a)) (h2 : Reads w w.heap.size 19 A2 b.length (rtsV b)) (oka : a.length ≤ 140737488351232 ∧ Rts a) (okb : b.length ≤ 140737488351232 ∧ Rts b) :
    Calls Tryz.prog 57 #[.slice A a.length c, .slice A2 b.length c2, .func (.func 40) #[] #[]] w fun e w' => e = .returned (.bool (decide (a = b))) ∧ Below w.heap.size w w' := by
  have H1 := Lib.hid h
  have H2 := Lib.hid h2
  have OKA := Lib.hid oka
  have OKB := Lib.hid okb
  clear h h2 oka okb
  by_cases hlen : a.length = b.length
  · have hne : ((a.length : Int) != (b.length : Int)) = false := by simp [hlen]
    have HL := Lib.hid hlen
    clear hlen
    go_enter Tryz.func57, Tryz.ntmps57
    go_wp2_with fail
    go_loopw [17] (fun i wr => ∃ k : Nat, k ≤ a.length ∧ i = .int .i64 k ∧ Hid (a.take k = b.take k) ∧ Below w.heap.size w wr) (fun i _ => a.length - (intOf i).toNat)
    case atStart => exact ⟨0, Nat.zero_le _, rfl, by show _ = _; rfl, Below.refl _ _⟩
    case round =>
      obtain ⟨k, hk, rfl, hpre, hbel⟩ := hrel
      obtain ⟨wo, rfl⟩ : ∃ wo : World, wo = wr := ⟨_, rfl⟩
      by_cases hlt : k < a.length
      · have hlt2 : k < b.length := by have := HL.out; omega
        obtain ⟨ap, rfl, hap, hca, h9a⟩ := Reads.rt (H1.out.below hbel) OKA.out.2 hlt
        obtain ⟨bp, rfl, hbp, hcb, h9b⟩ := Reads.rt (H2.out.below hbel) OKB.out.2 hlt2
        have ok1 := OKA.out.2 _ (List.getElem_mem hlt)
        have ok2 := OKB.out.2 _ (List.getElem_mem hlt2)
        have hl := OKA.out.1
        have hsa : (Tryz.prog.info? 55).map (·.size) = some (rtV a[k]).length := by rw [h9a]; exact rt_size
        have hsb : (Tryz.prog.info? 55).map (·.size) = some (rtV b[k]).length := by rw [h9b]; exact rt_size
        have hbz := hbel.size

        have hmv : ∀ (w' : World), Below wo.heap.size wo w' → ∀ (p : Addr) (cs : List Value), p.block < w.heap.size → (∀ (j : Nat) (v : Value), cs[j]? = some v → wo.cell? (p.add j) = some v) → ∀ (j : Nat) (v : Value), cs[j]? = some v → w'.cell? (p.add j) = some v := fun w' hw' p cs hp hc j v hv =>
          (hw'.cell (p := p.add j) (by rw [block_of_add]; omega)).trans (hc j v hv)
        have hcon : ∀ w', Below wo.heap.size wo w' → Calls Tryz.prog 40 #[.agg (rtV a[k]).toArray, .agg (rtV b[k]).toArray] w' fun e w'' => e = .returned (.bool (decide (a[k] = b[k]))) ∧ Below w'.heap.size w' w'' := fun w' hw' => route_any a[k] b[k] ok1 ok2 w'
        have HSA := Lib.hid hsa
        have HSB := Lib.hid hsb
        have HCA := Lib.hid (fun w' hw' => hmv w' hw' (ap.add (k * 19)) (rtV a[k]) (by rw [block_of_add]; exact hap) hca)
        have HCB := Lib.hid (fun w' hw' => hmv w' hw' (bp.add (k * 19)) (rtV b[k]) (by rw [block_of_add]; exact hbp) hcb)
        have HBE := hide hbel
        have HZ := Lib.hid rt_size
        have H9A := Lib.hid h9a
        have H9B := Lib.hid h9b
        clear hsa hsb hca hcb h9a h9b hbel hmv ok1 ok2 HZ
        have hi0 : (0 : Int) ≤ (k : Int) := Int.natCast_nonneg _
        have hi1 : (k : Int) < (a.length : Int) := by omega
        have hi2 : (k : Int) < (b.length : Int) := by omega
        by_cases exy : a[k] = b[k]
        · rw [decide_eq_true exy] at hcon
          have HCON := Lib.hid hcon
          have EXY := Lib.hid exy
          clear exy hcon 
          go_wp2_with (first
            | ((with_reducible refine wpList_load_at wo ?hga1 55 (.tmp 20) ?hoa1 (ap.add (k * 19)) (rtV a[k]) _ ?hxa1 (HCA.out wo (Below.refl _ _)) Tryz.underlying55 ?hda1 ?hia1 ?_); (case hga1 => rfl); (case hoa1 => rfl); (case hxa1 => rfl); (case hda1 => rfl); (case hia1 => exact HSA.out))
            | ((with_reducible refine wpList_store_whole (wo.alloc (.cells #[.int .u32 0, .int .i64 0, .int .i64 0, .int .u8 0, .int .u8 0, .int .u8 0, .int .u8 0, .int .u8 0, .int .u8 0, .int .u8 0, .int .u8 0, .int .u8 0, .int .u8 0, .int .u8 0, .int .u8 0, .int .u8 0, .int .u8 0, .int .u8 0, .int .u8 0] 55)) ?hgb1 55 (.tmp 8) (.tmp 21) ?hob1 wo.heap.size 55 #[.int .u32 0, .int .i64 0, .int .i64 0, .int .u8 0, .int .u8 0, .int .u8 0, .int .u8 0, .int .u8 0, .int .u8 0, .int .u8 0, .int .u8 0, .int .u8 0, .int .u8 0, .int .u8 0, .int .u8 0, .int .u8 0, .int .u8 0, .int .u8 0, .int .u8 0] (rtV a[k]).toArray ?hxb1 ?hpb1 (heap_alloc_new _ _) ?hib1 ?hsb1 ?hqb1 ?_); (case hgb1 => rfl); (case hob1 => rfl); (case hxb1 => rfl); (case hpb1 => rfl); (case hsb1 => exact (by show 19 = (rtV a[k]).toArray.size; simp [H9A.out])); (case hib1 => exact (by simpa using HSA.out)); (case hqb1 => exact (by simpa using rtV_one a[k]))
               intro W1 G1 O1
               have hb1 : Below wo.heap.size wo W1 := ((Below.refl _ _).alloc (Nat.le_refl _) _).grown O1.out (by simp) (fun x hx => by injection hx; omega)
               have B1 := hide hb1
               have hz1 := lt_of_heapF G1.out
               clear hb1)
            | ((with_reducible refine wpList_load_at W1 ?hgc1 55 (.tmp 24) ?hoc1 (bp.add (k * 19)) (rtV b[k]) _ ?hxc1 (HCB.out W1 B1.out) Tryz.underlying55 ?hdc1 ?hic1 ?_); (case hgc1 => rfl); (case hoc1 => rfl); (case hxc1 => rfl); (case hdc1 => rfl); (case hic1 => exact HSB.out))
            | ((with_reducible refine wpList_store_whole (W1.alloc (.cells #[.int .u32 0, .int .i64 0, .int .i64 0, .int .u8 0, .int .u8 0, .int .u8 0, .int .u8 0, .int .u8 0, .int .u8 0, .int .u8 0, .int .u8 0, .int .u8 0, .int .u8 0, .int .u8 0, .int .u8 0, .int .u8 0, .int .u8 0, .int .u8 0, .int .u8 0] 55)) ?hgd1 55 (.tmp 9) (.tmp 25) ?hod1 W1.heap.size 55 #[.int .u32 0, .int .i64 0, .int .i64 0, .int .u8 0, .int .u8 0, .int .u8 0, .int .u8 0, .int .u8 0, .int .u8 0, .int .u8 0, .int .u8 0, .int .u8 0, .int .u8 0, .int .u8 0, .int .u8 0, .int .u8 0, .int .u8 0, .int .u8 0, .int .u8 0] (rtV b[k]).toArray ?hxd1 ?hpd1 (heap_alloc_new _ _) ?hid1 ?hsd1 ?hqd1 ?_); (case hgd1 => rfl); (case hod1 => rfl); (case hxd1 => rfl); (case hpd1 => rfl); (case hsd1 => exact (by show 19 = (rtV b[k]).toArray.size; simp [H9B.out])); (case hid1 => exact (by simpa using HSB.out)); (case hqd1 => exact (by simpa using rtV_one b[k]))
               intro W2 G2 O2
               have hb2 : Below W1.heap.size W1 W2 := ((Below.refl _ _).alloc (Nat.le_refl _) _).grown O2.out (by simp) (fun x hx => by injection hx; omega)
               have g1 := (hb2.block _ hz1).trans G1.out
               have G1' := Lib.hid g1
               have B2 := hide (B1.out.trans (hb2.mono B1.out.size))
               clear hb2 g1)
            | ((with_reducible refine wpList_load_wholeF W2 ?hge1 55 (.tmp 8) ?hoe1 wo.heap.size 55 (rtV a[k]).toArray _ ?hxe1 G1'.out Tryz.underlying55 ?hde1 ?hie1 ?_); (case hge1 => rfl); (case hoe1 => rfl); (case hxe1 => rfl); (case hde1 => rfl); (case hie1 => exact (by simpa using HSA.out)))
            | ((with_reducible refine wpList_load_wholeF W2 ?hgf1 55 (.tmp 9) ?hof1 W1.heap.size 55 (rtV b[k]).toArray _ ?hxf1 G2.out Tryz.underlying55 ?hdf1 ?hif1 ?_); (case hgf1 => rfl); (case hof1 => rfl); (case hxf1 => rfl); (case hdf1 => rfl); (case hif1 => exact (by simpa using HSB.out)))
            | (go_at_call 40; refine (HCON.out W2 B2.out).mono ?_; rintro e w3 ⟨rfl, hb3⟩
               have HBF := hide (HBE.out.trans ((B2.out.trans (hb3.mono B2.out.size)).mono HBE.out.size))
               clear hb3))
          go_roundw
          case rel => exact ⟨k + 1, by omega, by go_num, take_succ_eq _ _ k hlt hlt2 hpre.out EXY.out, HBF.out⟩
          case measure => simp [intOf]; omega
        · rw [decide_eq_false exy] at hcon
          have HCON := Lib.hid hcon
          have EXY := Lib.hid exy
          clear exy hcon 
          go_wp2_with (first
            | ((with_reducible refine wpList_load_at wo ?hga2 55 (.tmp 20) ?hoa2 (ap.add (k * 19)) (rtV a[k]) _ ?hxa2 (HCA.out wo (Below.refl _ _)) Tryz.underlying55 ?hda2 ?hia2 ?_); (case hga2 => rfl); (case hoa2 => rfl); (case hxa2 => rfl); (case hda2 => rfl); (case hia2 => exact HSA.out))
            | ((with_reducible refine wpList_store_whole (wo.alloc (.cells #[.int .u32 0, .int .i64 0, .int .i64 0, .int .u8 0, .int .u8 0, .int .u8 0, .int .u8 0, .int .u8 0, .int .u8 0, .int .u8 0, .int .u8 0, .int .u8 0, .int .u8 0, .int .u8 0, .int .u8 0, .int .u8 0, .int .u8 0, .int .u8 0, .int .u8 0] 55)) ?hgb2 55 (.tmp 8) (.tmp 21) ?hob2 wo.heap.size 55 #[.int .u32 0, .int .i64 0, .int .i64 0, .int .u8 0, .int .u8 0, .int .u8 0, .int .u8 0, .int .u8 0, .int .u8 0, .int .u8 0, .int .u8 0, .int .u8 0, .int .u8 0, .int .u8 0, .int .u8 0, .int .u8 0, .int .u8 0, .int .u8 0, .int .u8 0] (rtV a[k]).toArray ?hxb2 ?hpb2 (heap_alloc_new _ _) ?hib2 ?hsb2 ?hqb2 ?_); (case hgb2 => rfl); (case hob2 => rfl); (case hxb2 => rfl); (case hpb2 => rfl); (case hsb2 => exact (by show 19 = (rtV a[k]).toArray.size; simp [H9A.out])); (case hib2 => exact (by simpa using HSA.out)); (case hqb2 => exact (by simpa using rtV_one a[k]))
               intro W1 G1 O1
               have hb1 : Below wo.heap.size wo W1 := ((Below.refl _ _).alloc (Nat.le_refl _) _).grown O1.out (by simp) (fun x hx => by injection hx; omega)
               have B1 := hide hb1
               have hz1 := lt_of_heapF G1.out
               clear hb1)
            | ((with_reducible refine wpList_load_at W1 ?hgc2 55 (.tmp 24) ?hoc2 (bp.add (k * 19)) (rtV b[k]) _ ?hxc2 (HCB.out W1 B1.out) Tryz.underlying55 ?hdc2 ?hic2 ?_); (case hgc2 => rfl); (case hoc2 => rfl); (case hxc2 => rfl); (case hdc2 => rfl); (case hic2 => exact HSB.out))
            | ((with_reducible refine wpList_store_whole (W1.alloc (.cells #[.int .u32 0, .int .i64 0, .int .i64 0, .int .u8 0, .int .u8 0, .int .u8 0, .int .u8 0, .int .u8 0, .int .u8 0, .int .u8 0, .int .u8 0, .int .u8 0, .int .u8 0, .int .u8 0, .int .u8 0, .int .u8 0, .int .u8 0, .int .u8 0, .int .u8 0] 55)) ?hgd2 55 (.tmp 9) (.tmp 25) ?hod2 W1.heap.size 55 #[.int .u32 0, .int .i64 0, .int .i64 0, .int .u8 0, .int .u8 0, .int .u8 0, .int .u8 0, .int .u8 0, .int .u8 0, .int .u8 0, .int .u8 0, .int .u8 0, .int .u8 0, .int .u8 0, .int .u8 0, .int .u8 0, .int .u8 0, .int .u8 0, .int .u8 0] (rtV b[k]).toArray ?hxd2 ?hpd2 (heap_alloc_new _ _) ?hid2 ?hsd2 ?hqd2 ?_); (case hgd2 => rfl); (case hod2 => rfl); (case hxd2 => rfl); (case hpd2 => rfl); (case hsd2 => exact (by show 19 = (rtV b[k]).toArray.size; simp [H9B.out])); (case hid2 => exact (by simpa using HSB.out)); (case hqd2 => exact (by simpa using rtV_one b[k]))
               intro W2 G2 O2
               have hb2 : Below W1.heap.size W1 W2 := ((Below.refl _ _).alloc (Nat.le_refl _) _).grown O2.out (by simp) (fun x hx => by injection hx; omega)
               have g1 := (hb2.block _ hz1).trans G1.out
               have G1' := Lib.hid g1
               have B2 := hide (B1.out.trans (hb2.mono B1.out.size))
               clear hb2 g1)
            | ((with_reducible refine wpList_load_wholeF W2 ?hge2 55 (.tmp 8) ?hoe2 wo.heap.size 55 (rtV a[k]).toArray _ ?hxe2 G1'.out Tryz.underlying55 ?hde2 ?hie2 ?_); (case hge2 => rfl); (case hoe2 => rfl); (case hxe2 => rfl); (case hde2 => rfl); (case hie2 => exact (by simpa using HSA.out)))
            | ((with_reducible refine wpList_load_wholeF W2 ?hgf2 55 (.tmp 9) ?hof2 W1.heap.size 55 (rtV b[k]).toArray _ ?hxf2 G2.out Tryz.underlying55 ?hdf2 ?hif2 ?_); (case hgf2 => rfl); (case hof2 => rfl); (case hxf2 => rfl); (case hdf2 => rfl); (case hif2 => exact (by simpa using HSB.out)))
            | (go_at_call 40; refine (HCON.out W2 B2.out).mono ?_; rintro e w3 ⟨rfl, hb3⟩
               have HBF := hide (HBE.out.trans ((B2.out.trans (hb3.mono B2.out.size)).mono HBE.out.size))
               clear hb3))
          go_ret
          exact ⟨ret_bool (decide_eq_false (ne_of_get _ _ k hlt hlt2 EXY.out)).symm, HBF.out⟩
      · have HB := hide hbel
        clear hbel
        go_wp2
        go_ret
        refine ⟨ret_bool (decide_eq_true ?_).symm, HB.out⟩
        have e1 := hpre.out
        rw [List.take_of_length_le (by omega), List.take_of_length_le (by have := HL.out; omega)] at e1
        exact e1
  · have hne : ((a.length : Int) != (b.length : Int)) = true := by simp; omega
    have HL := Lib.hid hlen
    clear hlen
    go_enter Tryz.func57, Tryz.ntmps57
    go_wp2
    go_ret
    exact ⟨ret_bool (decide_eq_false (fun e => HL.out (by rw [e]))).symm, Below.refl _ _⟩
set_option maxRecDepth 100000 in
theorem uequalA_any (A A2 : Option Addr) (c c2 : Nat) (a b : List AttrD) (w : World) (h : AttrsC w w.heap.size A a) (h2 : AttrsC w w.heap.size A2 b) (oka : AttrsOk a) (okb : AttrsOk b) :
    Calls Tryz.prog 41 #[.slice A a.length c, .slice A2 b.length c2, .func (.func 42) #[] #[]] w fun e w' => e = .returned (.bool (decide (a = b))) ∧ Below w.heap.size w w' := by
  have HC := hide (equalA_any A A2 c c2 a b w h h2 oka okb)
  clear h h2 oka okb
  go_enter Tryz.func41, Tryz.ntmps41
  go_wp2_with (go_at_call 58; refine HC.out.mono ?_; rintro e w1 ⟨rfl, hb⟩; have B1 := hide hb; clear hb)
  go_ret
  exact ⟨rfl, B1.out⟩
set_option maxRecDepth 100000 in
theorem uequalR_any (A A2 : Option Addr) (c c2 : Nat) (a b : List Rt) (w : World) (h : Reads w w.heap.size 19 A a.length (rtsV a)) (h2 : Reads w w.heap.size 19 A2 b.length (rtsV b)) (oka : a.length ≤ 140737488351232 ∧ Rts a) (okb : b.length ≤ 140737488351232 ∧ Rts b) :
    Calls Tryz.prog 39 #[.slice A a.length c, .slice A2 b.length c2, .func (.func 40) #[] #[]] w fun e w' => e = .returned (.bool (decide (a = b))) ∧ Below w.heap.size w w' := by
  have HC := hide (equalRF_any A A2 c c2 a b w h h2 oka okb)
  clear h h2 oka okb
  go_enter Tryz.func39, Tryz.ntmps39
  go_wp2_with (go_at_call 57; refine HC.out.mono ?_; rintro e w1 ⟨rfl, hb⟩; have B1 := hide hb; clear hb)
  go_ret
  exact ⟨rfl, B1.out⟩
end Go.Proofs.YtnfclcbhehbchaaGreatDoor
