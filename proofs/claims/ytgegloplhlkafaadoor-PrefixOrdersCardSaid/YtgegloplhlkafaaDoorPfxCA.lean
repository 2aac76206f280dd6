/- Covers of the program and of the reference. -/
import Derived.Test.YtgegloplhlkafaaDoorPfxV
set_option autoImplicit false
namespace Go.Proofs.YtgegloplhlkafaaDoor
open Go.RowKit

def covF (fa la : Int) (a : List Int) (fb lb : Int) (b : List Int) : Bool := vF fa la a && vF fb lb b && decide (fa = fb) && decide (la ≤ lb) && decide (mTo la 16 b = a)
theorem vF_bd {fam len : Int} {a : List Int} (h : vF fam len a = true) : 0 ≤ len ∧ len ≤ 128 ∧ mTo len 16 a = a := by
  simp only [vF, Bool.and_eq_true, decide_eq_true_eq] at h
  obtain ⟨_, h0, _, h1, _⟩ := ranged_bd h.1
  exact ⟨h0, h1, h.2⟩
theorem covF_self (fa la : Int) (a : List Int) : covF fa la a fa la a = vF fa la a := by
  cases h : vF fa la a
  · simp [covF, h]
  · simp [covF, h, (vF_bd h).2.2]
theorem covF_trans (fa la : Int) (a : List Int) (fb lb : Int) (b : List Int) (fc lc : Int) (c : List Int) (ha : a.length = 16) (hb : b.length = 16) (hc : c.length = 16) (hba : Bs a) (hbb : Bs b) (hbc : Bs c)
    (h1 : covF fa la a fb lb b = true) (h2 : covF fb lb b fc lc c = true) : covF fa la a fc lc c = true := by
  simp only [covF, Bool.and_eq_true, decide_eq_true_eq] at h1 h2 ⊢
  obtain ⟨⟨⟨⟨va, vb⟩, e1⟩, l1⟩, m1⟩ := h1
  obtain ⟨⟨⟨⟨_, vc⟩, e2⟩, l2⟩, m2⟩ := h2
  refine ⟨⟨⟨⟨va, vc⟩, by omega⟩, by omega⟩, ?_⟩
  have hza := (mTo_same_iff la a ha hba).1 (vF_bd va).2.2
  have hzb := (mTo_same_iff lb b hb hbb).1 (vF_bd vb).2.2
  rw [mTo_eq_iff la a c ha hc hba hbc hza]
  intro i hi hl
  exact ((mTo_eq_iff la a b ha hb hba hbb hza).1 m1 i hi hl).trans ((mTo_eq_iff lb b c hb hc hbb hbc hzb).1 m2 i hi (by omega))

/-- What two prefixes in variables of a call look like. -/
structure Two (W : World) (g : Nat) (fa la : Int) (a : List Int) (fb lb : Int) (b : List Int) : Prop where
  ga : W.heap[g]? = some (.cells (pvL fa la a).toArray 26 (0, 0))
  gb : W.heap[g + 1]? = some (.cells (pvL fb lb b).toArray 26 (0, 0))
section
variable {W W' : World} {g : Nat} {fa la : Int} {a : List Int} {fb lb : Int} {b : List Int}
theorem Two.below (h : Two W g fa la a fb lb b) (hb : Below W.heap.size W W') : Two W' g fa la a fb lb b := ⟨(hb.block _ (lt_of_block h.ga)).trans h.ga, (hb.block _ (lt_of_block h.gb)).trans h.gb⟩
theorem Two.ra (h : Two W g fa la a fb lb b) : W.rangeAt g 0 (pvL fa la a) := rangeAt_row (xs := []) (ys := []) (by simpa using h.ga)
theorem Two.rb (h : Two W g fa la a fb lb b) : W.rangeAt (g + 1) 0 (pvL fb lb b) := rangeAt_row (xs := []) (ys := []) (by simpa using h.gb)
theorem Two.aa (h : Two W g fa la a fb lb b) : W.rangeAt g 2 (bV a) := rangeAt_row (xs := [.int .i64 fa, .int .i64 la]) (ys := []) (by rw [List.append_nil]; exact h.ga)
theorem Two.ab (h : Two W g fa la a fb lb b) : W.rangeAt (g + 1) 2 (bV b) := rangeAt_row (xs := [.int .i64 fb, .int .i64 lb]) (ys := []) (by rw [List.append_nil]; exact h.gb)
theorem Two.fa0 (h : Two W g fa la a fb lb b) : W.cell? ⟨g, 0, none⟩ = some (.int .i64 fa) := by rw [cell_of_row _ _ 0 _ _ _ h.ga]; rfl
theorem Two.la1 (h : Two W g fa la a fb lb b) : W.cell? ⟨g, 1, none⟩ = some (.int .i64 la) := by rw [cell_of_row _ _ 1 _ _ _ h.ga]; rfl
theorem Two.fb0 (h : Two W g fa la a fb lb b) : W.cell? ⟨g + 1, 0, none⟩ = some (.int .i64 fb) := by rw [cell_of_row _ _ 0 _ _ _ h.gb]; rfl
theorem Two.lb1 (h : Two W g fa la a fb lb b) : W.cell? ⟨g + 1, 1, none⟩ = some (.int .i64 lb) := by rw [cell_of_row _ _ 1 _ _ _ h.gb]; rfl
end
theorem two_new (w : World) (fa la : Int) (a : List Int) (fb lb : Int) (b : List Int) : Two ((w.alloc (.cells (pvL fa la a).toArray 26)).alloc (.cells (pvL fb lb b).toArray 26)) w.heap.size fa la a fb lb b :=
  ⟨heap_alloc2_old w _ _, heap_alloc2_new w _ _⟩

set_option maxRecDepth 100000 in
set_option maxHeartbeats 4000000 in
theorem covers_prog (fa la : Int) (a : List Int) (fb lb : Int) (b : List Int) (ha : a.length = 16) (hb : b.length = 16) (hba : Bs a) (hbb : Bs b) (w : World) :
    Calls Tryd.prog 12 #[.agg (pvL fa la a).toArray, .agg (pvL fb lb b).toArray] w fun e w' => e = .returned (.bool (covF fa la a fb lb b)) ∧ Below w.heap.size w w' := by
  have hV1 := valid_any fa la a ha hba
  have hV2 := valid_any fb lb b hb hbb
  obtain ⟨W, hW⟩ : ∃ W, W = (w.alloc (.cells (pvL fa la a).toArray 26)).alloc (.cells (pvL fb lb b).toArray 26) := ⟨_, rfl⟩
  have hT : Two W w.heap.size fa la a fb lb b := by rw [hW]; exact two_new w fa la a fb lb b
  have hB : Below w.heap.size w W := by rw [hW]; exact ((Below.refl _ _).alloc (Nat.le_refl _) _).alloc (by simp) _
  have hpa : (Tryd.prog.info? 26).map (·.size) = some (pvL fa la a).length := by rw [pfx_info, pvL_len, ha]
  have hpb : (Tryd.prog.info? 26).map (·.size) = some (pvL fb lb b).length := by rw [pfx_info, pvL_len, hb]
  have hda : (Tryd.prog.info? 24).map (·.size) = some (bV a).length := by rw [arr_info, bV_len, ha]
  have hdb : (Tryd.prog.info? 24).map (·.size) = some (bV b).length := by rw [arr_info, bV_len, hb]
  have HT := hide hT
  have HB := hide hB
  have HPA := Lib.hid hpa
  have HPB := Lib.hid hpb
  have HDA := Lib.hid hda
  have HDB := Lib.hid hdb
  clear hT hB hpa hpb hda hdb
  cases hva : vF fa la a
  · have hres : covF fa la a fb lb b = false := by simp [covF, hva]
    rw [hva] at hV1
    rw [hres]
    have HV1 := hide hV1
    clear hV1 hV2 hva hres
    go_enter Tryd.func12, Tryd.ntmps12
    go_wp2_with fail
    rw [← hW]
    clear hW
    refine wp_region_quietC (fun w' => Below W.heap.size W w') (by kernel_rfl) (by kernel_rfl) (Below.refl _ _ |>.drew) ?_
    repeat (first
      | go_big_quiet_skip
      | (go_big_quiet_want
         first
         | (refine quiet_loadR _ _ rfl w.heap.size 0 rfl _ Tryd.underlying26 rfl (pvL fa la a) HPA.out (fun w' hw' => rangeAt_below HT.out.ra hw') ?_; go_big_quiet_on; simp only [Act.put, List.setIfInBounds_toArray, List.set_cons_zero, List.set_cons_succ])
         | (go_big_quiet_op
            first
              | go_big_quiet_on
              | (refine ⟨_, fun _ _ => rfl, ?_⟩; go_big_quiet_on)
              | (with_reducible refine ⟨.bool false, fun w' hw' => (HV1.out w').mono ?_, ?_⟩; exact (fun e w1 h => ⟨h.1, hw'.trans (h.2.mono hw'.size)⟩); go_big_quiet_on))))
    refine wpQuiet_nil ?_
    intro w' hw'
    go_wp2
    go_ret
    exact ⟨rfl, HB.out.trans (hw'.mono HB.out.size)⟩
  · rw [hva] at hV1
    have HV1 := hide hV1
    clear hV1
    cases hvb : vF fb lb b
    · have hres : covF fa la a fb lb b = false := by simp [covF, hvb]
      rw [hvb] at hV2
      rw [hres]
      have HV2 := hide hV2
      clear hV2 hva hvb hres
      go_enter Tryd.func12, Tryd.ntmps12
      go_wp2_with fail
      rw [← hW]
      clear hW
      refine wp_region_quietC (fun w' => Below W.heap.size W w') (by kernel_rfl) (by kernel_rfl) (Below.refl _ _ |>.drew) ?_
      repeat (first
        | go_big_quiet_skip
        | (go_big_quiet_want
           first
           | (refine quiet_loadR _ _ rfl w.heap.size 0 rfl _ Tryd.underlying26 rfl (pvL fa la a) HPA.out (fun w' hw' => rangeAt_below HT.out.ra hw') ?_; go_big_quiet_on; simp only [Act.put, List.setIfInBounds_toArray, List.set_cons_zero, List.set_cons_succ])
           | (refine quiet_loadR _ _ rfl (w.heap.size + 1) 0 rfl _ Tryd.underlying26 rfl (pvL fb lb b) HPB.out (fun w' hw' => rangeAt_below HT.out.rb hw') ?_; go_big_quiet_on; simp only [Act.put, List.setIfInBounds_toArray, List.set_cons_zero, List.set_cons_succ])
           | (go_big_quiet_op
              first
                | go_big_quiet_on
                | (refine ⟨_, fun _ _ => rfl, ?_⟩; go_big_quiet_on)
                | (with_reducible refine ⟨.bool true, fun w' hw' => (HV1.out w').mono ?_, ?_⟩; exact (fun e w1 h => ⟨h.1, hw'.trans (h.2.mono hw'.size)⟩); go_big_quiet_on)
                | (with_reducible refine ⟨.bool false, fun w' hw' => (HV2.out w').mono ?_, ?_⟩; exact (fun e w1 h => ⟨h.1, hw'.trans (h.2.mono hw'.size)⟩); go_big_quiet_on))))
      refine wpQuiet_nil ?_
      intro w' hw'
      go_wp2
      go_ret
      exact ⟨rfl, HB.out.trans (hw'.mono HB.out.size)⟩
    · rw [hvb] at hV2
      have HV2 := hide hV2
      clear hV2
      by_cases hf : fa = fb
      · subst hf
        by_cases hl : la ≤ lb
        · have hres : covF fa la a fa lb b = decide (mTo la 16 b = a) := by simp [covF, hva, hvb, hl]
          obtain ⟨h0, h1, _⟩ := vF_bd hva
          have hM : ∀ w, Calls Tryd.prog 32 #[.agg (bV b).toArray, .int .i64 la] w fun e w' => e = .returned (.agg (bytesV (mTo la 16 b))) ∧ Below w.heap.size w w' := masked_any b hb la h0 h1 hbb
          have HM := hide hM
          clear hM
          have hq : ∀ w, (binOp .eql 24 (.agg (bytesV (mTo la 16 b))) (.agg (bV a).toArray)).run Tryd.prog w = .ok (.bool (decide (mTo la 16 b = a))) w := eq_arr (mTo la 16 b) a (by rw [mTo_length, hb]) ha
          rw [hres]
          generalize decide (mTo la 16 b = a) = RES at hq ⊢
          have hle : decide (la ≤ lb) = true := by simpa using hl
          clear hva hvb hres h0 h1
          go_enter Tryd.func12, Tryd.ntmps12
          go_wp2_with fail
          rw [← hW]
          clear hW
          refine wp_region_quietC (fun w' => Below W.heap.size W w') (by kernel_rfl) (by kernel_rfl) (Below.refl _ _ |>.drew) ?_
          repeat (first
            | go_big_quiet_skip
            | (go_big_quiet_want
               first
               | (refine quiet_loadR _ _ rfl w.heap.size 0 rfl _ Tryd.underlying26 rfl (pvL fa la a) HPA.out (fun w' hw' => rangeAt_below HT.out.ra hw') ?_; go_big_quiet_on; simp only [Act.put, List.setIfInBounds_toArray, List.set_cons_zero, List.set_cons_succ])
               | (refine quiet_loadR _ _ rfl (w.heap.size + 1) 0 rfl _ Tryd.underlying26 rfl (pvL fa lb b) HPB.out (fun w' hw' => rangeAt_below HT.out.rb hw') ?_; go_big_quiet_on; simp only [Act.put, List.setIfInBounds_toArray, List.set_cons_zero, List.set_cons_succ])
               | (refine quiet_loadR _ _ rfl w.heap.size 2 rfl _ Tryd.underlying24 rfl (bV a) HDA.out (fun w' hw' => rangeAt_below HT.out.aa hw') ?_; go_big_quiet_on; simp only [Act.put, List.setIfInBounds_toArray, List.set_cons_zero, List.set_cons_succ])
               | (refine quiet_loadR _ _ rfl (w.heap.size + 1) 2 rfl _ Tryd.underlying24 rfl (bV b) HDB.out (fun w' hw' => rangeAt_below HT.out.ab hw') ?_; go_big_quiet_on; simp only [Act.put, List.setIfInBounds_toArray, List.set_cons_zero, List.set_cons_succ])
               | (refine quiet_load _ _ rfl ⟨w.heap.size, 0, none⟩ rfl _ Tryd.underlying3 rfl _ (fun w' hw' => cell_below HT.out.fa0 hw') ?_; go_big_quiet_on; simp only [Act.put, List.setIfInBounds_toArray, List.set_cons_zero, List.set_cons_succ])
               | (refine quiet_load _ _ rfl ⟨w.heap.size, 1, none⟩ rfl _ Tryd.underlying3 rfl _ (fun w' hw' => cell_below HT.out.la1 hw') ?_; go_big_quiet_on; simp only [Act.put, List.setIfInBounds_toArray, List.set_cons_zero, List.set_cons_succ])
               | (refine quiet_load _ _ rfl ⟨w.heap.size + 1, 0, none⟩ rfl _ Tryd.underlying3 rfl _ (fun w' hw' => cell_below HT.out.fb0 hw') ?_; go_big_quiet_on; simp only [Act.put, List.setIfInBounds_toArray, List.set_cons_zero, List.set_cons_succ])
               | (refine quiet_load _ _ rfl ⟨w.heap.size + 1, 1, none⟩ rfl _ Tryd.underlying3 rfl _ (fun w' hw' => cell_below HT.out.lb1 hw') ?_; go_big_quiet_on; simp only [Act.put, List.setIfInBounds_toArray, List.set_cons_zero, List.set_cons_succ])
               | (go_big_quiet_op
                  first
                    | go_big_quiet_on
                    | (refine ⟨_, fun _ _ => rfl, ?_⟩; go_big_quiet_on)
                    | (with_reducible refine ⟨.bool true, fun w' hw' => (HV1.out w').mono ?_, ?_⟩; exact (fun e w1 h => ⟨h.1, hw'.trans (h.2.mono hw'.size)⟩); go_big_quiet_on)
                    | (with_reducible refine ⟨.bool true, fun w' hw' => (HV2.out w').mono ?_, ?_⟩; exact (fun e w1 h => ⟨h.1, hw'.trans (h.2.mono hw'.size)⟩); go_big_quiet_on)
                    | (with_reducible refine ⟨.agg (bytesV (mTo la 16 b)), fun w' hw' => (HM.out w').mono ?_, ?_⟩; exact (fun e w1 h => ⟨h.1, hw'.trans (h.2.mono hw'.size)⟩); go_big_quiet_on))))
          refine wpQuiet_nil ?_
          intro w' hw'
          go_wp2
          go_ret
          exact ⟨rfl, HB.out.trans (hw'.mono HB.out.size)⟩
        · have hres : covF fa la a fa lb b = false := by simp [covF, hl]
          have hle : decide (la ≤ lb) = false := by simpa using hl
          rw [hres]
          clear hva hvb hres
          go_enter Tryd.func12, Tryd.ntmps12
          go_wp2_with fail
          rw [← hW]
          clear hW
          refine wp_region_quietC (fun w' => Below W.heap.size W w') (by kernel_rfl) (by kernel_rfl) (Below.refl _ _ |>.drew) ?_
          repeat (first
            | go_big_quiet_skip
            | (go_big_quiet_want
               first
               | (refine quiet_loadR _ _ rfl w.heap.size 0 rfl _ Tryd.underlying26 rfl (pvL fa la a) HPA.out (fun w' hw' => rangeAt_below HT.out.ra hw') ?_; go_big_quiet_on; simp only [Act.put, List.setIfInBounds_toArray, List.set_cons_zero, List.set_cons_succ])
               | (refine quiet_loadR _ _ rfl (w.heap.size + 1) 0 rfl _ Tryd.underlying26 rfl (pvL fa lb b) HPB.out (fun w' hw' => rangeAt_below HT.out.rb hw') ?_; go_big_quiet_on; simp only [Act.put, List.setIfInBounds_toArray, List.set_cons_zero, List.set_cons_succ])
               | (refine quiet_load _ _ rfl ⟨w.heap.size, 0, none⟩ rfl _ Tryd.underlying3 rfl _ (fun w' hw' => cell_below HT.out.fa0 hw') ?_; go_big_quiet_on; simp only [Act.put, List.setIfInBounds_toArray, List.set_cons_zero, List.set_cons_succ])
               | (refine quiet_load _ _ rfl ⟨w.heap.size, 1, none⟩ rfl _ Tryd.underlying3 rfl _ (fun w' hw' => cell_below HT.out.la1 hw') ?_; go_big_quiet_on; simp only [Act.put, List.setIfInBounds_toArray, List.set_cons_zero, List.set_cons_succ])
               | (refine quiet_load _ _ rfl ⟨w.heap.size + 1, 0, none⟩ rfl _ Tryd.underlying3 rfl _ (fun w' hw' => cell_below HT.out.fb0 hw') ?_; go_big_quiet_on; simp only [Act.put, List.setIfInBounds_toArray, List.set_cons_zero, List.set_cons_succ])
               | (refine quiet_load _ _ rfl ⟨w.heap.size + 1, 1, none⟩ rfl _ Tryd.underlying3 rfl _ (fun w' hw' => cell_below HT.out.lb1 hw') ?_; go_big_quiet_on; simp only [Act.put, List.setIfInBounds_toArray, List.set_cons_zero, List.set_cons_succ])
               | (go_big_quiet_op
                  first
                    | go_big_quiet_on
                    | (refine ⟨_, fun _ _ => rfl, ?_⟩; go_big_quiet_on)
                    | (with_reducible refine ⟨.bool true, fun w' hw' => (HV1.out w').mono ?_, ?_⟩; exact (fun e w1 h => ⟨h.1, hw'.trans (h.2.mono hw'.size)⟩); go_big_quiet_on)
                    | (with_reducible refine ⟨.bool true, fun w' hw' => (HV2.out w').mono ?_, ?_⟩; exact (fun e w1 h => ⟨h.1, hw'.trans (h.2.mono hw'.size)⟩); go_big_quiet_on))))
          refine wpQuiet_nil ?_
          intro w' hw'
          go_wp2
          go_ret
          exact ⟨rfl, HB.out.trans (hw'.mono HB.out.size)⟩
      · have hres : covF fa la a fb lb b = false := by simp [covF, hf]
        have hne : (fa == fb) = false := by simpa using hf
        rw [hres]
        clear hva hvb hres
        go_enter Tryd.func12, Tryd.ntmps12
        go_wp2_with fail
        rw [← hW]
        clear hW
        refine wp_region_quietC (fun w' => Below W.heap.size W w') (by kernel_rfl) (by kernel_rfl) (Below.refl _ _ |>.drew) ?_
        repeat (first
          | go_big_quiet_skip
          | (go_big_quiet_want
             first
             | (refine quiet_loadR _ _ rfl w.heap.size 0 rfl _ Tryd.underlying26 rfl (pvL fa la a) HPA.out (fun w' hw' => rangeAt_below HT.out.ra hw') ?_; go_big_quiet_on; simp only [Act.put, List.setIfInBounds_toArray, List.set_cons_zero, List.set_cons_succ])
             | (refine quiet_loadR _ _ rfl (w.heap.size + 1) 0 rfl _ Tryd.underlying26 rfl (pvL fb lb b) HPB.out (fun w' hw' => rangeAt_below HT.out.rb hw') ?_; go_big_quiet_on; simp only [Act.put, List.setIfInBounds_toArray, List.set_cons_zero, List.set_cons_succ])
             | (refine quiet_load _ _ rfl ⟨w.heap.size, 0, none⟩ rfl _ Tryd.underlying3 rfl _ (fun w' hw' => cell_below HT.out.fa0 hw') ?_; go_big_quiet_on; simp only [Act.put, List.setIfInBounds_toArray, List.set_cons_zero, List.set_cons_succ])
             | (refine quiet_load _ _ rfl ⟨w.heap.size, 1, none⟩ rfl _ Tryd.underlying3 rfl _ (fun w' hw' => cell_below HT.out.la1 hw') ?_; go_big_quiet_on; simp only [Act.put, List.setIfInBounds_toArray, List.set_cons_zero, List.set_cons_succ])
             | (refine quiet_load _ _ rfl ⟨w.heap.size + 1, 0, none⟩ rfl _ Tryd.underlying3 rfl _ (fun w' hw' => cell_below HT.out.fb0 hw') ?_; go_big_quiet_on; simp only [Act.put, List.setIfInBounds_toArray, List.set_cons_zero, List.set_cons_succ])
             | (refine quiet_load _ _ rfl ⟨w.heap.size + 1, 1, none⟩ rfl _ Tryd.underlying3 rfl _ (fun w' hw' => cell_below HT.out.lb1 hw') ?_; go_big_quiet_on; simp only [Act.put, List.setIfInBounds_toArray, List.set_cons_zero, List.set_cons_succ])
             | (go_big_quiet_op
                first
                  | go_big_quiet_on
                  | (refine ⟨_, fun _ _ => rfl, ?_⟩; go_big_quiet_on)
                  | (with_reducible refine ⟨.bool true, fun w' hw' => (HV1.out w').mono ?_, ?_⟩; exact (fun e w1 h => ⟨h.1, hw'.trans (h.2.mono hw'.size)⟩); go_big_quiet_on)
                  | (with_reducible refine ⟨.bool true, fun w' hw' => (HV2.out w').mono ?_, ?_⟩; exact (fun e w1 h => ⟨h.1, hw'.trans (h.2.mono hw'.size)⟩); go_big_quiet_on))))
        refine wpQuiet_nil ?_
        intro w' hw'
        go_wp2
        go_ret
        exact ⟨rfl, HB.out.trans (hw'.mono HB.out.size)⟩
end Go.Proofs.YtgegloplhlkafaaDoor
