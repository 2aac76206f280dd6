/- The walk of the law PrefixCovers: it returns true. -/
import Derived.Test.YtgegloplhlkafaaDoorPfxCB
import Derived.Test.YtgegloplhlkafaaDoorPfxW
set_option autoImplicit false
namespace Go.Proofs.YtgegloplhlkafaaDoor
open Go.RowKit Go.Sort Go.Shelf

theorem three_new (w : World) (o1 o2 o3 : Obj) : ((((w.alloc o1).alloc o2).alloc o3).heap[w.heap.size]? = some o1) ∧ ((((w.alloc o1).alloc o2).alloc o3).heap[w.heap.size + 1]? = some o2) ∧ ((((w.alloc o1).alloc o2).alloc o3).heap[w.heap.size + 1 + 1]? = some o3) ∧
    ((w.alloc o1).alloc o2).alloc o3 = ((w.alloc o1).alloc o2).alloc o3 :=
  ⟨(Below.heap_alloc _ _ _ (by simp; omega)).trans (heap_alloc2_old w _ _), (Below.heap_alloc _ _ _ (by simp)).trans (heap_alloc2_new w _ _),
    by rw [show w.heap.size + 1 + 1 = ((w.alloc o1).alloc o2).heap.size by simp]; exact heap_alloc_new _ _, rfl⟩

set_option maxRecDepth 100000 in
set_option maxHeartbeats 4000000 in
theorem covers_core (PA PB PC : List Value) (x y z va : Bool) (w : World) (ht : Tab w) (hpa : (Tryd.prog.info? 26).map (·.size) = some PA.length) (hpb : (Tryd.prog.info? 26).map (·.size) = some PB.length) (hpc : (Tryd.prog.info? 26).map (·.size) = some PC.length)
    (hAB : ∀ w, Calls Tryd.prog 12 #[.agg PA.toArray, .agg PB.toArray] w fun e w' => e = .returned (.bool x) ∧ RowKit.Below w.heap.size w w')
    (hBC : ∀ w, Calls Tryd.prog 12 #[.agg PB.toArray, .agg PC.toArray] w fun e w' => e = .returned (.bool y) ∧ RowKit.Below w.heap.size w w')
    (hAA : ∀ w, Calls Tryd.prog 12 #[.agg PA.toArray, .agg PA.toArray] w fun e w' => e = .returned (.bool va) ∧ RowKit.Below w.heap.size w w')
    (hAC : ∀ w, Calls Tryd.prog 12 #[.agg PA.toArray, .agg PC.toArray] w fun e w' => e = .returned (.bool z) ∧ RowKit.Below w.heap.size w w')
    (hRAB : ∀ w, Calls Tryd.prog 13 #[.agg PA.toArray, .agg PB.toArray] w fun e w' => e = .returned (.bool x) ∧ RowKit.Below w.heap.size w w')
    (hRBC : ∀ w, Calls Tryd.prog 13 #[.agg PB.toArray, .agg PC.toArray] w fun e w' => e = .returned (.bool y) ∧ RowKit.Below w.heap.size w w')
    (hVA : ∀ w, Calls Tryd.prog 14 #[.agg PA.toArray] w fun e w' => e = .returned (.bool va) ∧ RowKit.Below w.heap.size w w')
    (hxy : x = true → y = true → z = true) :
    Calls Tryd.prog 4 #[.agg PA.toArray, .agg PB.toArray, .agg PC.toArray] w fun e w' => e = .returned (.bool true) ∧ RowKit.Below w.heap.size w w' := by
  obtain ⟨W, hW⟩ : ∃ W, W = ((w.alloc (.cells PA.toArray 26)).alloc (.cells PB.toArray 26)).alloc (.cells PC.toArray 26) := ⟨_, rfl⟩
  obtain ⟨n0, n1, n2, _⟩ := three_new w (.cells PA.toArray 26) (.cells PB.toArray 26) (.cells PC.toArray 26)
  rw [← hW] at n0 n1 n2
  have hB : RowKit.Below w.heap.size w W := by rw [hW]; exact (((Below.refl _ _).alloc (Nat.le_refl _) _).alloc (by simp) _).alloc (by simp; omega) _
  have r0 : W.rangeAt w.heap.size 0 PA := rangeAt_row (xs := []) (ys := []) (by simpa using n0)
  have r1 : W.rangeAt (w.heap.size + 1) 0 PB := rangeAt_row (xs := []) (ys := []) (by simpa using n1)
  have r2 : W.rangeAt (w.heap.size + 1 + 1) 0 PC := rangeAt_row (xs := []) (ys := []) (by simpa using n2)
  have hal := fun w' (hb : RowKit.Below W.heap.size W w') => alive2_any w' (ht.below (hB.trans (hb.mono hB.size)))
  have HAL := hide hal
  have R0 := hide r0
  have R1 := hide r1
  have R2 := hide r2
  have HB := hide hB
  have HPA := Lib.hid hpa
  have HPB := Lib.hid hpb
  have HPC := Lib.hid hpc
  have HAB := hide hAB
  have HBC := hide hBC
  have HAA := hide hAA
  have HAC := hide hAC
  have HRAB := hide hRAB
  have HRBC := hide hRBC
  have HVA := hide hVA
  have HXY := hide hxy
  clear n0 n1 n2 hB r0 r1 r2 hal hpa hpb hpc hAB hBC hAA hAC hRAB hRBC hVA hxy ht
  go_enter Tryd.func4, Tryd.ntmps4
  go_wp2_with fail
  rw [← hW]
  clear hW
  refine wp_region_quietC (fun w' => Below W.heap.size W w') (by kernel_rfl) (by kernel_rfl) (Below.refl _ _ |>.drew) ?_
  repeat (first
    | go_big_quiet_skip
    | (go_big_quiet_want
       first
       | (refine quiet_loadR _ _ rfl w.heap.size 0 rfl _ Tryd.underlying26 rfl PA HPA.out (fun w' hw' => rangeAt_below R0.out hw') ?_; go_big_quiet_on; simp only [Act.put, List.setIfInBounds_toArray, List.set_cons_zero, List.set_cons_succ])
       | (refine quiet_loadR _ _ rfl (w.heap.size + 1) 0 rfl _ Tryd.underlying26 rfl PB HPB.out (fun w' hw' => rangeAt_below R1.out hw') ?_; go_big_quiet_on; simp only [Act.put, List.setIfInBounds_toArray, List.set_cons_zero, List.set_cons_succ])
       | (refine quiet_loadR _ _ rfl (w.heap.size + 1 + 1) 0 rfl _ Tryd.underlying26 rfl PC HPC.out (fun w' hw' => rangeAt_below R2.out hw') ?_; go_big_quiet_on; simp only [Act.put, List.setIfInBounds_toArray, List.set_cons_zero, List.set_cons_succ])
       | (go_big_quiet_op
          first
            | go_big_quiet_on
            | (refine ⟨_, fun _ _ => rfl, ?_⟩; go_big_quiet_on)
            | (with_reducible refine ⟨.bool x, fun w' hw' => (HAB.out w').mono ?_, ?_⟩; exact (fun e w1 h => ⟨h.1, hw'.trans (h.2.mono hw'.size)⟩); go_big_quiet_on)
            | (with_reducible refine ⟨.bool y, fun w' hw' => (HBC.out w').mono ?_, ?_⟩; exact (fun e w1 h => ⟨h.1, hw'.trans (h.2.mono hw'.size)⟩); go_big_quiet_on))))
  refine wpQuiet_nil ?_
  intro w' hw'
  have r0 := rangeAt_below R0.out hw'
  have r1 := rangeAt_below R1.out hw'
  have r2 := rangeAt_below R2.out hw'
  have hal := fun w'' (hb : RowKit.Below w'.heap.size w' w'') => HAL.out w'' (hw'.trans (hb.mono hw'.size))
  have HB1 := hide (HB.out.trans (hw'.mono HB.out.size))
  clear R0 R1 R2 HAL HB hw'
  have R0 := hide r0
  have R1 := hide r1
  have R2 := hide r2
  have HAL := hide hal
  clear r0 r1 r2 hal
  rename_i W1
  obtain ⟨W2, hW2⟩ : ∃ W2, W2 = w' := ⟨_, rfl⟩
  rw [← hW2] at R0 R1 R2 HAL HB1 ⊢
  clear hW2
  go_wp2_with fail
  have hvv : (va == va) = true := by simp
  cases x <;> cases y
  · refine wp_region_quietC (fun w' => Below W2.heap.size W2 w') (by kernel_rfl) (by kernel_rfl) (Below.refl _ _ |>.drew) ?_
    repeat (first
      | go_big_quiet_skip
      | (go_big_quiet_want
         first
         | (refine quiet_loadR _ _ rfl w.heap.size 0 rfl _ Tryd.underlying26 rfl PA HPA.out (fun w' hw' => rangeAt_below R0.out hw') ?_; go_big_quiet_on; simp only [Act.put, List.setIfInBounds_toArray, List.set_cons_zero, List.set_cons_succ])
         | (refine quiet_loadR _ _ rfl (w.heap.size + 1) 0 rfl _ Tryd.underlying26 rfl PB HPB.out (fun w' hw' => rangeAt_below R1.out hw') ?_; go_big_quiet_on; simp only [Act.put, List.setIfInBounds_toArray, List.set_cons_zero, List.set_cons_succ])
         | (refine quiet_loadR _ _ rfl (w.heap.size + 1 + 1) 0 rfl _ Tryd.underlying26 rfl PC HPC.out (fun w' hw' => rangeAt_below R2.out hw') ?_; go_big_quiet_on; simp only [Act.put, List.setIfInBounds_toArray, List.set_cons_zero, List.set_cons_succ])
         | (go_big_quiet_op
            first
              | go_big_quiet_on
              | (refine ⟨_, fun _ _ => rfl, ?_⟩; go_big_quiet_on)
              | (with_reducible refine ⟨.bool true, fun w' hw' => (HAL.out w' hw').mono ?_, ?_⟩; exact (fun e w1 h => ⟨h.1, hw'.trans (h.2.mono hw'.size)⟩); go_big_quiet_on)
              | (with_reducible refine ⟨.bool false, fun w' hw' => (HRAB.out w').mono ?_, ?_⟩; exact (fun e w1 h => ⟨h.1, hw'.trans (h.2.mono hw'.size)⟩); go_big_quiet_on)
              | (with_reducible refine ⟨.bool false, fun w' hw' => (HRBC.out w').mono ?_, ?_⟩; exact (fun e w1 h => ⟨h.1, hw'.trans (h.2.mono hw'.size)⟩); go_big_quiet_on)
              | (with_reducible refine ⟨.bool va, fun w' hw' => (HAA.out w').mono ?_, ?_⟩; exact (fun e w1 h => ⟨h.1, hw'.trans (h.2.mono hw'.size)⟩); go_big_quiet_on)
              | (with_reducible refine ⟨.bool va, fun w' hw' => (HVA.out w').mono ?_, ?_⟩; exact (fun e w1 h => ⟨h.1, hw'.trans (h.2.mono hw'.size)⟩); go_big_quiet_on)
              | (with_reducible refine ⟨.bool true, fun w' hw' => (HAC.out w').mono ?_, ?_⟩; exact (fun e w1 h => ⟨h.1, hw'.trans (h.2.mono hw'.size)⟩); go_big_quiet_on))))
    refine wpQuiet_nil ?_
    intro w' hw'
    go_wp2
    go_ret
    exact ⟨rfl, HB1.out.trans (hw'.mono HB1.out.size)⟩
  · refine wp_region_quietC (fun w' => Below W2.heap.size W2 w') (by kernel_rfl) (by kernel_rfl) (Below.refl _ _ |>.drew) ?_
    repeat (first
      | go_big_quiet_skip
      | (go_big_quiet_want
         first
         | (refine quiet_loadR _ _ rfl w.heap.size 0 rfl _ Tryd.underlying26 rfl PA HPA.out (fun w' hw' => rangeAt_below R0.out hw') ?_; go_big_quiet_on; simp only [Act.put, List.setIfInBounds_toArray, List.set_cons_zero, List.set_cons_succ])
         | (refine quiet_loadR _ _ rfl (w.heap.size + 1) 0 rfl _ Tryd.underlying26 rfl PB HPB.out (fun w' hw' => rangeAt_below R1.out hw') ?_; go_big_quiet_on; simp only [Act.put, List.setIfInBounds_toArray, List.set_cons_zero, List.set_cons_succ])
         | (refine quiet_loadR _ _ rfl (w.heap.size + 1 + 1) 0 rfl _ Tryd.underlying26 rfl PC HPC.out (fun w' hw' => rangeAt_below R2.out hw') ?_; go_big_quiet_on; simp only [Act.put, List.setIfInBounds_toArray, List.set_cons_zero, List.set_cons_succ])
         | (go_big_quiet_op
            first
              | go_big_quiet_on
              | (refine ⟨_, fun _ _ => rfl, ?_⟩; go_big_quiet_on)
              | (with_reducible refine ⟨.bool true, fun w' hw' => (HAL.out w' hw').mono ?_, ?_⟩; exact (fun e w1 h => ⟨h.1, hw'.trans (h.2.mono hw'.size)⟩); go_big_quiet_on)
              | (with_reducible refine ⟨.bool false, fun w' hw' => (HRAB.out w').mono ?_, ?_⟩; exact (fun e w1 h => ⟨h.1, hw'.trans (h.2.mono hw'.size)⟩); go_big_quiet_on)
              | (with_reducible refine ⟨.bool true, fun w' hw' => (HRBC.out w').mono ?_, ?_⟩; exact (fun e w1 h => ⟨h.1, hw'.trans (h.2.mono hw'.size)⟩); go_big_quiet_on)
              | (with_reducible refine ⟨.bool va, fun w' hw' => (HAA.out w').mono ?_, ?_⟩; exact (fun e w1 h => ⟨h.1, hw'.trans (h.2.mono hw'.size)⟩); go_big_quiet_on)
              | (with_reducible refine ⟨.bool va, fun w' hw' => (HVA.out w').mono ?_, ?_⟩; exact (fun e w1 h => ⟨h.1, hw'.trans (h.2.mono hw'.size)⟩); go_big_quiet_on)
              | (with_reducible refine ⟨.bool true, fun w' hw' => (HAC.out w').mono ?_, ?_⟩; exact (fun e w1 h => ⟨h.1, hw'.trans (h.2.mono hw'.size)⟩); go_big_quiet_on))))
    refine wpQuiet_nil ?_
    intro w' hw'
    go_wp2
    go_ret
    exact ⟨rfl, HB1.out.trans (hw'.mono HB1.out.size)⟩
  · refine wp_region_quietC (fun w' => Below W2.heap.size W2 w') (by kernel_rfl) (by kernel_rfl) (Below.refl _ _ |>.drew) ?_
    repeat (first
      | go_big_quiet_skip
      | (go_big_quiet_want
         first
         | (refine quiet_loadR _ _ rfl w.heap.size 0 rfl _ Tryd.underlying26 rfl PA HPA.out (fun w' hw' => rangeAt_below R0.out hw') ?_; go_big_quiet_on; simp only [Act.put, List.setIfInBounds_toArray, List.set_cons_zero, List.set_cons_succ])
         | (refine quiet_loadR _ _ rfl (w.heap.size + 1) 0 rfl _ Tryd.underlying26 rfl PB HPB.out (fun w' hw' => rangeAt_below R1.out hw') ?_; go_big_quiet_on; simp only [Act.put, List.setIfInBounds_toArray, List.set_cons_zero, List.set_cons_succ])
         | (refine quiet_loadR _ _ rfl (w.heap.size + 1 + 1) 0 rfl _ Tryd.underlying26 rfl PC HPC.out (fun w' hw' => rangeAt_below R2.out hw') ?_; go_big_quiet_on; simp only [Act.put, List.setIfInBounds_toArray, List.set_cons_zero, List.set_cons_succ])
         | (go_big_quiet_op
            first
              | go_big_quiet_on
              | (refine ⟨_, fun _ _ => rfl, ?_⟩; go_big_quiet_on)
              | (with_reducible refine ⟨.bool true, fun w' hw' => (HAL.out w' hw').mono ?_, ?_⟩; exact (fun e w1 h => ⟨h.1, hw'.trans (h.2.mono hw'.size)⟩); go_big_quiet_on)
              | (with_reducible refine ⟨.bool true, fun w' hw' => (HRAB.out w').mono ?_, ?_⟩; exact (fun e w1 h => ⟨h.1, hw'.trans (h.2.mono hw'.size)⟩); go_big_quiet_on)
              | (with_reducible refine ⟨.bool false, fun w' hw' => (HRBC.out w').mono ?_, ?_⟩; exact (fun e w1 h => ⟨h.1, hw'.trans (h.2.mono hw'.size)⟩); go_big_quiet_on)
              | (with_reducible refine ⟨.bool va, fun w' hw' => (HAA.out w').mono ?_, ?_⟩; exact (fun e w1 h => ⟨h.1, hw'.trans (h.2.mono hw'.size)⟩); go_big_quiet_on)
              | (with_reducible refine ⟨.bool va, fun w' hw' => (HVA.out w').mono ?_, ?_⟩; exact (fun e w1 h => ⟨h.1, hw'.trans (h.2.mono hw'.size)⟩); go_big_quiet_on)
              | (with_reducible refine ⟨.bool true, fun w' hw' => (HAC.out w').mono ?_, ?_⟩; exact (fun e w1 h => ⟨h.1, hw'.trans (h.2.mono hw'.size)⟩); go_big_quiet_on))))
    refine wpQuiet_nil ?_
    intro w' hw'
    go_wp2
    go_ret
    exact ⟨rfl, HB1.out.trans (hw'.mono HB1.out.size)⟩
  · have hz := HXY.out rfl rfl
    subst hz
    refine wp_region_quietC (fun w' => Below W2.heap.size W2 w') (by kernel_rfl) (by kernel_rfl) (Below.refl _ _ |>.drew) ?_
    repeat (first
      | go_big_quiet_skip
      | (go_big_quiet_want
         first
         | (refine quiet_loadR _ _ rfl w.heap.size 0 rfl _ Tryd.underlying26 rfl PA HPA.out (fun w' hw' => rangeAt_below R0.out hw') ?_; go_big_quiet_on; simp only [Act.put, List.setIfInBounds_toArray, List.set_cons_zero, List.set_cons_succ])
         | (refine quiet_loadR _ _ rfl (w.heap.size + 1) 0 rfl _ Tryd.underlying26 rfl PB HPB.out (fun w' hw' => rangeAt_below R1.out hw') ?_; go_big_quiet_on; simp only [Act.put, List.setIfInBounds_toArray, List.set_cons_zero, List.set_cons_succ])
         | (refine quiet_loadR _ _ rfl (w.heap.size + 1 + 1) 0 rfl _ Tryd.underlying26 rfl PC HPC.out (fun w' hw' => rangeAt_below R2.out hw') ?_; go_big_quiet_on; simp only [Act.put, List.setIfInBounds_toArray, List.set_cons_zero, List.set_cons_succ])
         | (go_big_quiet_op
            first
              | go_big_quiet_on
              | (refine ⟨_, fun _ _ => rfl, ?_⟩; go_big_quiet_on)
              | (with_reducible refine ⟨.bool true, fun w' hw' => (HAL.out w' hw').mono ?_, ?_⟩; exact (fun e w1 h => ⟨h.1, hw'.trans (h.2.mono hw'.size)⟩); go_big_quiet_on)
              | (with_reducible refine ⟨.bool true, fun w' hw' => (HRAB.out w').mono ?_, ?_⟩; exact (fun e w1 h => ⟨h.1, hw'.trans (h.2.mono hw'.size)⟩); go_big_quiet_on)
              | (with_reducible refine ⟨.bool true, fun w' hw' => (HRBC.out w').mono ?_, ?_⟩; exact (fun e w1 h => ⟨h.1, hw'.trans (h.2.mono hw'.size)⟩); go_big_quiet_on)
              | (with_reducible refine ⟨.bool va, fun w' hw' => (HAA.out w').mono ?_, ?_⟩; exact (fun e w1 h => ⟨h.1, hw'.trans (h.2.mono hw'.size)⟩); go_big_quiet_on)
              | (with_reducible refine ⟨.bool va, fun w' hw' => (HVA.out w').mono ?_, ?_⟩; exact (fun e w1 h => ⟨h.1, hw'.trans (h.2.mono hw'.size)⟩); go_big_quiet_on)
              | (with_reducible refine ⟨.bool true, fun w' hw' => (HAC.out w').mono ?_, ?_⟩; exact (fun e w1 h => ⟨h.1, hw'.trans (h.2.mono hw'.size)⟩); go_big_quiet_on))))
    refine wpQuiet_nil ?_
    intro w' hw'
    go_wp2
    go_ret
    exact ⟨rfl, HB1.out.trans (hw'.mono HB1.out.size)⟩

theorem covers_any (fa la : Int) (a : List Int) (fb lb : Int) (b : List Int) (fc lc : Int) (c : List Int) (w : World) (ha : a.length = 16) (hb : b.length = 16) (hc : c.length = 16) (hba : Bs a) (hbb : Bs b) (hbc : Bs c) (ht : Tab w) :
    Calls Tryd.prog 4 #[.agg (pvL fa la a).toArray, .agg (pvL fb lb b).toArray, .agg (pvL fc lc c).toArray] w fun e w' => e = .returned (.bool true) ∧ RowKit.Below w.heap.size w w' :=
  covers_core (pvL fa la a) (pvL fb lb b) (pvL fc lc c) (covF fa la a fb lb b) (covF fb lb b fc lc c) (covF fa la a fc lc c) (vF fa la a) w ht
    (by rw [pfx_info, pvL_len, ha]) (by rw [pfx_info, pvL_len, hb]) (by rw [pfx_info, pvL_len, hc])
    (covers_prog fa la a fb lb b ha hb hba hbb) (covers_prog fb lb b fc lc c hb hc hbb hbc) (fun w => by have := covers_prog fa la a fa la a ha ha hba hba w; rwa [covF_self] at this)
    (covers_prog fa la a fc lc c ha hc hba hbc) (covers_ref fa la a fb lb b ha hb hba hbb) (covers_ref fb lb b fc lc c hb hc hbb hbc) (rvalid_any fa la a ha hba)
    (covF_trans fa la a fb lb b fc lc c ha hb hc hba hbb hbc)
end Go.Proofs.YtgegloplhlkafaaDoor
