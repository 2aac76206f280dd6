/- The reference's Covers. -/
import Derived.Test.YtgegloplhlkafaaDoorPfxCA
import Derived.Test.YtgegloplhlkafaaDoorPfxM
set_option autoImplicit false
namespace Go.Proofs.YtgegloplhlkafaaDoor
open Go.RowKit

theorem wpList_load_wholeG {P : Program} {ops : Array Oper} {rest : List Oper} {o : Oper} {a : Act} {Q : Exit → Act → World → Prop} (w : World) (hgd : Region.wanted o (yielded ops a.tmps) = true) (ty : TypeId) (x : Operand) (ho : o.op = .load ty x)
    (g : Nat) (t : TypeId) (cs : Array Value) (d : TypeDesc) (hx : a.eval x = .pointer (some ⟨g, 0, none⟩)) (hg : w.heap[g]? = some (.cells cs t (0, 0))) (hu : P.underlying ty = some d)
    (hd : (match d with | .struct _ | .array _ _ => true | _ => false) = true) (hi : (P.info? ty).map (·.size) = some cs.size)
    (h : wpList P ops Q rest (a.put o.dst (.agg cs)) w) : wpList P ops Q (o :: rest) a w := by
  refine wpList_wanted hgd fun K hK => ?_
  unfold Oper.wp execOp
  simp only [ho, hx, Instr.loadAt, Instr.sureAddr, Sem.run_bind, Sem.run_pure, Result.andThen_ok, run_loadVar_mid w g 0 cs.size t ty cs (0, 0) d hg hu hd hi (by omega)]
  rw [extract_all cs _ rfl]
  exact hK _ _ h

set_option maxRecDepth 100000 in
set_option maxHeartbeats 4000000 in
theorem covers_ref (fa la : Int) (a : List Int) (fb lb : Int) (b : List Int) (ha : a.length = 16) (hb : b.length = 16) (hba : Bs a) (hbb : Bs b) (w : World) :
    Calls Tryd.prog 13 #[.agg (pvL fa la a).toArray, .agg (pvL fb lb b).toArray] w fun e w' => e = .returned (.bool (covF fa la a fb lb b)) ∧ Below w.heap.size w w' := by
  have hV1 := rvalid_any fa la a ha hba
  have hV2 := rvalid_any fb lb b hb hbb
  have hT := two_new w fa la a fb lb b
  have hB : Below w.heap.size w ((w.alloc (.cells (pvL fa la a).toArray 26)).alloc (.cells (pvL fb lb b).toArray 26)) := ((Below.refl _ _).alloc (Nat.le_refl _) _).alloc (by simp) _
  have hpa : (Tryd.prog.info? 26).map (·.size) = some (pvL fa la a).toArray.size := by rw [pfx_info]; simp [pvL_len, ha]
  have hpb : (Tryd.prog.info? 26).map (·.size) = some (pvL fb lb b).toArray.size := by rw [pfx_info]; simp [pvL_len, hb]
  have hda : (Tryd.prog.info? 24).map (·.size) = some (bV a).length := by rw [arr_info, bV_len, ha]
  have hdb : (Tryd.prog.info? 24).map (·.size) = some (bV b).length := by rw [arr_info, bV_len, hb]
  have HT := hide hT
  have HB := hide hB
  have HPA := Lib.hid hpa
  have HPB := Lib.hid hpb
  have HDA := Lib.hid hda
  have HDB := Lib.hid hdb
  clear hT hB hpa hpb hda hdb
  cases hva : vF fa la a
  · have hres : covF fa la a fb lb b = false := by simp [covF, hva]
    rw [hva] at hV1
    rw [hres]
    have HV1 := hide hV1
    have HV2 := hide hV2
    clear hV1 hV2 hva hres
    go_enter Tryd.func13, Tryd.ntmps13
    go_wp2_with (first
      | ((with_reducible refine wpList_load_whole ((w.alloc (.cells (pvL fa la a).toArray 26)).alloc (.cells (pvL fb lb b).toArray 26)) ?hgd10 _ (.tmp 2) ?ho10 w.heap.size 26 (pvL fa la a).toArray _ ?hx10 HT.out.ga Tryd.underlying26 ?hd10 HPA.out ?_); (case hgd10 => rfl); (case ho10 => rfl); (case hx10 => rfl); (case hd10 => rfl))
      | (go_at_call 14
         with_reducible refine (HV1.out _).mono ?_
         rintro e w1 ⟨rfl, hb1⟩
         have hz1 := hb1.size
         have HT1 := hide (HT.out.below hb1)
         have HB1 := hide (HB.out.trans (hb1.mono HB.out.size))
         clear hb1)
      | ((with_reducible refine wpList_load_wholeG w1 ?hgd11 _ (.tmp 3) ?ho11 (w.heap.size + 1) 26 (pvL fb lb b).toArray _ ?hx11 HT1.out.gb Tryd.underlying26 ?hd11 HPB.out ?_); (case ho11 => rfl); (case hgd11 => rfl); (case hx11 => rfl); (case hd11 => rfl))
      | (go_at_call 14
         with_reducible refine (HV2.out _).mono ?_
         rintro e w2 ⟨rfl, hb2⟩
         have HT2 := hide (HT1.out.below hb2)
         have HB2 := hide (HB1.out.trans (hb2.mono HB1.out.size))
         have f1 := HT2.out.fa0
         have f2 := HT2.out.la1
         have f3 := HT2.out.fb0
         have f4 := HT2.out.lb1
         clear hb2))
    go_ret
    exact ⟨rfl, HB1.out⟩
  · rw [hva] at hV1
    have HV1 := hide hV1
    clear hV1
    cases hvb : vF fb lb b
    · have hres : covF fa la a fb lb b = false := by simp [covF, hvb]
      rw [hvb] at hV2
      rw [hres]
      have HV2 := hide hV2
      clear hV2 hva hvb hres
      go_enter Tryd.func13, Tryd.ntmps13
      go_wp2_with (first
        | ((with_reducible refine wpList_load_whole ((w.alloc (.cells (pvL fa la a).toArray 26)).alloc (.cells (pvL fb lb b).toArray 26)) ?hgd20 _ (.tmp 2) ?ho20 w.heap.size 26 (pvL fa la a).toArray _ ?hx20 HT.out.ga Tryd.underlying26 ?hd20 HPA.out ?_); (case hgd20 => rfl); (case ho20 => rfl); (case hx20 => rfl); (case hd20 => rfl))
        | (go_at_call 14
           with_reducible refine (HV1.out _).mono ?_
           rintro e w1 ⟨rfl, hb1⟩
           have hz1 := hb1.size
           have HT1 := hide (HT.out.below hb1)
           have HB1 := hide (HB.out.trans (hb1.mono HB.out.size))
           clear hb1)
        | ((with_reducible refine wpList_load_wholeG w1 ?hgd21 _ (.tmp 3) ?ho21 (w.heap.size + 1) 26 (pvL fb lb b).toArray _ ?hx21 HT1.out.gb Tryd.underlying26 ?hd21 HPB.out ?_); (case ho21 => rfl); (case hgd21 => rfl); (case hx21 => rfl); (case hd21 => rfl))
        | (go_at_call 14
           with_reducible refine (HV2.out _).mono ?_
           rintro e w2 ⟨rfl, hb2⟩
           have HT2 := hide (HT1.out.below hb2)
           have HB2 := hide (HB1.out.trans (hb2.mono HB1.out.size))
           have f1 := HT2.out.fa0
           have f2 := HT2.out.la1
           have f3 := HT2.out.fb0
           have f4 := HT2.out.lb1
           clear hb2))
      go_ret
      exact ⟨rfl, HB2.out⟩
    · rw [hvb] at hV2
      have HV2 := hide hV2
      clear hV2
      by_cases hf : fa = fb
      · subst hf
        have hff : (fa != fa) = false := by simp
        by_cases hl : la ≤ lb
        · obtain ⟨h0, h1, hm⟩ := vF_bd hva
          obtain ⟨n, rfl⟩ := Int.eq_ofNat_of_zero_le h0
          have hza := (mTo_same_iff (n : Int) a ha hba).1 hm
          have hres : covF fa (n : Int) a fa lb b = decide (∀ i : Nat, i < 128 → (i : Int) < (n : Int) → bitF a i = bitF b i) := by
            simp only [covF, hva, hvb, hl, Bool.true_and, decide_true, mTo_eq_iff (n : Int) a b ha hb hba hbb hza]
          have HRES := hide hres
          have HBA := hide (fun i hi w => rbit_any a ha hba i hi w)
          have HBB := hide (fun i hi w => rbit_any b hb hbb i hi w)
          have hle : decide (lb < (n : Int)) = false := by simpa using hl
          have hn : n ≤ 128 := by omega
          clear hva hvb hres h0 h1 hm hza ha hb hba hbb
          go_enter Tryd.func13, Tryd.ntmps13
          go_wp2_with (first
            | ((with_reducible refine wpList_load_whole ((w.alloc (.cells (pvL fa (n : Int) a).toArray 26)).alloc (.cells (pvL fa lb b).toArray 26)) ?hgd30 _ (.tmp 2) ?ho30 w.heap.size 26 (pvL fa (n : Int) a).toArray _ ?hx30 HT.out.ga Tryd.underlying26 ?hd30 HPA.out ?_); (case hgd30 => rfl); (case ho30 => rfl); (case hx30 => rfl); (case hd30 => rfl))
            | (go_at_call 14
               with_reducible refine (HV1.out _).mono ?_
               rintro e w1 ⟨rfl, hb1⟩
               have hz1 := hb1.size
               have HT1 := hide (HT.out.below hb1)
               have HB1 := hide (HB.out.trans (hb1.mono HB.out.size))
               clear hb1)
            | ((with_reducible refine wpList_load_wholeG w1 ?hgd31 _ (.tmp 3) ?ho31 (w.heap.size + 1) 26 (pvL fa lb b).toArray _ ?hx31 HT1.out.gb Tryd.underlying26 ?hd31 HPB.out ?_); (case ho31 => rfl); (case hgd31 => rfl); (case hx31 => rfl); (case hd31 => rfl))
            | (go_at_call 14
               with_reducible refine (HV2.out _).mono ?_
               rintro e w2 ⟨rfl, hb2⟩
               have HT2 := hide (HT1.out.below hb2)
               have HB2 := hide (HB1.out.trans (hb2.mono HB1.out.size))
               have f1 := HT2.out.fa0
               have f2 := HT2.out.la1
               have f3 := HT2.out.fb0
               have f4 := HT2.out.lb1
               clear hb2))
          clear f1 f2 f3 f4 HT HT1 HB HB1 HV1 HV2
          go_loopw [5] (fun i wr => ∃ k : Nat, k ≤ n ∧ i = .int .i64 k ∧ (∀ t : Nat, t < k → bitF a t = bitF b t) ∧ Hid (Two wr w.heap.size fa (n : Int) a fa lb b) ∧ Below w.heap.size w wr) (fun i _ => n - (intOf i).toNat)
          case atStart => exact ⟨0, by omega, rfl, fun t h => by omega, HT2, HB2.out⟩
          case round =>
            obtain ⟨k, hk, rfl, hz, hT, hbel⟩ := hrel
            have HBL := hide hbel
            have HZ := hide hz
            have HT := hT
            have f2 := hT.out.la1
            have hk2 : (0 : Int) ≤ (k : Int) := Int.natCast_nonneg _
            clear hbel hz hT
            by_cases hlt : k < n
            · have hlt' : (k : Int) < (n : Int) := by omega
              have hA : ∀ w, Calls Tryd.prog 34 #[.agg (bV a).toArray, .int .i64 k] w fun e w' => e = .returned (.int .i64 (bitF a k)) ∧ Below w.heap.size w w' := HBA.out k (by omega)
              have hB : ∀ w, Calls Tryd.prog 34 #[.agg (bV b).toArray, .int .i64 k] w fun e w' => e = .returned (.int .i64 (bitF b k)) ∧ Below w.heap.size w w' := HBB.out k (by omega)
              by_cases hbz : bitF a k = bitF b k
              · rw [← hbz] at hB
                have HKZ := Lib.hid hbz
                have HA := hide hA
                have HB := hide hB
                clear hbz hA hB
                generalize bitF a k = X at HA HB
                have hne : (X != X) = false := by simp
                go_wp2_with fail
                refine wp_region_quietC (fun w' => Below wr.heap.size wr w') (by kernel_rfl) (by kernel_rfl) (Below.refl _ _ |>.drew) ?_
                repeat (first
                  | go_big_quiet_skip
                  | (go_big_quiet_want
                     first
                     | (refine quiet_loadR _ _ rfl w.heap.size 2 rfl _ Tryd.underlying24 rfl (bV a) HDA.out (fun w' hw' => rangeAt_below HT.out.aa hw') ?_; go_big_quiet_on; simp only [Act.put, List.setIfInBounds_toArray, List.set_cons_zero, List.set_cons_succ])
                     | (refine quiet_loadR _ _ rfl (w.heap.size + 1) 2 rfl _ Tryd.underlying24 rfl (bV b) HDB.out (fun w' hw' => rangeAt_below HT.out.ab hw') ?_; go_big_quiet_on; simp only [Act.put, List.setIfInBounds_toArray, List.set_cons_zero, List.set_cons_succ])
                     | (go_big_quiet_op
                        first
                          | go_big_quiet_on
                          | (refine ⟨_, fun _ _ => rfl, ?_⟩; go_big_quiet_on)
                          | (with_reducible refine ⟨.int .i64 X, fun w' hw' => (HA.out w').mono ?_, ?_⟩; exact (fun e w1 h => ⟨h.1, hw'.trans (h.2.mono hw'.size)⟩); go_big_quiet_on)
                          | (with_reducible refine ⟨.int .i64 X, fun w' hw' => (HB.out w').mono ?_, ?_⟩; exact (fun e w1 h => ⟨h.1, hw'.trans (h.2.mono hw'.size)⟩); go_big_quiet_on))))
                refine wpQuiet_nil ?_
                intro w' hw'
                go_wp2
                go_roundw
                case rel => exact ⟨k + 1, by omega, by go_num, fun t h1 => by
                  by_cases e : t = k
                  · subst e; exact HKZ.out
                  · exact HZ.out t (by omega), hide (HT.out.below hw'), HBL.out.trans (hw'.mono HBL.out.size)⟩
                case measure => simp [intOf]; omega
              · have hres : covF fa (n : Int) a fa lb b = false := by rw [HRES.out, decide_eq_false_iff_not]; intro h; exact hbz (h k (by omega) hlt')
                have HR := Lib.hid hres
                have hne : (bitF a k != bitF b k) = true := by simpa using hbz
                have HA := hide hA
                have HB := hide hB
                clear hbz hA hB hres
                generalize bitF a k = X at hne HA
                generalize bitF b k = Y at hne HB
                go_wp2_with fail
                refine wp_region_quietC (fun w' => Below wr.heap.size wr w') (by kernel_rfl) (by kernel_rfl) (Below.refl _ _ |>.drew) ?_
                repeat (first
                  | go_big_quiet_skip
                  | (go_big_quiet_want
                     first
                     | (refine quiet_loadR _ _ rfl w.heap.size 2 rfl _ Tryd.underlying24 rfl (bV a) HDA.out (fun w' hw' => rangeAt_below HT.out.aa hw') ?_; go_big_quiet_on; simp only [Act.put, List.setIfInBounds_toArray, List.set_cons_zero, List.set_cons_succ])
                     | (refine quiet_loadR _ _ rfl (w.heap.size + 1) 2 rfl _ Tryd.underlying24 rfl (bV b) HDB.out (fun w' hw' => rangeAt_below HT.out.ab hw') ?_; go_big_quiet_on; simp only [Act.put, List.setIfInBounds_toArray, List.set_cons_zero, List.set_cons_succ])
                     | (go_big_quiet_op
                        first
                          | go_big_quiet_on
                          | (refine ⟨_, fun _ _ => rfl, ?_⟩; go_big_quiet_on)
                          | (with_reducible refine ⟨.int .i64 X, fun w' hw' => (HA.out w').mono ?_, ?_⟩; exact (fun e w1 h => ⟨h.1, hw'.trans (h.2.mono hw'.size)⟩); go_big_quiet_on)
                          | (with_reducible refine ⟨.int .i64 Y, fun w' hw' => (HB.out w').mono ?_, ?_⟩; exact (fun e w1 h => ⟨h.1, hw'.trans (h.2.mono hw'.size)⟩); go_big_quiet_on))))
                refine wpQuiet_nil ?_
                intro w' hw'
                go_wp2
                go_ret
                exact ⟨by rw [HR.out]; rfl, HBL.out.trans (hw'.mono HBL.out.size)⟩
            · have hres : covF fa (n : Int) a fa lb b = true := by rw [HRES.out, decide_eq_true_eq]; exact fun i _ h2 => HZ.out i (by omega)
              have HR := Lib.hid hres
              clear hres
              have hge : ¬ (k : Int) < (n : Int) := by omega
              go_wp2
              go_ret
              exact ⟨by rw [HR.out]; rfl, HBL.out⟩
        · have hres : covF fa la a fa lb b = false := by simp [covF, hl]
          have hle : decide (lb < la) = true := by simpa using hl
          rw [hres]
          clear hva hvb hres
          go_enter Tryd.func13, Tryd.ntmps13
          go_wp2_with (first
            | ((with_reducible refine wpList_load_whole ((w.alloc (.cells (pvL fa la a).toArray 26)).alloc (.cells (pvL fa lb b).toArray 26)) ?hgd40 _ (.tmp 2) ?ho40 w.heap.size 26 (pvL fa la a).toArray _ ?hx40 HT.out.ga Tryd.underlying26 ?hd40 HPA.out ?_); (case hgd40 => rfl); (case ho40 => rfl); (case hx40 => rfl); (case hd40 => rfl))
            | (go_at_call 14
               with_reducible refine (HV1.out _).mono ?_
               rintro e w1 ⟨rfl, hb1⟩
               have hz1 := hb1.size
               have HT1 := hide (HT.out.below hb1)
               have HB1 := hide (HB.out.trans (hb1.mono HB.out.size))
               clear hb1)
            | ((with_reducible refine wpList_load_wholeG w1 ?hgd41 _ (.tmp 3) ?ho41 (w.heap.size + 1) 26 (pvL fa lb b).toArray _ ?hx41 HT1.out.gb Tryd.underlying26 ?hd41 HPB.out ?_); (case ho41 => rfl); (case hgd41 => rfl); (case hx41 => rfl); (case hd41 => rfl))
            | (go_at_call 14
               with_reducible refine (HV2.out _).mono ?_
               rintro e w2 ⟨rfl, hb2⟩
               have HT2 := hide (HT1.out.below hb2)
               have HB2 := hide (HB1.out.trans (hb2.mono HB1.out.size))
               have f1 := HT2.out.fa0
               have f2 := HT2.out.la1
               have f3 := HT2.out.fb0
               have f4 := HT2.out.lb1
               clear hb2))
          go_ret
          exact ⟨rfl, HB2.out⟩
      · have hres : covF fa la a fb lb b = false := by simp [covF, hf]
        have hne : (fa != fb) = true := by simpa using hf
        rw [hres]
        clear hva hvb hres
        go_enter Tryd.func13, Tryd.ntmps13
        go_wp2_with (first
          | ((with_reducible refine wpList_load_whole ((w.alloc (.cells (pvL fa la a).toArray 26)).alloc (.cells (pvL fb lb b).toArray 26)) ?hgd50 _ (.tmp 2) ?ho50 w.heap.size 26 (pvL fa la a).toArray _ ?hx50 HT.out.ga Tryd.underlying26 ?hd50 HPA.out ?_); (case hgd50 => rfl); (case ho50 => rfl); (case hx50 => rfl); (case hd50 => rfl))
          | (go_at_call 14
             with_reducible refine (HV1.out _).mono ?_
             rintro e w1 ⟨rfl, hb1⟩
             have hz1 := hb1.size
             have HT1 := hide (HT.out.below hb1)
             have HB1 := hide (HB.out.trans (hb1.mono HB.out.size))
             clear hb1)
          | ((with_reducible refine wpList_load_wholeG w1 ?hgd51 _ (.tmp 3) ?ho51 (w.heap.size + 1) 26 (pvL fb lb b).toArray _ ?hx51 HT1.out.gb Tryd.underlying26 ?hd51 HPB.out ?_); (case ho51 => rfl); (case hgd51 => rfl); (case hx51 => rfl); (case hd51 => rfl))
          | (go_at_call 14
             with_reducible refine (HV2.out _).mono ?_
             rintro e w2 ⟨rfl, hb2⟩
             have HT2 := hide (HT1.out.below hb2)
             have HB2 := hide (HB1.out.trans (hb2.mono HB1.out.size))
             have f1 := HT2.out.fa0
             have f2 := HT2.out.la1
             have f3 := HT2.out.fb0
             have f4 := HT2.out.lb1
             clear hb2))
        go_ret
        exact ⟨rfl, HB2.out⟩
end Go.Proofs.YtgegloplhlkafaaDoor
