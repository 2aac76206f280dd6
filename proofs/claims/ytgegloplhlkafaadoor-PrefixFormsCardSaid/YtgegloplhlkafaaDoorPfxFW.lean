/- The walk of the law PrefixForms: it returns true, and leaves alone whatever lay there. -/
import Derived.Test.YtgegloplhlkafaaDoorPfxPW
import Derived.Test.YtgegloplhlkafaaDoorPfxFB
import Derived.Test.YtgegloplhlkafaaDoorEquP
set_option autoImplicit false
namespace Go.Proofs.YtgegloplhlkafaaDoor
open Go.RowKit Go.Sort Go.Shelf

theorem textP_len (p : Int × Int × List Int) (h16 : p.2.2.length = 16) (hb : Bs p.2.2) : (textP p).length ≤ 500 := by
  unfold textP
  split
  · rename_i hv
    have hr : rangedF p.1 p.2.1 = true := by unfold vT vF at hv; simp at hv; exact hv.1
    obtain ⟨_, h0, _, h1, _⟩ := ranged_bd hr
    have hnl := numL_le p.2.1 (by omega)
    split
    · have hjb : ∀ x ∈ (p.2.2.take 4).map numL, x.length ≤ 20 := by
        intro x hx; obtain ⟨y, hy, rfl⟩ := List.mem_map.1 hx
        have := hb y (List.mem_of_mem_take hy); exact numL_le y (by omega)
      have hjl := join_le 20 1 ((p.2.2.take 4).map numL) [46] (by simp) hjb
      have htl : ((p.2.2.take 4).map numL).length ≤ 4 := by rw [List.length_map, List.length_take]; omega
      unfold text4
      simp only [List.length_append, List.length_cons, List.length_nil]
      omega
    · have hjb : ∀ x ∈ grpL p.2.2, x.length ≤ 4 := by
        intro x hx
        simp only [grpL, List.mem_map, List.mem_range] at hx
        obtain ⟨y, hy, rfl⟩ := hx
        have := grpN_le p.2.2 hb y
        exact digL_len 16 (by omega) 3 _ (by omega)
      have hjl := join_le 4 1 (grpL p.2.2) [58] (by simp) hjb
      rw [grpL_len] at hjl
      unfold text6
      simp only [List.length_append, List.length_cons, List.length_nil]
      omega
  · simp
theorem parP_nil : parP [] = none := by
  cases h : parP [] with
  | none => rfl
  | some p =>
    obtain ⟨h1, h2⟩ := parP_sound [] p h
    obtain ⟨J, e, _⟩ := text_parts p h1
    rw [e] at h2
    simp at h2

set_option maxRecDepth 100000 in
set_option maxHeartbeats 8000000 in
theorem forms_no (fam : Int) (PP : Int × Int × List Int) (BY : List Int) (TX : ByteArray) (w : World) (hf : PP.1 = fam) (h16 : PP.2.2.length = 16)
    (KAL : ∀ w1, Below w.heap.size w w1 → Calls Tryd.prog 9 #[] w1 fun e w' => e = .returned (.bool true) ∧ Below w1.heap.size w1 w')
    (K1 : ∀ W, Calls Tryd.prog 25 #[.agg (pvT PP).toArray] W fun e w' => ∃ A c, e = .returned (.tuple #[.slice A BY.length c, .bool false]) ∧ Byts w' w'.heap.size A BY ∧ Below W.heap.size W w')
    (K2 : ∀ W, Calls Tryd.prog 26 #[.agg (pvT PP).toArray] W fun e w' => ∃ A c, e = .returned (.tuple #[.slice A BY.length c, .bool false]) ∧ Byts w' w'.heap.size A BY ∧ Below W.heap.size W w')
    (K3 : ∀ W, Below w.heap.size w W → Calls Tryd.prog 24 #[.agg (pvT PP).toArray] W fun e w' => e = .returned (.string TX) ∧ Below W.heap.size W w')
    (K4 : ∀ W, Calls Tryd.prog 19 #[.agg (pvT PP).toArray] W fun e w' => e = .returned (.bool false) ∧ Below W.heap.size W w')
    (K5 : ∀ W, Calls Tryd.prog 14 #[.agg (pvT PP).toArray] W fun e w' => e = .returned (.bool false) ∧ Below W.heap.size W w')
    (K6 : ∀ W, Calls Tryd.prog 28 #[.agg (pvT PP).toArray] W fun e w' => e = .returned (.string TX) ∧ Below W.heap.size W w')
    (KE : ∀ W A A2 c c2, Byts W W.heap.size A BY → Byts W W.heap.size A2 BY → Calls Tryd.prog 27 #[.slice A BY.length c, .slice A2 BY.length c2] W fun e w' => e = .returned (.bool true) ∧ Below W.heap.size W w')
    (KN : ∀ W A c, Byts W W.heap.size A BY → Calls Tryd.prog 15 #[.slice A BY.length c] W fun e w' => ∃ g, e = .returned (.pointer (some ⟨g, 0, none⟩)) ∧ W.heap.size ≤ g ∧ Rdr w' g BY 0 ∧ Below W.heap.size W w')
    (K8 : ∀ W g, Rdr W g BY 0 → Calls Tryd.prog 16 #[.int .i64 fam, .pointer (some ⟨g, 0, none⟩)] W fun e w' => e = .returned (.tuple #[.agg (pvT ZP).toArray, .bool false]) ∧ W.grownBy w' (some g))
    (K9 : ∀ W, Below w.heap.size w W → Calls Tryd.prog 22 #[.string TX] W fun e w' => e = .returned (.tuple #[.agg (pvT ZP).toArray, .bool false]) ∧ Below W.heap.size W w') :
    Calls Tryd.prog 8 #[.agg (pvT PP).toArray] w fun e w' => e = .returned (.bool true) ∧ Below w.heap.size w w' := by
  have hpi : (Tryd.prog.info? 26).map (·.size) = some (pvT PP).length := by have := pvT_len PP h16; rw [pfx_info]; simpa using this.symm
  have hqi : (Tryd.prog.info? 26).map (·.size) = some (pvT PP).toArray.size := by rw [pfx_info, pvT_len PP h16]
  have heq : ∀ w, (binOp .eql 26 (.agg (pvT PP).toArray) (.agg (pvT PP).toArray)).run Tryd.prog w = .ok (.bool true) w := fun w => by
    rw [eq_pfx _ _ h16 h16 w]; simp
  have hts : (TX.toList == TX.toList) = true := by simp
  have H16 := Lib.hid h16
  have Z16 := Lib.hid zp16
  have HPI := Lib.hid hpi
  have hb0 : Below w.heap.size w (w.alloc (.cells (pvT PP).toArray 26)) := (Below.refl _ _).alloc (Nat.le_refl _) _
  have HB0 := hide hb0
  have HF := Lib.hid hf
  have Q0 := hide KAL
  have Q1 := hide K1
  have Q2 := hide K2
  have Q3 := hide K3
  have Q4 := hide K4
  have Q5 := hide K5
  have Q6 := hide K6
  have QE := hide KE
  have QN := hide KN
  have Q8 := hide K8
  have Q9 := hide K9
  clear h16 hpi hqi hb0 hf KAL K1 K2 K3 K4 K5 K6 KE KN K8 K9
  go_enter Tryd.func8, Tryd.ntmps8
  go_wp2_with (first
    | ((refine wpList_load_pfx ?hgdA (.tmp 1) ?hoA w.heap.size PP ?hxA (heap_alloc_new w _) H16.out ?_); (case hgdA => rfl); (case hoA => rfl); (case hxA => rfl))
    | (go_at_call 25; refine (Q1.out _).mono ?_; rintro e w1 ⟨A1, c1, rfl, hy1, hb1⟩
       have hbw1 := HB0.out.trans (hb1.mono HB0.out.size)
       have HB1 := hide hbw1
       have hz1 := hbw1.size
       have g1 : w1.heap[w.heap.size]? = some (.cells (pvT PP).toArray 26 (0, 0)) := (hb1.block w.heap.size (by simp)).trans (heap_alloc_new _ _)
       have G1 := hide g1
       have Y1 := hide hy1
       clear hbw1 g1 hy1 hb1)
    | ((with_reducible refine wpList_load_pfx ?hgdB (.tmp 1) ?hoB w.heap.size PP ?hxB G1.out H16.out ?_); (case hgdB => rfl); (case hoB => rfl); (case hxB => rfl))
    | (go_at_call 26; refine (Q2.out w1).mono ?_; rintro e w2 ⟨A2, c2, rfl, hy2, hb2⟩
       have hbw2 := HB1.out.trans (hb2.mono HB1.out.size)
       have HB2 := hide hbw2
       have hz2 := hbw2.size
       have g2 := (hb2.block w.heap.size (lt_of_block G1.out)).trans G1.out
       have G2 := hide g2
       have Y12 := hide ((Y1.out.below hb2).more hb2.size)
       have Y2 := hide hy2
       clear hbw2 g2 hy2 hb2)
    | ((with_reducible refine wpList_load_pfx ?hgdC (.tmp 1) ?hoC w.heap.size PP ?hxC G2.out H16.out ?_); (case hgdC => rfl); (case hoC => rfl); (case hxC => rfl))
    | (go_at_call 24; refine (Q3.out w2 HB2.out).mono ?_; rintro e w3 ⟨rfl, hb3⟩
       have hbw3 := HB2.out.trans (hb3.mono HB2.out.size)
       have HB3 := hide hbw3
       have hz3 := hbw3.size
       have g3 := (hb3.block w.heap.size (lt_of_block G2.out)).trans G2.out
       have G3 := hide g3
       have Y13 := hide ((Y12.out.below hb3).more hb3.size)
       have Y23 := hide ((Y2.out.below hb3).more hb3.size)
       clear hbw3 g3 hb3))
  have r3 : w3.rangeAt w.heap.size 0 (pvT PP) := rangeAt_row (xs := []) (ys := []) (by simpa using G3.out)
  have R3 := hide r3
  have hq4 := fun w' (hw : Below w3.heap.size w3 w') => (Q4.out w').mono fun e w1 (h : e = .returned (.bool false) ∧ Below w'.heap.size w' w1) => (⟨h.1, hw.trans (h.2.mono hw.size)⟩ : e = .returned (.bool false) ∧ Below w3.heap.size w3 w1)
  have hq5 := fun w' (hw : Below w3.heap.size w3 w') => (Q5.out w').mono fun e w1 (h : e = .returned (.bool false) ∧ Below w'.heap.size w' w1) => (⟨h.1, hw.trans (h.2.mono hw.size)⟩ : e = .returned (.bool false) ∧ Below w3.heap.size w3 w1)
  have hq6 := fun w' (hw : Below w3.heap.size w3 w') => (Q6.out w').mono fun e w1 (h : e = .returned (.string TX) ∧ Below w'.heap.size w' w1) => (⟨h.1, hw.trans (h.2.mono hw.size)⟩ : e = .returned (.string TX) ∧ Below w3.heap.size w3 w1)
  have hqe := fun w' (hw : Below w3.heap.size w3 w') => (QE.out w' A1 A2 c1 c2 ((Y13.out.below hw).more hw.size) ((Y23.out.below hw).more hw.size)).mono fun e w1 (h : e = .returned (.bool true) ∧ Below w'.heap.size w' w1) => (⟨h.1, hw.trans (h.2.mono hw.size)⟩ : e = .returned (.bool true) ∧ Below w3.heap.size w3 w1)
  have E4 := hide hq4
  have E5 := hide hq5
  have E6 := hide hq6
  have EE := hide hqe
  clear r3 hq4 hq5 hq6 hqe
  refine wp_region_quietC (fun w' => Below w3.heap.size w3 w') (by kernel_rfl) (by kernel_rfl) (Below.refl _ _ |>.drew) ?_
  repeat (first
    | go_big_quiet_skip
    | (go_big_quiet_want
       first
       | (refine quiet_loadR _ _ rfl w.heap.size 0 rfl _ Tryd.underlying26 rfl (pvT PP) HPI.out (fun w' hw' => rangeAt_below R3.out hw') ?_; go_big_quiet_on; simp only [Act.put, List.setIfInBounds_toArray, List.set_cons_zero, List.set_cons_succ])
       | (go_big_quiet_op
          first
            | go_big_quiet_on
            | (refine ⟨_, fun _ _ => rfl, ?_⟩; go_big_quiet_on)
            | ((with_reducible refine ⟨_, fun w' hw' => E4.out w' hw', ?_⟩); go_big_quiet_on)
            | ((with_reducible refine ⟨_, fun w' hw' => E5.out w' hw', ?_⟩); go_big_quiet_on)
            | ((with_reducible refine ⟨_, fun w' hw' => EE.out w' hw', ?_⟩); go_big_quiet_on)
            | ((with_reducible refine ⟨_, fun w' hw' => E6.out w' hw', ?_⟩); go_big_quiet_on))))
  refine wpQuiet_nil ?_
  intro w4 hw4
  have hbw4 := HB3.out.trans (hw4.mono HB3.out.size)
  have g4 := (hw4.block w.heap.size (lt_of_block G3.out)).trans G3.out
  have HB4 := hide hbw4
  have G4 := hide g4
  have hz4 := hbw4.size
  have Y14 := hide ((Y13.out.below hw4).more hw4.size)
  clear hbw4 g4 hw4 E4 E5 E6 EE R3
  go_wp2_with (first
    | (go_at_call 15; refine (QN.out _ _ _ Y14.out).mono ?_; rintro e w5 ⟨g, rfl, hg5, hr5, hb5⟩
       have hbw5 := HB4.out.trans (hb5.mono HB4.out.size)
       have HB5 := hide hbw5
       have hz5 := hbw5.size
       have g5 := (hb5.block w.heap.size (lt_of_block G4.out)).trans G4.out
       have c50 : w5.cell? ⟨w.heap.size, 0, none⟩ = some (.int .i64 fam) := by rw [cell_of_row _ _ 0 _ _ _ g5, ← HF.out]; rfl
       have hgw : w.heap.size < g := by have := lt_of_block G4.out; omega
       have G5 := hide g5
       have R5 := hide hr5
       clear hbw5 g5 hr5 hb5)
    | (go_at_call 16; refine (Q8.out _ _ R5.out).mono ?_; rintro e w6 ⟨rfl, ho6⟩
       have hbw6 := below_only HB5.out ho6 hz5 (by omega)
       have HB6 := hide hbw6
       have hz6 := hbw6.size
       have g6 := (ho6.block w.heap.size (lt_of_block G5.out) (by intro e; injection e; omega)).trans G5.out
       have G6 := hide g6
       clear hbw6 g6 ho6)
    | ((with_reducible refine wpList_store_new ?hgd1 (.tmp 9) (.tmp 54) ?ho1 w6 ZP ?hx1 ?hp1 Z16.out ?_); (case hgd1 => rfl); (case ho1 => rfl); (case hx1 => rfl); (case hp1 => rfl)
       intro W7 G79 B7 hzW7
       have b7 := HB6.out.trans (B7.out.mono hz6)
       have g7 := (B7.out.block w.heap.size (lt_of_block G6.out)).trans G6.out
       have HB7 := hide b7
       have G7 := hide g7
       have hz7 := b7.size
       clear b7 g7 B7)
    | (go_at_call 22; refine (Q9.out _ HB7.out).mono ?_; rintro e w8 ⟨rfl, hb8⟩
       have hbw8 := HB7.out.trans (hb8.mono HB7.out.size)
       have HB8 := hide hbw8
       have hz8 := hbw8.size
       have g8 := (hb8.block w.heap.size (lt_of_block G7.out)).trans G7.out
       have g89 := (hb8.block w6.heap.size (lt_of_block G79.out)).trans G79.out
       have G8 := hide g8
       have G89 := hide g89
       clear hbw8 g8 g89 hb8)
    | ((with_reducible refine wpList_store_new ?hgd2 (.tmp 11) (.tmp 59) ?ho2 w8 ZP ?hx2 ?hp2 Z16.out ?_); (case hgd2 => rfl); (case ho2 => rfl); (case hx2 => rfl); (case hp2 => rfl)
       intro W9 G9x B9 hzW9
       have b9 := HB8.out.trans (B9.out.mono hz8)
       have g9 := (B9.out.block w.heap.size (lt_of_block G8.out)).trans G8.out
       have g99 := (B9.out.block w6.heap.size (lt_of_block G89.out)).trans G89.out
       have HB9 := hide b9
       have G9 := hide g9
       have G99 := hide g99
       have hz9 := b9.size
       clear b9 g9 g99 B9)
    | (go_at_call 9; refine (Q0.out W9 HB9.out).mono ?_; rintro e wA ⟨rfl, hbA⟩
       have hbwA := HB9.out.trans (hbA.mono HB9.out.size)
       have HBA := hide hbwA
       have hzA := hbwA.size
       clear hbwA hbA))
  go_ret
  exact ⟨rfl, HBA.out⟩
set_option maxRecDepth 100000 in
set_option maxHeartbeats 8000000 in
theorem forms_yes (fam : Int) (PP : Int × Int × List Int) (BY : List Int) (TX : ByteArray) (w : World) (hf : PP.1 = fam) (h16 : PP.2.2.length = 16)
    (KAL : ∀ w1, Below w.heap.size w w1 → Calls Tryd.prog 9 #[] w1 fun e w' => e = .returned (.bool true) ∧ Below w1.heap.size w1 w')
    (K1 : ∀ W, Calls Tryd.prog 25 #[.agg (pvT PP).toArray] W fun e w' => ∃ A c, e = .returned (.tuple #[.slice A BY.length c, .bool true]) ∧ Byts w' w'.heap.size A BY ∧ Below W.heap.size W w')
    (K2 : ∀ W, Calls Tryd.prog 26 #[.agg (pvT PP).toArray] W fun e w' => ∃ A c, e = .returned (.tuple #[.slice A BY.length c, .bool true]) ∧ Byts w' w'.heap.size A BY ∧ Below W.heap.size W w')
    (K3 : ∀ W, Below w.heap.size w W → Calls Tryd.prog 24 #[.agg (pvT PP).toArray] W fun e w' => e = .returned (.string TX) ∧ Below W.heap.size W w')
    (K4 : ∀ W, Calls Tryd.prog 19 #[.agg (pvT PP).toArray] W fun e w' => e = .returned (.bool true) ∧ Below W.heap.size W w')
    (K5 : ∀ W, Calls Tryd.prog 14 #[.agg (pvT PP).toArray] W fun e w' => e = .returned (.bool true) ∧ Below W.heap.size W w')
    (K6 : ∀ W, Calls Tryd.prog 28 #[.agg (pvT PP).toArray] W fun e w' => e = .returned (.string TX) ∧ Below W.heap.size W w')
    (KE : ∀ W A A2 c c2, Byts W W.heap.size A BY → Byts W W.heap.size A2 BY → Calls Tryd.prog 27 #[.slice A BY.length c, .slice A2 BY.length c2] W fun e w' => e = .returned (.bool true) ∧ Below W.heap.size W w')
    (KN : ∀ W A c, Byts W W.heap.size A BY → Calls Tryd.prog 15 #[.slice A BY.length c] W fun e w' => ∃ g, e = .returned (.pointer (some ⟨g, 0, none⟩)) ∧ W.heap.size ≤ g ∧ Rdr w' g BY 0 ∧ Below W.heap.size W w')
    (K8 : ∀ W g, Rdr W g BY 0 → Calls Tryd.prog 16 #[.int .i64 fam, .pointer (some ⟨g, 0, none⟩)] W fun e w' => e = .returned (.tuple #[.agg (pvT PP).toArray, .bool true]) ∧ (∃ at1, Rdr w' g [] at1) ∧ W.grownBy w' (some g))
    (K9 : ∀ W, Below w.heap.size w W → Calls Tryd.prog 22 #[.string TX] W fun e w' => e = .returned (.tuple #[.agg (pvT PP).toArray, .bool true]) ∧ Below W.heap.size W w') :
    Calls Tryd.prog 8 #[.agg (pvT PP).toArray] w fun e w' => e = .returned (.bool true) ∧ Below w.heap.size w w' := by
  have hpi : (Tryd.prog.info? 26).map (·.size) = some (pvT PP).length := by have := pvT_len PP h16; rw [pfx_info]; simpa using this.symm
  have hqi : (Tryd.prog.info? 26).map (·.size) = some (pvT PP).toArray.size := by rw [pfx_info, pvT_len PP h16]
  have heq : ∀ w, (binOp .eql 26 (.agg (pvT PP).toArray) (.agg (pvT PP).toArray)).run Tryd.prog w = .ok (.bool true) w := fun w => by
    rw [eq_pfx _ _ h16 h16 w]; simp
  have hts : (TX.toList == TX.toList) = true := by simp
  have H16 := Lib.hid h16
  have Z16 := Lib.hid zp16
  have HPI := Lib.hid hpi
  have hb0 : Below w.heap.size w (w.alloc (.cells (pvT PP).toArray 26)) := (Below.refl _ _).alloc (Nat.le_refl _) _
  have HB0 := hide hb0
  have HF := Lib.hid hf
  have Q0 := hide KAL
  have Q1 := hide K1
  have Q2 := hide K2
  have Q3 := hide K3
  have Q4 := hide K4
  have Q5 := hide K5
  have Q6 := hide K6
  have QE := hide KE
  have QN := hide KN
  have Q8 := hide K8
  have Q9 := hide K9
  clear h16 hpi hqi hb0 hf KAL K1 K2 K3 K4 K5 K6 KE KN K8 K9
  go_enter Tryd.func8, Tryd.ntmps8
  go_wp2_with (first
    | ((refine wpList_load_pfx ?hgdA (.tmp 1) ?hoA w.heap.size PP ?hxA (heap_alloc_new w _) H16.out ?_); (case hgdA => rfl); (case hoA => rfl); (case hxA => rfl))
    | (go_at_call 25; refine (Q1.out _).mono ?_; rintro e w1 ⟨A1, c1, rfl, hy1, hb1⟩
       have hbw1 := HB0.out.trans (hb1.mono HB0.out.size)
       have HB1 := hide hbw1
       have hz1 := hbw1.size
       have g1 : w1.heap[w.heap.size]? = some (.cells (pvT PP).toArray 26 (0, 0)) := (hb1.block w.heap.size (by simp)).trans (heap_alloc_new _ _)
       have G1 := hide g1
       have Y1 := hide hy1
       clear hbw1 g1 hy1 hb1)
    | ((with_reducible refine wpList_load_pfx ?hgdB (.tmp 1) ?hoB w.heap.size PP ?hxB G1.out H16.out ?_); (case hgdB => rfl); (case hoB => rfl); (case hxB => rfl))
    | (go_at_call 26; refine (Q2.out w1).mono ?_; rintro e w2 ⟨A2, c2, rfl, hy2, hb2⟩
       have hbw2 := HB1.out.trans (hb2.mono HB1.out.size)
       have HB2 := hide hbw2
       have hz2 := hbw2.size
       have g2 := (hb2.block w.heap.size (lt_of_block G1.out)).trans G1.out
       have G2 := hide g2
       have Y12 := hide ((Y1.out.below hb2).more hb2.size)
       have Y2 := hide hy2
       clear hbw2 g2 hy2 hb2)
    | ((with_reducible refine wpList_load_pfx ?hgdC (.tmp 1) ?hoC w.heap.size PP ?hxC G2.out H16.out ?_); (case hgdC => rfl); (case hoC => rfl); (case hxC => rfl))
    | (go_at_call 24; refine (Q3.out w2 HB2.out).mono ?_; rintro e w3 ⟨rfl, hb3⟩
       have hbw3 := HB2.out.trans (hb3.mono HB2.out.size)
       have HB3 := hide hbw3
       have hz3 := hbw3.size
       have g3 := (hb3.block w.heap.size (lt_of_block G2.out)).trans G2.out
       have G3 := hide g3
       have Y13 := hide ((Y12.out.below hb3).more hb3.size)
       have Y23 := hide ((Y2.out.below hb3).more hb3.size)
       clear hbw3 g3 hb3))
  have r3 : w3.rangeAt w.heap.size 0 (pvT PP) := rangeAt_row (xs := []) (ys := []) (by simpa using G3.out)
  have R3 := hide r3
  have hq4 := fun w' (hw : Below w3.heap.size w3 w') => (Q4.out w').mono fun e w1 (h : e = .returned (.bool true) ∧ Below w'.heap.size w' w1) => (⟨h.1, hw.trans (h.2.mono hw.size)⟩ : e = .returned (.bool true) ∧ Below w3.heap.size w3 w1)
  have hq5 := fun w' (hw : Below w3.heap.size w3 w') => (Q5.out w').mono fun e w1 (h : e = .returned (.bool true) ∧ Below w'.heap.size w' w1) => (⟨h.1, hw.trans (h.2.mono hw.size)⟩ : e = .returned (.bool true) ∧ Below w3.heap.size w3 w1)
  have hq6 := fun w' (hw : Below w3.heap.size w3 w') => (Q6.out w').mono fun e w1 (h : e = .returned (.string TX) ∧ Below w'.heap.size w' w1) => (⟨h.1, hw.trans (h.2.mono hw.size)⟩ : e = .returned (.string TX) ∧ Below w3.heap.size w3 w1)
  have hqe := fun w' (hw : Below w3.heap.size w3 w') => (QE.out w' A1 A2 c1 c2 ((Y13.out.below hw).more hw.size) ((Y23.out.below hw).more hw.size)).mono fun e w1 (h : e = .returned (.bool true) ∧ Below w'.heap.size w' w1) => (⟨h.1, hw.trans (h.2.mono hw.size)⟩ : e = .returned (.bool true) ∧ Below w3.heap.size w3 w1)
  have E4 := hide hq4
  have E5 := hide hq5
  have E6 := hide hq6
  have EE := hide hqe
  clear r3 hq4 hq5 hq6 hqe
  refine wp_region_quietC (fun w' => Below w3.heap.size w3 w') (by kernel_rfl) (by kernel_rfl) (Below.refl _ _ |>.drew) ?_
  repeat (first
    | go_big_quiet_skip
    | (go_big_quiet_want
       first
       | (refine quiet_loadR _ _ rfl w.heap.size 0 rfl _ Tryd.underlying26 rfl (pvT PP) HPI.out (fun w' hw' => rangeAt_below R3.out hw') ?_; go_big_quiet_on; simp only [Act.put, List.setIfInBounds_toArray, List.set_cons_zero, List.set_cons_succ])
       | (go_big_quiet_op
          first
            | go_big_quiet_on
            | (refine ⟨_, fun _ _ => rfl, ?_⟩; go_big_quiet_on)
            | ((with_reducible refine ⟨_, fun w' hw' => E4.out w' hw', ?_⟩); go_big_quiet_on)
            | ((with_reducible refine ⟨_, fun w' hw' => E5.out w' hw', ?_⟩); go_big_quiet_on)
            | ((with_reducible refine ⟨_, fun w' hw' => EE.out w' hw', ?_⟩); go_big_quiet_on)
            | ((with_reducible refine ⟨_, fun w' hw' => E6.out w' hw', ?_⟩); go_big_quiet_on))))
  refine wpQuiet_nil ?_
  intro w4 hw4
  have hbw4 := HB3.out.trans (hw4.mono HB3.out.size)
  have g4 := (hw4.block w.heap.size (lt_of_block G3.out)).trans G3.out
  have HB4 := hide hbw4
  have G4 := hide g4
  have hz4 := hbw4.size
  have Y14 := hide ((Y13.out.below hw4).more hw4.size)
  clear hbw4 g4 hw4 E4 E5 E6 EE R3
  go_wp2_with (first
    | (go_at_call 15; refine (QN.out _ _ _ Y14.out).mono ?_; rintro e w5 ⟨g, rfl, hg5, hr5, hb5⟩
       have hbw5 := HB4.out.trans (hb5.mono HB4.out.size)
       have HB5 := hide hbw5
       have hz5 := hbw5.size
       have g5 := (hb5.block w.heap.size (lt_of_block G4.out)).trans G4.out
       have c50 : w5.cell? ⟨w.heap.size, 0, none⟩ = some (.int .i64 fam) := by rw [cell_of_row _ _ 0 _ _ _ g5, ← HF.out]; rfl
       have hgw : w.heap.size < g := by have := lt_of_block G4.out; omega
       have G5 := hide g5
       have R5 := hide hr5
       clear hbw5 g5 hr5 hb5)
    | (go_at_call 16; refine (Q8.out _ _ R5.out).mono ?_; rintro e w6 ⟨rfl, ⟨at1, hr6⟩, ho6⟩
       have hbw6 := below_only HB5.out ho6 hz5 (by omega)
       have HB6 := hide hbw6
       have hz6 := hbw6.size
       have g6 := (ho6.block w.heap.size (lt_of_block G5.out) (by intro e; injection e; omega)).trans G5.out
       have G6 := hide g6
       have R6 := hide hr6
       clear hbw6 g6 ho6 hr6)
    | ((with_reducible refine wpList_store_new ?hgd1 (.tmp 9) (.tmp 54) ?ho1 w6 PP ?hx1 ?hp1 H16.out ?_); (case hgd1 => rfl); (case ho1 => rfl); (case hx1 => rfl); (case hp1 => rfl)
       intro W7 G79 B7 hzW7
       have b7 := HB6.out.trans (B7.out.mono hz6)
       have g7 := (B7.out.block w.heap.size (lt_of_block G6.out)).trans G6.out
       have HB7 := hide b7
       have G7 := hide g7
       have hz7 := b7.size
       have R7 := hide (R6.out.below B7.out)
       clear b7 g7 B7)
    | (go_at_call 22; refine (Q9.out _ HB7.out).mono ?_; rintro e w8 ⟨rfl, hb8⟩
       have hbw8 := HB7.out.trans (hb8.mono HB7.out.size)
       have HB8 := hide hbw8
       have hz8 := hbw8.size
       have g8 := (hb8.block w.heap.size (lt_of_block G7.out)).trans G7.out
       have g89 := (hb8.block w6.heap.size (lt_of_block G79.out)).trans G79.out
       have G8 := hide g8
       have G89 := hide g89
       have R8 := hide (R7.out.below hb8)
       clear hbw8 g8 g89 hb8)
    | ((with_reducible refine wpList_store_new ?hgd2 (.tmp 11) (.tmp 59) ?ho2 w8 PP ?hx2 ?hp2 H16.out ?_); (case hgd2 => rfl); (case ho2 => rfl); (case hx2 => rfl); (case hp2 => rfl)
       intro W9 G9x B9 hzW9
       have b9 := HB8.out.trans (B9.out.mono hz8)
       have g9 := (B9.out.block w.heap.size (lt_of_block G8.out)).trans G8.out
       have g99 := (B9.out.block w6.heap.size (lt_of_block G89.out)).trans G89.out
       have HB9 := hide b9
       have G9 := hide g9
       have G99 := hide g99
       have hz9 := b9.size
       have R9 := hide (R8.out.below B9.out)
       clear b9 g9 g99 B9)
    | (go_at_call 9; refine (Q0.out W9 HB9.out).mono ?_; rintro e wA ⟨rfl, hbA⟩
       have hbwA := HB9.out.trans (hbA.mono HB9.out.size)
       have HBA := hide hbwA
       have hzA := hbwA.size
       have gA := (hbA.block w.heap.size (lt_of_block G9.out)).trans G9.out
       have gA9 := (hbA.block w6.heap.size (lt_of_block G99.out)).trans G99.out
       have gAx := (hbA.block w8.heap.size (lt_of_block G9x.out)).trans G9x.out
       have GA := hide gA
       have GA9 := hide gA9
       have GAx := hide gAx
       have RA := hide (R9.out.below hbA)
       clear hbwA gA gA9 gAx hbA)
    | ((with_reducible refine wpList_load_pfxG ?hgdD (.tmp 9) ?hoD w6.heap.size PP ?hxD GA9.out H16.out ?_); (case hgdD => rfl); (case hoD => rfl); (case hxD => rfl))
    | ((with_reducible refine wpList_load_pfxG ?hgdE (.tmp 11) ?hoE w8.heap.size PP ?hxE GAx.out H16.out ?_); (case hgdE => rfl); (case hoE => rfl); (case hxE => rfl))
    | ((with_reducible refine wpList_load_pfxG ?hgdF (.tmp 1) ?hoF w.heap.size PP ?hxF GA.out H16.out ?_); (case hgdF => rfl); (case hoF => rfl); (case hxF => rfl))
    | (go_at_call 29; refine (left_any _ _ _ _ RA.out).mono ?_; rintro e wB ⟨rfl, rfl⟩))
  go_ret
  exact ⟨rfl, HBA.out⟩
theorem forms_any (fam len : Int) (a : List Int) (w : World) (ha : a.length = 16) (hb : Bs a) (ht : TabsR w) :
    Calls Tryd.prog 8 #[.agg (pvL fam len a).toArray] w fun e w' => e = .returned (.bool true) ∧ Below w.heap.size w w' := by
  have hbl : (pBytes fam len a).length ≤ 200 := by
    unfold pBytes; split
    · rw [List.length_cons, List.length_take]; omega
    · simp
  have hts := textP_len (fam, len, a) ha hb
  have KAL := fun w1 (hb1 : Below w.heap.size w w1) => alive2_any w1 (ht.six.1.below hb1)
  have K1 : ∀ W, Calls Tryd.prog 25 #[.agg (pvL fam len a).toArray] W fun e w' => ∃ A c, e = .returned (.tuple #[.slice A (pBytes fam len a).length c, .bool (vF fam len a)]) ∧ Byts w' w'.heap.size A (pBytes fam len a) ∧ Below W.heap.size W w' := fun W =>
    (pbytes_any fam len a ha hb W).mono fun e w' ⟨A, c, h1, _, _, h2, h3⟩ => ⟨A, c, h1, h2, h3⟩
  have K2 := fun W => rbytesP_any fam len a ha hb W
  have K3 := fun W (hb' : Below w.heap.size w W) => text_any (fam, len, a) ha hb W (ht.below hb').six
  have K4 := fun W => valid_any fam len a ha hb W
  have K5 := fun W => rvalid_any fam len a ha hb W
  have K6 := fun W => rtext_any (fam, len, a) ha hb W
  have KE : ∀ W A A2 c c2, Byts W W.heap.size A (pBytes fam len a) → Byts W W.heap.size A2 (pBytes fam len a) → Calls Tryd.prog 27 #[.slice A (pBytes fam len a).length c, .slice A2 (pBytes fam len a).length c2] W fun e w' => e = .returned (.bool true) ∧ Below W.heap.size W w' := fun W A A2 c c2 h1 h2 => by
    have := equalB_any A A2 c c2 (pBytes fam len a) (pBytes fam len a) W h1 h2 (by omega)
    rw [decide_eq_true rfl] at this
    exact this
  have KN := fun W A c (h : Byts W W.heap.size A (pBytes fam len a)) => new_any A c (pBytes fam len a) W h (by omega)
  have K9 := fun W (hb' : Below w.heap.size w W) => parse_any (textP (fam, len, a)) W (by omega) (ht.below hb')
  cases hv : vF fam len a
  · have hbn : pBytes fam len a = [] := by unfold pBytes; rw [hv]; rfl
    have htn : textP (fam, len, a) = [] := by simp [textP, vT, hv]
    rw [hv] at K1 K2 K4 K5
    rw [htn, parP_nil] at K9
    refine forms_no fam (fam, len, a) (pBytes fam len a) (strB (textP (fam, len, a))) w rfl ha KAL K1 K2 K3 K4 K5 K6 KE KN ?_ (by rw [htn]; exact K9)
    intro W g hr
    rw [hbn] at hr
    exact read_no fam g [] 0 W hr (fun x hx => by cases hx) (by simp) (by omega) (by omega) rfl
  · obtain ⟨k1, k2, k3, k4⟩ := bytes_back fam len a ha hb hv
    rw [hv] at K1 K2 K4 K5
    rw [parP_text (fam, len, a) ⟨ha, hb, hv⟩] at K9
    refine forms_yes fam (fam, len, a) (pBytes fam len a) (strB (textP (fam, len, a))) w rfl ha KAL K1 K2 K3 K4 K5 K6 KE KN ?_ K9
    intro W g hr
    refine (read_ok fam g (pBytes fam len a) 0 W hr k4 (by omega) (by omega) (by omega) k1).mono ?_
    rintro e w' ⟨h1, h2, h3⟩
    rw [k2] at h1
    rw [k3] at h2
    exact ⟨h1, ⟨_, h2⟩, h3⟩
end Go.Proofs.YtgegloplhlkafaaDoor
