/- peerageref02.Parse over the contracts of what it calls. -/
import Derived.Test.YtgegloplhlkafaaDoorPfxZE
import Derived.Test.YtgegloplhlkafaaDoorPfxXQ
set_option autoImplicit false
namespace Go.Proofs.YtgegloplhlkafaaDoor
open Go.RowKit Go.Sort Go.Shelf

set_option maxRecDepth 100000 in
set_option maxHeartbeats 8000000 in
theorem rparse_two (S : ByteArray) (m : Nat) (w : World) (hm : m ≠ 2)
    (KS1 : ∀ W, Below w.heap.size w W → Calls Tryd.prog 50 #[.string S, .int .u8 47] W fun e w' => ∃ A c, e = .returned (.slice A m c) ∧ Below W.heap.size W w') :
    Calls Tryd.prog 23 #[.string S] w fun e w' => e = .returned (.tuple #[.agg (pvT ZP).toArray, .bool false]) ∧ Below w.heap.size w w' := by
  have hb0 : Below w.heap.size w (w.alloc (.cells (pvL 0 0 zeroA).toArray 26)) := (Below.refl _ _).alloc (Nat.le_refl _) _
  have HB0 := hide hb0
  have QS1 := hide KS1
  clear hb0 KS1
  have hmi : ((m : Int) != 2) = true := by simp; omega
  clear hm
  go_enter Tryd.func23, Tryd.ntmps23
  go_wp2_with (first
    | (go_at_call 50; (with_reducible refine (QS1.out _ ?hbb).mono ?_); (case hbb => exact HB0.out); rintro e w1 ⟨AA, cc, rfl, hb1⟩
       have hbw1 := HB0.out.trans (hb1.mono HB0.out.size)
       have HB1 := hide hbw1
       have hz1 := hbw1.size
       have g1 : w1.heap[w.heap.size]? = some (.cells (pvT ZP).toArray 26 (0, 0)) := (hb1.block w.heap.size (by simp)).trans (heap_alloc_new _ _)
       have G1 := hide g1
       clear hbw1 g1 hb1)
    | ((with_reducible refine wpList_store_pfx w1 ?hgd9 (.tmp 2) (.tmp 16) ?ho9 w.heap.size ZP ZP ?hx9 ?hp9 G1.out zp16 zp16 ?_); (case hgd9 => rfl); (case ho9 => rfl); (case hx9 => rfl); (case hp9 => rfl)
       intro WE GE OE hzWE
       have BE := below_only HB1.out OE.out hz1 (Nat.le_refl _)))
  exact bodyPost_ret (results_cell_tmp (p := 2) (t := 3) (ty := 26) rfl _ _ w.heap.size 26 _ (0, 0) _ _ rfl rfl GE.out Tryd.underlying26 rfl (by rw [pfx_info]; rfl)) rfl ⟨rfl, BE⟩
set_option maxRecDepth 100000 in
set_option maxHeartbeats 8000000 in
theorem rparse_dot_no (S s0 s1 : ByteArray) (iv : Int) (m nn : Nat) (ok : Bool) (w : World) (RS : Value → World → Prop) (RP RT : Option Addr → Nat → World → Prop) (hm : m ≠ 8) (hno : ok = false ∨ iv < 0 ∨ nn ≠ 4)
    (KS1 : ∀ W, Below w.heap.size w W → Calls Tryd.prog 50 #[.string S, .int .u8 47] W fun e w' => ∃ g c, e = .returned (.slice (some ⟨g, 0, none⟩) 2 c) ∧ w'.cell? ⟨g, 0, none⟩ = some (.string s0) ∧ w'.cell? ⟨g, 1, none⟩ = some (.string s1) ∧ Below W.heap.size W w')
    (KS2 : ∀ W, Calls Tryd.prog 50 #[.string s0, .int .u8 46] W fun e w' => ∃ v, e = .returned v ∧ RS v w' ∧ Below W.heap.size W w')
    (KA1 : ∀ v W, RS v W → Calls Tryd.prog 51 #[v, .int .i64 10, .int .i64 255] W fun e w' => ∃ A c, e = .returned (.tuple #[.slice A nn c, .bool ok]) ∧ RP A c w' ∧ Below W.heap.size W w')
    (KS3 : ∀ W, Calls Tryd.prog 50 #[.string s0, .int .u8 58] W fun e w' => ∃ A c, e = .returned (.slice A m c) ∧ RT A c w' ∧ Below W.heap.size W w')
    (KN : ∀ W, Calls Tryd.prog 52 #[.string s1, .int .i64 10, .int .i64 128] W (RetI iv W)) :
    Calls Tryd.prog 23 #[.string S] w fun e w' => e = .returned (.tuple #[.agg (pvT ZP).toArray, .bool false]) ∧ Below w.heap.size w w' := by
  have hb0 : Below w.heap.size w (w.alloc (.cells (pvL 0 0 zeroA).toArray 26)) := (Below.refl _ _).alloc (Nat.le_refl _) _
  have HB0 := hide hb0
  have QS1 := hide KS1
  have QS2 := hide KS2
  have QA1 := hide KA1
  have QS3 := hide KS3
  have QN := hide KN
  clear hb0 KS1 KS2 KA1 KS3 KN
  have hm8 : ((m : Int) == 8) = false := by simp; omega
  clear hm
  rcases hno with hok | hiv | hnn
  · subst hok
    go_enter Tryd.func23, Tryd.ntmps23
    go_wp2_with (first
      | (go_at_call 50; (with_reducible refine (QS1.out _ ?hbb).mono ?_); (case hbb => exact HB0.out); rintro e w1 ⟨gg, cc, rfl, c10, c11, hb1⟩
         have hbw1 := HB0.out.trans (hb1.mono HB0.out.size)
         have HB1 := hide hbw1
         have hz1 := hbw1.size
         have g1 : w1.heap[w.heap.size]? = some (.cells (pvT ZP).toArray 26 (0, 0)) := (hb1.block w.heap.size (by simp)).trans (heap_alloc_new _ _)
         have G1 := hide g1
         have hgl1 : gg < w1.heap.size := lt_cell c10
         clear hbw1 g1 hb1)
      | (go_at_call 50; with_reducible refine (QS2.out _).mono ?_; rintro e w2 ⟨v2, rfl, hr2, hb2⟩
         have hbw2 := HB1.out.trans (hb2.mono HB1.out.size)
         have HB2 := hide hbw2
         have hz2 := hbw2.size
         have g2 := (hb2.block w.heap.size (lt_of_block G1.out)).trans G1.out
         have G2 := hide g2
         have c20 := cell_below c10 hb2
         have c21 := cell_below c11 hb2
         have R2 := hide hr2
         have hgl2 : gg < w2.heap.size := by have := hb2.size; omega
         clear hr2 hb2 hbw2 g2)
      | (go_at_call 51; with_reducible refine (QA1.out _ _ R2.out).mono ?_; rintro e w3 ⟨A3, c3, rfl, hr3, hb3⟩
         have hbw3 := HB2.out.trans (hb3.mono HB2.out.size)
         have HB3 := hide hbw3
         have hz3 := hbw3.size
         have g3 := (hb3.block w.heap.size (lt_of_block G2.out)).trans G2.out
         have G3 := hide g3
         have c30 := cell_below c20 hb3
         have c31 := cell_below c21 hb3
         have R3 := hide hr3
         have hgl3 : gg < w3.heap.size := by have := hb3.size; omega
         clear hr3 hb3 hbw3 g3)
      | (go_at_call 50; with_reducible refine (QS3.out _).mono ?_; rintro e w4 ⟨A4, c4, rfl, hr4, hb4⟩
         have hbw4 := HB3.out.trans (hb4.mono HB3.out.size)
         have HB4 := hide hbw4
         have hz4 := hbw4.size
         have g4 := (hb4.block w.heap.size (lt_of_block G3.out)).trans G3.out
         have G4 := hide g4
         have c40 := cell_below c30 hb4
         have c41 := cell_below c31 hb4
         have R4 := hide hr4
         have hgl4 : gg < w4.heap.size := by have := hb4.size; omega
         clear hr4 hb4 hbw4 g4)
      | (go_at_call 52; refine (QN.out _).mono ?_; rintro e wN ⟨rfl, rfl⟩)
      | ((with_reducible refine wpList_store_pfx w4 ?hgd9 (.tmp 2) (.tmp 58) ?ho9 w.heap.size ZP ZP ?hx9 ?hp9 G4.out zp16 zp16 ?_); (case hgd9 => rfl); (case ho9 => rfl); (case hx9 => rfl); (case hp9 => rfl)
         intro WE GE OE hzWE
         have BE := below_only HB4.out OE.out hz4 (Nat.le_refl _)))
    exact bodyPost_ret (results_cell_tmp (p := 2) (t := 3) (ty := 26) rfl _ _ w.heap.size 26 _ (0, 0) _ _ rfl rfl GE.out Tryd.underlying26 rfl (by rw [pfx_info]; rfl)) rfl ⟨rfl, BE⟩
  · cases ok
    · go_enter Tryd.func23, Tryd.ntmps23
      go_wp2_with (first
        | (go_at_call 50; (with_reducible refine (QS1.out _ ?hbb).mono ?_); (case hbb => exact HB0.out); rintro e w1 ⟨gg, cc, rfl, c10, c11, hb1⟩
           have hbw1 := HB0.out.trans (hb1.mono HB0.out.size)
           have HB1 := hide hbw1
           have hz1 := hbw1.size
           have g1 : w1.heap[w.heap.size]? = some (.cells (pvT ZP).toArray 26 (0, 0)) := (hb1.block w.heap.size (by simp)).trans (heap_alloc_new _ _)
           have G1 := hide g1
           have hgl1 : gg < w1.heap.size := lt_cell c10
           clear hbw1 g1 hb1)
        | (go_at_call 50; with_reducible refine (QS2.out _).mono ?_; rintro e w2 ⟨v2, rfl, hr2, hb2⟩
           have hbw2 := HB1.out.trans (hb2.mono HB1.out.size)
           have HB2 := hide hbw2
           have hz2 := hbw2.size
           have g2 := (hb2.block w.heap.size (lt_of_block G1.out)).trans G1.out
           have G2 := hide g2
           have c20 := cell_below c10 hb2
           have c21 := cell_below c11 hb2
           have R2 := hide hr2
           have hgl2 : gg < w2.heap.size := by have := hb2.size; omega
           clear hr2 hb2 hbw2 g2)
        | (go_at_call 51; with_reducible refine (QA1.out _ _ R2.out).mono ?_; rintro e w3 ⟨A3, c3, rfl, hr3, hb3⟩
           have hbw3 := HB2.out.trans (hb3.mono HB2.out.size)
           have HB3 := hide hbw3
           have hz3 := hbw3.size
           have g3 := (hb3.block w.heap.size (lt_of_block G2.out)).trans G2.out
           have G3 := hide g3
           have c30 := cell_below c20 hb3
           have c31 := cell_below c21 hb3
           have R3 := hide hr3
           have hgl3 : gg < w3.heap.size := by have := hb3.size; omega
           clear hr3 hb3 hbw3 g3)
        | (go_at_call 50; with_reducible refine (QS3.out _).mono ?_; rintro e w4 ⟨A4, c4, rfl, hr4, hb4⟩
           have hbw4 := HB3.out.trans (hb4.mono HB3.out.size)
           have HB4 := hide hbw4
           have hz4 := hbw4.size
           have g4 := (hb4.block w.heap.size (lt_of_block G3.out)).trans G3.out
           have G4 := hide g4
           have c40 := cell_below c30 hb4
           have c41 := cell_below c31 hb4
           have R4 := hide hr4
           have hgl4 : gg < w4.heap.size := by have := hb4.size; omega
           clear hr4 hb4 hbw4 g4)
        | (go_at_call 52; refine (QN.out _).mono ?_; rintro e wN ⟨rfl, rfl⟩)
        | ((with_reducible refine wpList_store_pfx w4 ?hgd9 (.tmp 2) (.tmp 58) ?ho9 w.heap.size ZP ZP ?hx9 ?hp9 G4.out zp16 zp16 ?_); (case hgd9 => rfl); (case ho9 => rfl); (case hx9 => rfl); (case hp9 => rfl)
           intro WE GE OE hzWE
           have BE := below_only HB4.out OE.out hz4 (Nat.le_refl _)))
      exact bodyPost_ret (results_cell_tmp (p := 2) (t := 3) (ty := 26) rfl _ _ w.heap.size 26 _ (0, 0) _ _ rfl rfl GE.out Tryd.underlying26 rfl (by rw [pfx_info]; rfl)) rfl ⟨rfl, BE⟩
    · go_enter Tryd.func23, Tryd.ntmps23
      go_wp2_with (first
        | (go_at_call 50; (with_reducible refine (QS1.out _ ?hbb).mono ?_); (case hbb => exact HB0.out); rintro e w1 ⟨gg, cc, rfl, c10, c11, hb1⟩
           have hbw1 := HB0.out.trans (hb1.mono HB0.out.size)
           have HB1 := hide hbw1
           have hz1 := hbw1.size
           have g1 : w1.heap[w.heap.size]? = some (.cells (pvT ZP).toArray 26 (0, 0)) := (hb1.block w.heap.size (by simp)).trans (heap_alloc_new _ _)
           have G1 := hide g1
           have hgl1 : gg < w1.heap.size := lt_cell c10
           clear hbw1 g1 hb1)
        | (go_at_call 50; with_reducible refine (QS2.out _).mono ?_; rintro e w2 ⟨v2, rfl, hr2, hb2⟩
           have hbw2 := HB1.out.trans (hb2.mono HB1.out.size)
           have HB2 := hide hbw2
           have hz2 := hbw2.size
           have g2 := (hb2.block w.heap.size (lt_of_block G1.out)).trans G1.out
           have G2 := hide g2
           have c20 := cell_below c10 hb2
           have c21 := cell_below c11 hb2
           have R2 := hide hr2
           have hgl2 : gg < w2.heap.size := by have := hb2.size; omega
           clear hr2 hb2 hbw2 g2)
        | (go_at_call 51; with_reducible refine (QA1.out _ _ R2.out).mono ?_; rintro e w3 ⟨A3, c3, rfl, hr3, hb3⟩
           have hbw3 := HB2.out.trans (hb3.mono HB2.out.size)
           have HB3 := hide hbw3
           have hz3 := hbw3.size
           have g3 := (hb3.block w.heap.size (lt_of_block G2.out)).trans G2.out
           have G3 := hide g3
           have c30 := cell_below c20 hb3
           have c31 := cell_below c21 hb3
           have R3 := hide hr3
           have hgl3 : gg < w3.heap.size := by have := hb3.size; omega
           clear hr3 hb3 hbw3 g3)
        | (go_at_call 50; with_reducible refine (QS3.out _).mono ?_; rintro e w4 ⟨A4, c4, rfl, hr4, hb4⟩
           have hbw4 := HB3.out.trans (hb4.mono HB3.out.size)
           have HB4 := hide hbw4
           have hz4 := hbw4.size
           have g4 := (hb4.block w.heap.size (lt_of_block G3.out)).trans G3.out
           have G4 := hide g4
           have c40 := cell_below c30 hb4
           have c41 := cell_below c31 hb4
           have R4 := hide hr4
           have hgl4 : gg < w4.heap.size := by have := hb4.size; omega
           clear hr4 hb4 hbw4 g4)
        | (go_at_call 52; refine (QN.out _).mono ?_; rintro e wN ⟨rfl, rfl⟩)
        | ((with_reducible refine wpList_store_pfx w4 ?hgd9 (.tmp 2) (.tmp 58) ?ho9 w.heap.size ZP ZP ?hx9 ?hp9 G4.out zp16 zp16 ?_); (case hgd9 => rfl); (case ho9 => rfl); (case hx9 => rfl); (case hp9 => rfl)
           intro WE GE OE hzWE
           have BE := below_only HB4.out OE.out hz4 (Nat.le_refl _)))
      exact bodyPost_ret (results_cell_tmp (p := 2) (t := 3) (ty := 26) rfl _ _ w.heap.size 26 _ (0, 0) _ _ rfl rfl GE.out Tryd.underlying26 rfl (by rw [pfx_info]; rfl)) rfl ⟨rfl, BE⟩
  · have hni : ((nn : Int) != 4) = true := by simp; omega
    cases ok
    · go_enter Tryd.func23, Tryd.ntmps23
      go_wp2_with (first
        | (go_at_call 50; (with_reducible refine (QS1.out _ ?hbb).mono ?_); (case hbb => exact HB0.out); rintro e w1 ⟨gg, cc, rfl, c10, c11, hb1⟩
           have hbw1 := HB0.out.trans (hb1.mono HB0.out.size)
           have HB1 := hide hbw1
           have hz1 := hbw1.size
           have g1 : w1.heap[w.heap.size]? = some (.cells (pvT ZP).toArray 26 (0, 0)) := (hb1.block w.heap.size (by simp)).trans (heap_alloc_new _ _)
           have G1 := hide g1
           have hgl1 : gg < w1.heap.size := lt_cell c10
           clear hbw1 g1 hb1)
        | (go_at_call 50; with_reducible refine (QS2.out _).mono ?_; rintro e w2 ⟨v2, rfl, hr2, hb2⟩
           have hbw2 := HB1.out.trans (hb2.mono HB1.out.size)
           have HB2 := hide hbw2
           have hz2 := hbw2.size
           have g2 := (hb2.block w.heap.size (lt_of_block G1.out)).trans G1.out
           have G2 := hide g2
           have c20 := cell_below c10 hb2
           have c21 := cell_below c11 hb2
           have R2 := hide hr2
           have hgl2 : gg < w2.heap.size := by have := hb2.size; omega
           clear hr2 hb2 hbw2 g2)
        | (go_at_call 51; with_reducible refine (QA1.out _ _ R2.out).mono ?_; rintro e w3 ⟨A3, c3, rfl, hr3, hb3⟩
           have hbw3 := HB2.out.trans (hb3.mono HB2.out.size)
           have HB3 := hide hbw3
           have hz3 := hbw3.size
           have g3 := (hb3.block w.heap.size (lt_of_block G2.out)).trans G2.out
           have G3 := hide g3
           have c30 := cell_below c20 hb3
           have c31 := cell_below c21 hb3
           have R3 := hide hr3
           have hgl3 : gg < w3.heap.size := by have := hb3.size; omega
           clear hr3 hb3 hbw3 g3)
        | (go_at_call 50; with_reducible refine (QS3.out _).mono ?_; rintro e w4 ⟨A4, c4, rfl, hr4, hb4⟩
           have hbw4 := HB3.out.trans (hb4.mono HB3.out.size)
           have HB4 := hide hbw4
           have hz4 := hbw4.size
           have g4 := (hb4.block w.heap.size (lt_of_block G3.out)).trans G3.out
           have G4 := hide g4
           have c40 := cell_below c30 hb4
           have c41 := cell_below c31 hb4
           have R4 := hide hr4
           have hgl4 : gg < w4.heap.size := by have := hb4.size; omega
           clear hr4 hb4 hbw4 g4)
        | (go_at_call 52; refine (QN.out _).mono ?_; rintro e wN ⟨rfl, rfl⟩)
        | ((with_reducible refine wpList_store_pfx w4 ?hgd9 (.tmp 2) (.tmp 58) ?ho9 w.heap.size ZP ZP ?hx9 ?hp9 G4.out zp16 zp16 ?_); (case hgd9 => rfl); (case ho9 => rfl); (case hx9 => rfl); (case hp9 => rfl)
           intro WE GE OE hzWE
           have BE := below_only HB4.out OE.out hz4 (Nat.le_refl _)))
      exact bodyPost_ret (results_cell_tmp (p := 2) (t := 3) (ty := 26) rfl _ _ w.heap.size 26 _ (0, 0) _ _ rfl rfl GE.out Tryd.underlying26 rfl (by rw [pfx_info]; rfl)) rfl ⟨rfl, BE⟩
    · by_cases hiv : iv < 0
      · go_enter Tryd.func23, Tryd.ntmps23
        go_wp2_with (first
          | (go_at_call 50; (with_reducible refine (QS1.out _ ?hbb).mono ?_); (case hbb => exact HB0.out); rintro e w1 ⟨gg, cc, rfl, c10, c11, hb1⟩
             have hbw1 := HB0.out.trans (hb1.mono HB0.out.size)
             have HB1 := hide hbw1
             have hz1 := hbw1.size
             have g1 : w1.heap[w.heap.size]? = some (.cells (pvT ZP).toArray 26 (0, 0)) := (hb1.block w.heap.size (by simp)).trans (heap_alloc_new _ _)
             have G1 := hide g1
             have hgl1 : gg < w1.heap.size := lt_cell c10
             clear hbw1 g1 hb1)
          | (go_at_call 50; with_reducible refine (QS2.out _).mono ?_; rintro e w2 ⟨v2, rfl, hr2, hb2⟩
             have hbw2 := HB1.out.trans (hb2.mono HB1.out.size)
             have HB2 := hide hbw2
             have hz2 := hbw2.size
             have g2 := (hb2.block w.heap.size (lt_of_block G1.out)).trans G1.out
             have G2 := hide g2
             have c20 := cell_below c10 hb2
             have c21 := cell_below c11 hb2
             have R2 := hide hr2
             have hgl2 : gg < w2.heap.size := by have := hb2.size; omega
             clear hr2 hb2 hbw2 g2)
          | (go_at_call 51; with_reducible refine (QA1.out _ _ R2.out).mono ?_; rintro e w3 ⟨A3, c3, rfl, hr3, hb3⟩
             have hbw3 := HB2.out.trans (hb3.mono HB2.out.size)
             have HB3 := hide hbw3
             have hz3 := hbw3.size
             have g3 := (hb3.block w.heap.size (lt_of_block G2.out)).trans G2.out
             have G3 := hide g3
             have c30 := cell_below c20 hb3
             have c31 := cell_below c21 hb3
             have R3 := hide hr3
             have hgl3 : gg < w3.heap.size := by have := hb3.size; omega
             clear hr3 hb3 hbw3 g3)
          | (go_at_call 50; with_reducible refine (QS3.out _).mono ?_; rintro e w4 ⟨A4, c4, rfl, hr4, hb4⟩
             have hbw4 := HB3.out.trans (hb4.mono HB3.out.size)
             have HB4 := hide hbw4
             have hz4 := hbw4.size
             have g4 := (hb4.block w.heap.size (lt_of_block G3.out)).trans G3.out
             have G4 := hide g4
             have c40 := cell_below c30 hb4
             have c41 := cell_below c31 hb4
             have R4 := hide hr4
             have hgl4 : gg < w4.heap.size := by have := hb4.size; omega
             clear hr4 hb4 hbw4 g4)
          | (go_at_call 52; refine (QN.out _).mono ?_; rintro e wN ⟨rfl, rfl⟩)
          | ((with_reducible refine wpList_store_pfx w4 ?hgd9 (.tmp 2) (.tmp 58) ?ho9 w.heap.size ZP ZP ?hx9 ?hp9 G4.out zp16 zp16 ?_); (case hgd9 => rfl); (case ho9 => rfl); (case hx9 => rfl); (case hp9 => rfl)
             intro WE GE OE hzWE
             have BE := below_only HB4.out OE.out hz4 (Nat.le_refl _)))
        exact bodyPost_ret (results_cell_tmp (p := 2) (t := 3) (ty := 26) rfl _ _ w.heap.size 26 _ (0, 0) _ _ rfl rfl GE.out Tryd.underlying26 rfl (by rw [pfx_info]; rfl)) rfl ⟨rfl, BE⟩
      · go_enter Tryd.func23, Tryd.ntmps23
        go_wp2_with (first
          | (go_at_call 50; (with_reducible refine (QS1.out _ ?hbb).mono ?_); (case hbb => exact HB0.out); rintro e w1 ⟨gg, cc, rfl, c10, c11, hb1⟩
             have hbw1 := HB0.out.trans (hb1.mono HB0.out.size)
             have HB1 := hide hbw1
             have hz1 := hbw1.size
             have g1 : w1.heap[w.heap.size]? = some (.cells (pvT ZP).toArray 26 (0, 0)) := (hb1.block w.heap.size (by simp)).trans (heap_alloc_new _ _)
             have G1 := hide g1
             have hgl1 : gg < w1.heap.size := lt_cell c10
             clear hbw1 g1 hb1)
          | (go_at_call 50; with_reducible refine (QS2.out _).mono ?_; rintro e w2 ⟨v2, rfl, hr2, hb2⟩
             have hbw2 := HB1.out.trans (hb2.mono HB1.out.size)
             have HB2 := hide hbw2
             have hz2 := hbw2.size
             have g2 := (hb2.block w.heap.size (lt_of_block G1.out)).trans G1.out
             have G2 := hide g2
             have c20 := cell_below c10 hb2
             have c21 := cell_below c11 hb2
             have R2 := hide hr2
             have hgl2 : gg < w2.heap.size := by have := hb2.size; omega
             clear hr2 hb2 hbw2 g2)
          | (go_at_call 51; with_reducible refine (QA1.out _ _ R2.out).mono ?_; rintro e w3 ⟨A3, c3, rfl, hr3, hb3⟩
             have hbw3 := HB2.out.trans (hb3.mono HB2.out.size)
             have HB3 := hide hbw3
             have hz3 := hbw3.size
             have g3 := (hb3.block w.heap.size (lt_of_block G2.out)).trans G2.out
             have G3 := hide g3
             have c30 := cell_below c20 hb3
             have c31 := cell_below c21 hb3
             have R3 := hide hr3
             have hgl3 : gg < w3.heap.size := by have := hb3.size; omega
             clear hr3 hb3 hbw3 g3)
          | (go_at_call 50; with_reducible refine (QS3.out _).mono ?_; rintro e w4 ⟨A4, c4, rfl, hr4, hb4⟩
             have hbw4 := HB3.out.trans (hb4.mono HB3.out.size)
             have HB4 := hide hbw4
             have hz4 := hbw4.size
             have g4 := (hb4.block w.heap.size (lt_of_block G3.out)).trans G3.out
             have G4 := hide g4
             have c40 := cell_below c30 hb4
             have c41 := cell_below c31 hb4
             have R4 := hide hr4
             have hgl4 : gg < w4.heap.size := by have := hb4.size; omega
             clear hr4 hb4 hbw4 g4)
          | (go_at_call 52; refine (QN.out _).mono ?_; rintro e wN ⟨rfl, rfl⟩)
          | ((with_reducible refine wpList_store_pfx w4 ?hgd9 (.tmp 2) (.tmp 58) ?ho9 w.heap.size ZP ZP ?hx9 ?hp9 G4.out zp16 zp16 ?_); (case hgd9 => rfl); (case ho9 => rfl); (case hx9 => rfl); (case hp9 => rfl)
             intro WE GE OE hzWE
             have BE := below_only HB4.out OE.out hz4 (Nat.le_refl _)))
        exact bodyPost_ret (results_cell_tmp (p := 2) (t := 3) (ty := 26) rfl _ _ w.heap.size 26 _ (0, 0) _ _ rfl rfl GE.out Tryd.underlying26 rfl (by rw [pfx_info]; rfl)) rfl ⟨rfl, BE⟩
set_option maxRecDepth 100000 in
set_option maxHeartbeats 8000000 in
theorem rparse_col_no (S s0 s1 : ByteArray) (iv : Int) (m nn n2 : Nat) (ok ok2 : Bool) (w : World) (RS : Value → World → Prop) (RP RT RQ : Option Addr → Nat → World → Prop) (hm : m = 8) (hno : ok2 = false ∨ iv < 0)
    (KS1 : ∀ W, Below w.heap.size w W → Calls Tryd.prog 50 #[.string S, .int .u8 47] W fun e w' => ∃ g c, e = .returned (.slice (some ⟨g, 0, none⟩) 2 c) ∧ w'.cell? ⟨g, 0, none⟩ = some (.string s0) ∧ w'.cell? ⟨g, 1, none⟩ = some (.string s1) ∧ Below W.heap.size W w')
    (KS2 : ∀ W, Calls Tryd.prog 50 #[.string s0, .int .u8 46] W fun e w' => ∃ v, e = .returned v ∧ RS v w' ∧ Below W.heap.size W w')
    (KA1 : ∀ v W, RS v W → Calls Tryd.prog 51 #[v, .int .i64 10, .int .i64 255] W fun e w' => ∃ A c, e = .returned (.tuple #[.slice A nn c, .bool ok]) ∧ RP A c w' ∧ Below W.heap.size W w')
    (KS3 : ∀ W, Calls Tryd.prog 50 #[.string s0, .int .u8 58] W fun e w' => ∃ A c, e = .returned (.slice A m c) ∧ RT A c w' ∧ Below W.heap.size W w')
    (KA2 : ∀ A c W, RT A c W → Calls Tryd.prog 51 #[.slice A m c, .int .i64 16, .int .i64 65535] W fun e w' => ∃ A' c', e = .returned (.tuple #[.slice A' n2 c', .bool ok2]) ∧ RQ A' c' w' ∧ Below W.heap.size W w')
    (KN : ∀ W, Calls Tryd.prog 52 #[.string s1, .int .i64 10, .int .i64 128] W (RetI iv W)) :
    Calls Tryd.prog 23 #[.string S] w fun e w' => e = .returned (.tuple #[.agg (pvT ZP).toArray, .bool false]) ∧ Below w.heap.size w w' := by
  have hb0 : Below w.heap.size w (w.alloc (.cells (pvL 0 0 zeroA).toArray 26)) := (Below.refl _ _).alloc (Nat.le_refl _) _
  have HB0 := hide hb0
  have QS1 := hide KS1
  have QS2 := hide KS2
  have QA1 := hide KA1
  have QS3 := hide KS3
  have QN := hide KN
  have QA2 := hide KA2
  clear hb0 KS1 KS2 KA1 KS3 KN KA2
  subst hm
  rcases hno with hok | hiv
  · subst hok
    go_enter Tryd.func23, Tryd.ntmps23
    go_wp2_with (first
      | (go_at_call 50; (with_reducible refine (QS1.out _ ?hbb).mono ?_); (case hbb => exact HB0.out); rintro e w1 ⟨gg, cc, rfl, c10, c11, hb1⟩
         have hbw1 := HB0.out.trans (hb1.mono HB0.out.size)
         have HB1 := hide hbw1
         have hz1 := hbw1.size
         have g1 : w1.heap[w.heap.size]? = some (.cells (pvT ZP).toArray 26 (0, 0)) := (hb1.block w.heap.size (by simp)).trans (heap_alloc_new _ _)
         have G1 := hide g1
         have hgl1 : gg < w1.heap.size := lt_cell c10
         clear hbw1 g1 hb1)
      | (go_at_call 50; with_reducible refine (QS2.out _).mono ?_; rintro e w2 ⟨v2, rfl, hr2, hb2⟩
         have hbw2 := HB1.out.trans (hb2.mono HB1.out.size)
         have HB2 := hide hbw2
         have hz2 := hbw2.size
         have g2 := (hb2.block w.heap.size (lt_of_block G1.out)).trans G1.out
         have G2 := hide g2
         have c20 := cell_below c10 hb2
         have c21 := cell_below c11 hb2
         have R2 := hide hr2
         have hgl2 : gg < w2.heap.size := by have := hb2.size; omega
         clear hr2 hb2 hbw2 g2)
      | (go_at_call 51; with_reducible refine (QA1.out _ _ R2.out).mono ?_; rintro e w3 ⟨A3, c3, rfl, hr3, hb3⟩
         have hbw3 := HB2.out.trans (hb3.mono HB2.out.size)
         have HB3 := hide hbw3
         have hz3 := hbw3.size
         have g3 := (hb3.block w.heap.size (lt_of_block G2.out)).trans G2.out
         have G3 := hide g3
         have c30 := cell_below c20 hb3
         have c31 := cell_below c21 hb3
         have R3 := hide hr3
         have hgl3 : gg < w3.heap.size := by have := hb3.size; omega
         clear hr3 hb3 hbw3 g3)
      | (go_at_call 50; with_reducible refine (QS3.out _).mono ?_; rintro e w4 ⟨A4, c4, rfl, hr4, hb4⟩
         have hbw4 := HB3.out.trans (hb4.mono HB3.out.size)
         have HB4 := hide hbw4
         have hz4 := hbw4.size
         have g4 := (hb4.block w.heap.size (lt_of_block G3.out)).trans G3.out
         have G4 := hide g4
         have c40 := cell_below c30 hb4
         have c41 := cell_below c31 hb4
         have R4 := hide hr4
         have hgl4 : gg < w4.heap.size := by have := hb4.size; omega
         clear hr4 hb4 hbw4 g4)
      | (go_at_call 50; with_reducible refine (QS3.out w4).mono ?_; rintro e w5 ⟨A5, c5, rfl, hr5, hb5⟩
         have hbw5 := HB4.out.trans (hb5.mono HB4.out.size)
         have HB5 := hide hbw5
         have hz5 := hbw5.size
         have g5 := (hb5.block w.heap.size (lt_of_block G4.out)).trans G4.out
         have G5 := hide g5
         have c50 := cell_below c40 hb5
         have c51 := cell_below c41 hb5
         have R5 := hide hr5
         have hgl5 : gg < w5.heap.size := by have := hb5.size; omega
         clear hr5 hb5 hbw5 g5)
      | (go_at_call 51; with_reducible refine (QA2.out _ _ _ R5.out).mono ?_; rintro e w6 ⟨A6, c6, rfl, hr6, hb6⟩
         have hbw6 := HB5.out.trans (hb6.mono HB5.out.size)
         have HB6 := hide hbw6
         have hz6 := hbw6.size
         have g6 := (hb6.block w.heap.size (lt_of_block G5.out)).trans G5.out
         have G6 := hide g6
         have c60 := cell_below c50 hb6
         have c61 := cell_below c51 hb6
         have R6 := hide hr6
         have hgl6 : gg < w6.heap.size := by have := hb6.size; omega
         clear hr6 hb6 hbw6 g6)
      | (go_at_call 52; refine (QN.out _).mono ?_; rintro e wN ⟨rfl, rfl⟩)
      | ((with_reducible refine wpList_store_pfx w6 ?hgd9 (.tmp 2) (.tmp 58) ?ho9 w.heap.size ZP ZP ?hx9 ?hp9 G6.out zp16 zp16 ?_); (case hgd9 => rfl); (case ho9 => rfl); (case hx9 => rfl); (case hp9 => rfl)
         intro WE GE OE hzWE
         have BE := below_only HB6.out OE.out hz6 (Nat.le_refl _)))
    exact bodyPost_ret (results_cell_tmp (p := 2) (t := 3) (ty := 26) rfl _ _ w.heap.size 26 _ (0, 0) _ _ rfl rfl GE.out Tryd.underlying26 rfl (by rw [pfx_info]; rfl)) rfl ⟨rfl, BE⟩
  · cases ok2
    · go_enter Tryd.func23, Tryd.ntmps23
      go_wp2_with (first
        | (go_at_call 50; (with_reducible refine (QS1.out _ ?hbb).mono ?_); (case hbb => exact HB0.out); rintro e w1 ⟨gg, cc, rfl, c10, c11, hb1⟩
           have hbw1 := HB0.out.trans (hb1.mono HB0.out.size)
           have HB1 := hide hbw1
           have hz1 := hbw1.size
           have g1 : w1.heap[w.heap.size]? = some (.cells (pvT ZP).toArray 26 (0, 0)) := (hb1.block w.heap.size (by simp)).trans (heap_alloc_new _ _)
           have G1 := hide g1
           have hgl1 : gg < w1.heap.size := lt_cell c10
           clear hbw1 g1 hb1)
        | (go_at_call 50; with_reducible refine (QS2.out _).mono ?_; rintro e w2 ⟨v2, rfl, hr2, hb2⟩
           have hbw2 := HB1.out.trans (hb2.mono HB1.out.size)
           have HB2 := hide hbw2
           have hz2 := hbw2.size
           have g2 := (hb2.block w.heap.size (lt_of_block G1.out)).trans G1.out
           have G2 := hide g2
           have c20 := cell_below c10 hb2
           have c21 := cell_below c11 hb2
           have R2 := hide hr2
           have hgl2 : gg < w2.heap.size := by have := hb2.size; omega
           clear hr2 hb2 hbw2 g2)
        | (go_at_call 51; with_reducible refine (QA1.out _ _ R2.out).mono ?_; rintro e w3 ⟨A3, c3, rfl, hr3, hb3⟩
           have hbw3 := HB2.out.trans (hb3.mono HB2.out.size)
           have HB3 := hide hbw3
           have hz3 := hbw3.size
           have g3 := (hb3.block w.heap.size (lt_of_block G2.out)).trans G2.out
           have G3 := hide g3
           have c30 := cell_below c20 hb3
           have c31 := cell_below c21 hb3
           have R3 := hide hr3
           have hgl3 : gg < w3.heap.size := by have := hb3.size; omega
           clear hr3 hb3 hbw3 g3)
        | (go_at_call 50; with_reducible refine (QS3.out _).mono ?_; rintro e w4 ⟨A4, c4, rfl, hr4, hb4⟩
           have hbw4 := HB3.out.trans (hb4.mono HB3.out.size)
           have HB4 := hide hbw4
           have hz4 := hbw4.size
           have g4 := (hb4.block w.heap.size (lt_of_block G3.out)).trans G3.out
           have G4 := hide g4
           have c40 := cell_below c30 hb4
           have c41 := cell_below c31 hb4
           have R4 := hide hr4
           have hgl4 : gg < w4.heap.size := by have := hb4.size; omega
           clear hr4 hb4 hbw4 g4)
        | (go_at_call 50; with_reducible refine (QS3.out w4).mono ?_; rintro e w5 ⟨A5, c5, rfl, hr5, hb5⟩
           have hbw5 := HB4.out.trans (hb5.mono HB4.out.size)
           have HB5 := hide hbw5
           have hz5 := hbw5.size
           have g5 := (hb5.block w.heap.size (lt_of_block G4.out)).trans G4.out
           have G5 := hide g5
           have c50 := cell_below c40 hb5
           have c51 := cell_below c41 hb5
           have R5 := hide hr5
           have hgl5 : gg < w5.heap.size := by have := hb5.size; omega
           clear hr5 hb5 hbw5 g5)
        | (go_at_call 51; with_reducible refine (QA2.out _ _ _ R5.out).mono ?_; rintro e w6 ⟨A6, c6, rfl, hr6, hb6⟩
           have hbw6 := HB5.out.trans (hb6.mono HB5.out.size)
           have HB6 := hide hbw6
           have hz6 := hbw6.size
           have g6 := (hb6.block w.heap.size (lt_of_block G5.out)).trans G5.out
           have G6 := hide g6
           have c60 := cell_below c50 hb6
           have c61 := cell_below c51 hb6
           have R6 := hide hr6
           have hgl6 : gg < w6.heap.size := by have := hb6.size; omega
           clear hr6 hb6 hbw6 g6)
        | (go_at_call 52; refine (QN.out _).mono ?_; rintro e wN ⟨rfl, rfl⟩)
        | ((with_reducible refine wpList_store_pfx w6 ?hgd9 (.tmp 2) (.tmp 58) ?ho9 w.heap.size ZP ZP ?hx9 ?hp9 G6.out zp16 zp16 ?_); (case hgd9 => rfl); (case ho9 => rfl); (case hx9 => rfl); (case hp9 => rfl)
           intro WE GE OE hzWE
           have BE := below_only HB6.out OE.out hz6 (Nat.le_refl _)))
      exact bodyPost_ret (results_cell_tmp (p := 2) (t := 3) (ty := 26) rfl _ _ w.heap.size 26 _ (0, 0) _ _ rfl rfl GE.out Tryd.underlying26 rfl (by rw [pfx_info]; rfl)) rfl ⟨rfl, BE⟩
    · go_enter Tryd.func23, Tryd.ntmps23
      go_wp2_with (first
        | (go_at_call 50; (with_reducible refine (QS1.out _ ?hbb).mono ?_); (case hbb => exact HB0.out); rintro e w1 ⟨gg, cc, rfl, c10, c11, hb1⟩
           have hbw1 := HB0.out.trans (hb1.mono HB0.out.size)
           have HB1 := hide hbw1
           have hz1 := hbw1.size
           have g1 : w1.heap[w.heap.size]? = some (.cells (pvT ZP).toArray 26 (0, 0)) := (hb1.block w.heap.size (by simp)).trans (heap_alloc_new _ _)
           have G1 := hide g1
           have hgl1 : gg < w1.heap.size := lt_cell c10
           clear hbw1 g1 hb1)
        | (go_at_call 50; with_reducible refine (QS2.out _).mono ?_; rintro e w2 ⟨v2, rfl, hr2, hb2⟩
           have hbw2 := HB1.out.trans (hb2.mono HB1.out.size)
           have HB2 := hide hbw2
           have hz2 := hbw2.size
           have g2 := (hb2.block w.heap.size (lt_of_block G1.out)).trans G1.out
           have G2 := hide g2
           have c20 := cell_below c10 hb2
           have c21 := cell_below c11 hb2
           have R2 := hide hr2
           have hgl2 : gg < w2.heap.size := by have := hb2.size; omega
           clear hr2 hb2 hbw2 g2)
        | (go_at_call 51; with_reducible refine (QA1.out _ _ R2.out).mono ?_; rintro e w3 ⟨A3, c3, rfl, hr3, hb3⟩
           have hbw3 := HB2.out.trans (hb3.mono HB2.out.size)
           have HB3 := hide hbw3
           have hz3 := hbw3.size
           have g3 := (hb3.block w.heap.size (lt_of_block G2.out)).trans G2.out
           have G3 := hide g3
           have c30 := cell_below c20 hb3
           have c31 := cell_below c21 hb3
           have R3 := hide hr3
           have hgl3 : gg < w3.heap.size := by have := hb3.size; omega
           clear hr3 hb3 hbw3 g3)
        | (go_at_call 50; with_reducible refine (QS3.out _).mono ?_; rintro e w4 ⟨A4, c4, rfl, hr4, hb4⟩
           have hbw4 := HB3.out.trans (hb4.mono HB3.out.size)
           have HB4 := hide hbw4
           have hz4 := hbw4.size
           have g4 := (hb4.block w.heap.size (lt_of_block G3.out)).trans G3.out
           have G4 := hide g4
           have c40 := cell_below c30 hb4
           have c41 := cell_below c31 hb4
           have R4 := hide hr4
           have hgl4 : gg < w4.heap.size := by have := hb4.size; omega
           clear hr4 hb4 hbw4 g4)
        | (go_at_call 50; with_reducible refine (QS3.out w4).mono ?_; rintro e w5 ⟨A5, c5, rfl, hr5, hb5⟩
           have hbw5 := HB4.out.trans (hb5.mono HB4.out.size)
           have HB5 := hide hbw5
           have hz5 := hbw5.size
           have g5 := (hb5.block w.heap.size (lt_of_block G4.out)).trans G4.out
           have G5 := hide g5
           have c50 := cell_below c40 hb5
           have c51 := cell_below c41 hb5
           have R5 := hide hr5
           have hgl5 : gg < w5.heap.size := by have := hb5.size; omega
           clear hr5 hb5 hbw5 g5)
        | (go_at_call 51; with_reducible refine (QA2.out _ _ _ R5.out).mono ?_; rintro e w6 ⟨A6, c6, rfl, hr6, hb6⟩
           have hbw6 := HB5.out.trans (hb6.mono HB5.out.size)
           have HB6 := hide hbw6
           have hz6 := hbw6.size
           have g6 := (hb6.block w.heap.size (lt_of_block G5.out)).trans G5.out
           have G6 := hide g6
           have c60 := cell_below c50 hb6
           have c61 := cell_below c51 hb6
           have R6 := hide hr6
           have hgl6 : gg < w6.heap.size := by have := hb6.size; omega
           clear hr6 hb6 hbw6 g6)
        | (go_at_call 52; refine (QN.out _).mono ?_; rintro e wN ⟨rfl, rfl⟩)
        | ((with_reducible refine wpList_store_pfx w6 ?hgd9 (.tmp 2) (.tmp 58) ?ho9 w.heap.size ZP ZP ?hx9 ?hp9 G6.out zp16 zp16 ?_); (case hgd9 => rfl); (case ho9 => rfl); (case hx9 => rfl); (case hp9 => rfl)
           intro WE GE OE hzWE
           have BE := below_only HB6.out OE.out hz6 (Nat.le_refl _)))
      exact bodyPost_ret (results_cell_tmp (p := 2) (t := 3) (ty := 26) rfl _ _ w.heap.size 26 _ (0, 0) _ _ rfl rfl GE.out Tryd.underlying26 rfl (by rw [pfx_info]; rfl)) rfl ⟨rfl, BE⟩
set_option maxRecDepth 100000 in
set_option maxHeartbeats 8000000 in
theorem rparse_dot (S s0 s1 : ByteArray) (iv : Int) (m nn : Nat) (TX : ByteArray) (mk V RB : Bool) (PP RR : Int × Int × List Int) (w : World) (RS : Value → World → Prop) (RP RT : Option Addr → Nat → World → Prop) (h16 : PP.2.2.length = 16) (ok : Bool) (hok : ok = true) (hm : m ≠ 8) (hiv : 0 ≤ iv) (hnn : nn = 4)
    (KS1 : ∀ W, Below w.heap.size w W → Calls Tryd.prog 50 #[.string S, .int .u8 47] W fun e w' => ∃ g c, e = .returned (.slice (some ⟨g, 0, none⟩) 2 c) ∧ w'.cell? ⟨g, 0, none⟩ = some (.string s0) ∧ w'.cell? ⟨g, 1, none⟩ = some (.string s1) ∧ Below W.heap.size W w')
    (KS2 : ∀ W, Calls Tryd.prog 50 #[.string s0, .int .u8 46] W fun e w' => ∃ v, e = .returned v ∧ RS v w' ∧ Below W.heap.size W w')
    (KA1 : ∀ v W, RS v W → Calls Tryd.prog 51 #[v, .int .i64 10, .int .i64 255] W fun e w' => ∃ A c, e = .returned (.tuple #[.slice A nn c, .bool ok]) ∧ RP A c w' ∧ Below W.heap.size W w')
    (KS3 : ∀ W, Calls Tryd.prog 50 #[.string s0, .int .u8 58] W fun e w' => ∃ A c, e = .returned (.slice A m c) ∧ RT A c w' ∧ Below W.heap.size W w')
    (KN : ∀ W, Calls Tryd.prog 52 #[.string s1, .int .i64 10, .int .i64 128] W (RetI iv W))
    (KR : ∀ A c W W', RP A c W → Below W.heap.size W W' → RP A c W')
    (KM : ∀ A c W, RP A c W → Calls Tryd.prog 11 #[.int .i64 1, .int .i64 iv, .slice A nn c] W fun e w' => e = .returned (.tuple #[.agg (pvT PP).toArray, .bool mk]) ∧ Below W.heap.size W w')
    (KT : ∀ W, Calls Tryd.prog 28 #[.agg (pvT PP).toArray] W fun e w' => e = .returned (.string TX) ∧ Below W.heap.size W w')
    (KV : ∀ W, Calls Tryd.prog 14 #[.agg (pvT PP).toArray] W fun e w' => e = .returned (.bool V) ∧ Below W.heap.size W w')
    (KY : V = true → TX = S → RR = PP ∧ RB = true)
    (KZ : ¬ (V = true ∧ TX = S) → RR = ZP ∧ RB = false) :
    Calls Tryd.prog 23 #[.string S] w fun e w' => e = .returned (.tuple #[.agg (pvT RR).toArray, .bool RB]) ∧ Below w.heap.size w w' := by
  have hb0 : Below w.heap.size w (w.alloc (.cells (pvL 0 0 zeroA).toArray 26)) := (Below.refl _ _).alloc (Nat.le_refl _) _
  have HB0 := hide hb0
  have QS1 := hide KS1
  have QS2 := hide KS2
  have QA1 := hide KA1
  have QS3 := hide KS3
  have QN := hide KN
  have QR := hide KR
  have QM := hide KM
  have QT := hide KT
  have QV := hide KV
  have QY := hide KY
  have QZ := hide KZ
  clear hb0 KS1 KS2 KA1 KS3 KN KR KM KT KV KY KZ
  have H16 := Lib.hid h16
  clear h16
  have hm8 : ((m : Int) == 8) = false := by simp; omega
  subst hnn
  subst hok
  clear hm
  by_cases hTS : TX = S
  · cases V
    · go_enter Tryd.func23, Tryd.ntmps23
      go_wp2_with (first
        | (go_at_call 50; (with_reducible refine (QS1.out _ ?hbb).mono ?_); (case hbb => exact HB0.out); rintro e w1 ⟨gg, cc, rfl, c10, c11, hb1⟩
           have hbw1 := HB0.out.trans (hb1.mono HB0.out.size)
           have HB1 := hide hbw1
           have hz1 := hbw1.size
           have g1 : w1.heap[w.heap.size]? = some (.cells (pvT ZP).toArray 26 (0, 0)) := (hb1.block w.heap.size (by simp)).trans (heap_alloc_new _ _)
           have G1 := hide g1
           have hgl1 : gg < w1.heap.size := lt_cell c10
           clear hbw1 g1 hb1)
        | (go_at_call 50; with_reducible refine (QS2.out _).mono ?_; rintro e w2 ⟨v2, rfl, hr2, hb2⟩
           have hbw2 := HB1.out.trans (hb2.mono HB1.out.size)
           have HB2 := hide hbw2
           have hz2 := hbw2.size
           have g2 := (hb2.block w.heap.size (lt_of_block G1.out)).trans G1.out
           have G2 := hide g2
           have c20 := cell_below c10 hb2
           have c21 := cell_below c11 hb2
           have R2 := hide hr2
           have hgl2 : gg < w2.heap.size := by have := hb2.size; omega
           clear hr2 hb2 hbw2 g2)
        | (go_at_call 51; with_reducible refine (QA1.out _ _ R2.out).mono ?_; rintro e w3 ⟨A3, c3, rfl, hr3, hb3⟩
           have hbw3 := HB2.out.trans (hb3.mono HB2.out.size)
           have HB3 := hide hbw3
           have hz3 := hbw3.size
           have g3 := (hb3.block w.heap.size (lt_of_block G2.out)).trans G2.out
           have G3 := hide g3
           have c30 := cell_below c20 hb3
           have c31 := cell_below c21 hb3
           have R3 := hide hr3
           have hgl3 : gg < w3.heap.size := by have := hb3.size; omega
           clear hr3 hb3 hbw3 g3)
        | (go_at_call 50; with_reducible refine (QS3.out _).mono ?_; rintro e w4 ⟨A4, c4, rfl, hr4, hb4⟩
           have hbw4 := HB3.out.trans (hb4.mono HB3.out.size)
           have HB4 := hide hbw4
           have hz4 := hbw4.size
           have g4 := (hb4.block w.heap.size (lt_of_block G3.out)).trans G3.out
           have G4 := hide g4
           have c40 := cell_below c30 hb4
           have c41 := cell_below c31 hb4
           have R4 := hide hr4
           have hgl4 : gg < w4.heap.size := by have := hb4.size; omega
           have P4 := hide (QR.out _ _ _ _ R3.out hb4)
           clear hr4 hb4 hbw4 g4)
        | (go_at_call 52; refine (QN.out _).mono ?_; rintro e wN ⟨rfl, rfl⟩)
        | (go_at_call 11; refine (QM.out _ _ _ P4.out).mono ?_; rintro e w7 ⟨rfl, hb7⟩
           have hbw7 := HB4.out.trans (hb7.mono HB4.out.size)
           have HB7 := hide hbw7
           have hz7 := hbw7.size
           have g7 := (hb7.block w.heap.size (lt_of_block G4.out)).trans G4.out
           have G7 := hide g7
           clear hb7 hbw7 g7)
        | ((with_reducible refine wpList_store_new ?hgd1 (.tmp 9) (.tmp 64) ?ho1 w7 PP ?hx1 ?hp1 H16.out ?_); (case hgd1 => rfl); (case ho1 => rfl); (case hx1 => rfl); (case hp1 => rfl)
           intro W8 G98 B8 hzW8
           have b8 := HB7.out.trans (B8.out.mono HB7.out.size)
           have g8 := (B8.out.block w.heap.size (lt_of_block G7.out)).trans G7.out
           have HB8 := hide b8
           have G8 := hide g8
           have hz8 := b8.size
           clear b8 g8 B8)
        | ((with_reducible refine wpList_load_pfx ?hgd2 (.tmp 9) ?ho2 w7.heap.size PP ?hx2 G98.out H16.out ?_); (case hgd2 => rfl); (case ho2 => rfl); (case hx2 => rfl))
        | (go_at_call 28; refine (QT.out _).mono ?_; rintro e w9 ⟨rfl, hb9⟩
           have hbw9 := HB8.out.trans (hb9.mono HB8.out.size)
           have HB9 := hide hbw9
           have hz9 := hbw9.size
           have g9 := (hb9.block w.heap.size (lt_of_block G8.out)).trans G8.out
           have G9 := hide g9
           have g99 := (hb9.block w7.heap.size (lt_of_block G98.out)).trans G98.out
           have G99 := hide g99
           clear g99 hb9 hbw9 g9)
        | ((with_reducible refine wpList_load_pfxG ?hgd3 (.tmp 9) ?ho3 w7.heap.size PP ?hx3 G99.out H16.out ?_); (case hgd3 => rfl); (case ho3 => rfl); (case hx3 => rfl))
        | (go_at_call 14; refine (QV.out _).mono ?_; rintro e wA ⟨rfl, hbA⟩
           have hbwA := HB9.out.trans (hbA.mono HB9.out.size)
           have HBA := hide hbwA
           have hzA := hbwA.size
           have gA := (hbA.block w.heap.size (lt_of_block G9.out)).trans G9.out
           have GA := hide gA
           have g9A := (hbA.block w7.heap.size (lt_of_block G99.out)).trans G99.out
           have G9A := hide g9A
           clear g9A hbA hbwA gA)
        | ((with_reducible refine wpList_store_pfx wA ?hgd9 (.tmp 2) (.tmp 75) ?ho9 w.heap.size ZP ZP ?hx9 ?hp9 GA.out zp16 zp16 ?_); (case hgd9 => rfl); (case ho9 => rfl); (case hx9 => rfl); (case hp9 => rfl)
           intro WE GE OE hzWE
           have BE := below_only HBA.out OE.out hzA (Nat.le_refl _)))
      exact bodyPost_ret (results_cell_tmp (p := 2) (t := 3) (ty := 26) rfl _ _ w.heap.size 26 _ (0, 0) _ _ rfl rfl GE.out Tryd.underlying26 rfl (by rw [pfx_info]; rfl)) rfl ⟨by rw [(QZ.out (by simp)).1, (QZ.out (by simp)).2]; rfl, BE⟩
    · go_enter Tryd.func23, Tryd.ntmps23
      go_wp2_with (first
        | (go_at_call 50; (with_reducible refine (QS1.out _ ?hbb).mono ?_); (case hbb => exact HB0.out); rintro e w1 ⟨gg, cc, rfl, c10, c11, hb1⟩
           have hbw1 := HB0.out.trans (hb1.mono HB0.out.size)
           have HB1 := hide hbw1
           have hz1 := hbw1.size
           have g1 : w1.heap[w.heap.size]? = some (.cells (pvT ZP).toArray 26 (0, 0)) := (hb1.block w.heap.size (by simp)).trans (heap_alloc_new _ _)
           have G1 := hide g1
           have hgl1 : gg < w1.heap.size := lt_cell c10
           clear hbw1 g1 hb1)
        | (go_at_call 50; with_reducible refine (QS2.out _).mono ?_; rintro e w2 ⟨v2, rfl, hr2, hb2⟩
           have hbw2 := HB1.out.trans (hb2.mono HB1.out.size)
           have HB2 := hide hbw2
           have hz2 := hbw2.size
           have g2 := (hb2.block w.heap.size (lt_of_block G1.out)).trans G1.out
           have G2 := hide g2
           have c20 := cell_below c10 hb2
           have c21 := cell_below c11 hb2
           have R2 := hide hr2
           have hgl2 : gg < w2.heap.size := by have := hb2.size; omega
           clear hr2 hb2 hbw2 g2)
        | (go_at_call 51; with_reducible refine (QA1.out _ _ R2.out).mono ?_; rintro e w3 ⟨A3, c3, rfl, hr3, hb3⟩
           have hbw3 := HB2.out.trans (hb3.mono HB2.out.size)
           have HB3 := hide hbw3
           have hz3 := hbw3.size
           have g3 := (hb3.block w.heap.size (lt_of_block G2.out)).trans G2.out
           have G3 := hide g3
           have c30 := cell_below c20 hb3
           have c31 := cell_below c21 hb3
           have R3 := hide hr3
           have hgl3 : gg < w3.heap.size := by have := hb3.size; omega
           clear hr3 hb3 hbw3 g3)
        | (go_at_call 50; with_reducible refine (QS3.out _).mono ?_; rintro e w4 ⟨A4, c4, rfl, hr4, hb4⟩
           have hbw4 := HB3.out.trans (hb4.mono HB3.out.size)
           have HB4 := hide hbw4
           have hz4 := hbw4.size
           have g4 := (hb4.block w.heap.size (lt_of_block G3.out)).trans G3.out
           have G4 := hide g4
           have c40 := cell_below c30 hb4
           have c41 := cell_below c31 hb4
           have R4 := hide hr4
           have hgl4 : gg < w4.heap.size := by have := hb4.size; omega
           have P4 := hide (QR.out _ _ _ _ R3.out hb4)
           clear hr4 hb4 hbw4 g4)
        | (go_at_call 52; refine (QN.out _).mono ?_; rintro e wN ⟨rfl, rfl⟩)
        | (go_at_call 11; refine (QM.out _ _ _ P4.out).mono ?_; rintro e w7 ⟨rfl, hb7⟩
           have hbw7 := HB4.out.trans (hb7.mono HB4.out.size)
           have HB7 := hide hbw7
           have hz7 := hbw7.size
           have g7 := (hb7.block w.heap.size (lt_of_block G4.out)).trans G4.out
           have G7 := hide g7
           clear hb7 hbw7 g7)
        | ((with_reducible refine wpList_store_new ?hgd1 (.tmp 9) (.tmp 64) ?ho1 w7 PP ?hx1 ?hp1 H16.out ?_); (case hgd1 => rfl); (case ho1 => rfl); (case hx1 => rfl); (case hp1 => rfl)
           intro W8 G98 B8 hzW8
           have b8 := HB7.out.trans (B8.out.mono HB7.out.size)
           have g8 := (B8.out.block w.heap.size (lt_of_block G7.out)).trans G7.out
           have HB8 := hide b8
           have G8 := hide g8
           have hz8 := b8.size
           clear b8 g8 B8)
        | ((with_reducible refine wpList_load_pfx ?hgd2 (.tmp 9) ?ho2 w7.heap.size PP ?hx2 G98.out H16.out ?_); (case hgd2 => rfl); (case ho2 => rfl); (case hx2 => rfl))
        | (go_at_call 28; refine (QT.out _).mono ?_; rintro e w9 ⟨rfl, hb9⟩
           have hbw9 := HB8.out.trans (hb9.mono HB8.out.size)
           have HB9 := hide hbw9
           have hz9 := hbw9.size
           have g9 := (hb9.block w.heap.size (lt_of_block G8.out)).trans G8.out
           have G9 := hide g9
           have g99 := (hb9.block w7.heap.size (lt_of_block G98.out)).trans G98.out
           have G99 := hide g99
           clear g99 hb9 hbw9 g9)
        | ((with_reducible refine wpList_load_pfxG ?hgd3 (.tmp 9) ?ho3 w7.heap.size PP ?hx3 G99.out H16.out ?_); (case hgd3 => rfl); (case ho3 => rfl); (case hx3 => rfl))
        | (go_at_call 14; refine (QV.out _).mono ?_; rintro e wA ⟨rfl, hbA⟩
           have hbwA := HB9.out.trans (hbA.mono HB9.out.size)
           have HBA := hide hbwA
           have hzA := hbwA.size
           have gA := (hbA.block w.heap.size (lt_of_block G9.out)).trans G9.out
           have GA := hide gA
           have g9A := (hbA.block w7.heap.size (lt_of_block G99.out)).trans G99.out
           have G9A := hide g9A
           clear g9A hbA hbwA gA)
        | ((with_reducible refine wpList_load_pfx ?hgd4 (.tmp 9) ?ho4 w7.heap.size PP ?hx4 G9A.out H16.out ?_); (case hgd4 => rfl); (case ho4 => rfl); (case hx4 => rfl))
        | ((with_reducible refine wpList_store_pfx wA ?hgd9 (.tmp 2) (.tmp 76) ?ho9 w.heap.size ZP PP ?hx9 ?hp9 GA.out zp16 H16.out ?_); (case hgd9 => rfl); (case ho9 => rfl); (case hx9 => rfl); (case hp9 => rfl)
           intro WE GE OE hzWE
           have BE := below_only HBA.out OE.out hzA (Nat.le_refl _)))
      exact bodyPost_ret (results_cell_tmp (p := 2) (t := 3) (ty := 26) rfl _ _ w.heap.size 26 _ (0, 0) _ _ rfl rfl GE.out Tryd.underlying26 rfl (by rw [pfx_info, pvT_len PP H16.out])) rfl ⟨by rw [(QY.out (by simp) hTS).1, (QY.out (by simp) hTS).2]; rfl, BE⟩
  · have hne : (TX.toList == S.toList) = false := beq_eq_false_iff_ne.2 fun h => by
      rw [ByteArray.toList_eq, ByteArray.toList_eq] at h
      exact hTS (ByteArray.ext (Array.toList_inj.1 h))
    have HTS := hide hTS
    clear hTS
    go_enter Tryd.func23, Tryd.ntmps23
    go_wp2_with (first
      | (go_at_call 50; (with_reducible refine (QS1.out _ ?hbb).mono ?_); (case hbb => exact HB0.out); rintro e w1 ⟨gg, cc, rfl, c10, c11, hb1⟩
         have hbw1 := HB0.out.trans (hb1.mono HB0.out.size)
         have HB1 := hide hbw1
         have hz1 := hbw1.size
         have g1 : w1.heap[w.heap.size]? = some (.cells (pvT ZP).toArray 26 (0, 0)) := (hb1.block w.heap.size (by simp)).trans (heap_alloc_new _ _)
         have G1 := hide g1
         have hgl1 : gg < w1.heap.size := lt_cell c10
         clear hbw1 g1 hb1)
      | (go_at_call 50; with_reducible refine (QS2.out _).mono ?_; rintro e w2 ⟨v2, rfl, hr2, hb2⟩
         have hbw2 := HB1.out.trans (hb2.mono HB1.out.size)
         have HB2 := hide hbw2
         have hz2 := hbw2.size
         have g2 := (hb2.block w.heap.size (lt_of_block G1.out)).trans G1.out
         have G2 := hide g2
         have c20 := cell_below c10 hb2
         have c21 := cell_below c11 hb2
         have R2 := hide hr2
         have hgl2 : gg < w2.heap.size := by have := hb2.size; omega
         clear hr2 hb2 hbw2 g2)
      | (go_at_call 51; with_reducible refine (QA1.out _ _ R2.out).mono ?_; rintro e w3 ⟨A3, c3, rfl, hr3, hb3⟩
         have hbw3 := HB2.out.trans (hb3.mono HB2.out.size)
         have HB3 := hide hbw3
         have hz3 := hbw3.size
         have g3 := (hb3.block w.heap.size (lt_of_block G2.out)).trans G2.out
         have G3 := hide g3
         have c30 := cell_below c20 hb3
         have c31 := cell_below c21 hb3
         have R3 := hide hr3
         have hgl3 : gg < w3.heap.size := by have := hb3.size; omega
         clear hr3 hb3 hbw3 g3)
      | (go_at_call 50; with_reducible refine (QS3.out _).mono ?_; rintro e w4 ⟨A4, c4, rfl, hr4, hb4⟩
         have hbw4 := HB3.out.trans (hb4.mono HB3.out.size)
         have HB4 := hide hbw4
         have hz4 := hbw4.size
         have g4 := (hb4.block w.heap.size (lt_of_block G3.out)).trans G3.out
         have G4 := hide g4
         have c40 := cell_below c30 hb4
         have c41 := cell_below c31 hb4
         have R4 := hide hr4
         have hgl4 : gg < w4.heap.size := by have := hb4.size; omega
         have P4 := hide (QR.out _ _ _ _ R3.out hb4)
         clear hr4 hb4 hbw4 g4)
      | (go_at_call 52; refine (QN.out _).mono ?_; rintro e wN ⟨rfl, rfl⟩)
      | (go_at_call 11; refine (QM.out _ _ _ P4.out).mono ?_; rintro e w7 ⟨rfl, hb7⟩
         have hbw7 := HB4.out.trans (hb7.mono HB4.out.size)
         have HB7 := hide hbw7
         have hz7 := hbw7.size
         have g7 := (hb7.block w.heap.size (lt_of_block G4.out)).trans G4.out
         have G7 := hide g7
         clear hb7 hbw7 g7)
      | ((with_reducible refine wpList_store_new ?hgd1 (.tmp 9) (.tmp 64) ?ho1 w7 PP ?hx1 ?hp1 H16.out ?_); (case hgd1 => rfl); (case ho1 => rfl); (case hx1 => rfl); (case hp1 => rfl)
         intro W8 G98 B8 hzW8
         have b8 := HB7.out.trans (B8.out.mono HB7.out.size)
         have g8 := (B8.out.block w.heap.size (lt_of_block G7.out)).trans G7.out
         have HB8 := hide b8
         have G8 := hide g8
         have hz8 := b8.size
         clear b8 g8 B8)
      | ((with_reducible refine wpList_load_pfx ?hgd2 (.tmp 9) ?ho2 w7.heap.size PP ?hx2 G98.out H16.out ?_); (case hgd2 => rfl); (case ho2 => rfl); (case hx2 => rfl))
      | (go_at_call 28; refine (QT.out _).mono ?_; rintro e w9 ⟨rfl, hb9⟩
         have hbw9 := HB8.out.trans (hb9.mono HB8.out.size)
         have HB9 := hide hbw9
         have hz9 := hbw9.size
         have g9 := (hb9.block w.heap.size (lt_of_block G8.out)).trans G8.out
         have G9 := hide g9
         have g99 := (hb9.block w7.heap.size (lt_of_block G98.out)).trans G98.out
         have G99 := hide g99
         clear g99 hb9 hbw9 g9)
      | ((with_reducible refine wpList_store_pfx w9 ?hgd9 (.tmp 2) (.tmp 75) ?ho9 w.heap.size ZP ZP ?hx9 ?hp9 G9.out zp16 zp16 ?_); (case hgd9 => rfl); (case ho9 => rfl); (case hx9 => rfl); (case hp9 => rfl)
         intro WE GE OE hzWE
         have BE := below_only HB9.out OE.out hz9 (Nat.le_refl _)))
    exact bodyPost_ret (results_cell_tmp (p := 2) (t := 3) (ty := 26) rfl _ _ w.heap.size 26 _ (0, 0) _ _ rfl rfl GE.out Tryd.underlying26 rfl (by rw [pfx_info]; rfl)) rfl ⟨by rw [(QZ.out (by simp [HTS.out])).1, (QZ.out (by simp [HTS.out])).2]; rfl, BE⟩
set_option maxRecDepth 100000 in
set_option maxHeartbeats 8000000 in
theorem rparse_col (S s0 s1 : ByteArray) (iv : Int) (m nn n2 : Nat) (TX : ByteArray) (mk V RB : Bool) (PP RR : Int × Int × List Int) (w : World) (RS : Value → World → Prop) (RP RT RQ : Option Addr → Nat → World → Prop) (h16 : PP.2.2.length = 16) (ok ok2 : Bool) (hok : ok2 = true) (hm : m = 8) (hiv : 0 ≤ iv)
    (KS1 : ∀ W, Below w.heap.size w W → Calls Tryd.prog 50 #[.string S, .int .u8 47] W fun e w' => ∃ g c, e = .returned (.slice (some ⟨g, 0, none⟩) 2 c) ∧ w'.cell? ⟨g, 0, none⟩ = some (.string s0) ∧ w'.cell? ⟨g, 1, none⟩ = some (.string s1) ∧ Below W.heap.size W w')
    (KS2 : ∀ W, Calls Tryd.prog 50 #[.string s0, .int .u8 46] W fun e w' => ∃ v, e = .returned v ∧ RS v w' ∧ Below W.heap.size W w')
    (KA1 : ∀ v W, RS v W → Calls Tryd.prog 51 #[v, .int .i64 10, .int .i64 255] W fun e w' => ∃ A c, e = .returned (.tuple #[.slice A nn c, .bool ok]) ∧ RP A c w' ∧ Below W.heap.size W w')
    (KS3 : ∀ W, Calls Tryd.prog 50 #[.string s0, .int .u8 58] W fun e w' => ∃ A c, e = .returned (.slice A m c) ∧ RT A c w' ∧ Below W.heap.size W w')
    (KA2 : ∀ A c W, RT A c W → Calls Tryd.prog 51 #[.slice A m c, .int .i64 16, .int .i64 65535] W fun e w' => ∃ A' c', e = .returned (.tuple #[.slice A' n2 c', .bool ok2]) ∧ RQ A' c' w' ∧ Below W.heap.size W w')
    (KN : ∀ W, Calls Tryd.prog 52 #[.string s1, .int .i64 10, .int .i64 128] W (RetI iv W))
    (KM : ∀ A c W, RQ A c W → Calls Tryd.prog 11 #[.int .i64 2, .int .i64 iv, .slice A n2 c] W fun e w' => e = .returned (.tuple #[.agg (pvT PP).toArray, .bool mk]) ∧ Below W.heap.size W w')
    (KT : ∀ W, Calls Tryd.prog 28 #[.agg (pvT PP).toArray] W fun e w' => e = .returned (.string TX) ∧ Below W.heap.size W w')
    (KV : ∀ W, Calls Tryd.prog 14 #[.agg (pvT PP).toArray] W fun e w' => e = .returned (.bool V) ∧ Below W.heap.size W w')
    (KY : V = true → TX = S → RR = PP ∧ RB = true)
    (KZ : ¬ (V = true ∧ TX = S) → RR = ZP ∧ RB = false) :
    Calls Tryd.prog 23 #[.string S] w fun e w' => e = .returned (.tuple #[.agg (pvT RR).toArray, .bool RB]) ∧ Below w.heap.size w w' := by
  have hb0 : Below w.heap.size w (w.alloc (.cells (pvL 0 0 zeroA).toArray 26)) := (Below.refl _ _).alloc (Nat.le_refl _) _
  have HB0 := hide hb0
  have QS1 := hide KS1
  have QS2 := hide KS2
  have QA1 := hide KA1
  have QS3 := hide KS3
  have QN := hide KN
  have QA2 := hide KA2
  have QM := hide KM
  have QT := hide KT
  have QV := hide KV
  have QY := hide KY
  have QZ := hide KZ
  clear hb0 KS1 KS2 KA1 KS3 KN KA2 KM KT KV KY KZ
  have H16 := Lib.hid h16
  clear h16
  subst hm
  subst hok
  by_cases hTS : TX = S
  · cases V
    · go_enter Tryd.func23, Tryd.ntmps23
      go_wp2_with (first
        | (go_at_call 50; (with_reducible refine (QS1.out _ ?hbb).mono ?_); (case hbb => exact HB0.out); rintro e w1 ⟨gg, cc, rfl, c10, c11, hb1⟩
           have hbw1 := HB0.out.trans (hb1.mono HB0.out.size)
           have HB1 := hide hbw1
           have hz1 := hbw1.size
           have g1 : w1.heap[w.heap.size]? = some (.cells (pvT ZP).toArray 26 (0, 0)) := (hb1.block w.heap.size (by simp)).trans (heap_alloc_new _ _)
           have G1 := hide g1
           have hgl1 : gg < w1.heap.size := lt_cell c10
           clear hbw1 g1 hb1)
        | (go_at_call 50; with_reducible refine (QS2.out _).mono ?_; rintro e w2 ⟨v2, rfl, hr2, hb2⟩
           have hbw2 := HB1.out.trans (hb2.mono HB1.out.size)
           have HB2 := hide hbw2
           have hz2 := hbw2.size
           have g2 := (hb2.block w.heap.size (lt_of_block G1.out)).trans G1.out
           have G2 := hide g2
           have c20 := cell_below c10 hb2
           have c21 := cell_below c11 hb2
           have R2 := hide hr2
           have hgl2 : gg < w2.heap.size := by have := hb2.size; omega
           clear hr2 hb2 hbw2 g2)
        | (go_at_call 51; with_reducible refine (QA1.out _ _ R2.out).mono ?_; rintro e w3 ⟨A3, c3, rfl, hr3, hb3⟩
           have hbw3 := HB2.out.trans (hb3.mono HB2.out.size)
           have HB3 := hide hbw3
           have hz3 := hbw3.size
           have g3 := (hb3.block w.heap.size (lt_of_block G2.out)).trans G2.out
           have G3 := hide g3
           have c30 := cell_below c20 hb3
           have c31 := cell_below c21 hb3
           have R3 := hide hr3
           have hgl3 : gg < w3.heap.size := by have := hb3.size; omega
           clear hr3 hb3 hbw3 g3)
        | (go_at_call 50; with_reducible refine (QS3.out _).mono ?_; rintro e w4 ⟨A4, c4, rfl, hr4, hb4⟩
           have hbw4 := HB3.out.trans (hb4.mono HB3.out.size)
           have HB4 := hide hbw4
           have hz4 := hbw4.size
           have g4 := (hb4.block w.heap.size (lt_of_block G3.out)).trans G3.out
           have G4 := hide g4
           have c40 := cell_below c30 hb4
           have c41 := cell_below c31 hb4
           have R4 := hide hr4
           have hgl4 : gg < w4.heap.size := by have := hb4.size; omega
           clear hr4 hb4 hbw4 g4)
        | (go_at_call 50; with_reducible refine (QS3.out w4).mono ?_; rintro e w5 ⟨A5, c5, rfl, hr5, hb5⟩
           have hbw5 := HB4.out.trans (hb5.mono HB4.out.size)
           have HB5 := hide hbw5
           have hz5 := hbw5.size
           have g5 := (hb5.block w.heap.size (lt_of_block G4.out)).trans G4.out
           have G5 := hide g5
           have c50 := cell_below c40 hb5
           have c51 := cell_below c41 hb5
           have R5 := hide hr5
           have hgl5 : gg < w5.heap.size := by have := hb5.size; omega
           clear hr5 hb5 hbw5 g5)
        | (go_at_call 51; with_reducible refine (QA2.out _ _ _ R5.out).mono ?_; rintro e w6 ⟨A6, c6, rfl, hr6, hb6⟩
           have hbw6 := HB5.out.trans (hb6.mono HB5.out.size)
           have HB6 := hide hbw6
           have hz6 := hbw6.size
           have g6 := (hb6.block w.heap.size (lt_of_block G5.out)).trans G5.out
           have G6 := hide g6
           have c60 := cell_below c50 hb6
           have c61 := cell_below c51 hb6
           have R6 := hide hr6
           have hgl6 : gg < w6.heap.size := by have := hb6.size; omega
           clear hr6 hb6 hbw6 g6)
        | (go_at_call 52; refine (QN.out _).mono ?_; rintro e wN ⟨rfl, rfl⟩)
        | (go_at_call 11; refine (QM.out _ _ _ R6.out).mono ?_; rintro e w7 ⟨rfl, hb7⟩
           have hbw7 := HB6.out.trans (hb7.mono HB6.out.size)
           have HB7 := hide hbw7
           have hz7 := hbw7.size
           have g7 := (hb7.block w.heap.size (lt_of_block G6.out)).trans G6.out
           have G7 := hide g7
           clear hb7 hbw7 g7)
        | ((with_reducible refine wpList_store_new ?hgd1 (.tmp 9) (.tmp 64) ?ho1 w7 PP ?hx1 ?hp1 H16.out ?_); (case hgd1 => rfl); (case ho1 => rfl); (case hx1 => rfl); (case hp1 => rfl)
           intro W8 G98 B8 hzW8
           have b8 := HB7.out.trans (B8.out.mono HB7.out.size)
           have g8 := (B8.out.block w.heap.size (lt_of_block G7.out)).trans G7.out
           have HB8 := hide b8
           have G8 := hide g8
           have hz8 := b8.size
           clear b8 g8 B8)
        | ((with_reducible refine wpList_load_pfx ?hgd2 (.tmp 9) ?ho2 w7.heap.size PP ?hx2 G98.out H16.out ?_); (case hgd2 => rfl); (case ho2 => rfl); (case hx2 => rfl))
        | (go_at_call 28; refine (QT.out _).mono ?_; rintro e w9 ⟨rfl, hb9⟩
           have hbw9 := HB8.out.trans (hb9.mono HB8.out.size)
           have HB9 := hide hbw9
           have hz9 := hbw9.size
           have g9 := (hb9.block w.heap.size (lt_of_block G8.out)).trans G8.out
           have G9 := hide g9
           have g99 := (hb9.block w7.heap.size (lt_of_block G98.out)).trans G98.out
           have G99 := hide g99
           clear g99 hb9 hbw9 g9)
        | ((with_reducible refine wpList_load_pfxG ?hgd3 (.tmp 9) ?ho3 w7.heap.size PP ?hx3 G99.out H16.out ?_); (case hgd3 => rfl); (case ho3 => rfl); (case hx3 => rfl))
        | (go_at_call 14; refine (QV.out _).mono ?_; rintro e wA ⟨rfl, hbA⟩
           have hbwA := HB9.out.trans (hbA.mono HB9.out.size)
           have HBA := hide hbwA
           have hzA := hbwA.size
           have gA := (hbA.block w.heap.size (lt_of_block G9.out)).trans G9.out
           have GA := hide gA
           have g9A := (hbA.block w7.heap.size (lt_of_block G99.out)).trans G99.out
           have G9A := hide g9A
           clear g9A hbA hbwA gA)
        | ((with_reducible refine wpList_store_pfx wA ?hgd9 (.tmp 2) (.tmp 75) ?ho9 w.heap.size ZP ZP ?hx9 ?hp9 GA.out zp16 zp16 ?_); (case hgd9 => rfl); (case ho9 => rfl); (case hx9 => rfl); (case hp9 => rfl)
           intro WE GE OE hzWE
           have BE := below_only HBA.out OE.out hzA (Nat.le_refl _)))
      exact bodyPost_ret (results_cell_tmp (p := 2) (t := 3) (ty := 26) rfl _ _ w.heap.size 26 _ (0, 0) _ _ rfl rfl GE.out Tryd.underlying26 rfl (by rw [pfx_info]; rfl)) rfl ⟨by rw [(QZ.out (by simp)).1, (QZ.out (by simp)).2]; rfl, BE⟩
    · go_enter Tryd.func23, Tryd.ntmps23
      go_wp2_with (first
        | (go_at_call 50; (with_reducible refine (QS1.out _ ?hbb).mono ?_); (case hbb => exact HB0.out); rintro e w1 ⟨gg, cc, rfl, c10, c11, hb1⟩
           have hbw1 := HB0.out.trans (hb1.mono HB0.out.size)
           have HB1 := hide hbw1
           have hz1 := hbw1.size
           have g1 : w1.heap[w.heap.size]? = some (.cells (pvT ZP).toArray 26 (0, 0)) := (hb1.block w.heap.size (by simp)).trans (heap_alloc_new _ _)
           have G1 := hide g1
           have hgl1 : gg < w1.heap.size := lt_cell c10
           clear hbw1 g1 hb1)
        | (go_at_call 50; with_reducible refine (QS2.out _).mono ?_; rintro e w2 ⟨v2, rfl, hr2, hb2⟩
           have hbw2 := HB1.out.trans (hb2.mono HB1.out.size)
           have HB2 := hide hbw2
           have hz2 := hbw2.size
           have g2 := (hb2.block w.heap.size (lt_of_block G1.out)).trans G1.out
           have G2 := hide g2
           have c20 := cell_below c10 hb2
           have c21 := cell_below c11 hb2
           have R2 := hide hr2
           have hgl2 : gg < w2.heap.size := by have := hb2.size; omega
           clear hr2 hb2 hbw2 g2)
        | (go_at_call 51; with_reducible refine (QA1.out _ _ R2.out).mono ?_; rintro e w3 ⟨A3, c3, rfl, hr3, hb3⟩
           have hbw3 := HB2.out.trans (hb3.mono HB2.out.size)
           have HB3 := hide hbw3
           have hz3 := hbw3.size
           have g3 := (hb3.block w.heap.size (lt_of_block G2.out)).trans G2.out
           have G3 := hide g3
           have c30 := cell_below c20 hb3
           have c31 := cell_below c21 hb3
           have R3 := hide hr3
           have hgl3 : gg < w3.heap.size := by have := hb3.size; omega
           clear hr3 hb3 hbw3 g3)
        | (go_at_call 50; with_reducible refine (QS3.out _).mono ?_; rintro e w4 ⟨A4, c4, rfl, hr4, hb4⟩
           have hbw4 := HB3.out.trans (hb4.mono HB3.out.size)
           have HB4 := hide hbw4
           have hz4 := hbw4.size
           have g4 := (hb4.block w.heap.size (lt_of_block G3.out)).trans G3.out
           have G4 := hide g4
           have c40 := cell_below c30 hb4
           have c41 := cell_below c31 hb4
           have R4 := hide hr4
           have hgl4 : gg < w4.heap.size := by have := hb4.size; omega
           clear hr4 hb4 hbw4 g4)
        | (go_at_call 50; with_reducible refine (QS3.out w4).mono ?_; rintro e w5 ⟨A5, c5, rfl, hr5, hb5⟩
           have hbw5 := HB4.out.trans (hb5.mono HB4.out.size)
           have HB5 := hide hbw5
           have hz5 := hbw5.size
           have g5 := (hb5.block w.heap.size (lt_of_block G4.out)).trans G4.out
           have G5 := hide g5
           have c50 := cell_below c40 hb5
           have c51 := cell_below c41 hb5
           have R5 := hide hr5
           have hgl5 : gg < w5.heap.size := by have := hb5.size; omega
           clear hr5 hb5 hbw5 g5)
        | (go_at_call 51; with_reducible refine (QA2.out _ _ _ R5.out).mono ?_; rintro e w6 ⟨A6, c6, rfl, hr6, hb6⟩
           have hbw6 := HB5.out.trans (hb6.mono HB5.out.size)
           have HB6 := hide hbw6
           have hz6 := hbw6.size
           have g6 := (hb6.block w.heap.size (lt_of_block G5.out)).trans G5.out
           have G6 := hide g6
           have c60 := cell_below c50 hb6
           have c61 := cell_below c51 hb6
           have R6 := hide hr6
           have hgl6 : gg < w6.heap.size := by have := hb6.size; omega
           clear hr6 hb6 hbw6 g6)
        | (go_at_call 52; refine (QN.out _).mono ?_; rintro e wN ⟨rfl, rfl⟩)
        | (go_at_call 11; refine (QM.out _ _ _ R6.out).mono ?_; rintro e w7 ⟨rfl, hb7⟩
           have hbw7 := HB6.out.trans (hb7.mono HB6.out.size)
           have HB7 := hide hbw7
           have hz7 := hbw7.size
           have g7 := (hb7.block w.heap.size (lt_of_block G6.out)).trans G6.out
           have G7 := hide g7
           clear hb7 hbw7 g7)
        | ((with_reducible refine wpList_store_new ?hgd1 (.tmp 9) (.tmp 64) ?ho1 w7 PP ?hx1 ?hp1 H16.out ?_); (case hgd1 => rfl); (case ho1 => rfl); (case hx1 => rfl); (case hp1 => rfl)
           intro W8 G98 B8 hzW8
           have b8 := HB7.out.trans (B8.out.mono HB7.out.size)
           have g8 := (B8.out.block w.heap.size (lt_of_block G7.out)).trans G7.out
           have HB8 := hide b8
           have G8 := hide g8
           have hz8 := b8.size
           clear b8 g8 B8)
        | ((with_reducible refine wpList_load_pfx ?hgd2 (.tmp 9) ?ho2 w7.heap.size PP ?hx2 G98.out H16.out ?_); (case hgd2 => rfl); (case ho2 => rfl); (case hx2 => rfl))
        | (go_at_call 28; refine (QT.out _).mono ?_; rintro e w9 ⟨rfl, hb9⟩
           have hbw9 := HB8.out.trans (hb9.mono HB8.out.size)
           have HB9 := hide hbw9
           have hz9 := hbw9.size
           have g9 := (hb9.block w.heap.size (lt_of_block G8.out)).trans G8.out
           have G9 := hide g9
           have g99 := (hb9.block w7.heap.size (lt_of_block G98.out)).trans G98.out
           have G99 := hide g99
           clear g99 hb9 hbw9 g9)
        | ((with_reducible refine wpList_load_pfxG ?hgd3 (.tmp 9) ?ho3 w7.heap.size PP ?hx3 G99.out H16.out ?_); (case hgd3 => rfl); (case ho3 => rfl); (case hx3 => rfl))
        | (go_at_call 14; refine (QV.out _).mono ?_; rintro e wA ⟨rfl, hbA⟩
           have hbwA := HB9.out.trans (hbA.mono HB9.out.size)
           have HBA := hide hbwA
           have hzA := hbwA.size
           have gA := (hbA.block w.heap.size (lt_of_block G9.out)).trans G9.out
           have GA := hide gA
           have g9A := (hbA.block w7.heap.size (lt_of_block G99.out)).trans G99.out
           have G9A := hide g9A
           clear g9A hbA hbwA gA)
        | ((with_reducible refine wpList_load_pfx ?hgd4 (.tmp 9) ?ho4 w7.heap.size PP ?hx4 G9A.out H16.out ?_); (case hgd4 => rfl); (case ho4 => rfl); (case hx4 => rfl))
        | ((with_reducible refine wpList_store_pfx wA ?hgd9 (.tmp 2) (.tmp 76) ?ho9 w.heap.size ZP PP ?hx9 ?hp9 GA.out zp16 H16.out ?_); (case hgd9 => rfl); (case ho9 => rfl); (case hx9 => rfl); (case hp9 => rfl)
           intro WE GE OE hzWE
           have BE := below_only HBA.out OE.out hzA (Nat.le_refl _)))
      exact bodyPost_ret (results_cell_tmp (p := 2) (t := 3) (ty := 26) rfl _ _ w.heap.size 26 _ (0, 0) _ _ rfl rfl GE.out Tryd.underlying26 rfl (by rw [pfx_info, pvT_len PP H16.out])) rfl ⟨by rw [(QY.out (by simp) hTS).1, (QY.out (by simp) hTS).2]; rfl, BE⟩
  · have hne : (TX.toList == S.toList) = false := beq_eq_false_iff_ne.2 fun h => by
      rw [ByteArray.toList_eq, ByteArray.toList_eq] at h
      exact hTS (ByteArray.ext (Array.toList_inj.1 h))
    have HTS := hide hTS
    clear hTS
    go_enter Tryd.func23, Tryd.ntmps23
    go_wp2_with (first
      | (go_at_call 50; (with_reducible refine (QS1.out _ ?hbb).mono ?_); (case hbb => exact HB0.out); rintro e w1 ⟨gg, cc, rfl, c10, c11, hb1⟩
         have hbw1 := HB0.out.trans (hb1.mono HB0.out.size)
         have HB1 := hide hbw1
         have hz1 := hbw1.size
         have g1 : w1.heap[w.heap.size]? = some (.cells (pvT ZP).toArray 26 (0, 0)) := (hb1.block w.heap.size (by simp)).trans (heap_alloc_new _ _)
         have G1 := hide g1
         have hgl1 : gg < w1.heap.size := lt_cell c10
         clear hbw1 g1 hb1)
      | (go_at_call 50; with_reducible refine (QS2.out _).mono ?_; rintro e w2 ⟨v2, rfl, hr2, hb2⟩
         have hbw2 := HB1.out.trans (hb2.mono HB1.out.size)
         have HB2 := hide hbw2
         have hz2 := hbw2.size
         have g2 := (hb2.block w.heap.size (lt_of_block G1.out)).trans G1.out
         have G2 := hide g2
         have c20 := cell_below c10 hb2
         have c21 := cell_below c11 hb2
         have R2 := hide hr2
         have hgl2 : gg < w2.heap.size := by have := hb2.size; omega
         clear hr2 hb2 hbw2 g2)
      | (go_at_call 51; with_reducible refine (QA1.out _ _ R2.out).mono ?_; rintro e w3 ⟨A3, c3, rfl, hr3, hb3⟩
         have hbw3 := HB2.out.trans (hb3.mono HB2.out.size)
         have HB3 := hide hbw3
         have hz3 := hbw3.size
         have g3 := (hb3.block w.heap.size (lt_of_block G2.out)).trans G2.out
         have G3 := hide g3
         have c30 := cell_below c20 hb3
         have c31 := cell_below c21 hb3
         have R3 := hide hr3
         have hgl3 : gg < w3.heap.size := by have := hb3.size; omega
         clear hr3 hb3 hbw3 g3)
      | (go_at_call 50; with_reducible refine (QS3.out _).mono ?_; rintro e w4 ⟨A4, c4, rfl, hr4, hb4⟩
         have hbw4 := HB3.out.trans (hb4.mono HB3.out.size)
         have HB4 := hide hbw4
         have hz4 := hbw4.size
         have g4 := (hb4.block w.heap.size (lt_of_block G3.out)).trans G3.out
         have G4 := hide g4
         have c40 := cell_below c30 hb4
         have c41 := cell_below c31 hb4
         have R4 := hide hr4
         have hgl4 : gg < w4.heap.size := by have := hb4.size; omega
         clear hr4 hb4 hbw4 g4)
      | (go_at_call 50; with_reducible refine (QS3.out w4).mono ?_; rintro e w5 ⟨A5, c5, rfl, hr5, hb5⟩
         have hbw5 := HB4.out.trans (hb5.mono HB4.out.size)
         have HB5 := hide hbw5
         have hz5 := hbw5.size
         have g5 := (hb5.block w.heap.size (lt_of_block G4.out)).trans G4.out
         have G5 := hide g5
         have c50 := cell_below c40 hb5
         have c51 := cell_below c41 hb5
         have R5 := hide hr5
         have hgl5 : gg < w5.heap.size := by have := hb5.size; omega
         clear hr5 hb5 hbw5 g5)
      | (go_at_call 51; with_reducible refine (QA2.out _ _ _ R5.out).mono ?_; rintro e w6 ⟨A6, c6, rfl, hr6, hb6⟩
         have hbw6 := HB5.out.trans (hb6.mono HB5.out.size)
         have HB6 := hide hbw6
         have hz6 := hbw6.size
         have g6 := (hb6.block w.heap.size (lt_of_block G5.out)).trans G5.out
         have G6 := hide g6
         have c60 := cell_below c50 hb6
         have c61 := cell_below c51 hb6
         have R6 := hide hr6
         have hgl6 : gg < w6.heap.size := by have := hb6.size; omega
         clear hr6 hb6 hbw6 g6)
      | (go_at_call 52; refine (QN.out _).mono ?_; rintro e wN ⟨rfl, rfl⟩)
      | (go_at_call 11; refine (QM.out _ _ _ R6.out).mono ?_; rintro e w7 ⟨rfl, hb7⟩
         have hbw7 := HB6.out.trans (hb7.mono HB6.out.size)
         have HB7 := hide hbw7
         have hz7 := hbw7.size
         have g7 := (hb7.block w.heap.size (lt_of_block G6.out)).trans G6.out
         have G7 := hide g7
         clear hb7 hbw7 g7)
      | ((with_reducible refine wpList_store_new ?hgd1 (.tmp 9) (.tmp 64) ?ho1 w7 PP ?hx1 ?hp1 H16.out ?_); (case hgd1 => rfl); (case ho1 => rfl); (case hx1 => rfl); (case hp1 => rfl)
         intro W8 G98 B8 hzW8
         have b8 := HB7.out.trans (B8.out.mono HB7.out.size)
         have g8 := (B8.out.block w.heap.size (lt_of_block G7.out)).trans G7.out
         have HB8 := hide b8
         have G8 := hide g8
         have hz8 := b8.size
         clear b8 g8 B8)
      | ((with_reducible refine wpList_load_pfx ?hgd2 (.tmp 9) ?ho2 w7.heap.size PP ?hx2 G98.out H16.out ?_); (case hgd2 => rfl); (case ho2 => rfl); (case hx2 => rfl))
      | (go_at_call 28; refine (QT.out _).mono ?_; rintro e w9 ⟨rfl, hb9⟩
         have hbw9 := HB8.out.trans (hb9.mono HB8.out.size)
         have HB9 := hide hbw9
         have hz9 := hbw9.size
         have g9 := (hb9.block w.heap.size (lt_of_block G8.out)).trans G8.out
         have G9 := hide g9
         have g99 := (hb9.block w7.heap.size (lt_of_block G98.out)).trans G98.out
         have G99 := hide g99
         clear g99 hb9 hbw9 g9)
      | ((with_reducible refine wpList_store_pfx w9 ?hgd9 (.tmp 2) (.tmp 75) ?ho9 w.heap.size ZP ZP ?hx9 ?hp9 G9.out zp16 zp16 ?_); (case hgd9 => rfl); (case ho9 => rfl); (case hx9 => rfl); (case hp9 => rfl)
         intro WE GE OE hzWE
         have BE := below_only HB9.out OE.out hz9 (Nat.le_refl _)))
    exact bodyPost_ret (results_cell_tmp (p := 2) (t := 3) (ty := 26) rfl _ _ w.heap.size 26 _ (0, 0) _ _ rfl rfl GE.out Tryd.underlying26 rfl (by rw [pfx_info]; rfl)) rfl ⟨by rw [(QZ.out (by simp [HTS.out])).1, (QZ.out (by simp [HTS.out])).2]; rfl, BE⟩
end Go.Proofs.YtgegloplhlkafaaDoor
