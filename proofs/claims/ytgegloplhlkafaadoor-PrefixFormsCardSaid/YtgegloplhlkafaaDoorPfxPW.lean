/- The walk of the law PrefixParses: it returns true, and leaves alone whatever lay there. -/
import Derived.Test.YtgegloplhlkafaaDoorPfxZG
import Derived.Test.YtgegloplhlkafaaDoorPfxW
set_option autoImplicit false
namespace Go.Proofs.YtgegloplhlkafaaDoor
open Go.RowKit Go.Sort Go.Shelf

theorem zp_bs : Bs ZP.2.2 := by
  intro x hx
  have : x = 0 := by simpa [ZP, zeroA] using hx
  omega
theorem parD_wf (s : List UInt8) : ((parP s).getD ZP).2.2.length = 16 ∧ Bs ((parP s).getD ZP).2.2 := by
  cases hp : parP s with
  | none => exact ⟨rfl, zp_bs⟩
  | some p => exact ⟨(parP_sound s p hp).1.1, (parP_sound s p hp).1.2.1⟩
theorem parD_text (s : List UInt8) (h : (parP s).isSome = true) : textP ((parP s).getD ZP) = s := by
  cases hp : parP s with
  | none => rw [hp] at h; cases h
  | some p => exact (parP_sound s p hp).2

set_option maxRecDepth 100000 in
set_option maxHeartbeats 8000000 in
theorem pfxparses_any (s : List UInt8) (w : World) (hs : s.length ≤ 9223372036854775807) (ht : TabsR w) :
    Calls Tryd.prog 7 #[.string (strB s)] w fun e w' => e = .returned (.bool true) ∧ Below w.heap.size w w' := by
  have HAL := hide (fun w1 (hb1 : Below w.heap.size w w1) => alive2_any w1 (ht.six.1.below hb1))
  have hsz := strB_size s
  by_cases h4 : 200 < s.length
  · have HA := hide (HAL.out w (Below.refl _ _))
    obtain ⟨RS, hRS⟩ : ∃ RS, RS = strB s := ⟨_, rfl⟩
    rw [← hRS] at hsz ⊢
    clear ht HAL hRS
    go_enter Tryd.func7, Tryd.ntmps7
    go_wp2_with fail
    refine HA.out.mono ?_
    rintro e w1 ⟨rfl, hb1⟩
    have HB := hide hb1
    clear hb1 HA
    go_wp2
    go_ret
    exact ⟨rfl, HB.out⟩
  · obtain ⟨h16, hbs⟩ := parD_wf s
    have K1 := hide (parse_any s w (by omega) ht)
    have K2 := hide (fun w1 => rparse_any s w1 (by omega))
    rw [par_ref] at K2
    have K5 := hide (fun w1 (hb : Below w.heap.size w w1) => text_any ((parP s).getD ZP) h16 hbs w1 (ht.below hb).six)
    have h7 : ¬ 200 < (s.length : Int) := by omega
    have htx := parD_text s
    have heq : ∀ w, (binOp .eql 26 (.agg (pvT ((parP s).getD ZP)).toArray) (.agg (pvT ((parP s).getD ZP)).toArray)).run Tryd.prog w = .ok (.bool true) w := fun w => by
      rw [eq_pfx _ _ h16 h16 w]; simp
    obtain ⟨PP, hPP⟩ : ∃ PP, PP = (parP s).getD ZP := ⟨_, rfl⟩
    rw [← hPP] at h16 K1 K2 K5 htx heq
    have K5' : Hid (∀ w1, Below w.heap.size w w1 → Calls Tryd.prog 24 #[.agg (pvT PP).toArray] w1 fun e w' => e = .returned (.string (strB (textP PP))) ∧ Below w1.heap.size w1 w') := K5
    have H16 := Lib.hid h16
    clear ht hPP h4 hbs h16 K5
    obtain ⟨RS, hRS⟩ : ∃ RS, RS = strB s := ⟨_, rfl⟩
    rw [← hRS] at hsz K1 K2 ⊢
    have HRS := Lib.hid hRS
    clear hRS
    cases hr : (parP s).isSome
    · rw [hr] at K1 K2
      clear htx hr K5' HRS
      go_enter Tryd.func7, Tryd.ntmps7
      go_wp2_with (first
        | (go_at_call 22; refine K1.out.mono ?_; rintro e w1 ⟨rfl, hb1⟩
           have HB1 := hide hb1
           have hz1 := hb1.size
           clear hb1 K1)
        | ((with_reducible refine wpList_store_new ?hgd1 (.tmp 3) (.tmp 14) ?ho1 w1 PP ?hx1 ?hp1 H16.out ?_); (case hgd1 => rfl); (case ho1 => rfl); (case hx1 => rfl); (case hp1 => rfl)
           intro W2 G2 B2 hzW2
           have hbw := HB1.out.trans (B2.out.mono hz1)
           have HB2 := hide hbw
           have hz2 := hbw.size
           clear hbw B2)
        | (go_at_call 23; refine (K2.out W2).mono ?_; rintro e w3 ⟨rfl, hb3⟩
           have hbw := HB2.out.trans (hb3.mono hz2)
           have g3 := (hb3.block w1.heap.size (lt_of_block G2.out)).trans G2.out
           have G3 := hide g3
           have HB3 := hide hbw
           have hz3 := hbw.size
           clear hbw hb3 g3 K2)
        | ((with_reducible refine wpList_store_new ?hgd2 (.tmp 5) (.tmp 19) ?ho2 w3 PP ?hx2 ?hp2 H16.out ?_); (case hgd2 => rfl); (case ho2 => rfl); (case hx2 => rfl); (case hp2 => rfl)
           intro W4 G45 B4 hzW4
           have hbw := HB3.out.trans (B4.out.mono hz3)
           have g43 := (B4.out.block w1.heap.size (lt_of_block G3.out)).trans G3.out
           have G43 := hide g43
           have HB4 := hide hbw
           have hz4 := hbw.size
           clear hbw B4 g43)
        | (go_at_call 9; refine (HAL.out W4 HB4.out).mono ?_; rintro e w5 ⟨rfl, hb5⟩
           have hbw := HB4.out.trans (hb5.mono hz4)
           have g53 := (hb5.block w1.heap.size (lt_of_block G43.out)).trans G43.out
           have g55 := (hb5.block w3.heap.size (lt_of_block G45.out)).trans G45.out
           have G53 := hide g53
           have G55 := hide g55
           have HB5 := hide hbw
           have hz5 := hbw.size
           clear hbw hb5 g53 g55)
        | ((with_reducible refine wpList_load_pfxG ?hgd3 (.tmp 3) ?ho3 w1.heap.size PP ?hx3 G53.out H16.out ?_); (case hgd3 => rfl); (case ho3 => rfl); (case hx3 => rfl))
        | ((with_reducible refine wpList_load_pfxG ?hgd4 (.tmp 5) ?ho4 w3.heap.size PP ?hx4 G55.out H16.out ?_); (case hgd4 => rfl); (case ho4 => rfl); (case hx4 => rfl)))
      go_ret
      exact ⟨rfl, HB5.out⟩
    · rw [hr] at K1 K2
      rw [htx hr, ← HRS.out] at K5'
      clear htx hr
      go_enter Tryd.func7, Tryd.ntmps7
      go_wp2_with (first
        | (go_at_call 22; refine K1.out.mono ?_; rintro e w1 ⟨rfl, hb1⟩
           have HB1 := hide hb1
           have hz1 := hb1.size
           clear hb1 K1)
        | ((with_reducible refine wpList_store_new ?hgd1 (.tmp 3) (.tmp 14) ?ho1 w1 PP ?hx1 ?hp1 H16.out ?_); (case hgd1 => rfl); (case ho1 => rfl); (case hx1 => rfl); (case hp1 => rfl)
           intro W2 G2 B2 hzW2
           have hbw := HB1.out.trans (B2.out.mono hz1)
           have HB2 := hide hbw
           have hz2 := hbw.size
           clear hbw B2)
        | (go_at_call 23; refine (K2.out W2).mono ?_; rintro e w3 ⟨rfl, hb3⟩
           have hbw := HB2.out.trans (hb3.mono hz2)
           have g3 := (hb3.block w1.heap.size (lt_of_block G2.out)).trans G2.out
           have G3 := hide g3
           have HB3 := hide hbw
           have hz3 := hbw.size
           clear hbw hb3 g3 K2)
        | ((with_reducible refine wpList_store_new ?hgd2 (.tmp 5) (.tmp 19) ?ho2 w3 PP ?hx2 ?hp2 H16.out ?_); (case hgd2 => rfl); (case ho2 => rfl); (case hx2 => rfl); (case hp2 => rfl)
           intro W4 G45 B4 hzW4
           have hbw := HB3.out.trans (B4.out.mono hz3)
           have g43 := (B4.out.block w1.heap.size (lt_of_block G3.out)).trans G3.out
           have G43 := hide g43
           have HB4 := hide hbw
           have hz4 := hbw.size
           clear hbw B4 g43)
        | (go_at_call 9; refine (HAL.out W4 HB4.out).mono ?_; rintro e w5 ⟨rfl, hb5⟩
           have hbw := HB4.out.trans (hb5.mono hz4)
           have g53 := (hb5.block w1.heap.size (lt_of_block G43.out)).trans G43.out
           have g55 := (hb5.block w3.heap.size (lt_of_block G45.out)).trans G45.out
           have G53 := hide g53
           have G55 := hide g55
           have HB5 := hide hbw
           have hz5 := hbw.size
           clear hbw hb5 g53 g55)
        | ((with_reducible refine wpList_load_pfxG ?hgd3 (.tmp 3) ?ho3 w1.heap.size PP ?hx3 G53.out H16.out ?_); (case hgd3 => rfl); (case ho3 => rfl); (case hx3 => rfl))
        | ((with_reducible refine wpList_load_pfxG ?hgd4 (.tmp 5) ?ho4 w3.heap.size PP ?hx4 G55.out H16.out ?_); (case hgd4 => rfl); (case ho4 => rfl); (case hx4 => rfl))
        | (go_at_call 24; refine (K5'.out w5 HB5.out).mono ?_; rintro e w6 ⟨rfl, hb6⟩
           have HB6 := hide (HB5.out.trans (hb6.mono hz5))
           clear hb6))
      go_ret
      exact ⟨rfl, HB6.out⟩
theorem pfxparses_str (bs : ByteArray) (w : World) (hs : bs.size ≤ 9223372036854775807) (ht : TabsR w) :
    Calls Tryd.prog 7 #[.string bs] w fun e w' => e = .returned (.bool true) ∧ Below w.heap.size w w' := by
  have h := pfxparses_any bs.data.toList w (by rw [← Lib.size_eq]; exact hs) ht
  rw [strB_eta] at h
  exact h
end Go.Proofs.YtgegloplhlkafaaDoor
