/- The walk of the law SegmentParses: it returns true, and leaves alone whatever lay there. -/
import Derived.Test.YtceolenmcpndaaaDoorSegTD
import Derived.Test.YtceolenmcpndaaaDoorAlive
set_option autoImplicit false
namespace Go.Proofs.YtceolenmcpndaaaDoor
open Go.RowKit Go.Sort Go.Shelf

theorem parP_sound (s : List UInt8) (hl : s.length ≤ 400) : ((parP s).getD []).length ≤ 400 ∧ (∀ t ∈ (parP s).getD [], t.2.length ≤ 400 ∧ Us t.2) := by
  cases hp : parP s with
  | none => exact ⟨by simp, fun t h => by cases h⟩
  | some l =>
    unfold parP at hp
    cases hq : parseL s with
    | none => rw [hq] at hp; cases hp
    | some p =>
      rw [hq] at hp
      simp only [] at hp
      split at hp
      · injection hp with hp
        subst hp
        obtain ⟨h1, h2⟩ := parseL_us _ s p (Nat.le_refl _) hq
        exact ⟨by rw [Option.getD_some]; omega, fun t h => ⟨by have := (h2 t h).1; omega, (h2 t h).2⟩⟩
      · cases hp

set_option maxRecDepth 100000 in
set_option maxHeartbeats 8000000 in
theorem segparses_any (s : List UInt8) (w : World) (hs : s.length ≤ 9223372036854775807) (ht : TabsQ w) :
    Calls Tryd.prog 6 #[.string (strB s)] w fun e w' => e = .returned (.bool true) ∧ Below w.heap.size w w' := by
  have HAL := hide (fun w1 (hb1 : Below w.heap.size w w1) => (alive6_any w1 (ht.tabs.tabs.below hb1)).mono fun e w' (hq : e = .returned (.bool true) ∧ Below w1.heap.size w1 w') => (⟨hq.1, hb1.trans (hq.2.mono hb1.size), hq.2⟩ : e = .returned (.bool true) ∧ Below w.heap.size w w' ∧ Below w1.heap.size w1 w'))
  have hsz := strB_size s
  by_cases h4 : 400 < s.length
  · have HA := hide (HAL.out w (Below.refl _ _))
    obtain ⟨RS, hRS⟩ : ∃ RS, RS = strB s := ⟨_, rfl⟩
    rw [← hRS] at hsz ⊢
    clear ht HAL hRS
    go_enter Tryd.func6, Tryd.ntmps6
    go_wp2_with fail
    refine HA.out.mono ?_
    rintro e w1 ⟨rfl, hb1, _⟩
    have HB := hide hb1
    clear hb1 HA
    go_wp2
    go_ret
    exact ⟨rfl, HB.out⟩
  · obtain ⟨hpl, hps⟩ := parP_sound s (by omega)
    have K1 := hide (parse_any s w (by omega) ht)
    have K2 := hide (fun w1 => rparse_any s w1 (by omega))
    rw [← par_ref] at K2
    have K4 := hide (fun w1 A1 c1 A2 c2 (hp : Path w1 w1.heap.size A1 ((parP s).getD [])) (hp2 : Path w1 w1.heap.size A2 ((parP s).getD [])) => same_any A1 A2 c1 c2 ((parP s).getD []) ((parP s).getD []) w1 hp hp2 (by omega) (fun t h => by have := (hps t h).1; omega) (fun t h => by have := (hps t h).1; omega))
    simp only [decide_true] at K4
    have K5 := hide (fun w1 A1 c1 (hb : Below w.heap.size w w1) (hp : Path w1 w1.heap.size A1 ((parP s).getD [])) => text_any A1 c1 ((parP s).getD []) w1 hp (by omega) (fun t h => ⟨by have := (hps t h).1; omega, (hps t h).2⟩) (ht.tabs.tabs.below hb))
    have h7 : ¬ 400 < (s.length : Int) := by omega
    have htx : (parP s).isSome = true → textF ((parP s).getD []) = s := fun h => by
      cases hp : parP s with
      | none => rw [hp] at h; cases h
      | some l => rw [Option.getD_some]; exact (parP_some s l hp).2
    obtain ⟨l, hlE⟩ : ∃ l, l = (parP s).getD [] := ⟨_, rfl⟩
    rw [← hlE] at K1 K2 K4 K5 htx
    clear ht hpl hps hlE h4
    obtain ⟨RS, hRS⟩ : ∃ RS, RS = strB s := ⟨_, rfl⟩
    rw [← hRS] at hsz K1 K2 ⊢
    have HRS := Lib.hid hRS
    clear hRS
    cases hr : (parP s).isSome
    · rw [hr] at K1 K2
      clear htx hr K5 HRS
      go_enter Tryd.func6, Tryd.ntmps6
      go_wp2_with fail
      refine K1.out.mono ?_
      rintro e w1 ⟨v1, rfl, ho1, hb1⟩
      obtain ⟨A1, c1, rfl, _, _, hp1⟩ := ho1.path
      have HK2 := hide (K2.out w1)
      have HB1 := hide hb1
      have hz1 := hb1.size
      have HP1 := hide hp1
      clear hb1 ho1 hp1 K1 K2
      go_wp2_with fail
      refine HK2.out.mono ?_
      rintro e w2 ⟨v2, rfl, ho2, hb2⟩
      obtain ⟨A2, c2, rfl, _, _, hp2⟩ := ho2.path
      have hb02 := HB1.out.trans (hb2.mono hz1)
      have HAL3 := hide (HAL.out w2 hb02)
      have HP1 := hide ((HP1.out.below hb2).more hb2.size)
      have HP2 := hide hp2
      clear hb2 hb02 hp2 ho2 HK2 HB1 HAL
      go_wp2_with fail
      refine HAL3.out.mono ?_
      rintro e w4 ⟨rfl, hb04, hb34⟩
      have HK4 := hide (K4.out w4 A1 c1 A2 c2 ((HP1.out.below hb34).more hb34.size) ((HP2.out.below hb34).more hb34.size))
      have HB4 := hide hb04
      have hz4 := hb04.size
      clear hb04 hb34 K4 HAL3 HP1 HP2
      go_wp2_with fail
      refine HK4.out.mono ?_
      rintro e w5 ⟨rfl, hb5⟩
      have HB5 := hide (HB4.out.trans (hb5.mono hz4))
      clear hb5 HK4 HB4
      go_wp2
      go_ret
      exact ⟨rfl, HB5.out⟩
    · rw [hr] at K1 K2
      rw [htx hr, ← HRS.out] at K5
      clear htx hr
      go_enter Tryd.func6, Tryd.ntmps6
      go_wp2_with fail
      refine K1.out.mono ?_
      rintro e w1 ⟨v1, rfl, ho1, hb1⟩
      obtain ⟨A1, c1, rfl, _, _, hp1⟩ := ho1.path
      have HK2 := hide (K2.out w1)
      have HB1 := hide hb1
      have hz1 := hb1.size
      have HP1 := hide hp1
      clear hb1 ho1 hp1 K1 K2
      go_wp2_with fail
      refine HK2.out.mono ?_
      rintro e w2 ⟨v2, rfl, ho2, hb2⟩
      obtain ⟨A2, c2, rfl, _, _, hp2⟩ := ho2.path
      have hb02 := HB1.out.trans (hb2.mono hz1)
      have HAL3 := hide (HAL.out w2 hb02)
      have HP1 := hide ((HP1.out.below hb2).more hb2.size)
      have HP2 := hide hp2
      clear hb2 hb02 hp2 ho2 HK2 HB1 HAL
      go_wp2_with fail
      refine HAL3.out.mono ?_
      rintro e w4 ⟨rfl, hb04, hb34⟩
      have HK4 := hide (K4.out w4 A1 c1 A2 c2 ((HP1.out.below hb34).more hb34.size) ((HP2.out.below hb34).more hb34.size))
      have HP1 := hide ((HP1.out.below hb34).more hb34.size)
      have HB4 := hide hb04
      have hz4 := hb04.size
      clear hb04 hb34 K4 HAL3 HP2
      go_wp2_with fail
      refine HK4.out.mono ?_
      rintro e w5 ⟨rfl, hb5⟩
      have hb05 := HB4.out.trans (hb5.mono hz4)
      have HK5 := hide (K5.out w5 A1 c1 hb05 ((HP1.out.below hb5).more hb5.size))
      have HB5 := hide hb05
      have hz5 := hb05.size
      clear hb5 hb05 HK4 HB4 K5
      go_wp2_with fail
      refine HK5.out.mono ?_
      rintro e w6 ⟨rfl, hb6⟩
      have HB6 := hide (HB5.out.trans (hb6.mono hz5))
      clear hb6 HK5 HB5
      go_wp2
      go_ret
      exact ⟨rfl, HB6.out⟩
theorem segparses_str (bs : ByteArray) (w : World) (hs : bs.size ≤ 9223372036854775807) (ht : TabsQ w) :
    Calls Tryd.prog 6 #[.string bs] w fun e w' => e = .returned (.bool true) ∧ Below w.heap.size w w' := by
  have h := segparses_any bs.data.toList w (by rw [← Lib.size_eq]; exact hs) ht
  rw [strB_eta] at h
  exact h
end Go.Proofs.YtceolenmcpndaaaDoor
