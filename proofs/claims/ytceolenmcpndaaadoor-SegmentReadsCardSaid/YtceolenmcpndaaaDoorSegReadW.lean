/- The walk of the law SegmentReads: it returns true, and leaves alone whatever lay there. -/
import Derived.Test.YtceolenmcpndaaaDoorSegRE
import Derived.Test.YtceolenmcpndaaaDoorSegEq
import Derived.Test.YtceolenmcpndaaaDoorSegPC
import Derived.Test.YtceolenmcpndaaaDoorEquB
import Derived.Test.YtceolenmcpndaaaDoorAlive
set_option autoImplicit false
namespace Go.Proofs.YtceolenmcpndaaaDoor
open Go.RowKit Go.Sort Go.Shelf

theorem cells_u8 : Tryd.prog.cellsOf 5 = 1 := by kernel_rfl
theorem bytes_u8 : Tryd.prog.bytesOf 5 = 1 := by kernel_rfl
theorem rdF_sound (k : Nat) (hk : k = 2 ∨ k = 4) : ∀ (m : Nat) (b : List Int) (l : List Sg), b.length ≤ m → Bs b → rdF k b = some l → l.length ≤ b.length ∧ ∀ s ∈ l, s.2.length ≤ 255 ∧ Us s.2 := by
  intro m
  induction m with
  | zero =>
    intro b l hm _ h
    have : b = [] := List.length_eq_zero_iff.1 (by omega)
    subst this
    rw [rdF_nil] at h; injection h with h; subst h
    exact ⟨Nat.le_refl _, fun s hs => by cases hs⟩
  | succ m ih =>
    intro b l hm hb h
    by_cases e : b = []
    · subst e; exact ih [] l (by simp) hb h
    · cases hok : headOk k b
      · rw [rdF_no k b e hok] at h; cases h
      · rw [rdF_yes k b hok] at h
        obtain ⟨r, hr, rfl⟩ := Option.map_eq_some_iff.1 h
        have hlt := restB_len k b hok
        obtain ⟨h1, h2⟩ := ih (restB k b) _ (by omega) (hb.drop _) hr
        refine ⟨by rw [List.length_cons]; omega, fun s hs => ?_⟩
        rcases List.mem_cons.1 hs with rfl | hs
        · exact ⟨headOk_len hok hb, readN_us _ _ (by omega) _ (hb.drop _)⟩
        · exact h2 s hs
theorem readP_sound (width : Int) (b : List Int) (hb : Bs b) (hl : b.length ≤ 600) : ((readP width b).getD []).length ≤ 600 ∧ Sound ((readP width b).getD []) := by
  have key : ((readP width b).getD []).length ≤ b.length ∧ ∀ s ∈ (readP width b).getD [], s.2.length ≤ 255 ∧ Us s.2 := by
    unfold readP
    by_cases hw : width = 2 ∨ width = 4
    · rw [if_pos hw]
      cases h : rdF width.toNat b with
      | none => exact ⟨by simp, fun s hs => by cases hs⟩
      | some l => exact rdF_sound width.toNat (by omega) b.length b l (Nat.le_refl _) hb h
    · rw [if_neg hw]
      exact ⟨by simp, fun s hs => by cases hs⟩
  exact ⟨by omega, by omega, fun s hs => ⟨by have := (key.2 s hs).1; omega, (key.2 s hs).2⟩⟩
theorem readP_back (width : Int) (b : List Int) (hb : Bs b) (h : (readP width b).isSome = true) : validF width ((readP width b).getD []) = true ∧ formB width ((readP width b).getD []) = b := by
  unfold readP at h ⊢
  by_cases hw : width = 2 ∨ width = 4
  · rw [if_pos hw] at h ⊢
    cases hr : rdF width.toNat b with
    | none => rw [hr] at h; cases h
    | some l =>
      have hv := rdF_valid width.toNat (by omega) b.length b l (Nat.le_refl _) hb hr
      rw [show ((width.toNat : Nat) : Int) = width by omega] at hv
      rw [Option.getD_some]
      refine ⟨hv, ?_⟩
      unfold formB
      rw [if_pos hv]
      exact readF_bytes width.toNat b.length b l hb hr
  · rw [if_neg hw] at h; cases h

set_option maxRecDepth 100000 in
set_option maxHeartbeats 8000000 in
theorem segreads_any (width : Int) (A : Option Addr) (c : Nat) (b : List Int) (w : World) (hby : Byts w w.heap.size A b) (hc : b.length ≤ c) (hcm : c ≤ maxLen) (hl : b.length ≤ 140737488351232) (hbs : Bs b) (ht : Tabs w) :
    Calls Tryd.prog 5 #[.int .i64 width, .slice A b.length c] w fun e w' => e = .returned (.bool true) ∧ Below w.heap.size w w' := by
  have HAL := hide (fun w1 (hb1 : Below w.heap.size w w1) => (alive6_any w1 (ht.below hb1)).mono fun e w' (hq : e = .returned (.bool true) ∧ Below w1.heap.size w1 w') => (⟨hq.1, hb1.trans (hq.2.mono hb1.size), hq.2⟩ : e = .returned (.bool true) ∧ Below w.heap.size w w' ∧ Below w1.heap.size w1 w'))
  by_cases h6 : 600 < b.length
  · have HA := hide (HAL.out w (Below.refl _ _))
    clear hby hbs ht HAL
    go_enter Tryd.func5, Tryd.ntmps5
    go_wp2_with fail
    refine HA.out.mono ?_
    rintro e w1 ⟨rfl, hb1, _⟩
    have HB := hide hb1
    clear hb1 HA
    go_wp2
    go_ret
    exact ⟨rfl, HB.out⟩
  · obtain ⟨hpl, hps⟩ := readP_sound width b hbs (by omega)
    have hpb := readP_back width b hbs
    have K1 := hide (read_any width A c b w hby (by omega) hbs)
    have K2 := hide (fun w1 (hb1 : Below w.heap.size w w1) => rread_any width A c b w1 ((hby.below hb1).more hb1.size) hc hcm (by omega) hbs)
    have K3 := hide (fun w1 A1 c1 (hp : Path w1 w1.heap.size A1 ((readP width b).getD [])) => sbytes_any width A1 c1 ((readP width b).getD []) w1 hp (by omega) hps)
    have K4 := hide (fun w1 A1 c1 A2 c2 (hp : Path w1 w1.heap.size A1 ((readP width b).getD [])) (hp2 : Path w1 w1.heap.size A2 ((readP width b).getD [])) => same_any A1 A2 c1 c2 ((readP width b).getD []) ((readP width b).getD []) w1 hp hp2 (by omega) (fun s h => (hps.2 s h).1) (fun s h => (hps.2 s h).1))
    simp only [decide_true] at K4
    have K5 := hide (fun w1 A1 c1 A2 c2 (p1 : Byts w1 w1.heap.size A1 b) (p2 : Byts w1 w1.heap.size A2 b) => equalB_any A1 A2 c1 c2 b b w1 p1 p2 (by omega))
    simp only [decide_true] at K5
    have HBY := hide (fun w1 (hb1 : Below w.heap.size w w1) => (hby.below hb1).more hb1.size)
    have h7 : ¬ 600 < (b.length : Int) := by omega
    obtain ⟨l, hlE⟩ : ∃ l, l = (readP width b).getD [] := ⟨_, rfl⟩
    rw [← hlE] at K1 K2 K3 K4 hpb
    clear hby hbs ht hpl hps hlE h6
    cases hr : (readP width b).isSome
    · rw [hr] at K1 K2
      clear hpb hr K5
      go_enter Tryd.func5, Tryd.ntmps5
      go_wp2_with fail
      refine K1.out.mono ?_
      rintro e w1 ⟨v1, rfl, ho1, hb1⟩
      obtain ⟨A1, c1, rfl, _, _, hp1⟩ := ho1.path
      have HK2 := hide (K2.out w1 hb1)
      have HB1 := hide hb1
      have hz1 := hb1.size
      have HP1 := hide hp1
      clear hb1 ho1 hp1 K1 K2
      go_wp2_with fail
      refine HK2.out.mono ?_
      rintro e w2 ⟨v2, rfl, ho2, hb2⟩
      obtain ⟨A2, c2, rfl, _, _, hp2⟩ := ho2.path
      have hb02 := HB1.out.trans (hb2.mono hz1)
      have hp12 := (HP1.out.below hb2).more hb2.size
      have HK3 := hide (K3.out w2 A1 c1 hp12)
      have HB2 := hide hb02
      have hz2 := hb02.size
      have HP1 := hide hp12
      have HP2 := hide hp2
      clear hb2 hb02 hp12 hp2 ho2 K3 HK2 HB1
      go_wp2_with fail
      refine HK3.out.mono ?_
      rintro e w3 ⟨A3, c3, rfl, hby3, hb3⟩
      have hb03 := HB2.out.trans (hb3.mono hz2)
      have HAL3 := hide (HAL.out w3 hb03)
      have HP1 := hide ((HP1.out.below hb3).more hb3.size)
      have HP2 := hide ((HP2.out.below hb3).more hb3.size)
      clear hb3 hb03 hby3 HK3 HB2 HAL
      go_wp2_with fail
      refine HAL3.out.mono ?_
      rintro e w4 ⟨rfl, hb04, hb34⟩
      have HK4 := hide (K4.out w4 A1 c1 A2 c2 ((HP1.out.below hb34).more hb34.size) ((HP2.out.below hb34).more hb34.size))
      have HB4 := hide hb04
      have hz4 := hb04.size
      clear hb04 hb34 K4 HAL3 HP1 HP2
      go_wp2_with fail
      refine HK4.out.mono ?_
      rintro e w5 ⟨rfl, hb5⟩
      have HB5 := hide (HB4.out.trans (hb5.mono hz4))
      clear hb5 HK4 HB4
      go_wp2
      go_ret
      exact ⟨rfl, HB5.out⟩
    · rw [hr] at K1 K2
      obtain ⟨hv, hf⟩ := hpb hr
      rw [hv, hf] at K3
      clear hpb hr hv hf
      go_enter Tryd.func5, Tryd.ntmps5
      go_wp2_with fail
      refine K1.out.mono ?_
      rintro e w1 ⟨v1, rfl, ho1, hb1⟩
      obtain ⟨A1, c1, rfl, _, _, hp1⟩ := ho1.path
      have HK2 := hide (K2.out w1 hb1)
      have HB1 := hide hb1
      have hz1 := hb1.size
      have HP1 := hide hp1
      clear hb1 ho1 hp1 K1 K2
      go_wp2_with fail
      refine HK2.out.mono ?_
      rintro e w2 ⟨v2, rfl, ho2, hb2⟩
      obtain ⟨A2, c2, rfl, _, _, hp2⟩ := ho2.path
      have hb02 := HB1.out.trans (hb2.mono hz1)
      have hp12 := (HP1.out.below hb2).more hb2.size
      have HK3 := hide (K3.out w2 A1 c1 hp12)
      have HB2 := hide hb02
      have hz2 := hb02.size
      have HP1 := hide hp12
      have HP2 := hide hp2
      clear hb2 hb02 hp12 hp2 ho2 K3 HK2 HB1
      go_wp2_with fail
      refine HK3.out.mono ?_
      rintro e w3 ⟨A3, c3, rfl, hby3, hb3⟩
      have hb03 := HB2.out.trans (hb3.mono hz2)
      have HAL3 := hide (HAL.out w3 hb03)
      have HP1 := hide ((HP1.out.below hb3).more hb3.size)
      have HP2 := hide ((HP2.out.below hb3).more hb3.size)
      have HY3 := hide hby3
      clear hb3 hb03 hby3 HK3 HB2 HAL
      go_wp2_with fail
      refine HAL3.out.mono ?_
      rintro e w4 ⟨rfl, hb04, hb34⟩
      have HK4 := hide (K4.out w4 A1 c1 A2 c2 ((HP1.out.below hb34).more hb34.size) ((HP2.out.below hb34).more hb34.size))
      have HY4 := hide ((HY3.out.below hb34).more hb34.size)
      have HB4 := hide hb04
      have hz4 := hb04.size
      clear hb04 hb34 K4 HAL3 HP1 HP2 HY3
      go_wp2_with fail
      refine HK4.out.mono ?_
      rintro e w5 ⟨rfl, hb5⟩
      have hb05 := HB4.out.trans (hb5.mono hz4)
      have HK5 := hide (K5.out w5 A3 c3 A c ((HY4.out.below hb5).more hb5.size) (HBY.out w5 hb05))
      have HB5 := hide hb05
      have hz5 := hb05.size
      clear hb5 hb05 HK4 HB4 K5
      go_wp2_with fail
      refine HK5.out.mono ?_
      rintro e w6 ⟨rfl, hb6⟩
      have HB6 := hide (HB5.out.trans (hb6.mono hz5))
      clear hb6 HK5 HB5
      go_wp2
      go_ret
      exact ⟨rfl, HB6.out⟩
end Go.Proofs.YtceolenmcpndaaaDoor
