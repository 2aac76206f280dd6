/- The walk of the law SegmentSame: it returns true, and leaves alone whatever lay there. -/
import Derived.Test.YtceolenmcpndaaaDoorSegEq
import Derived.Test.YtceolenmcpndaaaDoorSegPC
import Derived.Test.YtceolenmcpndaaaDoorTxtL
import Derived.Test.YtceolenmcpndaaaDoorLen
set_option autoImplicit false
namespace Go.Proofs.YtceolenmcpndaaaDoor
open Go.RowKit Go.Sort Go.Shelf

theorem valid_sh (width : Int) (l : List Sg) (h : validF width l = true) : ∀ s ∈ l, (s.1 = 1 ∨ s.1 = 2) ∧ 1 ≤ s.2.length ∧ s.2.length ≤ 255 := by
  intro s hs
  simp only [validF, Bool.and_eq_true, List.all_eq_true] at h
  have := h.1 s hs
  simp only [rightF, Bool.and_eq_true, shapeF, decide_eq_true_eq] at this
  exact this.1
theorem form_inj (a b : List Sg) (ha : validF 4 a = true) (hb : validF 4 b = true) (hua : ∀ s ∈ a, Us s.2) (hub : ∀ s ∈ b, Us s.2) : decide (formB 4 a = formB 4 b) = decide (a = b) := by
  refine decide_eq_decide.2 ⟨fun h => ?_, fun h => by rw [h]⟩
  unfold formB at h
  rw [if_pos ha, if_pos hb] at h
  refine pathB_inj 4 a b (fun s hs x hx => ?_) (fun s hs x hx => ?_) h
  · have := hua s hs x hx; exact ⟨this.1, this.2⟩
  · have := hub s hs x hx; exact ⟨this.1, this.2⟩
theorem textF_inj (a b : List Sg) (ha : validF 4 a = true) (hb : validF 4 b = true) (hua : ∀ s ∈ a, Us s.2) (hub : ∀ s ∈ b, Us s.2) (h : textF a = textF b) : a = b := by
  unfold textF at h
  rw [if_pos ha, if_pos hb] at h
  refine text_inj a b (fun s hs => ?_) (fun s hs => ?_) h
  · obtain ⟨h1, h2, _⟩ := valid_sh 4 a ha s hs
    exact ⟨h1, fun e => by rw [e] at h2; simp at h2, hua s hs⟩
  · obtain ⟨h1, h2, _⟩ := valid_sh 4 b hb s hs
    exact ⟨h1, fun e => by rw [e] at h2; simp at h2, hub s hs⟩

set_option maxRecDepth 100000 in
set_option maxHeartbeats 8000000 in
theorem segsame_any (A : Option Addr) (c : Nat) (a : List Sg) (A2 : Option Addr) (c2 : Nat) (b : List Sg) (w : World) (h : Path w w.heap.size A a) (h2 : Path w w.heap.size A2 b)
    (hs : Sound a) (hs2 : Sound b) (ht : Tabs w) :
    Calls Tryd.prog 4 #[.slice A a.length c, .slice A2 b.length c2] w fun e w' => e = .returned (.bool true) ∧ Below w.heap.size w w' := by
  have HF1 := hide (few_any A c a w h hs.1 (fun s h => (hs.2 s h).1))
  have HF2 := hide (few_any A2 c2 b w h2 hs2.1 (fun s h => (hs2.2 s h).1))
  have HAL := hide (fun w1 (hb1 : Below w.heap.size w w1) => (alive6_any w1 (ht.below hb1)).mono fun e w' (hq : e = .returned (.bool true) ∧ Below w1.heap.size w1 w') => (⟨hq.1, hb1.trans (hq.2.mono hb1.size), hq.2⟩ : e = .returned (.bool true) ∧ Below w.heap.size w w' ∧ Below w1.heap.size w1 w'))
  by_cases hf : FewF a = true
  · by_cases hg : FewF b = true
    · obtain ⟨hl, hm⟩ := few_bounds a hf
      obtain ⟨hl2, hm2⟩ := few_bounds b hg
      have K1 := hide (same_any A A2 c c2 a b w h h2 hs.1 (fun s h => (hs.2 s h).1) (fun s h => (hs2.2 s h).1))
      have K2 := hide (fun w1 (hb1 : Below w.heap.size w w1) => psame_any A A2 c c2 a b w1 ((h.below hb1).more hb1.size) ((h2.below hb1).more hb1.size) hs.1 (fun s h => (hs.2 s h).1))
      have K3 := hide (fun w1 (hb1 : Below w.heap.size w w1) => psame_any A A c c a a w1 ((h.below hb1).more hb1.size) ((h.below hb1).more hb1.size) hs.1 (fun s h => (hs.2 s h).1))
      have K4 := hide (fun w1 (hb1 : Below w.heap.size w w1) => sbytes_any 4 A c a w1 ((h.below hb1).more hb1.size) (by omega) hs)
      have K5 := hide (fun w1 (hb1 : Below w.heap.size w w1) => sbytes_any 4 A2 c2 b w1 ((h2.below hb1).more hb1.size) (by omega) hs2)
      have K6 := hide (fun w1 (hb1 : Below w.heap.size w w1) => text_any A c a w1 ((h.below hb1).more hb1.size) (by omega) (fun s hx => ⟨by have := hm s hx; omega, (hs.2 s hx).2⟩) (ht.below hb1))
      have K7 := hide (fun w1 (hb1 : Below w.heap.size w w1) => text_any A2 c2 b w1 ((h2.below hb1).more hb1.size) (by omega) (fun s hx => ⟨by have := hm2 s hx; omega, (hs2.2 s hx).2⟩) (ht.below hb1))
      have hua : ∀ s ∈ a, Us s.2 := fun s h => (hs.2 s h).2
      have hub : ∀ s ∈ b, Us s.2 := fun s h => (hs2.2 s h).2
      have hfi := fun ha hb => form_inj a b ha hb hua hub
      have hti := fun ha hb => textF_inj a b ha hb hua hub
      have htc : a = b → strB (textF a) = strB (textF b) := fun e => by rw [e]
      have hfl : (formB 4 a).length ≤ 140737488351232 := by
        unfold formB; split
        · rename_i hv
          have := pathB_le 4 (by omega) a (fun s hs => (valid_sh 4 a hv s hs).2.2)
          show (pathB 4 a).length ≤ _; omega
        · simp
      have K8 := hide (fun A1 c1 A3 c3 w1 (p1 : Byts w1 w1.heap.size A1 (formB 4 a)) (p2 : Byts w1 w1.heap.size A3 (formB 4 b)) => equalB_any A1 A3 c1 c3 (formB 4 a) (formB 4 b) w1 p1 p2 hfl)
      rw [hf] at HF1
      rw [hg] at HF2
      simp only [decide_true] at K3
      have HFI := hide hfi
      have HTI := hide hti
      have HTC := hide htc
      clear hfi hti htc h h2 hs hs2 ht hf hg hm hm2 hua hub hfl
      generalize hr : decide (a = b) = r at *
      have HR := Lib.hid hr
      clear hr
      go_enter Tryd.func4, Tryd.ntmps4
      go_wp2_with fail
      refine HF1.out.mono ?_
      rintro e w1 ⟨rfl, rfl⟩
      go_wp2_with fail
      refine HF2.out.mono ?_
      rintro e w1 ⟨rfl, rfl⟩
      go_wp2_with fail
      refine K1.out.mono ?_
      rintro e w1 ⟨rfl, hb1⟩
      have HK2 := hide (K2.out w1 hb1)
      have HB1 := hide hb1
      have hz1 := hb1.size
      clear hb1 K1 K2 HF1 HF2
      go_wp2_with fail
      refine HK2.out.mono ?_
      rintro e w2 ⟨rfl, hb2⟩
      have hb02 := HB1.out.trans (hb2.mono hz1)
      have HK3 := hide (K3.out w2 hb02)
      have HB2 := hide hb02
      have hz2 := hb02.size
      clear hb2 hb02 K3 HK2 HB1
      go_wp2_with fail
      refine HK3.out.mono ?_
      rintro e w3 ⟨rfl, hb3⟩
      have hb03 := HB2.out.trans (hb3.mono hz2)
      have HK4 := hide (K4.out w3 hb03)
      have HB3 := hide hb03
      have hz3 := hb03.size
      clear hb3 hb03 K4 HK3 HB2
      go_wp2_with fail
      refine HK4.out.mono ?_
      rintro e w4 ⟨A4, c4, rfl, hby4, hb4⟩
      have hb04 := HB3.out.trans (hb4.mono hz3)
      have HK5 := hide (K5.out w4 hb04)
      have HBY4 := hide hby4
      have HB4 := hide hb04
      have hz4 := hb04.size
      clear hb4 hb04 hby4 K5 HK4 HB3
      go_wp2_with fail
      refine HK5.out.mono ?_
      rintro e w5 ⟨A5, c5, rfl, hby5, hb5⟩
      have hb05 := HB4.out.trans (hb5.mono hz4)
      have HAL5 := hide (HAL.out w5 hb05)
      have HBY5 := hide hby5
      have HBY45 := hide ((HBY4.out.below hb5).more hb5.size)
      have HB5 := hide hb05
      have hz5 := hb05.size
      clear hb5 hb05 hby5 HK5 HB4 HBY4 HAL
      by_cases hva : validF 4 a = true
      · by_cases hvb : validF 4 b = true
        · have hfi := HFI.out hva hvb
          have hti := HTI.out hva hvb
          rw [hfi] at K8
          rw [hva, hvb]
          have HTI' := hide hti
          clear hfi hti HFI HTI hva hvb
          go_wp2_with fail
          refine HAL5.out.mono ?_
          rintro e w6 ⟨rfl, hb06, hb56⟩
          have HK8 := hide (K8.out A4 c4 A5 c5 w6 ((HBY45.out.below hb56).more hb56.size) ((HBY5.out.below hb56).more hb56.size))
          have HB6 := hide hb06
          have hz6 := hb06.size
          clear hb06 hb56 K8 HBY45 HBY5 HB5 HAL5
          go_wp2_with fail
          refine HK8.out.mono ?_
          rintro e w7 ⟨rfl, hb7⟩
          have hb07 := HB6.out.trans (hb7.mono hz6)
          have HK6 := hide (K6.out w7 hb07)
          have HB7 := hide hb07
          have hz7 := hb07.size
          clear hb7 hb07 K6 HK8 HB6
          go_wp2_with fail
          refine HK6.out.mono ?_
          rintro e w8 ⟨rfl, hb8⟩
          have hb08 := HB7.out.trans (hb8.mono hz7)
          have HK7 := hide (K7.out w8 hb08)
          have HB8 := hide hb08
          have hz8 := hb08.size
          clear hb8 hb08 K7 HK6 HB7
          go_wp2_with fail
          refine HK7.out.mono ?_
          rintro e w9 ⟨rfl, hb9⟩
          have HB9 := hide (HB8.out.trans (hb9.mono hz8))
          clear hb9 HK7 HB8
          go_wp2
          go_ret
          refine ⟨ret_bool ?_, HB9.out⟩
          by_cases e : a = b
          · have : r = true := by rw [← HR.out]; exact decide_eq_true e
            rw [this, HTC.out e]; simp
          · have : r = false := by rw [← HR.out]; exact decide_eq_false e
            rw [this]
            have hne : (strB (textF a)).toList ≠ (strB (textF b)).toList := fun h => by
              rw [ByteArray.toList_eq, ByteArray.toList_eq] at h
              exact e (HTI'.out h)
            simpa using hne
        · have hvb : validF 4 b = false := by simpa using hvb
          rw [hva, hvb]
          clear hva hvb HFI HTI
          go_wp2_with fail
          refine HAL5.out.mono ?_
          rintro e w6 ⟨rfl, hb06, hb56⟩
          have HB6 := hide hb06
          clear hb06 hb56
          go_wp2
          go_ret
          exact ⟨rfl, HB6.out⟩
      · have hva : validF 4 a = false := by simpa using hva
        rw [hva]
        clear hva HFI HTI
        go_wp2_with fail
        refine HAL5.out.mono ?_
        rintro e w6 ⟨rfl, hb06, hb56⟩
        have HB6 := hide hb06
        clear hb06 hb56
        go_wp2
        go_ret
        exact ⟨rfl, HB6.out⟩
    · have hg : FewF b = false := by simpa using hg
      rw [hf] at HF1
      rw [hg] at HF2
      have HA := hide (HAL.out w (Below.refl _ _))
      clear h h2 hs hs2 ht hf hg HAL
      go_enter Tryd.func4, Tryd.ntmps4
      go_wp2_with fail
      refine HF1.out.mono ?_
      rintro e w1 ⟨rfl, rfl⟩
      go_wp2_with fail
      refine HF2.out.mono ?_
      rintro e w1 ⟨rfl, rfl⟩
      go_wp2_with fail
      refine HA.out.mono ?_
      rintro e w6 ⟨rfl, hb06, hb56⟩
      have HB6 := hide hb06
      clear hb06 hb56
      go_wp2
      go_ret
      exact ⟨rfl, HB6.out⟩
  · have hf : FewF a = false := by simpa using hf
    rw [hf] at HF1
    have HA := hide (HAL.out w (Below.refl _ _))
    clear h h2 hs hs2 ht hf HAL HF2
    go_enter Tryd.func4, Tryd.ntmps4
    go_wp2_with fail
    refine HF1.out.mono ?_
    rintro e w1 ⟨rfl, rfl⟩
    go_wp2_with fail
    refine HA.out.mono ?_
    rintro e w6 ⟨rfl, hb06, hb56⟩
    have HB6 := hide hb06
    clear hb06 hb56
    go_wp2
    go_ret
    exact ⟨rfl, HB6.out⟩
end Go.Proofs.YtceolenmcpndaaaDoor
