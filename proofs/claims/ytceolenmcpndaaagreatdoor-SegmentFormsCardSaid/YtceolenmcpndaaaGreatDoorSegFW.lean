/- The walk of the law SegmentForms: it returns true, and leaves alone whatever lay there. -/
import Derived.Test.YtceolenmcpndaaaGreatDoorSegFB
import Derived.Test.YtceolenmcpndaaaGreatDoorSegTB
import Derived.Test.YtceolenmcpndaaaGreatDoorLen
import Derived.Test.YtceolenmcpndaaaGreatDoorEquB
set_option autoImplicit false
namespace Go.Proofs.YtceolenmcpndaaaGreatDoor
open Go.RowKit Go.Sort Go.Shelf

theorem valid_shape (width : Int) (l : List Sg) (h : validF width l = true) : ∀ s ∈ l, (s.1 = 1 ∨ s.1 = 2) ∧ 1 ≤ s.2.length ∧ s.2.length ≤ 255 := by
  intro s hs
  simp only [validF, Bool.and_eq_true, List.all_eq_true] at h
  have := h.1 s hs
  simp only [rightF, Bool.and_eq_true, shapeF, decide_eq_true_eq] at this
  exact this.1
theorem valid_width (width : Int) (l : List Sg) (h : validF width l = true) : width = 2 ∨ width = 4 := by
  simp only [validF, Bool.and_eq_true, decide_eq_true_eq] at h
  exact h.2
theorem valid_four (width : Int) (l : List Sg) (h : validF width l = true) : validF 4 l = true := by
  have h1 := valid_shape width l h
  simp only [validF, Bool.and_eq_true, List.all_eq_true, decide_eq_true_eq]
  refine ⟨fun s hs => ?_, by simp⟩
  simp only [rightF, Bool.and_eq_true, shapeF, decide_eq_true_eq]
  exact ⟨h1 s hs, by simp [smallF]⟩
theorem valid_small (width : Int) (l : List Sg) (h : validF width l = true) (hu : ∀ s ∈ l, Us s.2) : ∀ s ∈ l, ∀ x ∈ s.2, 0 ≤ x ∧ x < 256 ^ width.toNat := by
  intro s hs x hx
  have hb := hu s hs x hx
  rcases valid_width width l h with rfl | rfl
  · simp only [validF, Bool.and_eq_true, List.all_eq_true] at h
    have := h.1 s hs
    simp only [rightF, Bool.and_eq_true] at this
    have h2 := this.2
    simp [smallF] at h2
    have := h2 x hx
    exact ⟨hb.1, by show x < 65536; omega⟩
  · exact ⟨hb.1, by show x < 4294967296; omega⟩
/-- The form of a valid path is read as this path. -/
theorem readP_form (width : Int) (l : List Sg) (h : validF width l = true) (hu : ∀ s ∈ l, Us s.2) : readP width (formB width l) = some l := by
  have hs := valid_small width l h hu
  have hsh := valid_shape width l h
  unfold readP formB
  rw [if_pos (valid_width width l h), if_pos h]
  exact readF_path _ l _ (Nat.le_refl _) fun s hm => ⟨(hsh s hm).1, (hsh s hm).2.1, hs s hm⟩
theorem numsB_bs (k : Nat) (l : List Int) : Bs (numsB k l) := by
  intro x hx
  unfold numsB at hx
  obtain ⟨y, _, hy⟩ := List.mem_flatMap.1 hx
  exact beL_bs k y x hy
theorem formB_bs (width : Int) (l : List Sg) : Bs (formB width l) := by
  intro x hx
  unfold formB at hx
  split at hx
  · rename_i h
    unfold pathB at hx
    obtain ⟨s, hs, hx⟩ := List.mem_flatMap.1 hx
    have := valid_shape width l h s hs
    simp only [segB, List.mem_cons] at hx
    rcases hx with rfl | rfl | hx
    · omega
    · omega
    · exact numsB_bs _ _ x hx
  · cases hx
theorem formB_le (width : Int) (l : List Sg) (hl : l.length ≤ 50) : (formB width l).length ≤ 51100 := by
  unfold formB
  split
  · rename_i h
    have hw := valid_width width l h
    have := pathB_le width.toNat (by omega) l (fun s hs => (valid_shape width l h s hs).2.2)
    omega
  · simp
theorem foldl_lens (l : List Sg) : ∀ a : Int, l.foldl (fun n s => n + min (s.2.length : Int) 1000) a = a + lenSum l := by
  unfold lenSum
  induction l with
  | nil => intro a; simp
  | cons s r ih => intro a; simp only [List.foldl_cons]; rw [ih (a + _), ih (0 + _)]; omega
theorem lenSum_cons (s : Sg) (r : List Sg) : lenSum (s :: r) = min (s.2.length : Int) 1000 + lenSum r := by
  have := foldl_lens r (0 + min (s.2.length : Int) 1000)
  unfold lenSum at this ⊢
  rw [List.foldl_cons, this]; omega
theorem lens_text (l : List Sg) (h : ∀ s ∈ l, s.2.length ≤ 600 ∧ Us s.2) : (Lib.lens (l.map segT) : Int) ≤ 2 * l.length + 21 * lenSum l := by
  induction l with
  | nil => simp [Lib.lens, lenSum]
  | cons s r ih =>
    have h1 := ih fun t ht => h t (by simp [ht])
    have h2 := h s (by simp)
    have h3 := segT_le s h2.2
    rw [lenSum_cons]
    simp only [Lib.lens, List.map_cons, List.sum_cons, List.length_cons] at h1 ⊢
    omega
theorem textF_le (l : List Sg) (hf : FewF l = true) (hu : ∀ s ∈ l, Us s.2) : (textF l).length ≤ 20000 := by
  obtain ⟨_, hm⟩ := few_bounds l hf
  have hlt := lens_text l fun s hs => ⟨hm s hs, hu s hs⟩
  simp only [FewF, decide_eq_true_eq] at hf
  unfold textF
  split
  · cases l with
    | nil => simp [Lib.join_nil]
    | cons s r =>
      rw [List.map_cons, Lib.join_length]
      rw [List.map_cons] at hlt
      simp only [List.length_cons, List.length_map, List.length_nil] at hlt hf ⊢
      omega
  · simp
theorem parP_len (l p : List Sg) (s : List UInt8) (h : parP s = some l) (hp : parseL s = some p) : p = l := by
  unfold parP at h
  rw [hp] at h
  simp only [] at h
  split at h
  · injection h
  · cases h

set_option maxRecDepth 100000 in
set_option maxHeartbeats 8000000 in
theorem segforms_any (width : Int) (A : Option Addr) (c : Nat) (l : List Sg) (w : World) (h : Path w w.heap.size A l) (hs : Sound l) (ht : TabsQ w) :
    Calls Tryz.prog 3 #[.int .i64 width, .slice A l.length c] w fun e w' => e = .returned (.bool true) ∧ Below w.heap.size w w' := by
  have HF1 := hide (few_any A c l w h hs.1 (fun s h => (hs.2 s h).1))
  have HAL := hide (fun w1 (hb1 : Below w.heap.size w w1) => (alive6_any w1 (ht.tabs.tabs.below hb1)).mono fun e w' (hq : e = .returned (.bool true) ∧ Below w1.heap.size w1 w') => (⟨hq.1, hb1.trans (hq.2.mono hb1.size), hq.2⟩ : e = .returned (.bool true) ∧ Below w.heap.size w w' ∧ Below w1.heap.size w1 w'))
  by_cases hf : FewF l = true
  · obtain ⟨hl, hm⟩ := few_bounds l hf
    have hus : ∀ s ∈ l, Us s.2 := fun s h => (hs.2 s h).2
    have hm1 : ∀ s ∈ l, s.2.length ≤ 140737488351232 := fun s h => (hs.2 s h).1
    have hfl := formB_le width l hl
    have htl := textF_le l hf hus
    have K1 := hide (sbytes_any width A c l w h (by omega) hs)
    have K2 := hide (fun w1 (hb1 : Below w.heap.size w w1) => rbytes_any width A c l w1 ((h.below hb1).more hb1.size) (by omega) hs)
    have K3 := hide (fun w1 (hb1 : Below w.heap.size w w1) => text_any A c l w1 ((h.below hb1).more hb1.size) (by omega) (fun s hx => ⟨by have := hm s hx; omega, (hs.2 s hx).2⟩) (ht.tabs.tabs.below hb1))
    have K4 := hide (fun w1 (hb1 : Below w.heap.size w w1) => valid_any width A c l w1 ((h.below hb1).more hb1.size) hs)
    have K5 := hide (fun w1 (hb1 : Below w.heap.size w w1) => rvalid_any width A c l w1 ((h.below hb1).more hb1.size) hs)
    have K6 := hide (fun A1 c1 A3 c3 w1 (p1 : Byts w1 w1.heap.size A1 (formB width l)) (p2 : Byts w1 w1.heap.size A3 (formB width l)) => equalB_any A1 A3 c1 c3 (formB width l) (formB width l) w1 p1 p2 (by omega))
    have K7 := hide (fun w1 (hb1 : Below w.heap.size w w1) => rtext_any A c l w1 ((h.below hb1).more hb1.size) (by omega) hs)
    have K8 := hide (fun A1 c1 w1 (p1 : Byts w1 w1.heap.size A1 (formB width l)) => read_any width A1 c1 (formB width l) w1 p1 (by omega) (formB_bs width l))
    have K9 := fun (hv : validF width l = true) w1 (hb1 : Below w.heap.size w w1) => parse_any (textF l) w1 (by omega) (fun p hp => by rw [parP_len l p _ (parP_text l (valid_four width l hv) hus) hp]; omega) (ht.below hb1)
    have K10 := hide (fun A1 c1 w1 (hp : Path w1 w1.heap.size A1 l) (hb1 : Below w.heap.size w w1) => same_any A1 A c1 c l l w1 hp ((h.below hb1).more hb1.size) hs.1 hm1 hm1)
    simp only [decide_true] at K6 K10
    rw [hf] at HF1
    have hrd := fun hv => readP_form width l hv hus
    have hpr := fun hv => parP_text l (valid_four width l hv) hus
    clear ht hf hm hm1 hs h
    cases hv : validF width l
    · rw [hv] at K1 K2 K4 K5
      clear K8 K9 K10 hrd hpr hv
      generalize hfm : formB width l = fm at *
      obtain ⟨T, hT⟩ : ∃ T, T = strB (textF l) := ⟨_, rfl⟩
      rw [← hT] at K3 K7
      clear hT hfm htl hus
      go_enter Tryz.func3, Tryz.ntmps3
      go_wp2_with fail
      refine HF1.out.mono ?_
      rintro e w1 ⟨rfl, rfl⟩
      go_wp2_with fail
      refine K1.out.mono ?_
      rintro e w1 ⟨A1, c1, rfl, hby1, hb1⟩
      have HK2 := hide (K2.out w1 hb1)
      have HB1 := hide hb1
      have HY1 := hide hby1
      have hz1 := hb1.size
      clear hb1 hby1 K1 K2 HF1
      go_wp2_with fail
      refine HK2.out.mono ?_
      rintro e w2 ⟨A2, c2, rfl, hby2, hb2⟩
      have hb02 := HB1.out.trans (hb2.mono hz1)
      have HK3 := hide (K3.out w2 hb02)
      have HY12 := hide ((HY1.out.below hb2).more hb2.size)
      have HY2 := hide hby2
      have HB2 := hide hb02
      have hz2 := hb02.size
      clear hb2 hb02 hby2 K3 HK2 HB1 HY1
      go_wp2_with fail
      refine HK3.out.mono ?_
      rintro e w3 ⟨rfl, hb3⟩
      have hb03 := HB2.out.trans (hb3.mono hz2)
      have HK4 := hide (K4.out w3 hb03)
      have HY13 := hide ((HY12.out.below hb3).more hb3.size)
      have HY23 := hide ((HY2.out.below hb3).more hb3.size)
      have HB3 := hide hb03
      have hz3 := hb03.size
      clear hb3 hb03 K4 HK3 HB2 HY12 HY2
      go_wp2_with fail
      refine HK4.out.mono ?_
      rintro e w4 ⟨rfl, hb4⟩
      have hb04 := HB3.out.trans (hb4.mono hz3)
      have HK5 := hide (K5.out w4 hb04)
      have HY14 := hide ((HY13.out.below hb4).more hb4.size)
      have HY24 := hide ((HY23.out.below hb4).more hb4.size)
      have HB4 := hide hb04
      have hz4 := hb04.size
      clear hb4 hb04 K5 HK4 HB3 HY13 HY23
      go_wp2_with fail
      refine HK5.out.mono ?_
      rintro e w5 ⟨rfl, hb5⟩
      have hb05 := HB4.out.trans (hb5.mono hz4)
      have HK6 := hide (K6.out A1 c1 A2 c2 w5 ((HY14.out.below hb5).more hb5.size) ((HY24.out.below hb5).more hb5.size))
      have HB5 := hide hb05
      have hz5 := hb05.size
      clear hb5 hb05 K6 HK5 HB4 HY14 HY24
      go_wp2_with fail
      refine HK6.out.mono ?_
      rintro e w6 ⟨rfl, hb6⟩
      have hb06 := HB5.out.trans (hb6.mono hz5)
      have HK7 := hide (K7.out w6 hb06)
      have HB6 := hide hb06
      have hz6 := hb06.size
      clear hb6 hb06 K7 HK6 HB5
      go_wp2_with fail
      refine HK7.out.mono ?_
      rintro e w7 ⟨rfl, hb7⟩
      have hb07 := HB6.out.trans (hb7.mono hz6)
      have HAL7 := hide (HAL.out w7 hb07)
      clear hb7 hb07 HK7 HB6 HAL
      go_wp2_with fail
      refine HAL7.out.mono ?_
      rintro e w8 ⟨rfl, hb08, _⟩
      have HB8 := hide hb08
      clear hb08 HAL7
      go_wp2
      go_ret
      exact ⟨rfl, HB8.out⟩
    · have K9 := hide (K9 hv)
      rw [hpr hv] at K9
      rw [hrd hv] at K8
      rw [hv] at K1 K2 K4 K5
      simp only [Option.isSome_some, Option.getD_some] at K8 K9
      clear hrd hpr hv
      generalize hfm : formB width l = fm at *
      obtain ⟨T, hT⟩ : ∃ T, T = strB (textF l) := ⟨_, rfl⟩
      rw [← hT] at K3 K7 K9
      clear hT hfm htl hus
      go_enter Tryz.func3, Tryz.ntmps3
      go_wp2_with fail
      refine HF1.out.mono ?_
      rintro e w1 ⟨rfl, rfl⟩
      go_wp2_with fail
      refine K1.out.mono ?_
      rintro e w1 ⟨A1, c1, rfl, hby1, hb1⟩
      have HK2 := hide (K2.out w1 hb1)
      have HB1 := hide hb1
      have HY1 := hide hby1
      have hz1 := hb1.size
      clear hb1 hby1 K1 K2 HF1
      go_wp2_with fail
      refine HK2.out.mono ?_
      rintro e w2 ⟨A2, c2, rfl, hby2, hb2⟩
      have hb02 := HB1.out.trans (hb2.mono hz1)
      have HK3 := hide (K3.out w2 hb02)
      have HY12 := hide ((HY1.out.below hb2).more hb2.size)
      have HY2 := hide hby2
      have HB2 := hide hb02
      have hz2 := hb02.size
      clear hb2 hb02 hby2 K3 HK2 HB1 HY1
      go_wp2_with fail
      refine HK3.out.mono ?_
      rintro e w3 ⟨rfl, hb3⟩
      have hb03 := HB2.out.trans (hb3.mono hz2)
      have HK4 := hide (K4.out w3 hb03)
      have HY13 := hide ((HY12.out.below hb3).more hb3.size)
      have HY23 := hide ((HY2.out.below hb3).more hb3.size)
      have HB3 := hide hb03
      have hz3 := hb03.size
      clear hb3 hb03 K4 HK3 HB2 HY12 HY2
      go_wp2_with fail
      refine HK4.out.mono ?_
      rintro e w4 ⟨rfl, hb4⟩
      have hb04 := HB3.out.trans (hb4.mono hz3)
      have HK5 := hide (K5.out w4 hb04)
      have HY14 := hide ((HY13.out.below hb4).more hb4.size)
      have HY24 := hide ((HY23.out.below hb4).more hb4.size)
      have HB4 := hide hb04
      have hz4 := hb04.size
      clear hb4 hb04 K5 HK4 HB3 HY13 HY23
      go_wp2_with fail
      refine HK5.out.mono ?_
      rintro e w5 ⟨rfl, hb5⟩
      have hb05 := HB4.out.trans (hb5.mono hz4)
      have HK6 := hide (K6.out A1 c1 A2 c2 w5 ((HY14.out.below hb5).more hb5.size) ((HY24.out.below hb5).more hb5.size))
      have HY15 := hide ((HY14.out.below hb5).more hb5.size)
      have HB5 := hide hb05
      have hz5 := hb05.size
      clear hb5 hb05 K6 HK5 HB4 HY14 HY24
      go_wp2_with fail
      refine HK6.out.mono ?_
      rintro e w6 ⟨rfl, hb6⟩
      have hb06 := HB5.out.trans (hb6.mono hz5)
      have HK7 := hide (K7.out w6 hb06)
      have HY16 := hide ((HY15.out.below hb6).more hb6.size)
      have HB6 := hide hb06
      have hz6 := hb06.size
      clear hb6 hb06 K7 HK6 HB5 HY15
      go_wp2_with fail
      refine HK7.out.mono ?_
      rintro e w7 ⟨rfl, hb7⟩
      have hb07 := HB6.out.trans (hb7.mono hz6)
      have HK8 := hide (K8.out A1 c1 w7 ((HY16.out.below hb7).more hb7.size))
      have HB7 := hide hb07
      have hz7 := hb07.size
      clear hb7 hb07 HK7 HB6 HY16 K8
      go_wp2_with fail
      refine HK8.out.mono ?_
      rintro e w8 ⟨v8, rfl, ho8, hb8⟩
      obtain ⟨A8, c8, rfl, _, _, hp8⟩ := ho8.path
      have hb08 := HB7.out.trans (hb8.mono hz7)
      have HK9 := hide (K9.out w8 hb08)
      have HP8 := hide hp8
      have HB8 := hide hb08
      have hz8 := hb08.size
      clear hb8 hb08 HK8 HB7 hp8 ho8 K9
      go_wp2_with fail
      refine HK9.out.mono ?_
      rintro e w9 ⟨v9, rfl, ho9, hb9⟩
      obtain ⟨A9, c9, rfl, _, _, hp9⟩ := ho9.path
      have hb09 := HB8.out.trans (hb9.mono hz8)
      have HAL9 := hide (HAL.out w9 hb09)
      have HP89 := hide ((HP8.out.below hb9).more hb9.size)
      have HP9 := hide hp9
      have HB9 := hide hb09
      have hz9 := hb09.size
      clear hb9 hb09 HK9 HB8 hp9 ho9 HP8 HAL
      go_wp2_with fail
      refine HAL9.out.mono ?_
      rintro e w10 ⟨rfl, hb010, hb10⟩
      have HKa := hide (K10.out A8 c8 w10 ((HP89.out.below hb10).more hb10.size) hb010)
      have HP10 := hide ((HP9.out.below hb10).more hb10.size)
      have HB10 := hide hb010
      have hz10 := hb010.size
      clear hb10 hb010 HAL9 HP89 HP9 HB9
      go_wp2_with fail
      refine HKa.out.mono ?_
      rintro e w11 ⟨rfl, hb11⟩
      have hb011 := HB10.out.trans (hb11.mono hz10)
      have HKb := hide (K10.out A9 c9 w11 ((HP10.out.below hb11).more hb11.size) hb011)
      have HB11 := hide hb011
      have hz11 := hb011.size
      clear hb11 hb011 HKa HB10 HP10 K10
      go_wp2_with fail
      refine HKb.out.mono ?_
      rintro e w12 ⟨rfl, hb12⟩
      have HB12 := hide (HB11.out.trans (hb12.mono hz11))
      clear hb12 HKb HB11
      go_wp2
      go_ret
      exact ⟨rfl, HB12.out⟩
  · have hf : FewF l = false := by simpa using hf
    rw [hf] at HF1
    have HA := hide (HAL.out w (Below.refl _ _))
    clear h hs ht hf HAL
    go_enter Tryz.func3, Tryz.ntmps3
    go_wp2_with fail
    refine HF1.out.mono ?_
    rintro e w1 ⟨rfl, rfl⟩
    go_wp2_with fail
    refine HA.out.mono ?_
    rintro e w6 ⟨rfl, hb06, _⟩
    have HB6 := hide hb06
    clear hb06
    go_wp2
    go_ret
    exact ⟨rfl, HB6.out⟩
end Go.Proofs.YtceolenmcpndaaaGreatDoor
