/- The walk of the law MergePaths: it returns true, and leaves alone whatever lay there. -/
import Derived.Test.YtceolenmcpndaaaDoorMergeX
set_option autoImplicit false
namespace Go.Proofs.YtceolenmcpndaaaDoor
open Go.RowKit Go.Sort Go.Shelf

theorem valid_shape (l : List Sg) (width : Int) (h : validF width l = true) : ∀ s ∈ l, (s.1 = 1 ∨ s.1 = 2) ∧ 1 ≤ s.2.length ∧ s.2.length ≤ 255 := by
  intro s hs
  simp only [validF, Bool.and_eq_true, List.all_eq_true] at h
  have := h.1 s hs
  simp only [rightF, Bool.and_eq_true, shapeF, decide_eq_true_eq] at this
  exact this.1
theorem valid_one (l : List Sg) (width : Int) (h : validF width l = true) : ∀ s ∈ l, 1 ≤ segLen s := by
  intro s hs
  obtain ⟨h1, h2, _⟩ := valid_shape l width h s hs
  unfold segLen
  rcases h1 with h1 | h1
  · rw [if_pos h1]; omega
  · rw [if_neg (by omega), if_pos h1]; omega
theorem pathsF_length (a b : List Sg) : (pathsF a b).length ≤ a.length + b.length := by
  unfold pathsF
  split
  · omega
  · have := headF_length a (lenF a - lenF b); rw [List.length_append]; omega
theorem pathsF_mem (M : Nat) (a b : List Sg) (ha : ∀ s ∈ a, s.2.length ≤ M) (hb : ∀ s ∈ b, s.2.length ≤ M) : ∀ s ∈ pathsF a b, s.2.length ≤ M := by
  intro s hs
  unfold pathsF at hs
  split at hs
  · exact ha s hs
  · rcases List.mem_append.1 hs with hs | hs
    · exact headF_mem M a ha _ s hs
    · exact hb s hs

set_option maxRecDepth 100000 in
set_option maxHeartbeats 8000000 in
theorem mpaths_any (A : Option Addr) (c : Nat) (a : List Sg) (A2 : Option Addr) (c2 : Nat) (b : List Sg) (w : World) (h : Path w w.heap.size A a) (h2 : Path w w.heap.size A2 b) (hlc : a.length ≤ c) (hcm : c ≤ maxLen)
    (hs : Sound a) (hs2 : Sound b) (ht : Tabs w) :
    Calls Tryd.prog 8 #[.slice A a.length c, .slice A2 b.length c2] w fun e w' => e = .returned (.bool true) ∧ Below w.heap.size w w' := by
  have HR := hide (right_any A c a w h hs)
  have HR2 := hide (fun w' (hb : Below w.heap.size w w') => right_any A2 c2 b w' ((h2.below hb).more hb.size) hs2)
  have HAL := hide (fun w' (hb : Below w.heap.size w w') => alive21_any w' (ht.below hb))
  have fin : ∀ w1, Below w.heap.size w w1 → Calls Tryd.prog 29 #[] w1 fun e w' => e = .returned (.bool true) ∧ Below w.heap.size w w' := fun w1 hb1 =>
    (alive21_any w1 (ht.below hb1)).mono fun e w' ⟨h1, h2⟩ => ⟨h1, hb1.trans (h2.mono hb1.size)⟩
  have FIN := hide fin
  clear fin
  by_cases hf : (FewF a && validF 4 a) = true
  · by_cases hg : (FewF b && validF 4 b) = true
    · have hf' : FewF a = true ∧ validF 4 a = true := by simpa using hf
      have hg' : FewF b = true ∧ validF 4 b = true := by simpa using hg
      obtain ⟨hl, hm⟩ := few_bounds a hf'.1
      obtain ⟨hl2, hm2⟩ := few_bounds b hg'.1
      have hml := pathsF_length a b
      have hmm := pathsF_mem 600 a b hm hm2
      have hself := pathsF_self a (valid_one a 4 hf'.2)
      have hle := pathsF_le a b
      have hnn := lenF_nn (pathsF a b)
      have hl8 := lenF_up a (by omega) (fun s h => by have := hm s h; omega)
      have ba : ∀ s ∈ a, s.2.length ≤ 100000 := fun s h => by have := hm s h; omega
      have bb : ∀ s ∈ b, s.2.length ≤ 100000 := fun s h => by have := hm2 s h; omega
      have K1 := hide (fun w' (hb : Below w.heap.size w w') => paths_any A A2 c c2 a b w' ((h.below hb).more hb.size) ((h2.below hb).more hb.size) (by omega) (by omega) ba bb)
      have K2 := hide (fun w' (hb : Below w.heap.size w w') => rpaths_any A A2 c c2 a b w' ((h.below hb).more hb.size) ((h2.below hb).more hb.size) (by omega) (by omega) ba bb hlc hcm)
      have K3 := hide (fun A1 c1 A2 c2 w' (hp : Path w' w'.heap.size A1 (pathsF a b)) (hp2 : Path w' w'.heap.size A2 (pathsF a b)) => same_any A1 A2 c1 c2 (pathsF a b) (pathsF a b) w' hp hp2 (by omega) (fun s h => by have := hmm s h; omega) (fun s h => by have := hmm s h; omega))
      have K4 := hide (fun w' (hb : Below w.heap.size w w') => paths_any A A c c a a w' ((h.below hb).more hb.size) ((h.below hb).more hb.size) (by omega) (by omega) ba ba)
      have K5 := hide (fun A1 c1 A2 c2 w' (hp : Path w' w'.heap.size A1 a) (hp2 : Path w' w'.heap.size A2 a) => same_any A1 A2 c1 c2 a a w' hp hp2 (by omega) (fun s h => by have := ba s h; omega) (fun s h => by have := ba s h; omega))
      have K6 := hide (fun A' c' w' (hp : Path w' w'.heap.size A' (pathsF a b)) => length_any A' c' (pathsF a b) w' hp (by omega) (fun s h => by have := hmm s h; omega))
      have K7 := hide (fun w' (hb : Below w.heap.size w w') => rlength_any A c a w' ((h.below hb).more hb.size) (by omega) ba)
      have HP := hide h
      have HF := Lib.hid hf
      have HG := Lib.hid hg
      rw [hself] at K4
      generalize lenF (pathsF a b) = x at *
      generalize lenF a = y at *
      generalize pathsF a b = p at *
      clear h h2 hs hs2 ht hf hg hf' hg' hm hm2 hmm ba bb hself
      go_enter Tryd.func8, Tryd.ntmps8
      go_wp2_with fail
      refine HR.out.mono ?_
      rintro e w1 ⟨rfl, hb1⟩
      rw [HF.out]
      have hz1 := hb1.size
      have HR2' := hide (HR2.out w1 hb1)
      have HB1 := hide hb1
      clear hb1 HR HR2
      go_wp2_with fail
      refine HR2'.out.mono ?_
      rintro e w2 ⟨rfl, hb2⟩
      rw [HG.out]
      have hb02 := HB1.out.trans (hb2.mono hz1)
      have hz2 := hb02.size
      have HK1 := hide (K1.out w2 hb02)
      have HB2 := hide hb02
      clear hb2 hb02 HB1 K1 HR2'
      go_wp2_with fail
      refine HK1.out.mono ?_
      rintro e w3 ⟨v3, rfl, ho3, hb3⟩
      obtain ⟨A3, c3, rfl, hc3, hm3, hp3⟩ := ho3.path
      have hb03 := HB2.out.trans (hb3.mono hz2)
      have hz3 := hb03.size
      have HA3 := hide (HAL.out w3 hb03)
      have HP3 := hide hp3
      have HB3 := hide hb03
      clear ho3 hb3 hb03 hp3 HK1 HB2 HAL
      go_wp2_with fail
      refine HA3.out.mono ?_
      rintro e w4 ⟨rfl, hb4⟩
      have hb04 := HB3.out.trans (hb4.mono hz3)
      have hz4 := hb04.size
      have HP4 := hide ((HP3.out.below hb4).more hb4.size)
      have HK2 := hide (K2.out w4 hb04)
      have HB4 := hide hb04
      clear hb4 hb04 HA3 HB3 HP3 K2
      go_wp2_with fail
      refine HK2.out.mono ?_
      rintro e w5 ⟨A5, c5, rfl, hp5, hb5⟩
      have hb05 := HB4.out.trans (hb5.mono hz4)
      have hz5 := hb05.size
      have hp35 := (HP4.out.below hb5).more hb5.size
      have hsm := K3.out A3 c3 A5 c5 w5 hp35 hp5
      simp only [decide_true] at hsm
      have HSM := hide hsm
      have HP5 := hide hp35
      have HB5 := hide hb05
      clear hb5 hb05 hp5 hp35 hsm K3 HK2 HB4 HP4
      go_wp2_with fail
      refine HSM.out.mono ?_
      rintro e w6 ⟨rfl, hb6⟩
      have hb06 := HB5.out.trans (hb6.mono hz5)
      have hz6 := hb06.size
      have HP6 := hide ((HP5.out.below hb6).more hb6.size)
      have HK4 := hide (K4.out w6 hb06)
      have HB6 := hide hb06
      clear hb6 hb06 HSM HP5 HB5 K4
      go_wp2_with fail
      refine HK4.out.mono ?_
      rintro e w7 ⟨v7, rfl, ho7, hb7⟩
      obtain ⟨A7, c7, rfl, hc7, hm7, hp7⟩ := ho7.path
      have hb07 := HB6.out.trans (hb7.mono hz6)
      have hz7 := hb07.size
      have hsm := K5.out A7 c7 A c w7 hp7 ((HP.out.below hb07).more hz7)
      simp only [decide_true] at hsm
      have HSM := hide hsm
      have HP7 := hide ((HP6.out.below hb7).more hb7.size)
      have HB7 := hide hb07
      clear ho7 hb7 hb07 hp7 hsm K5 HK4 HP6 HB6
      go_wp2_with fail
      refine HSM.out.mono ?_
      rintro e w8 ⟨rfl, hb8⟩
      have hb08 := HB7.out.trans (hb8.mono hz7)
      have hz8 := hb08.size
      have HK6 := hide (K6.out A3 c3 w8 ((HP7.out.below hb8).more hb8.size))
      have HB8 := hide hb08
      clear hb8 hb08 HSM HP7 HB7 K6
      go_wp2_with fail
      refine HK6.out.mono ?_
      rintro e w9 ⟨rfl, hb9⟩
      have hb09 := HB8.out.trans (hb9.mono hz8)
      have HK7 := hide (K7.out w9 hb09)
      have HB9 := hide hb09
      clear hb9 hb09 HK6 HB8 K7
      go_wp2_with fail
      refine HK7.out.mono ?_
      rintro e w10 ⟨rfl, rfl⟩
      go_wp2
      go_ret
      exact ⟨rfl, HB9.out⟩
    · have hg : (FewF b && validF 4 b) = false := by simpa using hg
      have HF := Lib.hid hf
      have HG := Lib.hid hg
      clear h h2 hs hs2 ht hf hg HAL
      go_enter Tryd.func8, Tryd.ntmps8
      go_wp2_with fail
      refine HR.out.mono ?_
      rintro e w1 ⟨rfl, hb1⟩
      rw [HF.out]
      have hz1 := hb1.size
      have HR2' := hide (HR2.out w1 hb1)
      have HB1 := hide hb1
      clear hb1 HR HR2
      go_wp2_with fail
      refine HR2'.out.mono ?_
      rintro e w2 ⟨rfl, hb2⟩
      rw [HG.out]
      have HA := hide (FIN.out w2 (HB1.out.trans (hb2.mono hz1)))
      clear hb2 FIN
      go_wp2_with fail
      refine HA.out.mono ?_
      rintro e w3 ⟨rfl, hb3⟩
      have HB3 := hide hb3
      clear hb3
      go_wp2
      go_ret
      exact ⟨rfl, HB3.out⟩
  · have hf : (FewF a && validF 4 a) = false := by simpa using hf
    have HF := Lib.hid hf
    clear h h2 hs hs2 ht hf HAL HR2
    go_enter Tryd.func8, Tryd.ntmps8
    go_wp2_with fail
    refine HR.out.mono ?_
    rintro e w1 ⟨rfl, hb1⟩
    rw [HF.out]
    have HA := hide (FIN.out w1 hb1)
    clear hb1 FIN
    go_wp2_with fail
    refine HA.out.mono ?_
    rintro e w3 ⟨rfl, hb3⟩
    have HB3 := hide hb3
    clear hb3
    go_wp2
    go_ret
    exact ⟨rfl, HB3.out⟩
end Go.Proofs.YtceolenmcpndaaaDoor
