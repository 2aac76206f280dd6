/- The walk of the law MergeNarrows: it returns true, and leaves alone whatever lay there. -/
import Derived.Test.YtceolenmcpndaaaDoorMergeP
set_option autoImplicit false
namespace Go.Proofs.YtceolenmcpndaaaDoor
open Go.RowKit Go.Sort Go.Shelf

theorem narP_same (l : List Sg) (h : validF 2 l = true) : narP l = l := by
  simp only [validF, Bool.and_eq_true, List.all_eq_true] at h
  have : ∀ s ∈ l, narS s = s := by
    intro s hs
    have := h.1 s hs
    simp only [rightF, Bool.and_eq_true] at this
    have h2 := this.2
    simp [smallF] at h2
    refine Prod.ext rfl ?_
    show s.2.map narN = s.2
    conv => rhs; rw [← List.map_id s.2]
    refine List.map_congr_left fun x hx => ?_
    have := h2 x hx
    simp only [narN, id]
    rw [if_neg (by omega)]
  unfold narP
  conv => rhs; rw [← List.map_id l]
  exact List.map_congr_left fun s hs => this s hs

set_option maxRecDepth 100000 in
set_option maxHeartbeats 8000000 in
theorem mnarrows_any (A : Option Addr) (c : Nat) (l : List Sg) (w : World) (h : Path w w.heap.size A l) (hlc : l.length ≤ c) (hcm : c ≤ maxLen) (hs : Sound l) (ht : Tabs w) :
    Calls Tryd.prog 9 #[.slice A l.length c] w fun e w' => e = .returned (.bool true) ∧ Below w.heap.size w w' := by
  have HR := hide (right_any A c l w h hs)
  have FIN := hide (fun w1 (hb1 : Below w.heap.size w w1) => alive21_any w1 (ht.below hb1))
  by_cases hf : (FewF l && validF 4 l) = true
  · have hf' : FewF l = true ∧ validF 4 l = true := by simpa using hf
    obtain ⟨hl, hm⟩ := few_bounds l hf'.1
    have ba : ∀ s ∈ l, s.2.length ≤ 100000 := fun s h => by have := hm s h; omega
    have bn : ∀ s ∈ narP l, s.2.length ≤ 100000 := fun s h => by have := narP_mem l 600 hm s h; omega
    have hnl := narP_len l
    have hus : ∀ s ∈ l, Us s.2 := fun s h => (hs.2 s h).2
    have hv2 := valid_nar l hus
    rw [hf'.2] at hv2
    have hson : Sound (narP l) := ⟨by omega, fun s hs' => by
      obtain ⟨t, ht, rfl⟩ := List.mem_map.1 hs'
      exact ⟨by have := bn _ hs'; omega, narL_us _ (hus t ht)⟩⟩
    have hwl : (wideF l).length ≤ l.length := by unfold wideF; split <;> simp
    have hwm : ∀ s ∈ wideF l, s.2.length ≤ 100000 := by
      unfold wideF
      split
      · intro s hs'; simp at hs'
      · exact ba
    have hpw : pathsF (narP l) l = l := pathsF_same _ _ (valid_one _ 2 hv2) (lenF_nar l)
    have hns := narP_same l
    have hwd : wideF l = if validF 2 l = true then [] else l := rfl
    have K1 := hide (fun w' (hb : Below w.heap.size w w') => mnarrow_any A c l w' ((h.below hb).more hb.size) hs (by omega) ba)
    have K2 := hide (fun w' (hb : Below w.heap.size w w') => rmnarrow_any A c l w' ((h.below hb).more hb.size) hs (by omega) ba)
    have K3 := hide (fun (x : List Sg) (hx : x.length ≤ 1000) (hxm : ∀ s ∈ x, s.2.length ≤ 100000) A1 c1 A2 c2 w' (hp : Path w' w'.heap.size A1 x) (hp2 : Path w' w'.heap.size A2 x) => same_any A1 A2 c1 c2 x x w' hp hp2 (by omega) (fun s h => by have := hxm s h; omega) (fun s h => by have := hxm s h; omega))
    have K4 := hide (fun A1 c1 w' (hp : Path w' w'.heap.size A1 (narP l)) => valid_any 2 A1 c1 (narP l) w' hp hson)
    have K5 := hide (fun A1 c1 A2 c2 w' (hp : Path w' w'.heap.size A1 (narP l)) (hp2 : Path w' w'.heap.size A2 l) => paths_any A1 A2 c1 c2 (narP l) l w' hp hp2 (by omega) (by omega) bn ba)
    rw [hv2] at K4
    rw [hpw] at K5
    have hnl1 : (narP l).length ≤ 1000 := by omega
    have hl1 : l.length ≤ 1000 := by omega
    have hwl1 : (wideF l).length ≤ 1000 := by omega
    have HP := hide h
    have HF := Lib.hid hf
    have HNS := hide hns
    have HNL := Lib.hid hnl
    have HBA := hide ba
    have HBN := hide bn
    have HWM := hide hwm
    generalize hN : narP l = N at *
    generalize hWd : wideF l = Wd at *
    have HWD := Lib.hid hwd
    clear hN hWd h hs ht hf hf' hm ba bn hnl hus hv2 hson hwm hpw hns hwd
    go_enter Tryd.func9, Tryd.ntmps9
    go_wp2_with fail
    refine HR.out.mono ?_
    rintro e w1 ⟨rfl, hb1⟩
    rw [HF.out]
    have hz1 := hb1.size
    have HK1 := hide (K1.out w1 hb1)
    have HB1 := hide hb1
    clear hb1 HR K1
    go_wp2_with fail
    refine HK1.out.mono ?_
    rintro e w2 ⟨v1, v2, rfl, ho1, ho2, hb2⟩
    obtain ⟨A1, c1, rfl, hc1, hm1, hp1⟩ := ho1.path
    obtain ⟨A2, c2, rfl, hc2, hm2, hp2⟩ := ho2.path
    have hb02 := HB1.out.trans (hb2.mono hz1)
    have hz2 := hb02.size
    have HK2 := hide (K2.out w2 hb02)
    have HP1 := hide hp1
    have HP2 := hide hp2
    have HB2 := hide hb02
    clear ho1 ho2 hb2 hb02 hp1 hp2 HK1 HB1 K2
    go_wp2_with fail
    refine HK2.out.mono ?_
    rintro e w3 ⟨v3, A4, c4, rfl, ho3, hp4, hb3⟩
    obtain ⟨A3, c3, rfl, hc3, hm3, hp3⟩ := ho3.path
    have hb03 := HB2.out.trans (hb3.mono hz2)
    have hz3 := hb03.size
    have hp13 := (HP1.out.below hb3).more hb3.size
    have hp23 := (HP2.out.below hb3).more hb3.size
    have hsm := K3.out N hnl1 HBN.out A1 c1 A3 c3 w3 hp13 hp3
    simp only [decide_true] at hsm
    have HSM := hide hsm
    have HP1' := hide hp13
    have HP2' := hide hp23
    have HP4 := hide hp4
    have HB3 := hide hb03
    clear ho3 hp3 hp4 hb3 hb03 hp13 hp23 hsm HP1 HP2 HB2 HK2
    go_wp2_with fail
    refine HSM.out.mono ?_
    rintro e w4 ⟨rfl, hb4⟩
    have hb04 := HB3.out.trans (hb4.mono hz3)
    have hz4 := hb04.size
    have hp14 := (HP1'.out.below hb4).more hb4.size
    have hp24 := (HP2'.out.below hb4).more hb4.size
    have hsm := K3.out Wd hwl1 HWM.out A2 c2 A4 c4 w4 hp24 ((HP4.out.below hb4).more hb4.size)
    simp only [decide_true] at hsm
    have HSM2 := hide hsm
    have HP1 := hide hp14
    have HP2 := hide hp24
    have HB4 := hide hb04
    clear hb4 hb04 hp14 hp24 hsm HP1' HP2' HB3 HSM HP4
    go_wp2_with fail
    refine HSM2.out.mono ?_
    rintro e w5 ⟨rfl, hb5⟩
    have hb05 := HB4.out.trans (hb5.mono hz4)
    have hz5 := hb05.size
    have hp15 := (HP1.out.below hb5).more hb5.size
    have HV := hide (K4.out A1 c1 w5 hp15)
    have HP1' := hide hp15
    have HP2' := hide ((HP2.out.below hb5).more hb5.size)
    have HB5 := hide hb05
    clear hb5 hb05 hp15 HP1 HP2 HB4 HSM2 K4
    go_wp2_with fail
    refine HV.out.mono ?_
    rintro e w6 ⟨rfl, hb6⟩
    have hb06 := HB5.out.trans (hb6.mono hz5)
    have hz6 := hb06.size
    have HA := hide (FIN.out w6 hb06)
    have HP1 := hide ((HP1'.out.below hb6).more hb6.size)
    have HP2 := hide ((HP2'.out.below hb6).more hb6.size)
    have HB6 := hide hb06
    clear hb6 hb06 HP1' HP2' HB5 HV FIN
    go_wp2_with fail
    refine HA.out.mono ?_
    rintro e w7 ⟨rfl, hb7⟩
    have hb07 := HB6.out.trans (hb7.mono hz6)
    have hz7 := hb07.size
    have hp17 := (HP1.out.below hb7).more hb7.size
    have hp27 := (HP2.out.below hb7).more hb7.size
    by_cases hv : validF 2 l = true
    · have eW : Wd = [] := by rw [HWD.out, if_pos hv]
      have eN : N = l := HNS.out hv
      subst eW; subst eN
      have hsm := K3.out N hnl1 HBN.out A1 c1 A c w7 hp17 ((HP.out.below hb07).more hz7)
      simp only [decide_true] at hsm
      have HSM := hide hsm
      have HB7 := hide hb07
      clear hb7 hb07 hp17 hp27 hsm hv K3 K5 HA HB6 HP1 HP2 HWD HNL
      go_wp2_with fail
      refine HSM.out.mono ?_
      rintro e w8 ⟨rfl, hb8⟩
      have HB8 := hide (HB7.out.trans (hb8.mono hz7))
      clear hb8
      go_wp2
      go_ret
      exact ⟨rfl, HB8.out⟩
    · have eW : Wd = l := by rw [HWD.out, if_neg hv]
      have hpos : 0 < l.length := by
        rcases Nat.eq_zero_or_pos l.length with h0 | h0
        · exfalso; apply hv
          have : l = [] := List.length_eq_zero_iff.1 h0
          rw [this]; rfl
        · exact h0
      have hpos' : (0 : Int) < (l.length : Int) := by omega
      subst eW
      have HPT := hide (K5.out A1 c1 A2 c2 w7 hp17 hp27)
      have HB7 := hide hb07
      clear hb7 hb07 hp17 hp27 hv K5 HA HB6 HP1 HP2 HWD
      go_wp2_with fail
      refine HPT.out.mono ?_
      rintro e w8 ⟨v8, rfl, ho8, hb8⟩
      obtain ⟨A8, c8, rfl, hc8, hm8, hp8⟩ := ho8.path
      have hb08 := HB7.out.trans (hb8.mono hz7)
      have hz8 := hb08.size
      have hsm := K3.out Wd hl1 HBA.out A8 c8 A c w8 hp8 ((HP.out.below hb08).more hz8)
      simp only [decide_true] at hsm
      have HSM := hide hsm
      have HB8 := hide hb08
      clear ho8 hb8 hb08 hp8 hsm K3 HPT HB7
      go_wp2_with fail
      refine HSM.out.mono ?_
      rintro e w9 ⟨rfl, hb9⟩
      have HB9 := hide (HB8.out.trans (hb9.mono hz8))
      clear hb9
      go_wp2
      go_ret
      exact ⟨rfl, HB9.out⟩
  · have hf : (FewF l && validF 4 l) = false := by simpa using hf
    have HF := Lib.hid hf
    clear h hs ht hf
    go_enter Tryd.func9, Tryd.ntmps9
    go_wp2_with fail
    refine HR.out.mono ?_
    rintro e w1 ⟨rfl, hb1⟩
    rw [HF.out]
    have HA := hide (FIN.out w1 hb1)
    have HB1 := hide hb1
    clear hb1 FIN
    go_wp2_with fail
    refine HA.out.mono ?_
    rintro e w3 ⟨rfl, hb3⟩
    have HB3 := hide (HB1.out.trans (hb3.mono HB1.out.size))
    clear hb3
    go_wp2
    go_ret
    exact ⟨rfl, HB3.out⟩
end Go.Proofs.YtceolenmcpndaaaDoor
