/- The walk of the law MergeHeads: it returns true, and leaves alone whatever lay there. -/
import Derived.Test.YtceolenmcpndaaaDoorMergeX
set_option autoImplicit false
namespace Go.Proofs.YtceolenmcpndaaaDoor
open Go.RowKit Go.Sort Go.Shelf

set_option maxRecDepth 100000 in
set_option maxHeartbeats 8000000 in
theorem heads_any (n : Int) (A : Option Addr) (c : Nat) (l : List Sg) (w : World) (h : Path w w.heap.size A l) (hlc : l.length ≤ c) (hcm : c ≤ maxLen) (hs : Sound l) (hn0 : -9223372036854775808 ≤ n) (hn1 : n ≤ 9223372036854775807) (ht : Tabs w) :
    Calls Tryd.prog 7 #[.int .i64 n, .slice A l.length c] w fun e w' => e = .returned (.bool true) ∧ Below w.heap.size w w' := by
  have HR := hide (right_any A c l w h hs)
  have HAL := hide (fun w' (hb : Below w.heap.size w w') => alive21_any w' (ht.below hb))
  by_cases hf : (FewF l && validF 4 l) = true
  · have hf1 : FewF l = true := by simp at hf; exact hf.1
    obtain ⟨hl, hm⟩ := few_bounds l hf1
    have hmem := headF_mem 600 l hm n
    have hlen := headF_length l n
    have hle := headF_le l n
    have hle8 := lenF_up (headF n l) (by omega) (fun s h => by have := hmem s h; omega)
    have hnn := lenF_nn (headF n l)
    have hll8 := lenF_up l (by omega) (fun s h => by have := hm s h; omega)
    have hlnn := lenF_nn l
    have HSQ := hide (fun hk => headF_seq l hk n)
    have K1 := hide (fun w' (hb : Below w.heap.size w w') => head_any n A c l w' ((h.below hb).more hb.size) (by omega) (fun s h => by have := hm s h; omega) hn0 hn1)
    have K2 := hide (fun w' (hb : Below w.heap.size w w') => rhead_any n A c l w' ((h.below hb).more hb.size) (by omega) (fun s h => by have := hm s h; omega) hn0 hn1 hlc hcm)
    have K3 := hide (fun w' (hb : Below w.heap.size w w') => rlength_any A c l w' ((h.below hb).more hb.size) (by omega) (fun s h => by have := hm s h; omega))
    have K4 := hide (fun A' c' w' (hp : Path w' w'.heap.size A' (headF n l)) => length_any A' c' (headF n l) w' hp (by omega) (fun s h => by have := hmem s h; omega))
    have K5 := hide (fun A1 c1 A2 c2 w' (hp : Path w' w'.heap.size A1 (headF n l)) (hp2 : Path w' w'.heap.size A2 (headF n l)) => same_any A1 A2 c1 c2 (headF n l) (headF n l) w' hp hp2 (by omega) (fun s h => by have := hmem s h; omega) (fun s h => by have := hmem s h; omega))
    have HP := hide h
    have HHF := Lib.hid hf
    generalize lenF (headF n l) = x at *
    generalize lenF l = y at *
    clear h hs ht hf hf1 hm hmem
    go_enter Tryd.func7, Tryd.ntmps7
    go_wp2_with fail
    refine HR.out.mono ?_
    rintro e w1 ⟨rfl, hb1⟩
    rw [HHF.out]
    have hz1 := hb1.size
    have HB1 := hide hb1
    have HK1 := hide (K1.out w1 hb1)
    clear hb1 K1 HR
    go_wp2_with fail
    refine HK1.out.mono ?_
    rintro e w2 ⟨A2, c2, vs2, rfl, hown2, hseg2, hb2⟩
    have hb02 := HB1.out.trans (hb2.mono hz1)
    have hz2 := hb02.size
    have HO2 := hide (OwnP.of hown2 hseg2)
    have HB2 := hide hb02
    have HK2 := hide (K2.out w2 hb02)
    clear hown2 hseg2 hb2 hb02 K2 HK1 HB1
    go_wp2_with fail
    refine HK2.out.mono ?_
    rintro e w3 ⟨A3, c3, vs3, rfl, hown3, hseg3, hb3⟩
    have hb03 := HB2.out.trans (hb3.mono hz2)
    have hz3 := hb03.size
    obtain ⟨A2', c2', e2, hc2, hm2, hp2⟩ := (HO2.out.keep (hb3.mono (Nat.le_refl _))).path
    injection e2 with e21 e22 e23
    subst e21; subst e23
    have hp3 := hseg3.path hown3 rfl
    have hsm := K5.out A2 c2 A3 c3 w3 hp2 hp3
    simp only [decide_true] at hsm
    have HSM := hide hsm
    have HP2 := hide hp2
    have HB3 := hide hb03
    clear hown3 hseg3 hb3 hb03 hp2 hp3 hsm K5 HK2 HB2 HO2
    go_wp2_with fail
    refine HSM.out.mono ?_
    rintro e w4 ⟨rfl, hb4⟩
    have hb04 := HB3.out.trans (hb4.mono hz3)
    have hz4 := hb04.size
    have hp4 := (HP2.out.below hb4).more hb4.size
    have HK4 := hide (K4.out A2 c2 w4 hp4)
    have HP4 := hide hp4
    have HB4 := hide hb04
    clear hb4 hb04 hp4 HSM HP2 HB3
    go_wp2_with fail
    refine HK4.out.mono ?_
    rintro e w5 ⟨rfl, hb5⟩
    have hb05 := HB4.out.trans (hb5.mono hz4)
    have hz5 := hb05.size
    have hp5 := (HP4.out.below hb5).more hb5.size
    have HP5 := hide hp5
    have HB5 := hide hb05
    clear hb5 hb05 hp5 HK4 HP4 HB4
    go_wp2_with fail
    go_loopw [30] (fun i wr => ∃ k : Nat, k ≤ l.length ∧ i = .int .i64 k ∧ Hid (∀ s ∈ l.take k, s.1 = 2) ∧ Below w5.heap.size w5 wr) (fun i _ => l.length - (intOf i).toNat)
    case atStart => exact ⟨0, Nat.zero_le _, rfl, by intro s hs; simp at hs, Below.refl _ _⟩
    case round =>
      obtain ⟨k, hk, rfl, hseq, hbel⟩ := hrel
      obtain ⟨wo, rfl⟩ : ∃ wo : World, wo = wr := ⟨_, rfl⟩
      have hb0 := HB5.out.trans (hbel.mono hz5)
      have hwz := hb0.size
      by_cases hlt : k < l.length
      · obtain ⟨ad, A', c', rfl, had, hc0, hc1, hbk, f2, f3, f4⟩ := (HP.out.below hb0).at_ hlt
        have hk0 : (0 : Int) ≤ (k : Int) := Int.natCast_nonneg _
        have hk1 : (k : Int) < (l.length : Int) := by omega
        have htake : l.take (k + 1) = l.take k ++ [l[k]] := List.take_succ_eq_append_getElem hlt
        have HTK := Lib.hid htake
        have HA2 := hide (fun o => HAL.out (wo.alloc o) (hb0.alloc hwz _))
        have HB6 := hide (fun o => hb0.alloc hwz o)
        have HB7 := hide (fun o => hbel.alloc hbel.size o)
        clear htake hb0 hbel f4
        by_cases h2 : l[k].1 = 2
        · have e2 : (l[k].1 != 2) = false := by simp [h2]
          have H2 := Lib.hid h2
          clear h2
          go_wp2
          go_roundw
          case rel =>
            refine ⟨k + 1, by omega, by go_num, ?_, HB7.out _⟩
            intro s hs
            rw [HTK.out] at hs
            rcases List.mem_append.1 hs with hs | hs
            · exact hseq.out s hs
            · have : s = l[k] := by simpa using hs
              rw [this]; exact H2.out
          case measure => simp [intOf]; omega
        · have e2 : (l[k].1 != 2) = true := by simpa using h2
          clear h2
          go_wp2_with fail
          refine (HA2.out _).mono ?_
          rintro e w7 ⟨rfl, hb7⟩
          have HB8 := hide ((HB6.out _).trans (hb7.mono (HB6.out _).size))
          clear hb7
          go_wp2
          go_ret
          exact ⟨rfl, HB8.out⟩
      · have hall : ∀ s ∈ l, s.1 = 2 := by
          have := hseq.out
          rw [List.take_of_length_le (by omega)] at this
          exact this
        have hx := HSQ.out hall
        have HA2 := hide (HAL.out wo hb0)
        have HB6 := hide hb0
        have hp6 := (HP5.out.below hbel).more hbel.size
        have HP6 := hide hp6
        have hxm : x = max (min n y) 0 := hx
        have HX := Lib.hid hxm
        clear hall hx hxm hb0 hbel hp6
        go_wp2_with fail
        refine HA2.out.mono ?_
        rintro e w7 ⟨rfl, hb7⟩
        have hb07 := HB6.out.trans (hb7.mono hwz)
        have hz7 := hb07.size
        have HK4 := hide (K4.out A2 c2 w7 ((HP6.out.below hb7).more hb7.size))
        have HB7 := hide hb07
        clear hb7 hb07 K4 HA2 HB6
        go_wp2_with fail
        refine HK4.out.mono ?_
        rintro e w8 ⟨rfl, hb8⟩
        have hb08 := HB7.out.trans (hb8.mono hz7)
        have HK3 := hide (K3.out w8 hb08)
        have HB8 := hide hb08
        clear hb8 hb08 K3 HK4 HB7
        go_wp2_with fail
        refine HK3.out.mono ?_
        rintro e w9 ⟨rfl, rfl⟩
        clear HK3
        go_wp2
        go_ret
        refine ⟨ret_bool ?_, HB8.out⟩
        have := HX.out
        exact beq_iff_eq.2 this
  · have hf : (FewF l && validF 4 l) = false := by simpa using hf
    have HF := Lib.hid hf
    clear hf h hs ht
    go_enter Tryd.func7, Tryd.ntmps7
    go_wp2_with fail
    refine HR.out.mono ?_
    rintro e w1 ⟨rfl, hb1⟩
    rw [HF.out]
    have HA := hide (HAL.out w1 hb1)
    have HB1 := hide hb1
    clear hb1
    go_wp2_with fail
    refine HA.out.mono ?_
    rintro e w2 ⟨rfl, hb2⟩
    have HB2 := hide (HB1.out.trans (hb2.mono HB1.out.size))
    clear hb2
    go_wp2
    go_ret
    exact ⟨rfl, HB2.out⟩
end Go.Proofs.YtceolenmcpndaaaDoor
