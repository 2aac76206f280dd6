/- peerageref21.Head: the beginning of a path, by the reference. -/
import Derived.Test.YtceolenmcpndaaaDoorHead
set_option autoImplicit false
namespace Go.Proofs.YtceolenmcpndaaaDoor
open Go.RowKit

theorem Path.one_ {w : World} {B i : Nat} {ad : Addr} {l : List Sg} (h : Path w B (some ad) l) (hi : i < l.length) : Path w B (some (ad.add (i * 2))) [l[i]] := by
  obtain ⟨vs, hr, hs⟩ := h
  obtain ⟨ad', e, hb, hc⟩ := hr.2 (by omega)
  injection e with e
  subst e
  obtain ⟨v0, v1, g0, g1, hk⟩ := hs.2 i l[i] (List.getElem?_eq_getElem hi)
  refine ⟨[v0, v1], ⟨rfl, fun _ => ⟨_, rfl, by rw [block_of_add]; exact hb, fun j u hu => ?_⟩⟩, segs_one hk⟩
  rw [add_of_add]
  rcases j with _ | _ | j
  · simp at hu; subst hu; exact hc _ _ g0
  · simp at hu; subst hu; exact hc _ _ g1
  · simp at hu

set_option maxRecDepth 100000 in
set_option maxHeartbeats 8000000 in
theorem rhead_any (n : Int) (A : Option Addr) (c : Nat) (l : List Sg) (w : World) (h : Path w w.heap.size A l) (hl : l.length ≤ 1000) (hm : ∀ s ∈ l, s.2.length ≤ 100000) (hn0 : -9223372036854775808 ≤ n) (hn1 : n ≤ 9223372036854775807)
    (hlc : l.length ≤ c) (hcm : c ≤ maxLen) :
    Calls Tryd.prog 31 #[.int .i64 n, .slice A l.length c] w fun e w' => ∃ A' c' vs, e = .returned (.slice A' (headF n l).length c') ∧
      w'.ownsRow w.heap.size 27 2 (.slice A' (headF n l).length c') (headF n l).length vs ∧ SegsO w' w.heap.size vs (headF n l) ∧ Below w.heap.size w w' := by
  obtain ⟨iu, hu0, hu1, hu2, hu3⟩ := info_parts u32_info
  obtain ⟨ig, hg0, hg1, hg2, hg3⟩ := info_parts seg_info
  go_enter Tryd.func31, Tryd.ntmps31
  go_wp2_with fail
  go_loopw [0, 5, 6] (fun vn v i wr => ∃ k : Nat, k ≤ l.length ∧ i = .int .i64 k ∧ ∃ m : Int, vn = .int .i64 m ∧ -9223372036854775808 ≤ m ∧ m ≤ 9223372036854775807 ∧ headF n l = l.take k ++ headF m (l.drop k) ∧
      ∃ vs, wr.ownsRow w.heap.size 27 2 v k vs ∧ SegsO wr w.heap.size vs (l.take k) ∧ Below w.heap.size w wr) (fun _ _ i _ => l.length - (intOf i).toNat)
  case atStart => exact ⟨0, Nat.zero_le _, rfl, n, rfl, hn0, hn1, by simp, [], World.ownsRow_nil _ _ _ _, SegsO.nil_, Below.refl _ _⟩
  case round =>
    obtain ⟨k, hk, rfl, m, rfl, hm0, hm1, hhd, vs, hown, hseg, hbel⟩ := hrel
    obtain ⟨wo, rfl⟩ : ∃ wo : World, wo = wr := ⟨_, rfl⟩
    by_cases hlt : k < l.length
    · obtain ⟨ad, A', c', rfl, had, hc0, hc1, hbk, f2, f3, f4⟩ := (h.below hbel).at_ hlt
      have hmk := hm l[k] (List.getElem_mem hlt)
      have hk0 : (0 : Int) ≤ (k : Int) := Int.natCast_nonneg _
      have hk1 : (k : Int) < (l.length : Int) := by omega
      have hwz := hbel.size
      have hbko : (ad.add (k * 2)).block < wo.heap.size := by omega
      have htake : l.take (k + 1) = l.take k ++ [l[k]] := List.take_succ_eq_append_getElem hlt
      have hdrop : l.drop k = l[k] :: l.drop (k + 1) := List.drop_eq_getElem_cons hlt
      rw [hdrop] at hhd
      obtain ⟨q, hq⟩ : ∃ q, q = segLen l[k] := ⟨_, rfl⟩
      have hq0 : 0 ≤ q := by rw [hq]; exact segLen_nn _
      have hq1 : q ≤ 100000 := by rw [hq]; exact segLen_le _ 100000 (by omega) hmk
      have hln := rlength_any (some (ad.add (k * 2))) (c - k) [l[k]] wo (((h.below hbel).one_ hlt).more hwz) (by simp) (by simpa using hmk)
      rw [lenF_one, ← hq] at hln
      have HLN := hide hln
      have HTK := Lib.hid htake
      have HHD := Lib.hid hhd
      have HQ := Lib.hid hq
      have HOWN := hide hown
      have HSEG := hide hseg
      have HBEL := hide hbel
      have HF4 := hide f4
      have HH := hide h
      have HM := hide hm
      have hck : (k : Int) + 1 ≤ (c : Int) := by omega
      have hck2 : (c : Int) ≤ 9223372036854775807 := by simp only [maxLen] at hcm; omega
      clear h hm hown hseg hbel f4 htake hdrop hhd hln hq
      go_wp2_with fail
      refine HLN.out.mono ?_
      rintro e w' ⟨rfl, rfl⟩
      have hO0 : (wo.alloc (Obj.cells #[] 29)).ownsRow w.heap.size 29 1 (.slice (some ⟨wo.heap.size, 0, none⟩) 0 0) 0 [] :=
        ⟨by simp, .inr ⟨wo.heap.size, 0, #[], rfl, hwz, heap_alloc_new _ _, Nat.le_refl _, by simp, by simp, by simp⟩⟩
      have HO0 := hide hO0
      clear hO0 HLN
      by_cases hle : q ≤ m
      · go_wp2_with fail
        go_region_law (first
          | (refine step_append_any _ rfl (.tmp 29) (.tmp 34) _ rfl w.heap.size 29 iu _ 1 4 Tryd.underlying25 hu0 hu1 hu2 hu3 rfl (by omega) (.slice (some ⟨wo.heap.size, 0, none⟩) 0 0) 0 [] rfl (HO0.out.drew)
                wo.heap.size A' l[k].2.length c' (uV l[k].2) rfl ((HF4.out.more hwz).alloc (Nat.le_refl _) _).drew (uV_one _) (by simp only [maxLen]; omega) (by omega) (by simp; omega) ?_
             intro v6 w6 hown6 hgrow6 hat6
             rw [List.nil_append, Nat.zero_add] at hown6
             obtain ⟨A2, c2, rfl, h2c, h2m⟩ := slice_of_own hown6
             have hg6 : (wo.alloc (Obj.cells #[] 29)).grownBy w6 (some wo.heap.size) := ⟨hgrow6.os, hgrow6.tape, hgrow6.output, hgrow6.size, hgrow6.block⟩
             have hbo6 : Below wo.heap.size wo w6 := ((Below.refl _ _).alloc (Nat.le_refl _) _).grown hg6 (by simp) (fun x hx => by injection hx with e; omega)
             have c60 : w6.cell? (ad.add (k * 2)) = some (.int .i64 l[k].1) := (hbo6.cell hbko).trans hc0
             have hr6 : w6.ownsRow w.heap.size 27 2 u5 k vs := own_keep HOWN.out fun b hb => hbo6.block b (HOWN.out.lt b hb).2
             have hs6 : SegsO w6 w.heap.size vs (l.take k) := HSEG.out.keep fun b _ hb => hbo6.block b hb
             have hb6b : Below w.heap.size w w6 := HBEL.out.trans (hbo6.mono hwz)
             have hz6 := hb6b.size
             have HN6 := hide hown6
             have HR6 := hide hr6
             have HS6 := hide hs6
             have HB6 := hide hb6b
             clear hown6 hgrow6 hat6 hg6 hbo6 hr6 hs6 hb6b)
          | (refine step_append_lies _ rfl (.tmp 23) (.tmp 37) _ rfl w.heap.size 27 ig _ 2 32 Tryd.underlying22 hg0 hg1 hg2 hg3 rfl (by omega) u5 k vs rfl (HR6.out.alloc _)
                     ⟨w6.heap.size, 0, none⟩ 1 1 [.int .i64 l[k].1, .slice A2 l[k].2.length c2] rfl rfl
                     (World.news_of_block (cs := #[.int .i64 l[k].1, .slice A2 l[k].2.length c2]) (t := 27) (fr := (0, 0)) (heap_alloc_new w6 _)) (by simp [Value.oneCell'])
                     (by omega) (by simp only [maxLen]; omega) (by omega) (by simp; omega) _ rfl ?_
             intro g cap w7 hown7 hgrow hat hltg
             have hAll := push_seg (lo := w.heap.size) (l := l) (s := l[k]) (k := k) HR6.out HS6.out HN6.out ⟨rfl, rfl⟩ ⟨hgrow.os, hgrow.tape, hgrow.output, hgrow.size, hgrow.block⟩
             have hb7 : Below w.heap.size w w7 := (HB6.out.alloc HB6.out.size _).grown hgrow (by have := HB6.out.size; simp; omega) (fun x hx => (HR6.out.lt x hx).1)
             have Q1 := hide hown7
             have Q2 := hide hAll
             have Q3 := hide hb7
             clear hown7 hgrow hat hb7 hAll))
        all_goals
          go_wp2
          go_roundw
          case rel =>
            refine ⟨k + 1, by omega, by go_num, m - q, by go_num, by omega, by omega, ?_, _, Q1.out, by rw [HTK.out]; exact Q2.out, Q3.out⟩
            rw [HHD.out, HTK.out, headF, if_pos (by rw [← HQ.out]; exact hle), ← HQ.out, List.append_assoc]; rfl
          case measure => simp [intOf]; omega
      · have hgt : m < q := by omega
        by_cases hpos : 0 < m
        · have hK : l[k].1 = 2 := by
            have := HQ.out
            unfold segLen at this
            by_cases h2 : l[k].1 = 2
            · exact h2
            · split at this
              · omega
              · first | omega | (rw [if_neg h2] at this; omega)
          have hql : q = l[k].2.length := by rw [HQ.out, segLen, if_neg (by omega), if_pos hK]
          obtain ⟨mt, rfl⟩ : ∃ mt : Nat, m = mt := ⟨m.toNat, by omega⟩
          have hmt : mt ≤ l[k].2.length := by omega
          have hlen : (l[k].2.take mt).length = mt := by rw [List.length_take]; omega
          have hfin : headF n l = l.take k ++ [((2 : Int), l[k].2.take mt)] := by
            rw [HHD.out, headF, if_neg (by rw [← HQ.out]; omega), if_pos ⟨hpos, hK⟩]; simp
          have hflen : (headF n l).length = k + 1 := by rw [hfin]; simp; omega
          rw [hK] at hc0
          have hn0' : (0 : Int) ≤ (mt : Int) := Int.natCast_nonneg _
          have hmc : (mt : Int) ≤ (c' : Int) := by omega
          have HFIN := Lib.hid hfin
          have HFL := Lib.hid hflen
          have hrd := HF4.out.take_ hmt
          rw [← uV_take] at hrd
          have HRD := hide hrd
          clear hfin hflen hrd
          go_wp2_with (first
            | (at_builtin
               refine wpList_append_any _ rfl (.tmp 53) (.tmp 60) _ rfl w.heap.size 29 iu _ 1 4 Tryd.underlying25 hu0 hu1 hu2 hu3 rfl (by omega) (.slice (some ⟨wo.heap.size, 0, none⟩) 0 0) 0 [] rfl HO0.out
                wo.heap.size A' mt c' (uV (l[k].2.take mt)) rfl ?_ ?_ ?_ ?_ ?_ ?_
               · exact (HRD.out.more hwz).alloc (Nat.le_refl _) _
               · exact uV_one _
               · simp only [maxLen]; omega
               · omega
               · simp; omega
               intro v6 w6 hown6 hgrow6 hat6
               rw [List.nil_append, Nat.zero_add] at hown6
               obtain ⟨A2, c2, rfl, h2c, h2m⟩ := slice_of_own hown6
               have hg6 : (wo.alloc (Obj.cells #[] 29)).grownBy w6 (some wo.heap.size) := ⟨hgrow6.os, hgrow6.tape, hgrow6.output, hgrow6.size, hgrow6.block⟩
               have hbo6 : Below wo.heap.size wo w6 := ((Below.refl _ _).alloc (Nat.le_refl _) _).grown hg6 (by simp) (fun x hx => by injection hx with e; omega)
               have hr6 : w6.ownsRow w.heap.size 27 2 u5 k vs := own_keep HOWN.out fun b hb => hbo6.block b (HOWN.out.lt b hb).2
               have hs6 : SegsO w6 w.heap.size vs (l.take k) := HSEG.out.keep fun b _ hb => hbo6.block b hb
               have hb6b : Below w.heap.size w w6 := HBEL.out.trans (hbo6.mono hwz)
               have hz6 := hb6b.size
               have HN6 := hide hown6
               have HR6 := hide hr6
               have HS6 := hide hs6
               have HB6 := hide hb6b
               clear hown6 hgrow6 hat6 hg6 hbo6 hr6 hs6 hb6b)
            | (at_builtin
               refine wpList_append_lies _ rfl (.tmp 52) (.tmp 63) _ rfl w.heap.size 27 ig _ 2 32 Tryd.underlying22 hg0 hg1 hg2 hg3 rfl (by omega) u5 k vs rfl (HR6.out.alloc _)
                     ⟨w6.heap.size, 0, none⟩ 1 1 [.int .i64 2, .slice A2 mt c2] rfl rfl
                     (World.news_of_block (cs := #[.int .i64 2, .slice A2 mt c2]) (t := 27) (fr := (0, 0)) (heap_alloc_new w6 _)) (by simp [Value.oneCell'])
                     (by omega) (by simp only [maxLen]; omega) (by omega) (by simp; omega) _ rfl ?_
               intro g cap w7 hown7 hgrow hat hltg
               have hAll := push_seg (lo := w.heap.size) (l := l) (s := ((2 : Int), l[k].2.take mt)) (k := k) HR6.out HS6.out HN6.out ⟨rfl, hlen.symm⟩ ⟨hgrow.os, hgrow.tape, hgrow.output, hgrow.size, hgrow.block⟩
               have hb7 : Below w.heap.size w w7 := (HB6.out.alloc HB6.out.size _).grown hgrow (by have := HB6.out.size; simp; omega) (fun x hx => (HR6.out.lt x hx).1)
               have Q1 := hide hown7
               have Q2 := hide hAll
               have Q3 := hide hb7
               clear hown7 hgrow hat hb7 hAll))
          go_ret
          rw [HFL.out]
          exact ⟨_, _, rfl, _, Q1.out, by rw [HFIN.out]; exact Q2.out, Q3.out⟩
        · have hfin : headF n l = l.take k := by
            rw [HHD.out, headF, if_neg (by rw [← HQ.out]; omega), if_neg (fun e => hpos e.1)]; simp
          have hflen : (headF n l).length = k := by rw [hfin]; simp; omega
          have HFIN := Lib.hid hfin
          have HFL := Lib.hid hflen
          clear hfin hflen
          obtain ⟨A1, c1, rfl, hA1, hc1⟩ := slice_of_own HOWN.out
          have hpos' : m ≤ 0 := by omega
          go_wp2
          go_ret
          rw [HFL.out]
          exact ⟨A1, c1, rfl, vs, HOWN.out, by rw [HFIN.out]; exact HSEG.out, HBEL.out⟩
    · have hkl : k = l.length := by omega
      subst hkl
      rw [List.drop_length, show headF m [] = [] from rfl, List.append_nil, List.take_length] at hhd
      have HX := Lib.hid hhd
      clear hhd
      rw [List.take_length] at hseg
      obtain ⟨A1, c1, rfl, hA1, hc1⟩ := slice_of_own hown
      have HF1 := hide hown
      have HF2 := hide hseg
      have HF3 := hide hbel
      clear hown hseg hbel
      go_wp2
      go_ret
      rw [HX.out]
      exact ⟨A1, c1, vs, rfl, HF1.out, HF2.out, HF3.out⟩
end Go.Proofs.YtceolenmcpndaaaDoor
