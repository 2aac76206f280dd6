/- The walk of the law SegmentLengths: it returns true, and leaves alone whatever lay there. -/
import Derived.Test.YtceolenmcpndaaaDoorLen
set_option autoImplicit false
namespace Go.Proofs.YtceolenmcpndaaaDoor
open Go.RowKit Go.Sort Go.Shelf

theorem own_at {w : World} {lo base n c i : Nat} {A : Option Addr} {vs : List Value} {l : List Sg} (hs : SegsO w lo vs l) (ho : w.ownsRow base 27 2 (.slice A n c) n vs) (hn : n = l.length) (hi : i < l.length) :
    ∃ ad A' c', A = some ad ∧ ad.block < w.heap.size ∧ w.cell? (ad.add (i * 2)) = some (.int .i64 l[i].1) ∧ w.cell? ⟨(ad.add (i * 2)).block, (ad.add (i * 2)).off + 1, none⟩ = some (.slice A' l[i].2.length c') ∧
      (ad.add (i * 2)).block < w.heap.size ∧ l[i].2.length ≤ c' ∧ c' ≤ maxLen ∧ vs[i * 2 + 1]? = some (.slice A' l[i].2.length c') := by
  subst hn
  obtain ⟨v0, v1, q0, q1, e0, e1⟩ := hs.2 i l[i] (List.getElem?_eq_getElem hi)
  obtain ⟨A', c', rfl, h1, h2⟩ := slice_of_own e1
  subst e0
  obtain ⟨ad, e, hb, hc⟩ := (Reads.of_own ho).2 (by omega)
  have e1' : (⟨(ad.add (i * 2)).block, (ad.add (i * 2)).off + 1, none⟩ : Addr) = ad.add (i * 2 + 1) := by rw [← add_of_add ad (i * 2) 1]; rfl
  exact ⟨ad, A', c', e, hb, hc _ _ q0, by rw [e1']; exact hc _ _ q1, by rw [block_of_add]; exact hb, h1, h2, q1⟩

/-- One number stored into a row of a row of segments. -/
theorem store_step {wi w0 : World} {lo B5 j m n c c' : Nat} {A2 : Option Addr} {K : Int} {h : Nat} {vs : List Value} {l l' : List Sg} (hr : wi.ownsRow lo 27 2 (.slice A2 n c) n vs) (hs : SegsO wi lo vs l)
    (hb : Below lo w0 wi) (hB : wi.heap[B5]? = some (.cells #[.int .i64 K, .slice (some ⟨h, 0, none⟩) m c'] 27 (0, 0))) (hl : l.map (fun s => (s.1, s.2.length)) = l'.map (fun s => (s.1, s.2.length)))
    {xs : List Value} (ho : wi.ownsRow lo 29 1 (.slice (some ⟨h, 0, none⟩) m c') m xs) :
    ∀ y, ∃ l2 : List Sg, l2.map (fun s => (s.1, s.2.length)) = l'.map (fun s => (s.1, s.2.length)) ∧ (wi.setCell ⟨h, j, none⟩ (.int .u32 y)).ownsRow lo 27 2 (.slice A2 n c) n vs ∧
      SegsO (wi.setCell ⟨h, j, none⟩ (.int .u32 y)) lo vs l2 ∧ Below lo w0 (wi.setCell ⟨h, j, none⟩ (.int .u32 y)) ∧
      (wi.setCell ⟨h, j, none⟩ (.int .u32 y)).heap[B5]? = some (.cells #[.int .i64 K, .slice (some ⟨h, 0, none⟩) m c'] 27 (0, 0)) := by
  intro y
  obtain ⟨l2, e1, e2⟩ := segsO_stored hs h j y
  have hlt := (ho.lt h rfl).1
  have hblk : ∃ cs, Blk wi h 29 cs := by
    rcases ho.2 with ⟨hv, _⟩ | ⟨g', cap, cur, hv, _, hh, _⟩
    · cases hv
    · have : g' = h := by injection hv with a; injection a with a; injection a with a; exact a.symm
      subst this
      exact ⟨cur, hh⟩
  obtain ⟨cs, hblk⟩ := hblk
  have hne := own_blk_ne hr hblk (by decide)
  have hne5 : B5 ≠ h := Blk.ne_ (w := wi) hB hblk (by decide)
  refine ⟨l2, e1.trans hl, own_keep hr fun b hb' => Below.heap_setCell wi _ _ b (fun e => hne (by rw [hb']; exact congrArg some e)), e2, hb.setCell hlt _, ?_⟩
  rw [Below.heap_setCell wi _ _ B5 hne5]
  exact hB

set_option maxRecDepth 100000 in
set_option maxHeartbeats 8000000 in
theorem lengths_any (A : Option Addr) (c : Nat) (l : List Sg) (w : World) (h : Path w w.heap.size A l) (hs : Sound l) (ht : Tabs w) :
    Calls Tryd.prog 3 #[.slice A l.length c] w fun e w' => e = .returned (.bool true) ∧ Below w.heap.size w w' := by
  obtain ⟨iu, hu0, hu1, hu2, hu3⟩ := info_parts u32_info
  obtain ⟨ig, hg0, hg1, hg2, hg3⟩ := info_parts seg_info
  go_enter Tryd.func3, Tryd.ntmps3
  go_wp2_with fail
  refine (few_any A c l w h hs.1 (fun s h => (hs.2 s h).1)).mono ?_
  rintro e w' ⟨rfl, rfl⟩
  by_cases hf : FewF l = true
  · obtain ⟨hl, hm⟩ := few_bounds l hf
    rw [hf]
    go_wp2_with fail
    go_loopw [3, 16] (fun v i wr => ∃ k : Nat, k ≤ l.length ∧ i = .int .i64 k ∧ ∃ vs, wr.ownsRow w.heap.size 27 2 v k vs ∧ SegsO wr w.heap.size vs (l.take k) ∧ Below w.heap.size w wr)
      (fun _ i _ => l.length - (intOf i).toNat)
    case atStart => exact ⟨0, Nat.zero_le _, rfl, [], World.ownsRow_nil _ _ _ _, SegsO.nil_, Below.refl _ _⟩
    case round =>
      obtain ⟨k, hk, rfl, vs, hown, hseg, hbel⟩ := hrel
      obtain ⟨wo, rfl⟩ : ∃ wo : World, wo = wr := ⟨_, rfl⟩
      by_cases hlt : k < l.length
      · obtain ⟨ad, A', c', rfl, had, hc0, hc1, hbk, f2, f3, f4⟩ := (h.below hbel).at_ hlt
        have hmk := hm l[k] (List.getElem_mem hlt)
        have hk0 : (0 : Int) ≤ (k : Int) := Int.natCast_nonneg _
        have hk1 : (k : Int) < (l.length : Int) := by omega
        have hwz := hbel.size
        have hbko : (ad.add (k * 2)).block < wo.heap.size := by omega
        have htake : l.take (k + 1) = l.take k ++ [l[k]] := List.take_succ_eq_append_getElem hlt
        have HTK := Lib.hid htake
        have HOWN := hide hown
        have HSEG := hide hseg
        have HBEL := hide hbel
        have HF4 := hide f4
        have HH := hide h
        have HM := hide hm
        have HT := hide ht
        have HS := hide hs
        clear h hm hown hseg hbel f4 ht hs hf htake
        go_wp2_with fail
        obtain ⟨w5, hw5⟩ : ∃ w5, w5 = wo.alloc (Obj.cells #[.int .i64 l[k].1, .slice A' l[k].2.length c'] 27) := ⟨_, rfl⟩
        have hB5 : w5.heap[wo.heap.size]? = some (.cells #[.int .i64 l[k].1, .slice A' l[k].2.length c'] 27 (0, 0)) := by rw [hw5]; exact heap_alloc_new _ _
        rw [← hw5]
        have hsw : w5.heap.size = wo.heap.size + 1 := by rw [hw5]; simp
        have hbo5 : Below wo.heap.size wo w5 := by rw [hw5]; exact (Below.refl _ _).alloc (Nat.le_refl _) _
        have hlt5 : wo.heap.size < w5.heap.size := by omega
        have c50 : w5.cell? ⟨wo.heap.size, 0, none⟩ = some (.int .i64 l[k].1) := by rw [cell_of_row _ _ 0 _ _ _ hB5]; rfl
        have c51 : w5.cell? ⟨wo.heap.size, 1, none⟩ = some (.slice A' l[k].2.length c') := by rw [cell_of_row _ _ 1 _ _ _ hB5]; rfl
        have hcl := cloneU_any A' c' l[k].2 w5.drew (((HF4.out.below (hbo5.mono hwz)).more (by omega : w.heap.size ≤ w5.heap.size)).drew) (by omega)
        have HCL := hide hcl
        have HB5 := hide hB5
        have HO5 := hide hbo5
        clear hcl hw5 hB5 hbo5 hc0 hc1
        go_region_law (first
          | (go_simp; go_at_call 12; refine HCL.out.mono ?_; rintro e w6 ⟨A2, c2, rfl, h2c, h2m, hown2, hb6⟩
             have hb56 : Below w5.heap.size w5 w6 := ⟨hb6.os, hb6.tape, hb6.output, hb6.size, hb6.block⟩
             have hbo6 : Below wo.heap.size wo w6 := HO5.out.trans (hb56.mono HO5.out.size)
             have hr6 : w6.ownsRow w.heap.size 27 2 u3 k vs := own_keep HOWN.out fun b hb => hbo6.block b (HOWN.out.lt b hb).2
             have hs6 : SegsO w6 w.heap.size vs (l.take k) := HSEG.out.keep fun b _ hb => hbo6.block b hb
             have hb6b : Below w.heap.size w w6 := HBEL.out.trans (hbo6.mono hwz)
             have hz6 := hb6b.size
             have hz56 := hb56.size
             have hlt6 : wo.heap.size < w6.heap.size := by omega
             have c60 : w6.cell? ⟨wo.heap.size, 0, none⟩ = some (.int .i64 l[k].1) := (hb56.cell (p := ⟨wo.heap.size, _, none⟩) hlt5).trans c50
             have hn2 : w6.ownsRow w.heap.size 29 1 (.slice A2 l[k].2.length c2) l[k].2.length (uV l[k].2) := own_base hown2 (by show w.heap.size ≤ w5.heap.size; omega)
             have HN2 := hide hn2
             have HR6 := hide hr6
             have HS6 := hide hs6
             have HB6 := hide hb6b
             clear hbo6 hr6 hb6b hb6 hs6 hb56 hn2 hown2)
          | (refine step_append_lies _ rfl (.tmp 20) (.tmp 27) _ rfl w.heap.size 27 ig _ 2 32 Tryd.underlying22 hg0 hg1 hg2 hg3 rfl (by omega) u3 k vs rfl (HR6.out.alloc _)
                     ⟨w6.heap.size, 0, none⟩ 1 1 [.int .i64 l[k].1, .slice A2 l[k].2.length c2] rfl rfl
                     (World.news_of_block (cs := #[.int .i64 l[k].1, .slice A2 l[k].2.length c2]) (t := 27) (fr := (0, 0)) (heap_alloc_new w6 _)) (by simp [Value.oneCell'])
                     (by omega) (by simp only [maxLen]; omega) (by omega) (by simp; omega) _ rfl ?_
             intro g cap w7 hown7 hgrow hat hltg
             have hAll := push_seg (lo := w.heap.size) (l := l) (s := l[k]) (k := k) HR6.out HS6.out HN2.out ⟨rfl, rfl⟩ ⟨hgrow.os, hgrow.tape, hgrow.output, hgrow.size, hgrow.block⟩
             have hb7 : Below w.heap.size w w7 := (HB6.out.alloc HB6.out.size _).grown hgrow (by have := HB6.out.size; simp; omega) (fun x hx => (HR6.out.lt x hx).1)
             have Q1 := hide hown7
             have Q2 := hide hAll
             have Q3 := hide hb7
             clear hown7 hgrow hat hb7 hAll))
        all_goals
          go_wp2
          go_roundw
          case rel => exact ⟨k + 1, by omega, by go_num, _, Q1.out, by rw [HTK.out]; exact Q2.out, Q3.out⟩
          case measure => simp [intOf]; omega
      · have hkl : k = l.length := by omega
        subst hkl
        rw [List.take_of_length_le (Nat.le_refl _)] at hseg
        obtain ⟨A1, c1, rfl, hA1, hc1⟩ := slice_of_own hown
        obtain ⟨w1, rfl⟩ : ∃ w1 : World, w1 = wo := ⟨_, rfl⟩
        have hpo := hseg.path hown rfl
        have hz1 := hbel.size
        have hus : ∀ s ∈ l, Us s.2 := fun s h => (hs.2 s h).2
        have hnl := narP_len l
        -- the calls' contracts, each at every world that it may meet
        have k1 := narrow_any A1 c1 l w1 hpo (by omega) (fun s h => by have := hm s h; omega)
        have k2 : ∀ w', Below w1.heap.size w1 w' → _ := fun w' hb => rnarrow_any A c l w' ((h.below (hbel.trans (hb.mono hz1))).more (by have := hb.size; omega)) (by omega) (fun s h => by have := hm s h; omega)
        have k3 : ∀ w', Below w1.heap.size w1 w' → _ := fun w' hb => length_any A c l w' ((h.below (hbel.trans (hb.mono hz1))).more (by have := hb.size; omega)) (by omega) (fun s h => by have := hm s h; omega)
        have k4 : ∀ w', Below w1.heap.size w1 w' → _ := fun w' hb => rlength_any A c l w' ((h.below (hbel.trans (hb.mono hz1))).more (by have := hb.size; omega)) (by omega) (fun s h => by have := hm s h; omega)
        have k5 : ∀ w', Below w1.heap.size w1 w' → _ := fun w' hb => rvalid_any 4 A c l w' ((h.below (hbel.trans (hb.mono hz1))).more (by have := hb.size; omega)) hs
        have k6 : ∀ w', Below w1.heap.size w1 w' → _ := fun w' hb => alive6_any w' (ht.below (hbel.trans (hb.mono hz1)))
        have k7 : ∀ w', Below w1.heap.size w1 w' → _ := fun w' hb => same_any A1 A c1 c l l w' ((hpo.below hb).more hb.size) ((h.below (hbel.trans (hb.mono hz1))).more (by have := hb.size; omega)) hs.1 (fun s h => (hs.2 s h).1) (fun s h => (hs.2 s h).1)
        have K1 := hide k1; have K2 := hide k2; have K3 := hide k3; have K4 := hide k4; have K5 := hide k5; have K6 := hide k6; have K7 := hide k7
        have HBEL := hide hbel
        have HM := hide hm
        clear k1 k2 k3 k4 k5 k6 k7 hpo hown hseg hbel h hs ht hm hf
        go_wp2_with fail
        refine K1.out.mono ?_
        rintro e w2 ⟨A2, c2, vsN, rfl, hown2, hseg2, hb2⟩
        have hz2 := hb2.size
        obtain ⟨A2', c2', e2, h2c, h2m⟩ := slice_of_own hown2
        have hc2 : c2 ≤ maxLen := by injection e2 with _ _ e; omega
        have hlc2 : l.length ≤ c2 := by injection e2 with _ _ e; omega
        clear e2 h2c h2m
        have hpn := hseg2.path hown2 hnl.symm
        have P1 := hide (K2.out w2 hb2)
        have HN := hide hpn
        have HO2 := hide hown2
        have HS2 := hide hseg2
        have HB2 := hide hb2
        clear hpn hown2 hseg2 hb2
        go_wp2_with fail
        refine P1.out.mono ?_
        rintro e w3 ⟨A3, c3, vs3, rfl, hown3, hseg3, hb3⟩
        have hb13 : Below w1.heap.size w1 w3 := HB2.out.trans (hb3.mono hz2)
        have k8 := same_any A2 A3 c2 c3 (narP l) (narP l) w3 ((HN.out.below hb3).more hb3.size) (hseg3.path hown3 hnl.symm) (by rw [hnl]; omega)
          (fun s h => by have := narP_mem l 600 HM.out s h; omega) (fun s h => by have := narP_mem l 600 HM.out s h; omega)
        rw [hnl, decide_eq_true rfl] at k8
        have P2 := hide k8
        have HB3 := hide hb3
        have HB13 := hide hb13
        have hz3 := hb3.size
        clear k8 hb3 hb13 hown3 hseg3
        go_wp2_with fail
        refine P2.out.mono ?_
        rintro e w4 ⟨rfl, hb4⟩
        have hz4 := hb4.size
        have hb24 : Below w2.heap.size w2 w4 := HB3.out.trans (hb4.mono hz3)
        have hb14 : Below w1.heap.size w1 w4 := HB2.out.trans (hb24.mono hz2)
        obtain ⟨M, hM⟩ : ∃ M, M = lenF l := ⟨_, rfl⟩
        have k9 := K3.out w4 hb14
        rw [← hM] at k9
        have P3 := hide k9
        have HB24 := hide hb24
        have HB14 := hide hb14
        have HMM := Lib.hid hM
        clear k9 hb24 hb14 hb4 hM P1 P2
        go_wp2_with fail
        refine P3.out.mono ?_
        rintro e w5 ⟨rfl, hb5⟩
        have hz5 := hb5.size
        have hb25 : Below w2.heap.size w2 w5 := HB24.out.trans (hb5.mono (by omega))
        have hb15 : Below w1.heap.size w1 w5 := HB2.out.trans (hb25.mono hz2)
        have k9 := K4.out w5 hb15
        rw [← HMM.out] at k9
        have P4 := hide k9
        have HB25 := hide hb25
        have HB15 := hide hb15
        clear k9 hb25 hb15 hb5 P3
        go_wp2_with fail
        refine P4.out.mono ?_
        rintro e w5' ⟨rfl, rfl⟩
        have k9 := length_any A2 c2 (narP l) w5 ((HN.out.below HB25.out).more HB25.out.size) (by rw [hnl]; omega) (fun s h => by have := narP_mem l 600 HM.out s h; omega)
        rw [hnl, lenF_nar, ← HMM.out] at k9
        have P5 := hide k9
        clear k9
        go_wp2_with fail
        refine P5.out.mono ?_
        rintro e w6 ⟨rfl, hb6⟩
        have hz6 := hb6.size
        have hb26 : Below w2.heap.size w2 w6 := HB25.out.trans (hb6.mono (by omega))
        have hb16 : Below w1.heap.size w1 w6 := HB2.out.trans (hb26.mono hz2)
        have k9 := K4.out w6 hb16
        rw [← HMM.out] at k9
        have P6 := hide k9
        have HB26 := hide hb26
        have HB16 := hide hb16
        clear k9 hb26 hb16 hb6 P4 P5
        go_wp2_with fail
        refine P6.out.mono ?_
        rintro e w6' ⟨rfl, rfl⟩
        have k9 := valid_any 2 A2 c2 (narP l) w6 ((HN.out.below HB26.out).more HB26.out.size) ⟨by rw [hnl]; omega, fun s h => ⟨by have := narP_mem l 600 HM.out s h; omega, by
          obtain ⟨t, ht', rfl⟩ := List.mem_map.1 h; exact narL_us _ (hus t ht')⟩⟩
        rw [hnl, valid_nar l hus] at k9
        obtain ⟨V, hV⟩ : ∃ V, V = validF 4 l := ⟨_, rfl⟩
        rw [← hV] at k9
        have HV := Lib.hid hV
        have P7 := hide k9
        clear k9 hV
        go_wp2_with fail
        refine P7.out.mono ?_
        rintro e w7 ⟨rfl, hb7⟩
        have hz7 := hb7.size
        have hb27 : Below w2.heap.size w2 w7 := HB26.out.trans (hb7.mono (by omega))
        have hb17 : Below w1.heap.size w1 w7 := HB2.out.trans (hb27.mono hz2)
        have k9 := K5.out w7 hb17
        rw [← HV.out] at k9
        have P8 := hide k9
        have HB27 := hide hb27
        clear k9 hb27 hb17 hb7 P6 P7
        go_wp2_with fail
        refine P8.out.mono ?_
        rintro e w8 ⟨rfl, hb8⟩
        have hb28 : Below w2.heap.size w2 w8 := HB27.out.trans (hb8.mono (by omega))
        have hb18 : Below w1.heap.size w1 w8 := HB2.out.trans (hb28.mono hz2)
        have hown8 := own_keep HO2.out fun b hb => hb28.block b (HO2.out.lt b hb).2
        have hseg8 : SegsO w8 w1.heap.size vsN (narP l) := HS2.out.keep fun b _ hb => hb28.block b hb
        have Q1 := hide hown8
        have Q2 := hide hseg8
        have Q3 := hide hb18
        clear hown8 hseg8 hb18 hb28 hb8 P8 HB27 HB26 HB25 HB24 HB16 HB15 HB14 HB13 HB3 HB2 HO2 HS2 HN
        go_wp2_with fail
        go_loopw [60] (fun i wr => ∃ k : Nat, k ≤ l.length ∧ i = .int .i64 k ∧ ∃ l' : List Sg, l'.length = l.length ∧ wr.ownsRow w1.heap.size 27 2 (.slice A2 l.length c2) l.length vsN ∧
          SegsO wr w1.heap.size vsN l' ∧ Below w1.heap.size w1 wr) (fun i _ => l.length - (intOf i).toNat)
        case atStart => exact ⟨0, Nat.zero_le _, rfl, _, hnl, Q1.out, Q2.out, Q3.out⟩
        case round =>
          obtain ⟨k, hk, rfl, l', hl', hown, hseg, hbel⟩ := hrel
          obtain ⟨wo, rfl⟩ : ∃ wo : World, wo = wr := ⟨_, rfl⟩
          clear Q1 Q2 Q3 HV HMM
          by_cases hlt : k < l.length
          · obtain ⟨ad, A', c', rfl, had, hc0, hc1', hbk, f2, f3, q1⟩ := own_at hseg hown hl'.symm (by omega : k < l'.length)
            have hk0 : (0 : Int) ≤ (k : Int) := Int.natCast_nonneg _
            have hk1 : (k : Int) < (l.length : Int) := by omega
            have hwz := hbel.size
            obtain ⟨w5, hw5⟩ : ∃ w5, w5 = wo.alloc (Obj.cells #[.int .i64 (l'[k]'(by omega)).1, .slice A' (l'[k]'(by omega)).2.length c'] 27) := ⟨_, rfl⟩
            obtain ⟨m, hm⟩ : ∃ m, m = (l'[k]'(by omega)).2.length := ⟨_, rfl⟩
            obtain ⟨K, hK⟩ : ∃ K, K = (l'[k]'(by omega)).1 := ⟨_, rfl⟩
            rw [← hm, ← hK] at hw5
            rw [← hK] at hc0
            rw [← hm] at hc1' f2 q1
            have hmx : m ≤ 9223372036854775807 := by simp only [maxLen] at f3; omega
            have hB5 : w5.heap[wo.heap.size]? = some (.cells #[.int .i64 K, .slice A' m c'] 27 (0, 0)) := by rw [hw5]; exact heap_alloc_new _ _
            have hsw : w5.heap.size = wo.heap.size + 1 := by rw [hw5]; simp
            have hbo5 : Below wo.heap.size wo w5 := by rw [hw5]; exact (Below.refl _ _).alloc (Nat.le_refl _) _
            have hown5 := own_keep hown fun b hb => hbo5.block b (hown.lt b hb).2
            have hseg5 : SegsO w5 w1.heap.size vsN l' := hseg.keep fun b _ hb => hbo5.block b hb
            have hbel5 : Below w1.heap.size w1 w5 := hbel.trans (hbo5.mono hwz)
            have hlk : (l'.map (fun s => (s.1, s.2.length)))[k]? = some (K, m) := by
              rw [List.getElem?_map, List.getElem?_eq_getElem (by omega), hm, hK]; rfl
            have Q1 := hide hown5
            have Q2 := hide hseg5
            have Q3 := hide hbel5
            have Q5 := hide hB5
            have HLK := Lib.hid hlk
            clear hown hseg hbel hown5 hseg5 hbel5 hB5 hbo5 hlk hm hK
            go_wp2_with fail
            rw [← hw5]
            clear hw5
            go_loopw [67] (fun i wi => ∃ j : Nat, j ≤ m ∧ i = .int .i64 j ∧ ∃ l2 : List Sg, l2.map (fun s => (s.1, s.2.length)) = l'.map (fun s => (s.1, s.2.length)) ∧
              wi.ownsRow w1.heap.size 27 2 (.slice (some ad) l.length c2) l.length vsN ∧
              SegsO wi w1.heap.size vsN l2 ∧ Below w1.heap.size w1 wi ∧ wi.heap[wo.heap.size]? = some (.cells #[.int .i64 K, .slice A' m c'] 27 (0, 0))) (fun i _ => m - (intOf i).toNat)
            case atStart => exact ⟨0, Nat.zero_le _, rfl, l', rfl, Q1.out, Q2.out, Q3.out, Q5.out⟩
            case round =>
              obtain ⟨j, hj, rfl, l2, hl2, hown, hseg, hbel, hB⟩ := hrel
              clear Q1 Q2 Q3 Q5
              have hl2n : l2.length = l'.length := by have := congrArg List.length hl2; simpa using this
              have hl2k : (l2[k]'(by omega)).2.length = m := by
                have := HLK.out
                rw [← hl2, List.getElem?_map, List.getElem?_eq_getElem (by omega)] at this
                injection this with this
                injection this
              have hBlt := lt_of_block hB
              have c0 : wr.cell? ⟨wo.heap.size, 0, none⟩ = some (.int .i64 K) := by rw [cell_of_row _ _ 0 _ _ _ hB]; rfl
              have c1x : wr.cell? ⟨wo.heap.size, 1, none⟩ = some (.slice A' m c') := by rw [cell_of_row _ _ 1 _ _ _ hB]; rfl
              by_cases jlt : j < m
              · obtain ⟨v0, v1, p0, p1, p2, p3⟩ := hseg.2 k (l2[k]'(by omega)) (List.getElem?_eq_getElem (by omega))
                rw [q1] at p1
                have ev : v1 = .slice A' m c' := by injection p1 with e; exact e.symm
                subst ev
                rw [hl2k] at p3
                obtain ⟨g, cap, hf3, hh0, hh1⟩ := p3.form (by omega)
                have hf4 : A' = some ⟨g, 0, none⟩ ∧ cap = c' := by injection hf3 with a b c; exact ⟨a, c.symm⟩
                obtain ⟨rfl, rfl⟩ := hf4
                have hjx : j < ((l2[k]'(by omega)).2).length := by omega
                obtain ⟨x, hx⟩ : ∃ x, x = (l2[k]'(by omega)).2[j] := ⟨_, rfl⟩
                have ch : wr.cell? ⟨g, j, none⟩ = some (.int .u32 x) := by
                  rw [p3.cellAt j (by omega), uV, List.getElem?_map, List.getElem?_eq_getElem hjx, ← hx]; rfl
                have fh : wr.frozen? ⟨g, j, none⟩ = false := p3.frozenAt _
                have hst := store_step (j := j) hown hseg hbel hB hl2 p3
                have HST := hide hst
                have hj0 : (0 : Int) ≤ (j : Int) := Int.natCast_nonneg _
                have hj1 : (j : Int) < (m : Int) := by omega
                clear hst hown hseg hbel hB hl2 p3 p0 p1 p2 hf3 hx hjx hl2k q1
                go_wp2
                go_roundw
                case rel => exact ⟨j + 1, by omega, by go_num, HST.out _⟩
                case measure => simp [intOf]; omega
              · have hjm : j = m := by omega
                have R1 := hide hown
                have R2 := hide hseg
                have R3 := hide hbel
                clear hown hseg hbel hB hl2 hl2k q1 HLK
                go_wp2
                go_roundw
                case rel => exact ⟨k + 1, by omega, by go_num, l2, by omega, R1.out, R2.out, R3.out⟩
                case measure => simp [intOf]; omega
          · have hkl : k = l.length := by omega
            have hb0 := HBEL.out.trans (hbel.mono hz1)
            have P1 := hide (K6.out wo hbel)
            have hbz := hbel.size
            have HB := hide hbel
            have HB0 := hide hb0
            clear hown hseg hbel hb0 K1 K2 K3 K4 K5 K6
            go_wp2_with fail
            refine P1.out.mono ?_
            rintro e w9 ⟨rfl, hb9⟩
            have hb19 : Below w1.heap.size w1 w9 := HB.out.trans (hb9.mono hbz)
            have hb09 : Below w.heap.size w w9 := HB0.out.trans (hb9.mono (by omega))
            have k9 := K7.out w9 hb19
            simp only [decide_true] at k9
            have P2 := hide k9
            have HB9 := hide hb09
            clear hb19 hb09 hb9 k9 K7 P1
            go_wp2_with fail
            refine P2.out.mono ?_
            rintro e w10 ⟨rfl, hb10⟩
            have HB10 := hide hb10
            clear hb10 P2
            go_wp2
            go_ret
            exact ⟨rfl, HB9.out.trans (HB10.out.mono HB9.out.size)⟩
  · have hf : FewF l = false := by simpa using hf
    rw [hf]
    go_wp2_with fail
    refine (alive6_any w ht).mono ?_
    rintro e w2 ⟨rfl, hb⟩
    go_wp2
    go_ret
    exact ⟨rfl, hb⟩
end Go.Proofs.YtceolenmcpndaaaDoor
