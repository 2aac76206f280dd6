/- The reference's Parse of a path: what it returns at texts of at most 400 bytes. -/
import Derived.Test.YtceolenmcpndaaaDoorSegTC
set_option autoImplicit false
namespace Go.Proofs.YtceolenmcpndaaaDoor
open Go.RowKit Go.Sort Go.Shelf

set_option maxRecDepth 100000 in
set_option maxHeartbeats 8000000 in
theorem rparse_any (s : List UInt8) (w : World) (hl : s.length ≤ 400) :
    Calls Tryd.prog 27 #[.string (strB s)] w fun e w' => ∃ v, e = .returned (.tuple #[v, .bool (refP s).isSome]) ∧ OwnP w.heap.size ((refP s).getD []) v w' ∧ Below w.heap.size w w' := by
  obtain ⟨iu, hu0, hu1, hu2, hu3⟩ := info_parts u32_info
  obtain ⟨ig, hg0, hg1, hg2, hg3⟩ := info_parts seg_info
  obtain ⟨RS, hRS⟩ : ∃ RS, RS = strB s := ⟨_, rfl⟩
  have hsz : RS.size = s.length := by rw [hRS, strB_size]
  rw [← hRS]
  have HRS := Lib.hid hRS
  clear hRS
  go_enter Tryd.func27, Tryd.ntmps27
  go_wp2_with fail
  go_loopw [4, 5, 6] (fun v nv ix wi => ∃ (i : Nat) (out : List Sg) (n : Int), i ≤ s.length ∧ ix = .int .i64 i ∧ nv = .int .i64 n ∧ -1 ≤ n ∧ n ≤ 1099511627776 ∧ Hid (RO w wi out v) ∧ out.length ≤ i ∧ Hid (∀ t ∈ out, t.2.length ≤ i ∧ Us t.2) ∧
    Hid (scanR s [] (-1) = scanR (s.drop i) out n)) (fun _ _ ix _ => s.length - (intOf ix).toNat)
  case atStart => exact ⟨0, [], -1, Nat.zero_le _, rfl, rfl, by omega, by omega, hide (.inl ⟨rfl, World.ownsRow_nil _ _ _ _, Below.refl _ _⟩), Nat.le_refl _, hide (fun t h => by cases h), hide rfl⟩
  case round =>
    obtain ⟨i, out, n, hi, rfl, rfl, hn0, hn1, HR, hol, HU, HSC⟩ := hrel
    obtain ⟨wo, rfl⟩ : ∃ wo : World, wo = wr := ⟨_, rfl⟩
    obtain ⟨vs, hown, hseg⟩ := HR.out.own
    obtain ⟨A2, c2, rfl, hc2, _⟩ := slice_of_own hown
    have hwz := HR.out.bel.size
    by_cases hlt : i < s.length
    · obtain ⟨c, hc⟩ : ∃ c, s[i] = c := ⟨_, rfl⟩
      have hdr : s.drop i = c :: s.drop (i + 1) := by rw [List.drop_eq_getElem_cons hlt, hc]
      have hci : (RS[i]'(by omega)) = c := by
        have := HRS.out
        subst this
        exact hc
      have hsc := HSC.out
      rw [hdr, scanR] at hsc
      obtain ⟨d, hd⟩ : ∃ d : Nat, c.toNat = d := ⟨_, rfl⟩
      have hd256 : d < 256 := by rw [← hd]; exact c.toNat_lt
      have hi0 : (0 : Int) ≤ (i : Int) := Int.natCast_nonneg _
      have hi1 : (i : Int) < (s.length : Int) := by omega
      have HO := hide hown
      have HSG := hide hseg
      clear hdr hc hown hseg HSC
      by_cases hbk : c = 91 ∨ c = 123
      · rw [if_pos hbk] at hsc
        have HSC := Lib.hid hsc
        clear hsc
        obtain ⟨K, hK⟩ : ∃ K : Int, K = if c = 123 then 1 else 2 := ⟨_, rfl⟩
        have hdd : d = 91 ∧ K = 2 ∨ d = 123 ∧ K = 1 := by
          rcases hbk with rfl | rfl
          · exact .inl ⟨hd.symm.trans rfl, by rw [hK]; rfl⟩
          · exact .inr ⟨hd.symm.trans rfl, by rw [hK]; rfl⟩
        have HK := Lib.hid hK
        clear hbk hK
        rcases hdd with ⟨hdd, hK2⟩ | ⟨hdd, hK2⟩
        · subst hdd
          subst hK2
          clear hd256
          go_wp2_with (at_builtin
                       refine wpList_append_lies _ rfl (.tmp 30) (.tmp 33) _ rfl w.heap.size 27 ig _ 2 32 Tryd.underlying22 hg0 hg1 hg2 hg3 rfl (by omega) (.slice A2 out.length c2) out.length vs rfl (HO.out.alloc _)
                         ⟨wo.heap.size, 0, none⟩ 1 1 [.int .i64 2, .slice none 0 0] rfl rfl (World.news_of_block (cs := #[.int .i64 2, .slice none 0 0]) (t := 27) (fr := (0, 0)) (heap_alloc_new wo _))
                         (by simp [Value.oneCell'])
                         (by omega) (by simp only [maxLen]; omega) (by omega) (by simp; omega) _ rfl ?_
                       intro g cap w1 hown1 hgrow hat hltg
                       have Q := hide (HR.out.bracket HO.out HSG.out hgrow hown1)
                       clear hown1 hgrow hat)
          go_roundw
          case rel =>
            exact ⟨i + 1, out ++ [(2, [])], n, by omega, by go_num, rfl, hn0, hn1, Q, by simp; omega, hide (fun t ht => by
              rcases List.mem_append.1 ht with ht | ht
              · exact ⟨by have := (HU.out t ht).1; omega, (HU.out t ht).2⟩
              · have e : t = (2, []) := by simpa using ht
                subst e; exact ⟨by simp, fun x hx => by cases hx⟩), hide (by rw [HSC.out, ← HK.out])⟩
          case measure => simp [intOf]; omega
        · subst hdd
          subst hK2
          clear hd256
          go_wp2_with (at_builtin
                       refine wpList_append_lies _ rfl (.tmp 30) (.tmp 33) _ rfl w.heap.size 27 ig _ 2 32 Tryd.underlying22 hg0 hg1 hg2 hg3 rfl (by omega) (.slice A2 out.length c2) out.length vs rfl (HO.out.alloc _)
                         ⟨wo.heap.size, 0, none⟩ 1 1 [.int .i64 1, .slice none 0 0] rfl rfl (World.news_of_block (cs := #[.int .i64 1, .slice none 0 0]) (t := 27) (fr := (0, 0)) (heap_alloc_new wo _))
                         (by simp [Value.oneCell'])
                         (by omega) (by simp only [maxLen]; omega) (by omega) (by simp; omega) _ rfl ?_
                       intro g cap w1 hown1 hgrow hat hltg
                       have Q := hide (HR.out.bracket HO.out HSG.out hgrow hown1)
                       clear hown1 hgrow hat)
          go_roundw
          case rel =>
            exact ⟨i + 1, out ++ [(1, [])], n, by omega, by go_num, rfl, hn0, hn1, Q, by simp; omega, hide (fun t ht => by
              rcases List.mem_append.1 ht with ht | ht
              · exact ⟨by have := (HU.out t ht).1; omega, (HU.out t ht).2⟩
              · have e : t = (1, []) := by simpa using ht
                subst e; exact ⟨by simp, fun x hx => by cases hx⟩), hide (by rw [HSC.out, ← HK.out])⟩
          case measure => simp [intOf]; omega
      · rw [if_neg hbk] at hsc
        have e1 : ((d : Int) == 91) = false := by
          rw [beq_eq_false_iff_ne]; intro e
          exact hbk (.inl (UInt8.toNat_inj.1 (by rw [hd]; show d = 91; omega)))
        have e2 : ((d : Int) == 123) = false := by
          rw [beq_eq_false_iff_ne]; intro e
          exact hbk (.inr (UInt8.toNat_inj.1 (by rw [hd]; show d = 123; omega)))
        clear hbk
        by_cases hdig : 48 ≤ d ∧ d ≤ 57
        · have hdb : digB c = true := by simp only [digB, decide_eq_true_eq]; omega
          rw [if_pos hdb] at hsc
          have HSC := Lib.hid hsc
          clear hsc hdb
          go_wp2
          go_roundw
          case rel =>
            exact ⟨i + 1, out, _, by omega, by go_num, rfl, by omega, by omega, HR, by omega, hide (fun t ht => ⟨by have := (HU.out t ht).1; omega, (HU.out t ht).2⟩), hide (by rw [HSC.out, hd])⟩
          case measure => simp [intOf]; omega
        · have hdb : digB c = false := by simp only [digB, decide_eq_false_iff_not]; omega
          rw [hdb, if_neg (by decide)] at hsc
          clear hdb
          have hd2 : d < 48 ∨ 57 < d := by omega
          by_cases hno : 0 ≤ n ∧ out ≠ []
          · rw [if_pos hno] at hsc
            have hn00 := hno.1
            rcases HR.out with ⟨e, _⟩ | ⟨l0, K, zs, sv, vs0, rfl, HP⟩
            · exact absurd e hno.2
            · clear hno
              simp only [List.length_append, List.length_singleton] at hol
              have hzl : zs.length ≤ i := (HU.out (K, zs) (by simp)).1
              by_cases hbig : 4294967295 < n
              · rw [if_pos hbig] at hsc
                have hpp : refP s = none := by unfold refP; rw [hsc]
                have HPP := Lib.hid hpp
                clear hsc hpp hdig HP
                rcases hd2 with hd2 | hd2
                all_goals
                  go_wp2
                  go_ret2
                  rw [HPP.out]
                  exact ⟨_, rfl, OwnP.of (l := []) (World.ownsRow_nil _ _ _ _) SegsO.nil_, HR.out.bel⟩
              · rw [if_neg hbig, addL_snoc] at hsc
                have HSC := Lib.hid hsc
                obtain ⟨g, cur, hv⟩ : ∃ g cap, Value.slice A2 (l0 ++ [(K, zs)]).length c2 = .slice (some ⟨g, 0, none⟩) (l0.length + 1) cap := by
                  obtain ⟨g, cap, hf, _⟩ := HP.own.form (by omega)
                  exact ⟨g, cap, hf⟩
                injection hv with hv1 hv2 hv3
                subst hv1
                subst hv3
                have cB : wo.cell? ⟨g, l0.length * 2 + 1, none⟩ = some sv := by
                  have hv0 := HP.segs.1
                  have ho : wo.ownsRow w.heap.size 27 2 (.slice (some ⟨g, 0, none⟩) (l0.length + 1) c2) (l0.length + 1) (vs0 ++ [.int .i64 K, sv]) := by have := HP.own; rw [hv2] at this; exact this
                  rw [ho.cellAt (l0.length * 2 + 1) (by omega), List.getElem?_append_right (by omega), show l0.length * 2 + 1 - vs0.length = 1 by omega]; rfl
                have hgo : g < wo.heap.size := (HP.own.lt g rfl).2
                have HPH := hide HP
                clear hsc hdig HP hv2
                rcases hd2 with hd2 | hd2
                all_goals
                  go_wp2_with (at_builtin
                               refine wpList_append_lies _ rfl (.tmp 63) (.tmp 66) _ rfl w.heap.size 29 iu _ 1 4 Tryd.underlying25 hu0 hu1 hu2 hu3 rfl (by omega) sv zs.length _ rfl (HPH.out.row.alloc _)
                                 ⟨wo.heap.size, 0, none⟩ 1 1 [.int .u32 n] rfl rfl (World.news_of_block (cs := #[.int .u32 n]) (t := 29) (fr := (0, 0)) (heap_alloc_new wo _)) (by simp [Value.oneCell'])
                                 (by omega) (by simp only [maxLen]; omega) (by omega) (by simp; omega) _ rfl ?_
                               intro gg cap w1 hown1 hgrow hat hltg
                               obtain ⟨q1, q2, q3, Q⟩ := HPH.out.push (g := g) (cap := c2) (by simp) hgrow hat hown1
                               clear hown1 hgrow hat)
                  go_roundw
                  case rel =>
                    exact ⟨i + 1, l0 ++ [(K, zs ++ [n])], -1, by omega, by go_num, rfl, by omega, by omega, hide (by simpa using Q.out), by simp; omega, hide (fun t ht => by
                      rcases List.mem_append.1 ht with ht | ht
                      · have := HU.out t (by simp [ht])
                        exact ⟨by omega, this.2⟩
                      · have e : t = (K, zs ++ [n]) := by simpa using ht
                        subst e
                        have := HU.out (K, zs) (by simp)
                        refine ⟨by simp only [List.length_append, List.length_singleton]; omega, fun x hx => ?_⟩
                        rcases List.mem_append.1 hx with hx | hx
                        · exact this.2 x hx
                        · have : x = n := by simpa using hx
                          omega), hide HSC.out⟩
                  case measure => simp [intOf]; omega
          · rw [if_neg hno] at hsc
            have HSC := Lib.hid hsc
            have hcases : n < 0 ∨ out = [] := by
              by_cases h : n < 0
              · exact .inl h
              · right
                by_cases e : out = []
                · exact e
                · exact absurd ⟨by omega, e⟩ hno
            clear hsc hno hdig
            rcases hcases with hn9 | hn9
            · rcases hd2 with hd2 | hd2
              all_goals
                go_wp2
                go_roundw
                case rel =>
                  exact ⟨i + 1, out, -1, by omega, by go_num, rfl, by omega, by omega, HR, by omega, hide (fun t ht => ⟨by have := (HU.out t ht).1; omega, (HU.out t ht).2⟩), HSC⟩
                case measure => simp [intOf]; omega
            · subst hn9
              rcases hd2 with hd2 | hd2
              all_goals
                by_cases hn7 : 0 ≤ n
                all_goals
                  go_wp2
                  go_roundw
                  case rel =>
                    exact ⟨i + 1, [], -1, by omega, by go_num, rfl, by omega, by omega, HR, by simp, hide (fun t ht => by cases ht), HSC⟩
                  case measure => simp [intOf]; omega
    · have hil : i = s.length := by omega
      subst hil
      have hsc := HSC.out
      rw [List.drop_length, scanR] at hsc
      have hpa := hseg.path hown rfl
      have hso : Sound out := ⟨by omega, fun t ht => ⟨by have := (HU.out t ht).1; omega, (HU.out t ht).2⟩⟩
      have HV := hide (rvalid_any 4 A2 c2 out wo hpa hso)
      have HX := hide (fun w' (hb : Below wo.heap.size wo w') => rtext_any A2 c2 out w' ((hpa.below hb).more hb.size) (by omega) hso)
      have HOP := hide (OwnP.of hown hseg)
      cases hv : validF 4 out
      · have hpp : refP s = none := by unfold refP; rw [hsc]; simp only []; rw [if_neg (by rw [hv]; simp)]
        rw [hv] at HV
        have HPP := Lib.hid hpp
        clear hpp hv hsc hpa hso hown hseg
        go_wp2_with (go_at_call 19; refine HV.out.mono ?_; rintro e w1 ⟨rfl, hb1⟩)
        go_ret2
        rw [HPP.out]
        exact ⟨_, rfl, OwnP.of (l := []) (World.ownsRow_nil _ _ _ _) SegsO.nil_, HR.out.bel.trans (hb1.mono hwz)⟩
      · rw [hv] at HV
        by_cases htx : textF out = s
        · have hpp : refP s = some out := by unfold refP; rw [hsc]; simp only []; rw [if_pos ⟨hv, htx⟩]
          rw [htx, ← HRS.out] at HX
          have HPP := Lib.hid hpp
          clear hpp hv hsc hpa hso hown hseg htx
          go_wp2_with (first
            | (go_at_call 19; refine HV.out.mono ?_; rintro e w1 ⟨rfl, hb1⟩)
            | (go_at_call 60; refine (HX.out _ hb1).mono ?_; rintro e w2 ⟨rfl, hb2⟩))
          go_ret2
          rw [HPP.out]
          exact ⟨_, rfl, HOP.out.keep (hb1.trans (hb2.mono hb1.size)), HR.out.bel.trans ((hb1.trans (hb2.mono hb1.size)).mono hwz)⟩
        · have hpp : refP s = none := by unfold refP; rw [hsc]; simp only []; rw [if_neg (fun h => htx h.2)]
          have hne : ((strB (textF out)).toList == RS.toList) = false := beq_eq_false_iff_ne.2 fun h => by
            rw [HRS.out, ByteArray.toList_eq, ByteArray.toList_eq] at h
            exact htx h
          have HPP := Lib.hid hpp
          clear hpp hv hsc hpa hso hown hseg htx
          generalize textF out = T at *
          go_wp2_with (first
            | (go_at_call 19; refine HV.out.mono ?_; rintro e w1 ⟨rfl, hb1⟩)
            | (go_at_call 60; refine (HX.out _ hb1).mono ?_; rintro e w2 ⟨rfl, hb2⟩))
          go_ret2
          rw [HPP.out]
          exact ⟨_, rfl, OwnP.of (l := []) (World.ownsRow_nil _ _ _ _) SegsO.nil_, HR.out.bel.trans ((hb1.trans (hb2.mono hb1.size)).mono hwz)⟩
end Go.Proofs.YtceolenmcpndaaaDoor
