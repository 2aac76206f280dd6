/- The reference's Read of a path at the width 4; at lists of at most 100,000 bytes. -/
import Derived.Test.YtceolenmcpndaaaDoorSegRD
set_option autoImplicit false
namespace Go.Proofs.YtceolenmcpndaaaDoor
open Go.RowKit

set_option maxRecDepth 100000 in
set_option maxHeartbeats 8000000 in
theorem rread_4 (A : Option Addr) (c : Nat) (b : List Int) (w : World) (hby : Byts w w.heap.size A b) (hc : b.length ≤ c) (hcm : c ≤ maxLen) (hl : b.length ≤ 100000) (hbs : Bs b) :
    Calls Tryd.prog 25 #[.int .i64 4, .slice A b.length c] w fun e w' => ∃ v, e = .returned (.tuple #[v, .bool (rdF 4 b).isSome]) ∧ OwnP w.heap.size ((rdF 4 b).getD []) v w' ∧ Below w.heap.size w w' := by
  obtain ⟨iu, hu0, hu1, hu2, hu3⟩ := info_parts u32_info
  obtain ⟨ig, hg0, hg1, hg2, hg3⟩ := info_parts seg_info
  have hRR : RR w w 4 b b [] A (.slice none 0 0) [] := ⟨World.ownsRow_nil _ _ _ _, SegsO.nil_, Below.refl _ _, hby, hbs, by simp, rd_start 4 b⟩
  have HRR := hide hRR
  clear hRR hby hbs
  go_enter Tryd.func25, Tryd.ntmps25
  go_wp2_with fail
  go_loopw [1, 6] (fun bv v wi => ∃ cur l A1 c1 vs, bv = .slice A1 cur.length c1 ∧ cur.length ≤ c1 ∧ c1 ≤ maxLen ∧ Hid (RR w wi 4 b cur l A1 v vs)) (fun bv _ _ => lenOf bv)
  case atStart => exact ⟨_, _, _, _, _, rfl, hc, hcm, HRR⟩
  case round =>
    obtain ⟨cur, l, A1, c1, vs, rfl, hc1, hcm1, HR⟩ := hrel
    obtain ⟨wo, rfl⟩ : ∃ wo : World, wo = wr := ⟨_, rfl⟩
    have hsum := HR.out.sum
    rcases cur with _ | ⟨K, _ | ⟨n, r⟩⟩
    · have hres := rd_end HR.out.rel
      have HRES := Lib.hid hres
      have HGD := hide (OwnP.of' HR.out.own HR.out.segs)
      clear hres
      go_wp2
      go_ret2
      rw [HRES.out]
      exact ⟨_, rfl, HGD.out, HR.out.bel⟩
    · have hres := rd_fail HR.out.rel (by simp) rfl
      have HRES := Lib.hid hres
      clear hres
      go_wp2
      go_ret2
      rw [HRES.out]
      exact ⟨_, rfl, OwnP.of (l := []) (World.ownsRow_nil _ _ _ _) SegsO.nil_, HR.out.bel⟩
    · have hKb := HR.out.hbs K (by simp)
      have hnb := HR.out.hbs n (by simp)
      have hK0 := hKb.1
      have hK1 := hKb.2
      have hn0 := hnb.1
      have hn1 := hnb.2
      obtain ⟨m, rfl⟩ : ∃ m : Nat, n = (m : Int) := ⟨n.toNat, by omega⟩
      have hwz := HR.out.bel.size
      obtain ⟨ad, rfl, hab, hcells⟩ := HR.out.byt.2 (by simp)
      have hab2 : ad.block < wo.heap.size := by omega
      have k1 : wo.cell? ⟨ad.block, ad.off + 1, none⟩ = some (.int .u8 m) := (HR.out.bel.cell (p := ad.add 1) (by rw [block_of_add]; exact hab)).trans (hcells 1 _ (by simp [bV]))
      have k2 : wo.cell? ad = some (.int .u8 K) := (HR.out.bel.cell (p := ad.add 0) (by rw [block_of_add]; exact hab)).trans (hcells 0 _ (by simp [bV]))
      have hfail : headOk 4 (K :: (m : Int) :: r) = false → rdF 4 b = none := fun h => rd_fail HR.out.rel (by simp) h
      have HFAIL := Lib.hid hfail
      clear hfail hcells hKb hnb
      by_cases hkk : K = 1 ∨ K = 2
      · by_cases hn2 : (m : Int) = 0
        · have hres := HFAIL.out (by simp [headOk]; omega)
          have en : ((m : Int) == 0) = true := by simpa using hn2
          have HRES := Lib.hid hres
          clear hres HFAIL hn2
          rcases hkk with rfl | rfl
          all_goals
            go_wp2
            go_ret2
            rw [HRES.out]
            exact ⟨_, rfl, OwnP.of (l := []) (World.ownsRow_nil _ _ _ _) SegsO.nil_, HR.out.bel⟩
        · have en : ((m : Int) == 0) = false := by simpa using hn2
          by_cases hlen : m * 4 ≤ r.length
          · have hok : headOk 4 (K :: (m : Int) :: r) = true := by simp only [headOk, decide_eq_true_eq]; omega
            have HOK := Lib.hid hok
            have HKK := Lib.hid hkk
            have hd : (K != 1) = false ∨ (K != 1) = true ∧ (K != 2) = false := by
              rcases hkk with rfl | rfl
              · exact .inl rfl
              · exact .inr ⟨rfl, rfl⟩
            have HOW := hide HR.out.own
            have hbr : Bs r := fun x hx => HR.out.hbs x (by simp [hx])
            have hyr : Byts w w.heap.size (some (ad.add 2)) r := by
              have := HR.out.byt.cut (k := 2) (cap := c1) (by simp) hc1
              rw [if_neg (by simp at hc1; omega)] at this
              exact this
            have HBR := hide hbr
            have HYR := hide hyr
            clear hok hkk HFAIL hn2 HKK hbr hyr
            rcases hd with e1 | ⟨e1, e2⟩
            all_goals
              go_wp2_with fail
              have hB5 : (wo.alloc (Obj.cells #[.int .i64 K, .slice none 0 0] 27)).heap[wo.heap.size]? = some (.cells #[.int .i64 K, .slice none 0 0] 27 (0, 0)) := heap_alloc_new _ _
              go_loopw [9] (fun i wi => ∃ j : Nat, j ≤ m ∧ i = .int .i64 j ∧ ∃ sv, wi.heap[wo.heap.size]? = some (.cells #[.int .i64 K, sv] 27 (0, 0)) ∧
                wi.ownsRow (wo.heap.size + 1) 29 1 sv j (uV (readN 4 j r)) ∧ (wo.alloc (Obj.cells #[.int .i64 K, .slice none 0 0] 27)).grownBy wi (some wo.heap.size)) (fun i _ => m - (intOf i).toNat)
              case atStart => exact ⟨0, Nat.zero_le _, rfl, _, hB5, by simpa [uV, readN] using World.ownsRow_nil _ _ _ _, World.grownBy.refl _ _⟩
              case round =>
                obtain ⟨j, hj, rfl, sv, hB, hrow, hgi⟩ := hrel
                have hsw : (wo.alloc (Obj.cells #[.int .i64 K, .slice none 0 0] 27)).heap.size = wo.heap.size + 1 := by simp
                have hwi : wo.heap.size + 1 ≤ wr.heap.size := by have := hgi.size; omega
                have hwi2 : wo.heap.size < wr.heap.size := by omega
                have hold : ∀ p : Addr, p.block < w.heap.size → wr.cell? p = w.cell? p := fun p hp => by
                  rw [hgi.cell_far p (by omega) (by intro e; injection e; omega), World.cell?_alloc_lt _ _ _ (by omega), HR.out.bel.cell hp]
                have cB : wr.cell? ⟨wo.heap.size, 1, none⟩ = some sv := by rw [cell_of_row _ _ 1 _ _ _ hB]; rfl
                by_cases jlt : j < m
                · have hbig : ∀ c' W, (∀ p : Addr, p.block < w.heap.size → W.cell? p = w.cell? p) → w.heap.size ≤ W.heap.size → Calls Tryd.prog 53 #[.slice (some (ad.add (2 + j * 4))) 4 c'] W fun e w' => e = .returned (.int .u32 (bigI ((r.drop (j * 4)).take 4))) ∧ W = w' := fun c' W hW hz => by
                    have hy := (HYR.out.cut (k := j * 4) (cap := r.length + 1) (by omega) (by omega)).take 4 (by rw [List.length_drop]; omega)
                    rw [if_neg (by omega), Option.map_some, add_of_add] at hy
                    have := rbig_any (some (ad.add (2 + j * 4))) c' _ W ((hy.keep hW).more hz) ((HBR.out.drop _).take _) (by rw [List.length_take]; omega)
                    rwa [show ((r.drop (j * 4)).take 4).length = 4 by rw [List.length_take, List.length_drop]; omega] at this
                  have hrs := readN_snoc 4 j r
                  have HRS := Lib.hid hrs
                  have HBIG := hide hbig
                  clear hbig hrs
                  generalize bigI ((r.drop (j * 4)).take 4) = x at *
                  have HB := hide hB
                  have HRW := hide hrow
                  have HGI := hide hgi
                  have HSW := Lib.hid hsw
                  have HOLD := Lib.hid hold
                  have hj0 : (0 : Int) ≤ (j : Int) := Int.natCast_nonneg _
                  have hj1 : (j : Int) < (m : Int) := by omega
                  simp only [List.length_cons] at hc1
                  have i1 : IntKind.i64.wrap ((j : Int) * 4) = (j : Int) * 4 := by rw [IntKind.wrap_i64]; omega
                  have i2 : IntKind.i64.wrap ((j : Int) + 1) = (j : Int) + 1 := by rw [IntKind.wrap_i64]; omega
                  have i3 : IntKind.i64.wrap (((j : Int) + 1) * 4) = ((j : Int) + 1) * 4 := by rw [IntKind.wrap_i64]; omega
                  have i4 : IntKind.i64.wrap (2 + (j : Int) * 4) = 2 + (j : Int) * 4 := by rw [IntKind.wrap_i64]; omega
                  have i5 : IntKind.i64.wrap (2 + ((j : Int) + 1) * 4) = 2 + ((j : Int) + 1) * 4 := by rw [IntKind.wrap_i64]; omega
                  have i6 : 0 ≤ 2 + ((j : Int) + 1) * 4 := by omega
                  have i7 : 2 + ((j : Int) + 1) * 4 ≤ (c1 : Int) := by omega
                  have i8 : 0 ≤ 2 + (j : Int) * 4 := by omega
                  have i9 : 2 + (j : Int) * 4 ≤ max (2 + ((j : Int) + 1) * 4) 0 := by omega
                  have i14 : 2 + (j : Int) * 4 ≤ 2 + (j : Int) * 4 + 4 := by omega
                  have i10 : (2 + (j : Int) * 4).toNat = 2 + j * 4 := by omega
                  have i11 : (2 + ((j : Int) + 1) * 4).toNat = 2 + j * 4 + 4 := by omega
                  have i12 : ¬ c1 = 2 + j * 4 := by omega
                  have i13 : 2 + j * 4 + 4 - (2 + j * 4) = 4 := by omega
                  clear hB hrow hgi hsw hold hB5 k1 k2
                  go_wp2_with fail
                  go_region_law (first
                    | (go_simp; go_at_call 53; refine (HBIG.out _ wr.drew HOLD.out (by show _ ≤ wr.heap.size; omega)).mono ?_; rintro e w2 ⟨rfl, rfl⟩)
                    | (with_reducible refine step_push ?apg (.tmp 67) (.tmp 80) ?apo ?aps ?apx HB.out HRW.out HSW.out HGI.out (by omega) ?_
                       case apg => rfl
                       case apo => rfl
                       case aps => rfl
                       case apx => rfl
                       intro g cap w1 q1 q2 Q3))
                  all_goals
                    go_wp2
                    go_roundw
                    case rel => exact ⟨j + 1, by omega, by go_num, _, Q3.out.1, by rw [HRS.out]; simpa [uV] using Q3.out.2.1, Q3.out.2.2⟩
                    case measure => simp [intOf]; omega
                · have hjm : j = m := by omega
                  subst hjm
                  have hkeep : ∀ b, b < wo.heap.size → wr.heap[b]? = wo.heap[b]? := fun b hb =>
                    (hgi.block b (by omega) (by intro e; injection e; omega)).trans (Below.heap_alloc wo _ b hb)
                  have ho2 : wr.ownsRow w.heap.size 27 2 u6 l.length vs := own_keep HOW.out fun b hb => hkeep b (HOW.out.lt b hb).2
                  have hs2 : SegsO wr w.heap.size vs l := HR.out.segs.keep fun b _ hb => hkeep b hb
                  have hb2 : Below w.heap.size w wr := (HR.out.bel.alloc hwz _).grown hgi (by simp; omega) (fun x hx => by injection hx with e; omega)
                  have c0 : wr.cell? ⟨wo.heap.size, 0, none⟩ = some (.int .i64 K) := by rw [cell_of_row _ _ 0 _ _ _ hB]; rfl
                  have HRW := hide hrow
                  have HO2 := hide ho2
                  have HS2 := hide hs2
                  have HB2 := hide hb2
                  have hlw : l.length ≤ 100000 := by simp at hsum; omega
                  obtain ⟨sA, sc, hsv, _⟩ := slice_of_own hrow
                  have HSV := Lib.hid hsv
                  have hby2 : Byts w w.heap.size (if c1 = 2 + j * 4 then some ad else some (ad.add (2 + j * 4))) (restB 4 (K :: (j : Int) :: r)) := HR.out.byt.cut (k := 2 + j * 4) (cap := c1) (by simp; omega) hc1
                  have hrest : (restB 4 (K :: (j : Int) :: r)).length = r.length + 1 + 1 - (2 + j * 4) := by simp [restB]
                  have HBY2 := hide hby2
                  have HREST := Lib.hid hrest
                  simp only [List.length_cons] at hc1 hsum
                  clear hB hrow hgi hsw hold hB5 k1 k2 hkeep ho2 hs2 hb2 HOW hsv hby2 hrest
                  by_cases hc12 : c1 = 2 + j * 4
                  all_goals
                    go_wp2_with (at_builtin
                                 refine wpList_append_lies _ rfl (.tmp 83) (.tmp 85) _ rfl w.heap.size 27 ig _ 2 32 Tryd.underlying22 hg0 hg1 hg2 hg3 rfl (by omega) u6 l.length vs rfl (HO2.out.alloc _)
                                   ⟨wr.heap.size, 0, none⟩ 1 1 [.int .i64 K, sv] rfl rfl (World.news_of_block (cs := #[.int .i64 K, sv]) (t := 27) (fr := (0, 0)) (heap_alloc_new wr _))
                                   (by rw [HSV.out]; simp [Value.oneCell'])
                                   (by omega) (by simp only [maxLen]; omega) (by omega) (by simp; omega) _ rfl ?_
                                 intro g cap w1 hown1 hgrow hat hltg
                                 have hAll := push_seg (lo := w.heap.size) (l := l) (s := (K, readN 4 j r)) (k := l.length) HO2.out (by rw [List.take_length]; exact HS2.out) (own_base HRW.out (by omega)) ⟨rfl, by rw [readN_len]⟩ hgrow
                                 rw [List.take_length] at hAll
                                 have hb3 : Below w.heap.size w w1 := (HB2.out.alloc HB2.out.size _).grown hgrow (by have := HB2.out.size; simp; omega) (fun x hx => (HO2.out.lt x hx).1)
                                 have Q1 := hide hown1
                                 have Q2 := hide hAll
                                 have Q3 := hide hb3
                                 clear hown1 hgrow hat hAll hb3)
                    go_roundw
                    case rel =>
                      have hrd := rd_step HR.out.rel HOK.out
                      exact ⟨restB 4 (K :: (j : Int) :: r), l ++ [(K, readN 4 j r)], _, _, _, by rw [HREST.out], by rw [HREST.out]; omega, by omega,
                        hide ⟨by simpa using Q1.out, Q2.out, Q3.out, by have h := HBY2.out; first | (rw [if_pos hc12] at h; exact h) | (rw [if_neg hc12] at h; exact h), HR.out.hbs.drop _, by rw [HREST.out]; simp; omega, hrd⟩⟩
                    case measure => simp [lenOf]; omega
          · have hres := HFAIL.out (by simp only [headOk, decide_eq_false_iff_not]; omega)
            have HRES := Lib.hid hres
            clear hres HFAIL hn2
            rcases hkk with rfl | rfl
            all_goals
              go_wp2
              go_ret2
              rw [HRES.out]
              exact ⟨_, rfl, OwnP.of (l := []) (World.ownsRow_nil _ _ _ _) SegsO.nil_, HR.out.bel⟩
      · have hres := HFAIL.out (by simp [headOk]; omega)
        have HRES := Lib.hid hres
        have e1 : (K != 1) = true := by simp; omega
        have e2 : (K != 2) = true := by simp; omega
        clear hres HFAIL hkk
        go_wp2
        go_ret2
        rw [HRES.out]
        exact ⟨_, rfl, OwnP.of (l := []) (World.ownsRow_nil _ _ _ _) SegsO.nil_, HR.out.bel⟩

set_option maxHeartbeats 1000000 in
theorem rread_bad (width : Int) (hw : ¬ (width = 2 ∨ width = 4)) (v : Value) (w : World) :
    Calls Tryd.prog 25 #[.int .i64 width, v] w fun e w' => e = .returned (.tuple #[.slice none 0 0, .bool false]) ∧ w = w' := by
  have e1 : (width != 2) = true := by simp; omega
  have e2 : (width != 4) = true := by simp; omega
  clear hw
  go_enter Tryd.func25, Tryd.ntmps25
  go_wp2
  go_ret2
  exact ⟨rfl, rfl⟩
theorem rread_any (width : Int) (A : Option Addr) (c : Nat) (b : List Int) (w : World) (hby : Byts w w.heap.size A b) (hc : b.length ≤ c) (hcm : c ≤ maxLen) (hl : b.length ≤ 100000) (hbs : Bs b) :
    Calls Tryd.prog 25 #[.int .i64 width, .slice A b.length c] w fun e w' => ∃ v, e = .returned (.tuple #[v, .bool (readP width b).isSome]) ∧ OwnP w.heap.size ((readP width b).getD []) v w' ∧ Below w.heap.size w w' := by
  by_cases hw : width = 2 ∨ width = 4
  · have e : readP width b = rdF width.toNat b := by unfold readP; rw [if_pos hw]
    rw [e]
    rcases hw with rfl | rfl
    · exact rread_2 A c b w hby hc hcm hl hbs
    · exact rread_4 A c b w hby hc hcm hl hbs
  · have e : readP width b = none := by unfold readP; rw [if_neg hw]
    rw [e]
    exact (rread_bad width hw _ w).mono (by rintro e w' ⟨rfl, rfl⟩; exact ⟨_, rfl, OwnP.of (l := []) (World.ownsRow_nil _ _ _ _) SegsO.nil_, Below.refl _ _⟩)
end Go.Proofs.YtceolenmcpndaaaDoor
