/- The reference's Read of a path; at lists of at most 100,000 bytes. -/
import Derived.Test.YtceolenmcpndaaaDoorSegRC
import Derived.Deep.AppendLies
set_option autoImplicit false
namespace Go.Proofs.YtceolenmcpndaaaDoor
open Go.RowKit

set_option maxHeartbeats 1000000 in
theorem rbig_any (A : Option Addr) (c : Nat) (d : List Int) (w : World) (hb : Byts w w.heap.size A d) (hbs : Bs d) (hn : d.length ≤ 4) :
    Calls Tryd.prog 53 #[.slice A d.length c] w fun e w' => e = .returned (.int .u32 (bigI d)) ∧ w = w' := by
  have HB := hide hb
  have hf : bigI (d.take d.length) = bigI d := by rw [List.take_length]
  have HF := Lib.hid hf
  clear hb hf
  go_enter Tryd.func53, Tryd.ntmps53
  go_wp2
  go_loop [3, 4] (fun x i => ∃ j : Nat, j ≤ d.length ∧ i = .int .i64 j ∧ x = .int .u32 (bigI (d.take j))) (fun _ i => d.length - (intOf i).toNat)
  case atStart => exact ⟨0, Nat.zero_le _, rfl, rfl⟩
  case round =>
    obtain ⟨j, hj, rfl, rfl⟩ := hrel
    by_cases hlt : j < d.length
    · obtain ⟨ad, u, rfl, had, hu, hc⟩ := Reads.at_ (k := j) HB.out hlt
      obtain ⟨y, hy, rfl⟩ := bV_get hu
      have hyb := hbs.get hlt
      have hy' : d[j] = y := by rw [List.getElem?_eq_getElem hlt] at hy; injection hy
      rw [hy'] at hyb
      have hs := bigI_succ d j hlt
      rw [hy'] at hs
      have hx0 := (bigI_bd (d.take j) (hbs.take j)).1
      have hx1 : bigI (d.take j) < 16777216 := bigI_lt (d.take j) (hbs.take j) 3 (by rw [List.length_take]; omega)
      have HS := Lib.hid hs
      clear hs hy hy' hu
      generalize bigI (d.take j) = X at *
      go_wp2
      go_roundw
      case rel => exact ⟨j + 1, hlt, by go_num, by rw [HS.out]⟩
      case measure => simp [intOf]; omega
    · go_wp2
      go_ret
      have hjk : j = d.length := by omega
      rw [hjk, HF.out]
      exact ⟨rfl, rfl⟩

theorem OwnP.of' {lo : Nat} {l : List Sg} {v : Value} {vs : List Value} {w : World} (h3 : w.ownsRow lo 27 2 v l.length vs) (h4 : SegsO w lo vs l) : OwnP lo l v w := by
  obtain ⟨A, c, rfl, _⟩ := slice_of_own h3
  exact OwnP.of h3 h4
/-- One more number, as a step of a region. -/
theorem step_push {ops : Array Oper} {o : Oper} {a : Act} {K : Act → World → Prop} {Q : Exit → Act → World → Prop} {E : Prop} (hgd : o.guard = none) (s y : Operand)
    (ho : o.op = .call { callee := .builtin .append, args := #[s, y], argTypes := #[25, 25] }) {w5 wi : World} {B5 j : Nat} {Kv : Value} {sv : Value} {xs : List Value} {x : Int} (hs : a.eval s = sv)
    (hy : a.eval y = .slice (some ⟨wi.heap.size, 0, none⟩) 1 1) (hB : wi.heap[B5]? = some (.cells #[Kv, sv] 27 (0, 0))) (hown : wi.ownsRow (B5 + 1) 29 1 sv j xs)
    (hw5 : w5.heap.size = B5 + 1) (hg : w5.grownBy wi (some B5)) (hj : j ≤ 1000000)
    (h : ∀ g cap w1, w1.cell? ⟨B5, 1, none⟩ = some sv → w1.frozen? ⟨B5, 1, none⟩ = false → Hid ((w1.setCell ⟨B5, 1, none⟩ (.slice (some ⟨g, 0, none⟩) (j + 1) cap)).heap[B5]? = some (.cells #[Kv, .slice (some ⟨g, 0, none⟩) (j + 1) cap] 27 (0, 0)) ∧
      (w1.setCell ⟨B5, 1, none⟩ (.slice (some ⟨g, 0, none⟩) (j + 1) cap)).ownsRow (B5 + 1) 29 1 (.slice (some ⟨g, 0, none⟩) (j + 1) cap) (j + 1) (xs ++ [.int .u32 x]) ∧
      w5.grownBy (w1.setCell ⟨B5, 1, none⟩ (.slice (some ⟨g, 0, none⟩) (j + 1) cap)) (some B5)) → K (a.put o.dst (.slice (some ⟨g, 0, none⟩) (j + 1) cap)) w1) :
    if Region.wanted o (yielded ops a.tmps) = true then Oper.wp Tryd.prog o a ((wi.alloc (Obj.cells #[.int .u32 x] 29)).drew) K Q else E := by
  obtain ⟨iu, hu0, hu1, hu2, hu3⟩ := info_parts u32_info
  have hlt := lt_of_block hB
  refine step_append_lies _ hgd s y _ ho (B5 + 1) 29 iu _ 1 4 Tryd.underlying25 hu0 hu1 hu2 hu3 rfl (by omega) sv j _ hs ((hown.alloc _).drew)
    ⟨wi.heap.size, 0, none⟩ 1 1 [.int .u32 x] hy rfl (World.news_of_block (cs := #[.int .u32 x]) (t := 29) (fr := (0, 0)) (heap_alloc_new wi _)) (by simp [Value.oneCell'])
    (by omega) (by simp only [maxLen]; omega) (by omega) (by show _ ≤ (wi.alloc _).heap.size; simp; omega) _ rfl ?_
  intro g cap w1 hown1 hgrow hat hltg
  obtain ⟨q1, q2, q3⟩ := push_step (o := Obj.cells #[.int .u32 x] 29) hB hown hw5 hg ⟨hgrow.os, hgrow.tape, hgrow.output, hgrow.size, hgrow.block⟩ hown1
  exact h g cap w1 q1 q2 (hide q3)
/-- The state of the reference's loop. -/
structure RR (w W : World) (k : Nat) (b cur : List Int) (l : List Sg) (A1 : Option Addr) (v : Value) (vs : List Value) : Prop where
  own : W.ownsRow w.heap.size 27 2 v l.length vs
  segs : SegsO W w.heap.size vs l
  bel : Below w.heap.size w W
  byt : Byts w w.heap.size A1 cur
  hbs : Bs cur
  sum : l.length + cur.length ≤ b.length
  rel : rdF k b = (rdF k cur).map (l ++ ·)

set_option maxRecDepth 100000 in
set_option maxHeartbeats 8000000 in
theorem rread_2 (A : Option Addr) (c : Nat) (b : List Int) (w : World) (hby : Byts w w.heap.size A b) (hc : b.length ≤ c) (hcm : c ≤ maxLen) (hl : b.length ≤ 100000) (hbs : Bs b) :
    Calls Tryd.prog 25 #[.int .i64 2, .slice A b.length c] w fun e w' => ∃ v, e = .returned (.tuple #[v, .bool (rdF 2 b).isSome]) ∧ OwnP w.heap.size ((rdF 2 b).getD []) v w' ∧ Below w.heap.size w w' := by
  obtain ⟨iu, hu0, hu1, hu2, hu3⟩ := info_parts u32_info
  obtain ⟨ig, hg0, hg1, hg2, hg3⟩ := info_parts seg_info
  have hRR : RR w w 2 b b [] A (.slice none 0 0) [] := ⟨World.ownsRow_nil _ _ _ _, SegsO.nil_, Below.refl _ _, hby, hbs, by simp, rd_start 2 b⟩
  have HRR := hide hRR
  clear hRR hby hbs
  go_enter Tryd.func25, Tryd.ntmps25
  go_wp2_with fail
  go_loopw [1, 6] (fun bv v wi => ∃ cur l A1 c1 vs, bv = .slice A1 cur.length c1 ∧ cur.length ≤ c1 ∧ c1 ≤ maxLen ∧ Hid (RR w wi 2 b cur l A1 v vs)) (fun bv _ _ => lenOf bv)
  case atStart => exact ⟨_, _, _, _, _, rfl, hc, hcm, HRR⟩
  case round =>
    obtain ⟨cur, l, A1, c1, vs, rfl, hc1, hcm1, HR⟩ := hrel
    obtain ⟨wo, rfl⟩ : ∃ wo : World, wo = wr := ⟨_, rfl⟩
    have hsum := HR.out.sum
    rcases cur with _ | ⟨K, _ | ⟨n, r⟩⟩
    · have hres := rd_end HR.out.rel
      have HRES := Lib.hid hres
      have HGD := hide (OwnP.of' HR.out.own HR.out.segs)
      clear hres
      go_wp2
      go_ret2
      rw [HRES.out]
      exact ⟨_, rfl, HGD.out, HR.out.bel⟩
    · have hres := rd_fail HR.out.rel (by simp) rfl
      have HRES := Lib.hid hres
      clear hres
      go_wp2
      go_ret2
      rw [HRES.out]
      exact ⟨_, rfl, OwnP.of (l := []) (World.ownsRow_nil _ _ _ _) SegsO.nil_, HR.out.bel⟩
    · have hKb := HR.out.hbs K (by simp)
      have hnb := HR.out.hbs n (by simp)
      have hK0 := hKb.1
      have hK1 := hKb.2
      have hn0 := hnb.1
      have hn1 := hnb.2
      obtain ⟨m, rfl⟩ : ∃ m : Nat, n = (m : Int) := ⟨n.toNat, by omega⟩
      have hwz := HR.out.bel.size
      obtain ⟨ad, rfl, hab, hcells⟩ := HR.out.byt.2 (by simp)
      have hab2 : ad.block < wo.heap.size := by omega
      have k1 : wo.cell? ⟨ad.block, ad.off + 1, none⟩ = some (.int .u8 m) := (HR.out.bel.cell (p := ad.add 1) (by rw [block_of_add]; exact hab)).trans (hcells 1 _ (by simp [bV]))
      have k2 : wo.cell? ad = some (.int .u8 K) := (HR.out.bel.cell (p := ad.add 0) (by rw [block_of_add]; exact hab)).trans (hcells 0 _ (by simp [bV]))
      have hfail : headOk 2 (K :: (m : Int) :: r) = false → rdF 2 b = none := fun h => rd_fail HR.out.rel (by simp) h
      have HFAIL := Lib.hid hfail
      clear hfail hcells hKb hnb
      by_cases hkk : K = 1 ∨ K = 2
      · by_cases hn2 : (m : Int) = 0
        · have hres := HFAIL.out (by simp [headOk]; omega)
          have en : ((m : Int) == 0) = true := by simpa using hn2
          have HRES := Lib.hid hres
          clear hres HFAIL hn2
          rcases hkk with rfl | rfl
          all_goals
            go_wp2
            go_ret2
            rw [HRES.out]
            exact ⟨_, rfl, OwnP.of (l := []) (World.ownsRow_nil _ _ _ _) SegsO.nil_, HR.out.bel⟩
        · have en : ((m : Int) == 0) = false := by simpa using hn2
          by_cases hlen : m * 2 ≤ r.length
          · have hok : headOk 2 (K :: (m : Int) :: r) = true := by simp only [headOk, decide_eq_true_eq]; omega
            have HOK := Lib.hid hok
            have HKK := Lib.hid hkk
            have hd : (K != 1) = false ∨ (K != 1) = true ∧ (K != 2) = false := by
              rcases hkk with rfl | rfl
              · exact .inl rfl
              · exact .inr ⟨rfl, rfl⟩
            have HOW := hide HR.out.own
            have hbr : Bs r := fun x hx => HR.out.hbs x (by simp [hx])
            have hyr : Byts w w.heap.size (some (ad.add 2)) r := by
              have := HR.out.byt.cut (k := 2) (cap := c1) (by simp) hc1
              rw [if_neg (by simp at hc1; omega)] at this
              exact this
            have HBR := hide hbr
            have HYR := hide hyr
            clear hok hkk HFAIL hn2 HKK hbr hyr
            rcases hd with e1 | ⟨e1, e2⟩
            all_goals
              go_wp2_with fail
              have hB5 : (wo.alloc (Obj.cells #[.int .i64 K, .slice none 0 0] 27)).heap[wo.heap.size]? = some (.cells #[.int .i64 K, .slice none 0 0] 27 (0, 0)) := heap_alloc_new _ _
              go_loopw [9] (fun i wi => ∃ j : Nat, j ≤ m ∧ i = .int .i64 j ∧ ∃ sv, wi.heap[wo.heap.size]? = some (.cells #[.int .i64 K, sv] 27 (0, 0)) ∧
                wi.ownsRow (wo.heap.size + 1) 29 1 sv j (uV (readN 2 j r)) ∧ (wo.alloc (Obj.cells #[.int .i64 K, .slice none 0 0] 27)).grownBy wi (some wo.heap.size)) (fun i _ => m - (intOf i).toNat)
              case atStart => exact ⟨0, Nat.zero_le _, rfl, _, hB5, by simpa [uV, readN] using World.ownsRow_nil _ _ _ _, World.grownBy.refl _ _⟩
              case round =>
                obtain ⟨j, hj, rfl, sv, hB, hrow, hgi⟩ := hrel
                have hsw : (wo.alloc (Obj.cells #[.int .i64 K, .slice none 0 0] 27)).heap.size = wo.heap.size + 1 := by simp
                have hwi : wo.heap.size + 1 ≤ wr.heap.size := by have := hgi.size; omega
                have hwi2 : wo.heap.size < wr.heap.size := by omega
                have hold : ∀ p : Addr, p.block < w.heap.size → wr.cell? p = w.cell? p := fun p hp => by
                  rw [hgi.cell_far p (by omega) (by intro e; injection e; omega), World.cell?_alloc_lt _ _ _ (by omega), HR.out.bel.cell hp]
                have cB : wr.cell? ⟨wo.heap.size, 1, none⟩ = some sv := by rw [cell_of_row _ _ 1 _ _ _ hB]; rfl
                by_cases jlt : j < m
                · have hbig : ∀ c' W, (∀ p : Addr, p.block < w.heap.size → W.cell? p = w.cell? p) → w.heap.size ≤ W.heap.size → Calls Tryd.prog 53 #[.slice (some (ad.add (2 + j * 2))) 2 c'] W fun e w' => e = .returned (.int .u32 (bigI ((r.drop (j * 2)).take 2))) ∧ W = w' := fun c' W hW hz => by
                    have hy := (HYR.out.cut (k := j * 2) (cap := r.length + 1) (by omega) (by omega)).take 2 (by rw [List.length_drop]; omega)
                    rw [if_neg (by omega), Option.map_some, add_of_add] at hy
                    have := rbig_any (some (ad.add (2 + j * 2))) c' _ W ((hy.keep hW).more hz) ((HBR.out.drop _).take _) (by rw [List.length_take]; omega)
                    rwa [show ((r.drop (j * 2)).take 2).length = 2 by rw [List.length_take, List.length_drop]; omega] at this
                  have hrs := readN_snoc 2 j r
                  have HRS := Lib.hid hrs
                  have HBIG := hide hbig
                  clear hbig hrs
                  generalize bigI ((r.drop (j * 2)).take 2) = x at *
                  have HB := hide hB
                  have HRW := hide hrow
                  have HGI := hide hgi
                  have HSW := Lib.hid hsw
                  have HOLD := Lib.hid hold
                  have hj0 : (0 : Int) ≤ (j : Int) := Int.natCast_nonneg _
                  have hj1 : (j : Int) < (m : Int) := by omega
                  simp only [List.length_cons] at hc1
                  have i1 : IntKind.i64.wrap ((j : Int) * 2) = (j : Int) * 2 := by rw [IntKind.wrap_i64]; omega
                  have i2 : IntKind.i64.wrap ((j : Int) + 1) = (j : Int) + 1 := by rw [IntKind.wrap_i64]; omega
                  have i3 : IntKind.i64.wrap (((j : Int) + 1) * 2) = ((j : Int) + 1) * 2 := by rw [IntKind.wrap_i64]; omega
                  have i4 : IntKind.i64.wrap (2 + (j : Int) * 2) = 2 + (j : Int) * 2 := by rw [IntKind.wrap_i64]; omega
                  have i5 : IntKind.i64.wrap (2 + ((j : Int) + 1) * 2) = 2 + ((j : Int) + 1) * 2 := by rw [IntKind.wrap_i64]; omega
                  have i6 : 0 ≤ 2 + ((j : Int) + 1) * 2 := by omega
                  have i7 : 2 + ((j : Int) + 1) * 2 ≤ (c1 : Int) := by omega
                  have i8 : 0 ≤ 2 + (j : Int) * 2 := by omega
                  have i9 : 2 + (j : Int) * 2 ≤ max (2 + ((j : Int) + 1) * 2) 0 := by omega
                  have i14 : 2 + (j : Int) * 2 ≤ 2 + (j : Int) * 2 + 2 := by omega
                  have i10 : (2 + (j : Int) * 2).toNat = 2 + j * 2 := by omega
                  have i11 : (2 + ((j : Int) + 1) * 2).toNat = 2 + j * 2 + 2 := by omega
                  have i12 : ¬ c1 = 2 + j * 2 := by omega
                  have i13 : 2 + j * 2 + 2 - (2 + j * 2) = 2 := by omega
                  clear hB hrow hgi hsw hold hB5 k1 k2
                  go_wp2_with fail
                  go_region_law (first
                    | (go_simp; go_at_call 53; refine (HBIG.out _ wr.drew HOLD.out (by show _ ≤ wr.heap.size; omega)).mono ?_; rintro e w2 ⟨rfl, rfl⟩)
                    | (with_reducible refine step_push ?apg (.tmp 67) (.tmp 80) ?apo ?aps ?apx HB.out HRW.out HSW.out HGI.out (by omega) ?_
                       case apg => rfl
                       case apo => rfl
                       case aps => rfl
                       case apx => rfl
                       intro g cap w1 q1 q2 Q3))
                  all_goals
                    go_wp2
                    go_roundw
                    case rel => exact ⟨j + 1, by omega, by go_num, _, Q3.out.1, by rw [HRS.out]; simpa [uV] using Q3.out.2.1, Q3.out.2.2⟩
                    case measure => simp [intOf]; omega
                · have hjm : j = m := by omega
                  subst hjm
                  have hkeep : ∀ b, b < wo.heap.size → wr.heap[b]? = wo.heap[b]? := fun b hb =>
                    (hgi.block b (by omega) (by intro e; injection e; omega)).trans (Below.heap_alloc wo _ b hb)
                  have ho2 : wr.ownsRow w.heap.size 27 2 u6 l.length vs := own_keep HOW.out fun b hb => hkeep b (HOW.out.lt b hb).2
                  have hs2 : SegsO wr w.heap.size vs l := HR.out.segs.keep fun b _ hb => hkeep b hb
                  have hb2 : Below w.heap.size w wr := (HR.out.bel.alloc hwz _).grown hgi (by simp; omega) (fun x hx => by injection hx with e; omega)
                  have c0 : wr.cell? ⟨wo.heap.size, 0, none⟩ = some (.int .i64 K) := by rw [cell_of_row _ _ 0 _ _ _ hB]; rfl
                  have HRW := hide hrow
                  have HO2 := hide ho2
                  have HS2 := hide hs2
                  have HB2 := hide hb2
                  have hlw : l.length ≤ 100000 := by simp at hsum; omega
                  obtain ⟨sA, sc, hsv, _⟩ := slice_of_own hrow
                  have HSV := Lib.hid hsv
                  have hby2 : Byts w w.heap.size (if c1 = 2 + j * 2 then some ad else some (ad.add (2 + j * 2))) (restB 2 (K :: (j : Int) :: r)) := HR.out.byt.cut (k := 2 + j * 2) (cap := c1) (by simp; omega) hc1
                  have hrest : (restB 2 (K :: (j : Int) :: r)).length = r.length + 1 + 1 - (2 + j * 2) := by simp [restB]
                  have HBY2 := hide hby2
                  have HREST := Lib.hid hrest
                  simp only [List.length_cons] at hc1 hsum
                  clear hB hrow hgi hsw hold hB5 k1 k2 hkeep ho2 hs2 hb2 HOW hsv hby2 hrest
                  by_cases hc12 : c1 = 2 + j * 2
                  all_goals
                    go_wp2_with (at_builtin
                                 refine wpList_append_lies _ rfl (.tmp 83) (.tmp 85) _ rfl w.heap.size 27 ig _ 2 32 Tryd.underlying22 hg0 hg1 hg2 hg3 rfl (by omega) u6 l.length vs rfl (HO2.out.alloc _)
                                   ⟨wr.heap.size, 0, none⟩ 1 1 [.int .i64 K, sv] rfl rfl (World.news_of_block (cs := #[.int .i64 K, sv]) (t := 27) (fr := (0, 0)) (heap_alloc_new wr _))
                                   (by rw [HSV.out]; simp [Value.oneCell'])
                                   (by omega) (by simp only [maxLen]; omega) (by omega) (by simp; omega) _ rfl ?_
                                 intro g cap w1 hown1 hgrow hat hltg
                                 have hAll := push_seg (lo := w.heap.size) (l := l) (s := (K, readN 2 j r)) (k := l.length) HO2.out (by rw [List.take_length]; exact HS2.out) (own_base HRW.out (by omega)) ⟨rfl, by rw [readN_len]⟩ hgrow
                                 rw [List.take_length] at hAll
                                 have hb3 : Below w.heap.size w w1 := (HB2.out.alloc HB2.out.size _).grown hgrow (by have := HB2.out.size; simp; omega) (fun x hx => (HO2.out.lt x hx).1)
                                 have Q1 := hide hown1
                                 have Q2 := hide hAll
                                 have Q3 := hide hb3
                                 clear hown1 hgrow hat hAll hb3)
                    go_roundw
                    case rel =>
                      have hrd := rd_step HR.out.rel HOK.out
                      exact ⟨restB 2 (K :: (j : Int) :: r), l ++ [(K, readN 2 j r)], _, _, _, by rw [HREST.out], by rw [HREST.out]; omega, by omega,
                        hide ⟨by simpa using Q1.out, Q2.out, Q3.out, by have h := HBY2.out; first | (rw [if_pos hc12] at h; exact h) | (rw [if_neg hc12] at h; exact h), HR.out.hbs.drop _, by rw [HREST.out]; simp; omega, hrd⟩⟩
                    case measure => simp [lenOf]; omega
          · have hres := HFAIL.out (by simp only [headOk, decide_eq_false_iff_not]; omega)
            have HRES := Lib.hid hres
            clear hres HFAIL hn2
            rcases hkk with rfl | rfl
            all_goals
              go_wp2
              go_ret2
              rw [HRES.out]
              exact ⟨_, rfl, OwnP.of (l := []) (World.ownsRow_nil _ _ _ _) SegsO.nil_, HR.out.bel⟩
      · have hres := HFAIL.out (by simp [headOk]; omega)
        have HRES := Lib.hid hres
        have e1 : (K != 1) = true := by simp; omega
        have e2 : (K != 2) = true := by simp; omega
        clear hres HFAIL hkk
        go_wp2
        go_ret2
        rw [HRES.out]
        exact ⟨_, rfl, OwnP.of (l := []) (World.ownsRow_nil _ _ _ _) SegsO.nil_, HR.out.bel⟩
end Go.Proofs.YtceolenmcpndaaaDoor
