/- merge.copied, merge.Head, merge.all; peerageref21.Head: the beginning of a path, as a Lean function. -/
import Derived.Test.YtceolenmcpndaaaDoorLen
import Derived.Test.YtceolenmcpndaaaDoorSegC
import Derived.Test.YtceolenmcpndaaaDoorAlive
set_option autoImplicit false
namespace Go.Proofs.YtceolenmcpndaaaDoor
open Go.RowKit

theorem Reads.take_ {w : World} {B n k : Nat} {A : Option Addr} {xs : List Value} (h : Reads w B 1 A n xs) (hk : k ≤ n) : Reads w B 1 A k (xs.take k) := by
  refine ⟨by rw [List.length_take, h.1]; omega, fun hk0 => ?_⟩
  obtain ⟨ad, e, hb, hc⟩ := h.2 (by omega)
  exact ⟨ad, e, hb, fun j u hu => hc j u (by
    have hj : j < k := by have := (List.getElem?_eq_some_iff.1 hu).1; rw [List.length_take] at this; omega
    rw [List.getElem?_take_of_lt hj] at hu; exact hu)⟩
theorem uV_take (l : List Int) (n : Nat) : uV (l.take n) = (uV l).take n := by simp [uV, List.map_take]

set_option maxRecDepth 100000 in
set_option maxHeartbeats 4000000 in
theorem copied_any (K : Int) (A : Option Addr) (c n : Nat) (ns : List Int) (w : World) (h : Reads w w.heap.size 1 A ns.length (uV ns)) (hn : n ≤ ns.length) (hc : ns.length ≤ c) (hl : ns.length ≤ 100000) :
    Calls Tryd.prog 62 #[.agg #[.int .i64 K, .slice A ns.length c], .int .i64 n] w fun e w' => ∃ A' c', e = .returned (.agg #[.int .i64 K, .slice A' n c']) ∧
      w'.ownsRow w.heap.size 29 1 (.slice A' n c') n (uV (ns.take n)) ∧ Below w.heap.size w w' := by
  go_enter Tryd.func62, Tryd.ntmps62
  go_wp2_with fail
  obtain ⟨w2, hw2⟩ : ∃ w2, w2 = (w.alloc (Obj.cells #[.int .i64 K, .slice A ns.length c] 27)).alloc (Obj.cells #[.int .i64 0, .slice none 0 0] 27) := ⟨_, rfl⟩
  have hB0 : w2.heap[w.heap.size]? = some (.cells #[.int .i64 K, .slice A ns.length c] 27 (0, 0)) := by
    rw [hw2, Below.heap_alloc _ _ _ (by simp), heap_alloc_new]
  have hB1 : w2.heap[w.heap.size + 1]? = some (.cells #[.int .i64 0, .slice none 0 0] 27 (0, 0)) := by
    rw [hw2]
    have := heap_alloc_new (w.alloc (Obj.cells #[.int .i64 K, .slice A ns.length c] 27)) (.cells #[.int .i64 0, .slice none 0 0] 27)
    rw [World.size_alloc] at this; exact this
  have hz2 : w2.heap.size = w.heap.size + 2 := by rw [hw2]; simp
  have hb2 : Below w.heap.size w w2 := by rw [hw2]; exact ((Below.refl _ _).alloc (Nat.le_refl _) _).alloc (by simp) _
  rw [← hw2]
  clear hw2
  have hlen : (ns.take n).length = n := by rw [List.length_take]; omega
  have hcl := cloneU_any A c (ns.take n) w2.drew (by
    rw [hlen, uV_take]
    exact ((h.take_ hn).below hb2).more (by show w.heap.size ≤ w2.heap.size; omega)) (by omega)
  rw [hlen] at hcl
  have HCL := hide hcl
  have c00 : w2.cell? ⟨w.heap.size, 0, none⟩ = some (.int .i64 K) := by rw [cell_of_row _ _ 0 _ _ _ hB0]; rfl
  have c01 : w2.cell? ⟨w.heap.size, 1, none⟩ = some (.slice A ns.length c) := by rw [cell_of_row _ _ 1 _ _ _ hB0]; rfl
  have hlt0 : w.heap.size < w2.heap.size := by omega
  have hlt1 : w.heap.size + 1 < w2.heap.size := by omega
  have hn0 : (0 : Int) ≤ (n : Int) := Int.natCast_nonneg _
  have hn1 : (n : Int) ≤ (c : Int) := by omega
  have H0 := hide hB0
  have H1 := hide hB1
  have HB2 := hide hb2
  clear hcl h hB0 hB1 hb2
  go_region_law (first
    | (go_simp; go_at_call 12; refine HCL.out.mono ?_; rintro e w6 ⟨A2, c2, rfl, h2c, h2m, hown2, hb6⟩
       have hb6' : Below w2.heap.size w2 w6 := ⟨hb6.os, hb6.tape, hb6.output, hb6.size, hb6.block⟩
       have c60 : w6.cell? ⟨w.heap.size, 0, none⟩ = some (.int .i64 K) := (hb6'.cell (p := ⟨w.heap.size, _, none⟩) hlt0).trans c00
       have hB6 := (hb6'.block (w.heap.size + 1) hlt1).trans H1.out
       have c61 : w6.cell? ⟨w.heap.size + 1, 0, none⟩ = some (.int .i64 0) := by rw [cell_of_row _ _ 0 _ _ _ hB6]; rfl
       have c62 : w6.cell? ⟨w.heap.size + 1, 1, none⟩ = some (.slice none 0 0) := by rw [cell_of_row _ _ 1 _ _ _ hB6]; rfl
       have f61 : w6.frozen? ⟨w.heap.size + 1, 0, none⟩ = false := frozen_of_row _ _ 0 _ _ hB6
       have f62 : w6.frozen? ⟨w.heap.size + 1, 1, none⟩ = false := frozen_of_row _ _ 1 _ _ hB6
       have Q1 := hide hown2
       have Q2 := hide hb6'
       have Q6 := hide hB6
       clear hown2 hb6 hb6' hB6)
    | fail)
  all_goals
    obtain ⟨w7, hw7⟩ : ∃ w7, w7 = (w6.setCell { block := w.heap.size + 1, off := 0 } (Value.int IntKind.i64 K)).setCell { block := w.heap.size + 1, off := 1 } (Value.slice A2 n c2) := ⟨_, rfl⟩
    rw [← hw7]
    have hb7 : Below w.heap.size w w7 := by
      rw [hw7]
      exact ((HB2.out.trans (Q2.out.mono HB2.out.size)).setCell (by simp) _).setCell (by simp) _
    have hlo : w.heap.size + 1 < w2.drew.heap.size := hlt1
    have hown7 : w7.ownsRow w.heap.size 29 1 (.slice A2 n c2) n (uV (ns.take n)) := by
      rw [hw7]
      exact own_base (own_keep Q1.out fun b hb => by
        have := (Q1.out.lt b hb).1
        rw [Below.heap_setCell _ _ _ b (by simp; omega), Below.heap_setCell _ _ _ b (by simp; omega)]) (by omega)
    have hB7 : w7.heap[w.heap.size + 1]? = some (.cells #[.int .i64 K, .slice A2 n c2] 27 (0, 0)) := by
      have h8 := heap_setCell_same w6 (w.heap.size + 1) 0 _ _ (Value.int IntKind.i64 K) Q6.out
      have h9 := heap_setCell_same (w6.setCell { block := w.heap.size + 1, off := 0 } (Value.int IntKind.i64 K)) (w.heap.size + 1) 1 _ _ (Value.slice A2 n c2) h8
      rw [hw7, h9]; rfl
    have c70 : w7.cell? ⟨w.heap.size + 1, 0, none⟩ = some (.int .i64 K) := by rw [cell_of_row _ _ 0 _ _ _ hB7]; rfl
    have c71 : w7.cell? ⟨w.heap.size + 1, 1, none⟩ = some (.slice A2 n c2) := by rw [cell_of_row _ _ 1 _ _ _ hB7]; rfl
    have R1 := hide hb7
    have R2 := hide hown7
    clear hw7 hb7 hown7 hB7 c60 c61 c62 f61 f62 c00 c01
    go_wp2
    refine bodyPost_ret (v := .agg #[.int .i64 K, .slice A2 n c2]) (by simp [results, Tryd.results62, go_sem, c70, c71]) rfl ?_
    exact ⟨A2, c2, rfl, R2.out, R1.out⟩

def headF : Int → List Sg → List Sg
  | _, [] => []
  | n, s :: r => if segLen s ≤ n then s :: headF (n - segLen s) r else if 0 < n ∧ s.1 = 2 then [(2, s.2.take n.toNat)] else []
theorem segLen_nn (s : Sg) : 0 ≤ segLen s := by unfold segLen; split <;> try split
                                                all_goals omega
theorem segLen_le (s : Sg) (M : Nat) (h1 : 1 ≤ M) (h : s.2.length ≤ M) : segLen s ≤ M := by unfold segLen; split <;> try split
                                                                                            all_goals omega
theorem lenF_one (s : Sg) : lenF [s] = segLen s := by simp [lenF]

set_option maxRecDepth 100000 in
set_option maxHeartbeats 8000000 in
theorem head_any (n : Int) (A : Option Addr) (c : Nat) (l : List Sg) (w : World) (h : Path w w.heap.size A l) (hl : l.length ≤ 1000) (hm : ∀ s ∈ l, s.2.length ≤ 100000) (hn0 : -9223372036854775808 ≤ n) (hn1 : n ≤ 9223372036854775807) :
    Calls Tryd.prog 30 #[.int .i64 n, .slice A l.length c] w fun e w' => ∃ A' c' vs, e = .returned (.slice A' (headF n l).length c') ∧
      w'.ownsRow w.heap.size 27 2 (.slice A' (headF n l).length c') (headF n l).length vs ∧ SegsO w' w.heap.size vs (headF n l) ∧ Below w.heap.size w w' := by
  obtain ⟨ig, hg0, hg1, hg2, hg3⟩ := info_parts seg_info
  go_enter Tryd.func30, Tryd.ntmps30
  go_wp2_with fail
  go_step3
  go_wp2_with fail
  go_step3
  go_wp2_with fail
  go_loopw [0, 5, 11] (fun vn v i wr => ∃ k : Nat, k ≤ l.length ∧ i = .int .i64 k ∧ ∃ m : Int, vn = .int .i64 m ∧ -9223372036854775808 ≤ m ∧ m ≤ 9223372036854775807 ∧ headF n l = l.take k ++ headF m (l.drop k) ∧
      ∃ vs, wr.ownsRow w.heap.size 27 2 v k vs ∧ SegsO wr w.heap.size vs (l.take k) ∧ Below w.heap.size w wr) (fun _ _ i _ => l.length - (intOf i).toNat)
  case atStart => exact ⟨0, Nat.zero_le _, rfl, n, rfl, hn0, hn1, by simp, [], World.ownsRow_nil _ _ _ _, SegsO.nil_, Below.refl _ _⟩
  case round =>
    obtain ⟨k, hk, rfl, m, rfl, hm0, hm1, hhd, vs, hown, hseg, hbel⟩ := hrel
    obtain ⟨wo, rfl⟩ : ∃ wo : World, wo = wr := ⟨_, rfl⟩
    by_cases hlt : k < l.length
    · obtain ⟨ad, A', c', rfl, had, hc0, hc1, hbk, f2, f3, f4⟩ := (h.below hbel).at_ hlt
      have hmk := hm l[k] (List.getElem_mem hlt)
      have hk0 : (0 : Int) ≤ (k : Int) := Int.natCast_nonneg _
      have hk1 : (k : Int) < (l.length : Int) := by omega
      have hwz := hbel.size
      have hbko : (ad.add (k * 2)).block < wo.heap.size := by omega
      have htake : l.take (k + 1) = l.take k ++ [l[k]] := List.take_succ_eq_append_getElem hlt
      have hdrop : l.drop k = l[k] :: l.drop (k + 1) := List.drop_eq_getElem_cons hlt
      rw [hdrop] at hhd
      obtain ⟨q, hq⟩ : ∃ q, q = segLen l[k] := ⟨_, rfl⟩
      have hq0 : 0 ≤ q := by rw [hq]; exact segLen_nn _
      have hq1 : q ≤ 100000 := by rw [hq]; exact segLen_le _ 100000 (by omega) hmk
      obtain ⟨w5, hw5⟩ : ∃ w5, w5 = (wo.alloc (Obj.cells #[.int .i64 l[k].1, .slice A' l[k].2.length c'] 27)).alloc (Obj.cells #[.int .i64 l[k].1, .slice A' l[k].2.length c'] 27) := ⟨_, rfl⟩
      have hB5 : w5.heap[wo.heap.size]? = some (.cells #[.int .i64 l[k].1, .slice A' l[k].2.length c'] 27 (0, 0)) := by
        rw [hw5, Below.heap_alloc _ _ _ (by simp), heap_alloc_new]
      have hB6 : w5.heap[wo.heap.size + 1]? = some (.cells #[.int .i64 l[k].1, .slice A' l[k].2.length c'] 27 (0, 0)) := by
        rw [hw5]
        have := heap_alloc_new (wo.alloc (Obj.cells #[.int .i64 l[k].1, .slice A' l[k].2.length c'] 27)) (.cells #[.int .i64 l[k].1, .slice A' l[k].2.length c'] 27)
        rw [World.size_alloc] at this; exact this
      have hsw : w5.heap.size = wo.heap.size + 2 := by rw [hw5]; simp
      have hbo5 : Below wo.heap.size wo w5 := by rw [hw5]; exact ((Below.refl _ _).alloc (Nat.le_refl _) _).alloc (by simp) _
      have hln := length_any (some ⟨wo.heap.size + 1, 0, none⟩) 1 [l[k]] w5 (path_lit [.int .i64 l[k].1, .slice A' l[k].2.length c'] [l[k]] hB6 (by omega)
        (segs_one ⟨rfl, A', c', rfl, f2, f3, (f4.below (hbo5.mono hwz)).more (by omega)⟩)) (by simp) (by simpa using hmk)
      rw [lenF_one, ← hq] at hln
      have HLN := hide hln
      have HTK := Lib.hid htake
      have HHD := Lib.hid hhd
      have HQ := Lib.hid hq
      have HOWN := hide hown
      have HSEG := hide hseg
      have HBEL := hide hbel
      have HF4 := hide f4
      have HH := hide h
      have HM := hide hm
      have HB5 := hide hB5
      have HO5 := hide hbo5
      clear h hm hown hseg hbel f4 htake hdrop hhd hln hq hB5 hB6 hbo5
      go_wp2_with fail
      rw [← hw5]
      clear hw5
      refine HLN.out.mono ?_
      rintro e w6 ⟨rfl, hb6⟩
      have hz6 := hb6.size
      have hbo6 : Below wo.heap.size wo w6 := HO5.out.trans (hb6.mono (by omega))
      have hB6 : w6.heap[wo.heap.size]? = some (.cells #[.int .i64 l[k].1, .slice A' l[k].2.length c'] 27 (0, 0)) := (hb6.block _ (by omega)).trans HB5.out
      have hlt6 : wo.heap.size < w6.heap.size := by omega
      have c60 : w6.cell? ⟨wo.heap.size, 0, none⟩ = some (.int .i64 l[k].1) := by rw [cell_of_row _ _ 0 _ _ _ hB6]; rfl
      have c61 : w6.cell? ⟨wo.heap.size, 1, none⟩ = some (.slice A' l[k].2.length c') := by rw [cell_of_row _ _ 1 _ _ _ hB6]; rfl
      have HBO6 := hide hbo6
      have hrd := (HF4.out.below (hbo6.mono hwz)).more (by omega : w.heap.size ≤ w6.heap.size)
      have hr6 : w6.ownsRow w.heap.size 27 2 u5 k vs := own_keep HOWN.out fun b hb => hbo6.block b (HOWN.out.lt b hb).2
      have hs6 : SegsO w6 w.heap.size vs (l.take k) := HSEG.out.keep fun b _ hb => hbo6.block b hb
      have hb6b : Below w.heap.size w w6 := HBEL.out.trans (hbo6.mono hwz)
      have hwz6 := hb6b.size
      have HRD := hide hrd
      have HR6 := hide hr6
      have HS6 := hide hs6
      have HB6 := hide hb6b
      clear hb6 hbo6 hB6 HB5 HO5 hc0 hc1 HLN hrd hr6 hs6 hb6b HOWN HSEG HBEL HF4
      by_cases hle : q ≤ m
      · have hcp := copied_any l[k].1 A' c' l[k].2.length l[k].2 w6 HRD.out (Nat.le_refl _) f2 hmk
        rw [List.take_length] at hcp
        have HCP := hide hcp
        clear hcp
        go_wp2_with fail
        refine HCP.out.mono ?_
        rintro e w7 ⟨A2, c2, rfl, hown7, hb7⟩
        have hz7 := hb7.size
        have hr7 : w7.ownsRow w.heap.size 27 2 u5 k vs := own_keep HR6.out fun b hb => hb7.block b (HR6.out.lt b hb).2
        have hs7 : SegsO w7 w.heap.size vs (l.take k) := HS6.out.keep fun b _ hb => hb7.block b hb
        have hb7b : Below w.heap.size w w7 := HB6.out.trans (hb7.mono hwz6)
        have HR7 := hide hr7
        have HS7 := hide hs7
        have HB7 := hide hb7b
        have HN7 := hide (own_base hown7 hwz6)
        clear hown7 hb7 hr7 hs7 hb7b HR6 HS6 HB6 HBO6 HCP HRD c60 c61
        go_wp2_with (at_builtin
                     refine wpList_append_lies _ rfl (.tmp 22) (.tmp 28) _ rfl w.heap.size 27 ig _ 2 32 Tryd.underlying22 hg0 hg1 hg2 hg3 rfl (by omega) u5 k vs rfl (HR7.out.alloc _)
                       ⟨w7.heap.size, 0, none⟩ 1 1 [.int .i64 l[k].1, .slice A2 l[k].2.length c2] rfl rfl (World.news_of_block (cs := #[.int .i64 l[k].1, .slice A2 l[k].2.length c2]) (t := 27) (fr := (0, 0)) (heap_alloc_new w7 _))
                       (by simp [Value.oneCell'])
                       (by omega) (by simp only [maxLen]; omega) (by omega) (by simp; omega) _ rfl ?_
                     intro g cap w8 hown8 hgrow hat hltg
                     have hAll := push_seg (lo := w.heap.size) (l := l) (s := l[k]) (k := k) HR7.out HS7.out HN7.out ⟨rfl, rfl⟩ hgrow
                     have hb8 : Below w.heap.size w w8 := (HB7.out.alloc HB7.out.size _).grown hgrow (by have := HB7.out.size; simp; omega) (fun x hx => (HR7.out.lt x hx).1)
                     have Q1 := hide hown8
                     have Q2 := hide hAll
                     have Q3 := hide hb8
                     clear hown8 hgrow hat hAll hb8)
        go_roundw
        case rel =>
          refine ⟨k + 1, by omega, by go_num, m - q, by go_num, by omega, by omega, ?_, _, Q1.out, by rw [HTK.out]; exact Q2.out, Q3.out⟩
          rw [HHD.out, HTK.out, headF, if_pos (by rw [← HQ.out]; exact hle), ← HQ.out, List.append_assoc]; rfl
        case measure => simp [intOf]; omega
      · have hgt : m < q := by omega
        by_cases hpos : 0 < m
        · have hK : l[k].1 = 2 := by
            have := HQ.out
            unfold segLen at this
            by_cases h2 : l[k].1 = 2
            · exact h2
            · split at this
              · omega
              · first | omega | (rw [if_neg h2] at this; omega)
          have hql : q = l[k].2.length := by rw [HQ.out, segLen, if_neg (by omega), if_pos hK]
          obtain ⟨mt, rfl⟩ : ∃ mt : Nat, m = mt := ⟨m.toNat, by omega⟩
          have hmt : mt ≤ l[k].2.length := by omega
          have hlen : (l[k].2.take mt).length = mt := by rw [List.length_take]; omega
          have hfin : headF n l = l.take k ++ [((2 : Int), l[k].2.take mt)] := by
            rw [HHD.out, headF, if_neg (by rw [← HQ.out]; omega), if_pos ⟨hpos, hK⟩]; simp
          have hflen : (headF n l).length = k + 1 := by rw [hfin]; simp; omega
          rw [hK] at c60
          have hcp := copied_any 2 A' c' mt l[k].2 w6 HRD.out hmt f2 hmk
          have HCP := hide hcp
          have HFIN := Lib.hid hfin
          have HFL := Lib.hid hflen
          clear hcp hfin hflen
          go_wp2_with fail
          refine HCP.out.mono ?_
          rintro e w7 ⟨A2, c2, rfl, hown7, hb7⟩
          have hz7 := hb7.size
          have hr7 : w7.ownsRow w.heap.size 27 2 u5 k vs := own_keep HR6.out fun b hb => hb7.block b (HR6.out.lt b hb).2
          have hs7 : SegsO w7 w.heap.size vs (l.take k) := HS6.out.keep fun b _ hb => hb7.block b hb
          have hb7b : Below w.heap.size w w7 := HB6.out.trans (hb7.mono hwz6)
          have HR7 := hide hr7
          have HS7 := hide hs7
          have HB7 := hide hb7b
          have HN7 := hide (own_base hown7 hwz6)
          clear hown7 hb7 hr7 hs7 hb7b HR6 HS6 HB6 HBO6 HCP HRD c60 c61
          go_wp2_with (at_builtin
                       refine wpList_append_lies _ rfl (.tmp 41) (.tmp 45) _ rfl w.heap.size 27 ig _ 2 32 Tryd.underlying22 hg0 hg1 hg2 hg3 rfl (by omega) u5 k vs rfl (HR7.out.alloc _)
                         ⟨w7.heap.size, 0, none⟩ 1 1 [.int .i64 2, .slice A2 mt c2] rfl rfl (World.news_of_block (cs := #[.int .i64 2, .slice A2 mt c2]) (t := 27) (fr := (0, 0)) (heap_alloc_new w7 _))
                         (by simp [Value.oneCell'])
                         (by omega) (by simp only [maxLen]; omega) (by omega) (by simp; omega) _ rfl ?_
                       intro g cap w8 hown8 hgrow hat hltg
                       have hAll := push_seg (lo := w.heap.size) (l := l) (s := ((2 : Int), l[k].2.take mt)) (k := k) HR7.out HS7.out HN7.out ⟨rfl, hlen.symm⟩ hgrow
                       have hb8 : Below w.heap.size w w8 := (HB7.out.alloc HB7.out.size _).grown hgrow (by have := HB7.out.size; simp; omega) (fun x hx => (HR7.out.lt x hx).1)
                       have Q1 := hide hown8
                       have Q2 := hide hAll
                       have Q3 := hide hb8
                       clear hown8 hgrow hat hAll hb8)
          go_ret
          rw [HFL.out]
          exact ⟨_, _, _, rfl, Q1.out, by rw [HFIN.out]; exact Q2.out, Q3.out⟩
        · have hfin : headF n l = l.take k := by
            rw [HHD.out, headF, if_neg (by rw [← HQ.out]; omega), if_neg (fun e => hpos e.1)]; simp
          have hflen : (headF n l).length = k := by rw [hfin]; simp; omega
          have HFIN := Lib.hid hfin
          have HFL := Lib.hid hflen
          clear hfin hflen
          obtain ⟨A1, c1, rfl, hA1, hc1⟩ := slice_of_own HR6.out
          have hpos' : m ≤ 0 := by omega
          go_wp2
          go_ret
          rw [HFL.out]
          exact ⟨A1, c1, vs, rfl, HR6.out, by rw [HFIN.out]; exact HS6.out, HB6.out⟩
    · have hkl : k = l.length := by omega
      subst hkl
      rw [List.drop_length, show headF m [] = [] from rfl, List.append_nil, List.take_length] at hhd
      have HX := Lib.hid hhd
      clear hhd
      rw [List.take_length] at hseg
      obtain ⟨A1, c1, rfl, hA1, hc1⟩ := slice_of_own hown
      have HF1 := hide hown
      have HF2 := hide hseg
      have HF3 := hide hbel
      clear hown hseg hbel
      go_wp2
      dsimp only [Exit.noGoto]
      go_ret
      rw [HX.out]
      exact ⟨A1, c1, vs, rfl, HF1.out, HF2.out, HF3.out⟩

set_option maxRecDepth 100000 in
theorem all_any (A : Option Addr) (c : Nat) (l : List Sg) (w : World) (h : Path w w.heap.size A l) (hl : l.length ≤ 1000) (hm : ∀ s ∈ l, s.2.length ≤ 100000) :
    Calls Tryd.prog 63 #[.slice A l.length c] w fun e w' => ∃ A' c' vs, e = .returned (.slice A' l.length c') ∧
      w'.ownsRow w.heap.size 27 2 (.slice A' l.length c') l.length vs ∧ SegsO w' w.heap.size vs l ∧ Below w.heap.size w w' := by
  have hbd := lenF_bd 100000 (by omega) l hm
  have hall : headF (lenF l) l = l := by
    have key : ∀ (l : List Sg) (a : Int), 0 ≤ a → headF (l.foldl (fun n s => n + segLen s) a - a) l = l := by
      intro l
      induction l with
      | nil => intro a _; rfl
      | cons s r ih =>
        intro a ha
        have hmono : ∀ (l : List Sg) (b : Int), b ≤ l.foldl (fun n s => n + segLen s) b := by
          intro l
          induction l with
          | nil => intro b; exact Int.le_refl _
          | cons x r ih => intro b; have := ih (b + segLen x); have := segLen_nn x; simp only [List.foldl_cons]; omega
        have h1 := hmono r (a + segLen s)
        have h2 := segLen_nn s
        rw [List.foldl_cons]
        rw [headF, if_pos (by omega), show r.foldl (fun n s => n + segLen s) (a + segLen s) - a - segLen s = r.foldl (fun n s => n + segLen s) (a + segLen s) - (a + segLen s) by omega, ih _ (by omega)]
    have := key l 0 (Int.le_refl _)
    rw [Int.sub_zero] at this
    exact this
  go_enter Tryd.func63, Tryd.ntmps63
  go_wp2_with fail
  refine (length_any A c l w h hl hm).mono ?_
  rintro e w1 ⟨rfl, hb1⟩
  have hz1 := hb1.size
  have hh := head_any (lenF l) A c l w1 ((h.below hb1).more hz1) hl hm (by omega) (by
    have : (100000 : Nat) * l.length ≤ 100000 * 1000 := Nat.mul_le_mul_left _ hl
    omega)
  rw [hall] at hh
  have HH := hide hh
  clear hh
  go_wp2_with fail
  refine HH.out.mono ?_
  rintro e w2 ⟨A', c', vs, rfl, h1, h2, h3⟩
  have R1 := hide h1
  have R2 := hide h2
  have R3 := hide h3
  clear h1 h2 h3
  go_wp2
  go_ret
  exact ⟨A', c', vs, rfl, own_base R1.out hz1, R2.out.more hz1, hb1.trans (R3.out.mono hz1)⟩
end Go.Proofs.YtceolenmcpndaaaDoor
