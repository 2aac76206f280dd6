/- slices.Grow and slices.Concat at bytes: a row of the call's own that holds what the parts hold; at most 100,000,000 elements. -/
import Derived.Test.YtnfclcbhehbchaaGreatDoorOctet
import Derived.Lib.AppendZerosOnto
set_option autoImplicit false
namespace Go.Proofs.YtnfclcbhehbchaaGreatDoor
open Go.RowKit

set_option maxRecDepth 100000 in
set_option maxHeartbeats 2000000 in
theorem growB_nil (n : Nat) (w : World) (hn : n ≤ 100000000) :
    Calls Tryz.prog 82 #[.slice none 0 0, .int .i64 n] w fun e w' => ∃ v, e = .returned v ∧ w'.ownsRow w.heap.size 5 1 v 0 [] ∧ Below w.heap.size w w' := by
  obtain ⟨i0, hi0, hz0, hz1, hz2⟩ := info_parts u8_info
  rcases Nat.eq_zero_or_pos n with h0 | h0
  · subst h0
    go_enter Tryz.func82, Tryz.ntmps82
    go_wp2
    go_ret
    exact ⟨_, rfl, World.ownsRow_nil _ _ _ _, Below.refl _ _⟩
  · have hbz : n * i0.bytes ≤ 281474976710656 := by rw [hz2]; omega
    have hsz : 0 < i0.size := by rw [hz1]; omega
    have hr : ∀ ty, (Builtin.append_ #[35, 3] ty #[.slice none 0 0, .int .i64 (n : Int)]).run Tryz.prog w = _ := fun ty =>
      Lib.run_append_nil_zeros w 35 3 ty 5 i0 (.int .u8 0) .i64 .i64 Tryz.underlying35 Tryz.underlying3 hi0 hz0 n h0 hsz (by omega) hbz
    have hge : n ≤ grownCap w n 0 5 := grownCap_ge w _ _ _
    have hle : grownCap w n 0 5 ≤ maxLen := grownCap_le_maxLen w n 0 5 (by unfold maxLen; omega)
    obtain ⟨G, hG⟩ : ∃ G, G = grownCap w n 0 5 := ⟨_, rfl⟩
    rw [← hG] at hr hge hle
    have hG1 : (G : Int) ≤ 9223372036854775807 := by unfold maxLen at hle; omega
    have HR := hide hr
    have hn1 : (0 : Int) < (n : Int) := by omega
    have hn2 : (n : Int) ≤ 100000000 := by omega
    have hcs : (Builtin.zeroCells ((.int .u8 0) : Value).cells n ++ Builtin.zeroCells ((.int .u8 0) : Value).cells (G - n)).size = G * 1 := by
      simp [Builtin.zeroCells, Value.cells]; omega
    have HCS := Lib.hid hcs
    have HLE := hide hle
    clear hr hG hbz hsz hcs hle
    go_enter Tryz.func82, Tryz.ntmps82
    go_wp2_with (at_builtin
                 refine Lib.wpList_append_run _ rfl (.tmp 20) (.tmp 21) _ _ rfl _ _ rfl rfl _ _ (HR.out _) ?_)
    go_ret
    exact ⟨_, rfl, (World.ownsRow_made w.drew _ G (Nat.le_refl _) HLE.out HCS.out), (Below.refl _ _).drew.alloc (Nat.le_refl _) _⟩

/-- A slice that reads as a part: its number of elements and its cells. -/
def SrcB (w : World) (B : Nat) (v : Value) (p : Nat × List Value) : Prop := ∃ A c, v = .slice A p.1 c ∧ Reads w B 1 A p.1 p.2 ∧ ∀ u ∈ p.2, u.oneCell' = true
theorem SrcB.keep {w w' : World} {B : Nat} {v : Value} {p : Nat × List Value} (h : SrcB w B v p) (hb : Below B w w') : SrcB w' B v p := by
  obtain ⟨A, c, e, hr, h1⟩ := h; exact ⟨A, c, e, hr.below hb, h1⟩
theorem SrcB.more {w : World} {B B' : Nat} {v : Value} {p : Nat × List Value} (h : SrcB w B v p) (hb : B ≤ B') : SrcB w B' v p := by
  obtain ⟨A, c, e, hr, h1⟩ := h; exact ⟨A, c, e, hr.more hb, h1⟩
def totB (ps : List (Nat × List Value)) : Nat := (ps.map (·.1)).sum
def catB (ps : List (Nat × List Value)) : List Value := ps.flatMap (·.2)
theorem totB_app (a b : List (Nat × List Value)) : totB (a ++ b) = totB a + totB b := by simp [totB]
theorem catB_app (a b : List (Nat × List Value)) : catB (a ++ b) = catB a ++ catB b := by simp [catB]
theorem totB_one (p : Nat × List Value) : totB [p] = p.1 := by simp [totB]
theorem catB_one (p : Nat × List Value) : catB [p] = p.2 := by simp [catB]
theorem totB_succ (ps : List (Nat × List Value)) (k : Nat) (h : k < ps.length) : totB (ps.take (k + 1)) = totB (ps.take k) + ps[k].1 := by
  rw [List.take_succ_eq_append_getElem h, totB_app, totB_one]
theorem catB_succ (ps : List (Nat × List Value)) (k : Nat) (h : k < ps.length) : catB (ps.take (k + 1)) = catB (ps.take k) ++ ps[k].2 := by
  rw [List.take_succ_eq_append_getElem h, catB_app, catB_one]
theorem totB_le (ps : List (Nat × List Value)) (k : Nat) : totB (ps.take k) ≤ totB ps := by
  have : totB ps = totB (ps.take k) + totB (ps.drop k) := by
    rw [← totB_app, List.take_append_drop]
  omega

set_option maxRecDepth 100000 in
set_option maxHeartbeats 8000000 in
theorem concatB_any (A : Option Addr) (c : Nat) (vs : List Value) (ps : List (Nat × List Value)) (w : World) (h : Reads w w.heap.size 1 A vs.length vs) (hl : vs.length = ps.length) (hn : ps.length ≤ 100000000)
    (hs : ∀ (i : Nat) v p, vs[i]? = some v → ps[i]? = some p → SrcB w w.heap.size v p) (ht : totB ps ≤ 100000000) :
    Calls Tryz.prog 66 #[.slice A vs.length c] w fun e w' => ∃ v, e = .returned v ∧ w'.ownsRow w.heap.size 5 1 v (totB ps) (catB ps) ∧ Below w.heap.size w w' := by
  obtain ⟨i0, hi0, hz0, hz1, hz2⟩ := info_parts u8_info
  have HL := Lib.hid hl
  have hln : vs.length ≤ 100000000 := by omega
  clear hl
  go_enter Tryz.func66, Tryz.ntmps66
  go_wp2_with fail
  go_loop [3, 11] (fun n i => ∃ k : Nat, k ≤ vs.length ∧ i = .int .i64 k ∧ n = .int .i64 (totB (ps.take k) : Nat)) (fun _ i => vs.length - (intOf i).toNat)
  case atStart => exact ⟨0, Nat.zero_le _, rfl, rfl⟩
  case round =>
    obtain ⟨k, hk, rfl, rfl⟩ := hrel
    have hle := totB_le ps k
    by_cases hlt : k < vs.length
    · obtain ⟨ad, u, rfl, had, hu, hc⟩ := h.at_ hlt
      have hlp : k < ps.length := by have := HL.out; omega
      obtain ⟨A', c', rfl, hr', h1'⟩ := hs k u ps[k] hu (List.getElem?_eq_getElem hlp)
      have hsu := totB_succ ps k hlp
      have hle2 := totB_le ps (k + 1)
      have hpk : ps[k].1 ≤ 100000000 := by omega
      have hx0 : (0 : Int) ≤ (ps[k].1 : Int) := Int.natCast_nonneg _
      have hx1 : (ps[k].1 : Int) ≤ 100000000 := by omega
      have hy0 : (0 : Int) ≤ (totB (ps.take k) : Int) := Int.natCast_nonneg _
      have hy1 : (totB (ps.take k) : Int) ≤ 100000000 := by omega
      have HSU := Lib.hid hsu
      have hi0' : (0 : Int) ≤ (k : Int) := Int.natCast_nonneg _
      have hi1' : (k : Int) < (vs.length : Int) := by omega
      clear hsu hle hle2 hr' h1' hs h hu
      generalize ps[k].1 = q at *
      generalize totB (ps.take k) = S at *
      go_wp2
      go_round
      case rel => exact ⟨k + 1, by omega, by go_num, by rw [HSU.out]; go_num⟩
      case measure => simp [intOf]; omega
    · have hkl : k = vs.length := by omega
      subst hkl
      have e1 : totB (ps.take vs.length) = totB ps := by rw [List.take_of_length_le (by have := HL.out; omega)]
      rw [e1]
      have HG := hide (growB_nil (totB ps) w ht)
      clear e1 hle
      go_wp2_with fail
      refine HG.out.mono ?_
      rintro e w1 ⟨v1, rfl, hown1, hb1⟩
      have hz1' := hb1.size
      have HO1 := hide hown1
      have HB1 := hide hb1
      clear hown1 hb1 HG
      go_wp2_with fail
      go_loopw [6, 27] (fun v i wr => ∃ k : Nat, k ≤ vs.length ∧ i = .int .i64 k ∧ wr.ownsRow w.heap.size 5 1 v (totB (ps.take k)) (catB (ps.take k)) ∧ Below w.heap.size w wr) (fun _ i _ => vs.length - (intOf i).toNat)
      case atStart => exact ⟨0, Nat.zero_le _, rfl, by simpa [totB, catB] using HO1.out, HB1.out⟩
      case round =>
        obtain ⟨k, hk, rfl, hown, hbel⟩ := hrel
        have hbz := hbel.size
        by_cases hlt : k < vs.length
        · obtain ⟨ad, u, rfl, had, hu, hc⟩ := (h.below hbel).at_ hlt
          have hlp : k < ps.length := by have := HL.out; omega
          have hsrc := (hs k u ps[k] hu (List.getElem?_eq_getElem hlp)).keep hbel
          obtain ⟨A', c', rfl, hr', h1'⟩ := hsrc
          have hsu := totB_succ ps k hlp
          have hcu := catB_succ ps k hlp
          have hle2 := totB_le ps (k + 1)
          have hapw : (ad.add k).block < wr.heap.size := by rw [block_of_add]; omega
          have hi0' : (0 : Int) ≤ (k : Int) := Int.natCast_nonneg _
          have hi1' : (k : Int) < (vs.length : Int) := by omega
          have htk : totB (ps.take k) + ps[k].1 ≤ 100000000 := by omega
          have HSU := Lib.hid hsu
          have HCU := Lib.hid hcu
          have HOWN := hide hown
          have HBEL := hide hbel
          have HRD := hide (hr'.more (by omega : w.heap.size ≤ wr.heap.size))
          have H1 := hide h1'
          have HTK := hide htk
          clear hsu hcu hle2 hown hbel hr' h1' htk hs h hu HO1 HB1
          go_wp2_with (at_builtin
                       refine wpList_append_any _ rfl (.tmp 31) (.tmp 32) _ rfl w.heap.size 5 i0 _ 1 1 Tryz.underlying35 hi0 hz0 hz1 hz2 rfl (by omega) u6 (totB (ps.take k)) (catB (ps.take k)) rfl HOWN.out
                         wr.heap.size A' ps[k].1 c' ps[k].2 rfl HRD.out H1.out (by have := HTK.out; simp only [maxLen]; omega) (by have := HTK.out; omega) hbz ?_
                       intro v7 w7 hown7 hgrow7 hat7
                       have hb7 : Below w.heap.size w w7 := HBEL.out.grown hgrow7 hbz (fun x hx => (HOWN.out.lt x hx).1)
                       have Q1 := hide hown7
                       have Q3 := hide hb7
                       clear hown7 hgrow7 hat7 hb7)
          go_roundw
          case rel => exact ⟨k + 1, by omega, by go_num, by rw [HSU.out, HCU.out]; exact Q1.out, Q3.out⟩
          case measure => simp [intOf]; omega
        · have hkl : k = vs.length := by omega
          subst hkl
          have e1 : ps.take vs.length = ps := List.take_of_length_le (by have := HL.out; omega)
          rw [e1] at hown
          have Q1 := hide hown
          have Q3 := hide hbel
          clear hown hbel e1
          go_wp2
          go_ret
          exact ⟨_, rfl, Q1.out, Q3.out⟩
end Go.Proofs.YtnfclcbhehbchaaGreatDoor
