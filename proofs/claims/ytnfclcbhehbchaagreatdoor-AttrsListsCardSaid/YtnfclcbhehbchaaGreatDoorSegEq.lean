/- segment.Same: two paths are the same exactly if their lists are. -/
import Derived.Test.YtnfclcbhehbchaaGreatDoorEquU
set_option autoImplicit false
namespace Go.Proofs.YtnfclcbhehbchaaGreatDoor
open Go.RowKit

set_option maxRecDepth 100000 in
set_option maxHeartbeats 2000000 in
theorem sameC_any (A A2 : Option Addr) (c c2 : Nat) (s t : Sg) (w : World) (h : Reads w w.heap.size 1 A s.2.length (uV s.2)) (h2 : Reads w w.heap.size 1 A2 t.2.length (uV t.2)) (ha : s.2.length ≤ 140737488351232) :
    Calls Tryz.prog 75 #[.agg #[.int .i64 s.1, .slice A s.2.length c], .agg #[.int .i64 t.1, .slice A2 t.2.length c2]] w fun e w' => e = .returned (.bool (decide (s = t))) ∧ Below w.heap.size w w' := by
  obtain ⟨K, ns⟩ := s
  obtain ⟨L, ms⟩ := t
  simp only at h h2 ha ⊢
  have hb2 : Below w.heap.size w ((w.alloc (Obj.cells #[.int .i64 K, .slice A ns.length c] 83)).alloc (Obj.cells #[.int .i64 L, .slice A2 ms.length c2] 83)) := ((Below.refl _ _).alloc (Nat.le_refl _) _).alloc (by simp) _
  have hE := equalU_any A A2 c c2 ns ms _ ((h.below hb2).more hb2.size) ((h2.below hb2).more hb2.size) ha
  have HE := hide hE
  have HB2 := hide hb2
  clear hE h h2 hb2
  by_cases hk : K = L
  · subst hk
    go_enter Tryz.func75, Tryz.ntmps75
    go_wp2_with fail
    refine HE.out.mono ?_
    rintro e w1 ⟨rfl, hb1⟩
    have HB1 := hide (HB2.out.trans (hb1.mono HB2.out.size))
    clear hb1
    go_wp2
    go_ret
    refine ⟨ret_bool ?_, HB1.out⟩
    exact decide_eq_decide.2 ⟨fun e => by rw [e], fun e => congrArg Prod.snd e⟩
  · have hk' : (K == L) = false := by simpa using hk
    have HK := Lib.hid hk
    clear hk
    go_enter Tryz.func75, Tryz.ntmps75
    go_wp2
    go_ret
    refine ⟨ret_bool (decide_eq_false (fun e => HK.out (congrArg Prod.fst e))).symm, HB2.out⟩

set_option maxRecDepth 100000 in
set_option maxHeartbeats 4000000 in
theorem equalF_any (A A2 : Option Addr) (c c2 : Nat) (a b : List Sg) (w : World) (h : Path w w.heap.size A a) (h2 : Path w w.heap.size A2 b) (ha : a.length ≤ 140737488351232) (hm : ∀ s ∈ a, s.2.length ≤ 140737488351232) :
    Calls Tryz.prog 74 #[.slice A a.length c, .slice A2 b.length c2, .func (.func 75) #[] #[]] w fun e w' => e = .returned (.bool (decide (a = b))) ∧ Below w.heap.size w w' := by
  by_cases hlen : a.length = b.length
  · have hne : ((a.length : Int) != (b.length : Int)) = false := by simp [hlen]
    have HL := Lib.hid hlen
    clear hlen
    go_enter Tryz.func74, Tryz.ntmps74
    go_wp2_with fail
    go_loopw [17] (fun i wr => ∃ k : Nat, k ≤ a.length ∧ i = .int .i64 k ∧ Hid (a.take k = b.take k) ∧ Below w.heap.size w wr) (fun i _ => a.length - (intOf i).toNat)
    case atStart => exact ⟨0, Nat.zero_le _, rfl, by show _ = _; rfl, Below.refl _ _⟩
    case round =>
      obtain ⟨k, hk, rfl, hpre, hbel⟩ := hrel
      obtain ⟨wo, rfl⟩ : ∃ wo : World, wo = wr := ⟨_, rfl⟩
      by_cases hlt : k < a.length
      · have hlt2 : k < b.length := by have := HL.out; omega
        obtain ⟨ad, A', c', rfl, had, hc0, hc1, hbk, g2, g3, g4⟩ := (h.below hbel).at_ hlt
        obtain ⟨ad2, A2', c2', rfl, had2, hd0, hd1, hbk2, f2, f3, f4⟩ := (h2.below hbel).at_ hlt2
        have hma := hm a[k] (List.getElem_mem hlt)
        have hwz := hbel.size
        have hi0 : (0 : Int) ≤ (k : Int) := Int.natCast_nonneg _
        have hi1 : (k : Int) < (a.length : Int) := by omega
        have hi2 : (k : Int) < (b.length : Int) := by omega
        have hbko : (ad2.add (k * 2)).block < wo.heap.size := by omega
        have e0 : (wo.alloc (Obj.cells #[.int .i64 a[k].1, .slice A' a[k].2.length c'] 83)).cell? (ad2.add (k * 2)) = some (.int .i64 b[k].1) := (World.cell?_alloc_lt wo _ _ hbko).trans hd0
        have e1 : (wo.alloc (Obj.cells #[.int .i64 a[k].1, .slice A' a[k].2.length c'] 83)).cell? ⟨(ad2.add (k * 2)).block, (ad2.add (k * 2)).off + 1, none⟩ = some (.slice A2' b[k].2.length c2') := (World.cell?_alloc_lt wo _ ⟨(ad2.add (k * 2)).block, (ad2.add (k * 2)).off + 1, none⟩ hbko).trans hd1
        have hb2 : Below wo.heap.size wo ((wo.alloc (Obj.cells #[.int .i64 a[k].1, .slice A' a[k].2.length c'] 83)).alloc (Obj.cells #[.int .i64 b[k].1, .slice A2' b[k].2.length c2'] 83)) := ((Below.refl _ _).alloc (Nat.le_refl _) _).alloc (by simp) _
        have hb02 := hbel.trans (hb2.mono hwz)
        have hz2 := hb02.size
        have hS := sameC_any A' A2' c' c2' a[k] b[k] _ ((g4.below (hb2.mono hwz)).more hz2) ((f4.below (hb2.mono hwz)).more hz2) hma
        have HS := hide hS
        have HB2 := hide hb02
        clear hS hb2 hb02 hbel h h2 hm g4 f4
        by_cases exy : a[k] = b[k]
        · rw [decide_eq_true exy] at HS
          have EXY := Lib.hid exy
          clear exy
          go_wp2_with fail
          refine HS.out.mono ?_
          rintro e w3 ⟨rfl, hb3⟩
          have HB3 := hide (HB2.out.trans (hb3.mono HB2.out.size))
          clear hb3 HS HB2 hc0 hc1 hd0 hd1 e0 e1
          go_wp2
          go_roundw
          case rel => exact ⟨k + 1, by omega, by go_num, take_succ_eq _ _ k hlt hlt2 hpre.out EXY.out, HB3.out⟩
          case measure => simp [intOf]; omega
        · rw [decide_eq_false exy] at HS
          have EXY := Lib.hid exy
          clear exy
          go_wp2_with fail
          refine HS.out.mono ?_
          rintro e w3 ⟨rfl, hb3⟩
          have HB3 := hide (HB2.out.trans (hb3.mono HB2.out.size))
          clear hb3 HS HB2 hc0 hc1 hd0 hd1 e0 e1
          go_wp2
          go_ret
          exact ⟨ret_bool (decide_eq_false (ne_of_get _ _ k hlt hlt2 EXY.out)).symm, HB3.out⟩
      · have HB := hide hbel
        clear hbel
        go_wp2
        go_ret
        refine ⟨ret_bool (decide_eq_true ?_).symm, HB.out⟩
        have e1 := hpre.out
        rw [List.take_of_length_le (by omega), List.take_of_length_le (by have := HL.out; omega)] at e1
        exact e1
  · have hne : ((a.length : Int) != (b.length : Int)) = true := by simp; omega
    have HL := Lib.hid hlen
    clear hlen
    go_enter Tryz.func74, Tryz.ntmps74
    go_wp2
    go_ret
    exact ⟨ret_bool (decide_eq_false (fun e => HL.out (by rw [e]))).symm, Below.refl _ _⟩

set_option maxRecDepth 100000 in
theorem psame_any (A A2 : Option Addr) (c c2 : Nat) (a b : List Sg) (w : World) (h : Path w w.heap.size A a) (h2 : Path w w.heap.size A2 b) (ha : a.length ≤ 140737488351232) (hm : ∀ s ∈ a, s.2.length ≤ 140737488351232) :
    Calls Tryz.prog 59 #[.slice A a.length c, .slice A2 b.length c2] w fun e w' => e = .returned (.bool (decide (a = b))) ∧ Below w.heap.size w w' := by
  have HE := hide (equalF_any A A2 c c2 a b w h h2 ha hm)
  clear h h2 ha hm
  generalize decide (a = b) = r at *
  go_enter Tryz.func59, Tryz.ntmps59
  go_wp2_with fail
  refine HE.out.mono ?_
  rintro e w1 ⟨rfl, hb1⟩
  have HB := hide hb1
  clear hb1
  go_wp2
  go_ret
  exact ⟨rfl, HB.out⟩
end Go.Proofs.YtnfclcbhehbchaaGreatDoor
