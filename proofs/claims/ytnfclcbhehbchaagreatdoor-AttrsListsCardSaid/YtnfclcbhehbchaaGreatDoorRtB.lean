/- slices.Equal and the reference's Same at routes: equal just where the lists are. -/
import Derived.Test.YtnfclcbhehbchaaGreatDoorRtA
import Derived.Test.YtnfclcbhehbchaaGreatDoorSegS
set_option autoImplicit false
namespace Go.Proofs.YtnfclcbhehbchaaGreatDoor
open Go.RowKit

set_option maxRecDepth 100000 in
set_option maxHeartbeats 4000000 in
/-- slices.Equal of routes. -/
theorem equalR_any (A A2 : Option Addr) (c c2 : Nat) (a b : List Rt) (w : World) (h : Reads w w.heap.size 19 A a.length (rtsV a)) (h2 : Reads w w.heap.size 19 A2 b.length (rtsV b)) (hra : Rts a) (hrb : Rts b) (ha : a.length ≤ 140737488351232) :
    Calls Tryz.prog 77 #[.slice A a.length c, .slice A2 b.length c2] w fun e w' => e = .returned (.bool (decide (a = b))) ∧ Below w.heap.size w w' := by
  by_cases hlen : a.length = b.length
  · have hne : ((a.length : Int) != (b.length : Int)) = false := by simp [hlen]
    have HL := Lib.hid hlen
    clear hlen
    go_enter Tryz.func77, Tryz.ntmps77
    go_wp2_with fail
    go_loopw [13] (fun i wr => ∃ k : Nat, k ≤ a.length ∧ i = .int .i64 k ∧ Hid (a.take k = b.take k) ∧ Below w.heap.size w wr) (fun i _ => a.length - (intOf i).toNat)
    case atStart => exact ⟨0, Nat.zero_le _, rfl, by show _ = _; rfl, Below.refl _ _⟩
    case round =>
      obtain ⟨k, hk, rfl, hpre, hbel⟩ := hrel
      obtain ⟨wo, rfl⟩ : ∃ wo : World, wo = wr := ⟨_, rfl⟩
      by_cases hlt : k < a.length
      · have hlt2 : k < b.length := by have := HL.out; omega
        obtain ⟨ap, rfl, hap, hca, hla⟩ := Reads.rt (h.below hbel) hra hlt
        obtain ⟨bp, rfl, hbp, hcb, hlb⟩ := Reads.rt (h2.below hbel) hrb hlt2
        have hza := hra _ (List.getElem_mem hlt)
        have hzb := hrb _ (List.getElem_mem hlt2)
        obtain ⟨x, hx⟩ : ∃ x, x = a[k] := ⟨_, rfl⟩
        obtain ⟨y, hy⟩ : ∃ y, y = b[k] := ⟨_, rfl⟩
        rw [← hx] at hca hla hza
        rw [← hy] at hcb hlb hzb
        have hldA : ∀ n, (loadVar 55 (ap.add (k * 19))).run Tryz.prog (wo.drewN n) = .ok (.agg (rtV x).toArray) (wo.drewN n) := fun n => run_loadVar_at _ _ _ _ _ hca Tryz.underlying55 rfl (by rw [hla]; exact rt_size)
        have hldB : ∀ n, (loadVar 55 (bp.add (k * 19))).run Tryz.prog (wo.drewN n) = .ok (.agg (rtV y).toArray) (wo.drewN n) := fun n => run_loadVar_at _ _ _ _ _ hcb Tryz.underlying55 rfl (by rw [hlb]; exact rt_size)
        have heq := fun n => rt_eq x y hza hzb (wo.drewN n)
        have HX := Lib.hid hx
        have HY := Lib.hid hy
        have HB := hide hbel
        have hi0 : (0 : Int) ≤ (k : Int) := Int.natCast_nonneg _
        have hi1 : (k : Int) < (a.length : Int) := by omega
        have hi2 : (k : Int) < (b.length : Int) := by omega
        clear hx hy h h2 hbel hca hcb hla hlb hza hzb
        generalize (rtV x).toArray = VX at *
        generalize (rtV y).toArray = VY at *
        by_cases exy : x = y
        · rw [decide_eq_true exy] at heq
          have EXY := Lib.hid exy
          clear exy
          go_wp2_with fail
          refine wp_region_quietC (fun w' => ∃ n, w' = wo.drewN n) (by kernel_rfl) (by kernel_rfl) ⟨1, rfl⟩ ?_
          repeat (first
            | go_big_quiet_skip
            | (go_big_quiet_want
               first
               | (refine quiet_loadA _ _ rfl (ap.add (k * 19)) rfl (.agg VX) (fun w' hw' => by obtain ⟨n, rfl⟩ := hw'; exact hldA n) ?_; go_big_quiet_on; simp only [Act.put, List.setIfInBounds_toArray, List.set_cons_zero, List.set_cons_succ])
               | (refine quiet_loadA _ _ rfl (bp.add (k * 19)) rfl (.agg VY) (fun w' hw' => by obtain ⟨n, rfl⟩ := hw'; exact hldB n) ?_; go_big_quiet_on; simp only [Act.put, List.setIfInBounds_toArray, List.set_cons_zero, List.set_cons_succ])
               | (refine quiet_neqA _ _ _ _ rfl VX VY rfl rfl _ (by kernel_rfl) (fun w' hw' => by obtain ⟨n, rfl⟩ := hw'; exact heq n) ?_; go_big_quiet_on; simp only [Act.put, List.setIfInBounds_toArray, List.set_cons_zero, List.set_cons_succ])
               | (go_big_quiet_op
                  first
                    | go_big_quiet_on
                    | (refine ⟨_, fun _ _ => rfl, ?_⟩; go_big_quiet_on))))
          refine wpQuiet_nil ?_
          rintro w' ⟨n, rfl⟩
          go_wp2
          go_roundw
          case rel => exact ⟨k + 1, by omega, by go_num, take_succ_eq _ _ k hlt hlt2 hpre.out (by rw [← HX.out, ← HY.out, EXY.out]), below_drewN HB.out _⟩
          case measure => simp [intOf]; omega
        · rw [decide_eq_false exy] at heq
          have EXY := Lib.hid exy
          clear exy
          go_wp2_with fail
          refine wp_region_quietC (fun w' => ∃ n, w' = wo.drewN n) (by kernel_rfl) (by kernel_rfl) ⟨1, rfl⟩ ?_
          repeat (first
            | go_big_quiet_skip
            | (go_big_quiet_want
               first
               | (refine quiet_loadA _ _ rfl (ap.add (k * 19)) rfl (.agg VX) (fun w' hw' => by obtain ⟨n, rfl⟩ := hw'; exact hldA n) ?_; go_big_quiet_on; simp only [Act.put, List.setIfInBounds_toArray, List.set_cons_zero, List.set_cons_succ])
               | (refine quiet_loadA _ _ rfl (bp.add (k * 19)) rfl (.agg VY) (fun w' hw' => by obtain ⟨n, rfl⟩ := hw'; exact hldB n) ?_; go_big_quiet_on; simp only [Act.put, List.setIfInBounds_toArray, List.set_cons_zero, List.set_cons_succ])
               | (refine quiet_neqA _ _ _ _ rfl VX VY rfl rfl _ (by kernel_rfl) (fun w' hw' => by obtain ⟨n, rfl⟩ := hw'; exact heq n) ?_; go_big_quiet_on; simp only [Act.put, List.setIfInBounds_toArray, List.set_cons_zero, List.set_cons_succ])
               | (go_big_quiet_op
                  first
                    | go_big_quiet_on
                    | (refine ⟨_, fun _ _ => rfl, ?_⟩; go_big_quiet_on))))
          refine wpQuiet_nil ?_
          rintro w' ⟨n, rfl⟩
          go_wp2
          go_ret
          refine ⟨ret_bool (decide_eq_false ?_).symm, below_drewN HB.out _⟩
          exact ne_of_get _ _ k hlt hlt2 (by rw [← HX.out, ← HY.out]; exact EXY.out)
      · have HB := hide hbel
        clear hbel
        go_wp2
        go_ret
        refine ⟨ret_bool (decide_eq_true ?_).symm, HB.out⟩
        have e1 := hpre.out
        rw [List.take_of_length_le (by omega), List.take_of_length_le (by have := HL.out; omega)] at e1
        exact e1
  · have hne : ((a.length : Int) != (b.length : Int)) = true := by simp; omega
    have HL := Lib.hid hlen
    clear hlen
    go_enter Tryz.func77, Tryz.ntmps77
    go_wp2
    go_ret
    exact ⟨ret_bool (decide_eq_false (fun e => HL.out (by rw [e]))).symm, Below.refl _ _⟩
set_option maxRecDepth 100000 in
set_option maxHeartbeats 4000000 in
/-- The reference's Same of routes. -/
theorem rroutes_any (A A2 : Option Addr) (c c2 : Nat) (a b : List Rt) (w : World) (h : Reads w w.heap.size 19 A a.length (rtsV a)) (h2 : Reads w w.heap.size 19 A2 b.length (rtsV b)) (hra : Rts a) (hrb : Rts b) (ha : a.length ≤ 140737488351232) :
    Calls Tryz.prog 36 #[.slice A a.length c, .slice A2 b.length c2] w fun e w' => e = .returned (.bool (decide (a = b))) ∧ Below w.heap.size w w' := by
  by_cases hlen : a.length = b.length
  · have hne : ((a.length : Int) != (b.length : Int)) = false := by simp [hlen]
    have HL := Lib.hid hlen
    clear hlen
    go_enter Tryz.func36, Tryz.ntmps36
    go_wp2_with fail
    go_loopw [5] (fun i wr => ∃ k : Nat, k ≤ a.length ∧ i = .int .i64 k ∧ Hid (a.take k = b.take k) ∧ Below w.heap.size w wr) (fun i _ => a.length - (intOf i).toNat)
    case atStart => exact ⟨0, Nat.zero_le _, rfl, by show _ = _; rfl, Below.refl _ _⟩
    case round =>
      obtain ⟨k, hk, rfl, hpre, hbel⟩ := hrel
      obtain ⟨wo, rfl⟩ : ∃ wo : World, wo = wr := ⟨_, rfl⟩
      by_cases hlt : k < a.length
      · have hlt2 : k < b.length := by have := HL.out; omega
        obtain ⟨ap, rfl, hap, hca, hla⟩ := Reads.rt (h.below hbel) hra hlt
        obtain ⟨bp, rfl, hbp, hcb, hlb⟩ := Reads.rt (h2.below hbel) hrb hlt2
        have hza := hra _ (List.getElem_mem hlt)
        have hzb := hrb _ (List.getElem_mem hlt2)
        obtain ⟨x, hx⟩ : ∃ x, x = a[k] := ⟨_, rfl⟩
        obtain ⟨y, hy⟩ : ∃ y, y = b[k] := ⟨_, rfl⟩
        rw [← hx] at hca hla hza
        rw [← hy] at hcb hlb hzb
        have hldA : ∀ n, (loadVar 55 (ap.add (k * 19))).run Tryz.prog (wo.drewN n) = .ok (.agg (rtV x).toArray) (wo.drewN n) := fun n => run_loadVar_at _ _ _ _ _ hca Tryz.underlying55 rfl (by rw [hla]; exact rt_size)
        have hldB : ∀ n, (loadVar 55 (bp.add (k * 19))).run Tryz.prog (wo.drewN n) = .ok (.agg (rtV y).toArray) (wo.drewN n) := fun n => run_loadVar_at _ _ _ _ _ hcb Tryz.underlying55 rfl (by rw [hlb]; exact rt_size)
        have heq := fun n => rt_eq x y hza hzb (wo.drewN n)
        have HX := Lib.hid hx
        have HY := Lib.hid hy
        have HB := hide hbel
        have hi0 : (0 : Int) ≤ (k : Int) := Int.natCast_nonneg _
        have hi1 : (k : Int) < (a.length : Int) := by omega
        have hi2 : (k : Int) < (b.length : Int) := by omega
        clear hx hy h h2 hbel hca hcb hla hlb hza hzb
        generalize (rtV x).toArray = VX at *
        generalize (rtV y).toArray = VY at *
        by_cases exy : x = y
        · rw [decide_eq_true exy] at heq
          have EXY := Lib.hid exy
          clear exy
          go_wp2_with fail
          refine wp_region_quietC (fun w' => ∃ n, w' = wo.drewN n) (by kernel_rfl) (by kernel_rfl) ⟨1, rfl⟩ ?_
          repeat (first
            | go_big_quiet_skip
            | (go_big_quiet_want
               first
               | (refine quiet_loadA _ _ rfl (ap.add (k * 19)) rfl (.agg VX) (fun w' hw' => by obtain ⟨n, rfl⟩ := hw'; exact hldA n) ?_; go_big_quiet_on; simp only [Act.put, List.setIfInBounds_toArray, List.set_cons_zero, List.set_cons_succ])
               | (refine quiet_loadA _ _ rfl (bp.add (k * 19)) rfl (.agg VY) (fun w' hw' => by obtain ⟨n, rfl⟩ := hw'; exact hldB n) ?_; go_big_quiet_on; simp only [Act.put, List.setIfInBounds_toArray, List.set_cons_zero, List.set_cons_succ])
               | (refine quiet_neqA _ _ _ _ rfl VX VY rfl rfl _ (by kernel_rfl) (fun w' hw' => by obtain ⟨n, rfl⟩ := hw'; exact heq n) ?_; go_big_quiet_on; simp only [Act.put, List.setIfInBounds_toArray, List.set_cons_zero, List.set_cons_succ])
               | (go_big_quiet_op
                  first
                    | go_big_quiet_on
                    | (refine ⟨_, fun _ _ => rfl, ?_⟩; go_big_quiet_on))))
          refine wpQuiet_nil ?_
          rintro w' ⟨n, rfl⟩
          go_wp2
          go_roundw
          case rel => exact ⟨k + 1, by omega, by go_num, take_succ_eq _ _ k hlt hlt2 hpre.out (by rw [← HX.out, ← HY.out, EXY.out]), below_drewN HB.out _⟩
          case measure => simp [intOf]; omega
        · rw [decide_eq_false exy] at heq
          have EXY := Lib.hid exy
          clear exy
          go_wp2_with fail
          refine wp_region_quietC (fun w' => ∃ n, w' = wo.drewN n) (by kernel_rfl) (by kernel_rfl) ⟨1, rfl⟩ ?_
          repeat (first
            | go_big_quiet_skip
            | (go_big_quiet_want
               first
               | (refine quiet_loadA _ _ rfl (ap.add (k * 19)) rfl (.agg VX) (fun w' hw' => by obtain ⟨n, rfl⟩ := hw'; exact hldA n) ?_; go_big_quiet_on; simp only [Act.put, List.setIfInBounds_toArray, List.set_cons_zero, List.set_cons_succ])
               | (refine quiet_loadA _ _ rfl (bp.add (k * 19)) rfl (.agg VY) (fun w' hw' => by obtain ⟨n, rfl⟩ := hw'; exact hldB n) ?_; go_big_quiet_on; simp only [Act.put, List.setIfInBounds_toArray, List.set_cons_zero, List.set_cons_succ])
               | (refine quiet_neqA _ _ _ _ rfl VX VY rfl rfl _ (by kernel_rfl) (fun w' hw' => by obtain ⟨n, rfl⟩ := hw'; exact heq n) ?_; go_big_quiet_on; simp only [Act.put, List.setIfInBounds_toArray, List.set_cons_zero, List.set_cons_succ])
               | (go_big_quiet_op
                  first
                    | go_big_quiet_on
                    | (refine ⟨_, fun _ _ => rfl, ?_⟩; go_big_quiet_on))))
          refine wpQuiet_nil ?_
          rintro w' ⟨n, rfl⟩
          go_wp2
          go_ret
          refine ⟨ret_bool (decide_eq_false ?_).symm, below_drewN HB.out _⟩
          exact ne_of_get _ _ k hlt hlt2 (by rw [← HX.out, ← HY.out]; exact EXY.out)
      · have HB := hide hbel
        clear hbel
        go_wp2
        go_ret
        refine ⟨ret_bool (decide_eq_true ?_).symm, HB.out⟩
        have e1 := hpre.out
        rw [List.take_of_length_le (by omega), List.take_of_length_le (by have := HL.out; omega)] at e1
        exact e1
  · have hne : ((a.length : Int) != (b.length : Int)) = true := by simp; omega
    have HL := Lib.hid hlen
    clear hlen
    go_enter Tryz.func36, Tryz.ntmps36
    go_wp2
    go_ret
    exact ⟨ret_bool (decide_eq_false (fun e => HL.out (by rw [e]))).symm, Below.refl _ _⟩
end Go.Proofs.YtnfclcbhehbchaaGreatDoor
