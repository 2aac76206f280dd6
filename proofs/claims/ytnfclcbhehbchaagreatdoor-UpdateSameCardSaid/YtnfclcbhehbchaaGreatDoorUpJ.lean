/- The law UpdateSame returns true at every two updates. -/
import Derived.Test.YtnfclcbhehbchaaGreatDoorUpI
set_option autoImplicit false
namespace Go.Proofs.YtnfclcbhehbchaaGreatDoor
open Go.RowKit
set_option maxRecDepth 100000 in
set_option maxHeartbeats 4000000 in
theorem usame_large (ca cb : Array Value) (da db : UpdD) (w : World) (ha : UpdC w w.heap.size ca da) (hb : UpdC w w.heap.size cb db) (oka : UpdOk da) (okb : UpdOk db) (hf : FewU da = false ∨ FewU db = false) :
    Calls Tryz.prog 4 #[.agg ca, .agg cb] w fun e w' => e = .returned (.bool true) ∧ Below w.heap.size w w' := by
  have h9a : ca.size = 3 := ha.three.1
  have h9b : cb.size = 3 := hb.three.1
  obtain ⟨W, hW⟩ : ∃ W, W = ((w.alloc (.cells ca 44)).alloc (.cells cb 44)) := ⟨_, rfl⟩
  have n0 : W.heap[w.heap.size]? = some (.cells ca 44 (0, 0)) := by rw [hW]; exact heap_alloc2_old _ _ _
  have n1 : W.heap[w.heap.size + 1]? = some (.cells cb 44 (0, 0)) := by rw [hW]; exact heap_alloc2_new _ _ _
  have nb : Below w.heap.size w W := by rw [hW]; exact ((Below.refl _ _).alloc (Nat.le_refl _) _).alloc (by simp) _
  have HA := hide (rfewU_any ca da W ((ha.below nb).more nb.size) oka)
  have HB := hide (fun (W' : World) (hW' : Below w.heap.size w W') => rfewU_any cb db W' ((hb.below hW').more hW'.size) okb)
  have NB := hide nb
  have N0 := Lib.hid n0
  have N1 := Lib.hid n1
  have HW := Lib.hid hW
  have has := ref_size
  have hsa : (Tryz.prog.info? 44).map (·.size) = some ca.size := by rw [h9a]; exact has
  have hsb : (Tryz.prog.info? 44).map (·.size) = some cb.size := by rw [h9b]; exact has
  have HSA := Lib.hid hsa
  have HSB := Lib.hid hsb
  clear ha hb oka okb n0 n1 nb hW has hsa hsb h9a h9b
  generalize FewU da = qa at *
  generalize FewU db = qb at *
  cases qa
  · clear hf
    go_enter Tryz.func4, Tryz.ntmps4
    go_wp2_with (first
      | (rw [← HW.out]; (with_reducible refine wpList_load_wholeF W ?hgd1 44 (.tmp 2) ?ho1 w.heap.size 44 ca _ ?hx1 N0.out Tryz.underlying44 ?hd1 ?hi1 ?_); (case hgd1 => rfl); (case ho1 => rfl); (case hx1 => rfl); (case hd1 => rfl); (case hi1 => exact HSA.out))
      | (go_at_call 16; (with_reducible refine HA.out.mono ?_); rintro e w1 ⟨rfl, hb1⟩
         have B1 := hide (NB.out.trans (hb1.mono NB.out.size))
         clear hb1)
      | (go_at_call 17; refine (ualive_any _).mono ?_; rintro e w2 ⟨rfl, hb2⟩; have B2 := hide (B1.out.trans (hb2.mono B1.out.size)); clear hb2))
    go_ret
    exact ⟨rfl, B2.out⟩
  · have hq : qb = false := by rcases hf with h | h; · cases h
                               · exact h
    subst hq
    clear hf
    go_enter Tryz.func4, Tryz.ntmps4
    go_wp2_with (first
      | (rw [← HW.out]; (with_reducible refine wpList_load_wholeF W ?hgd1 44 (.tmp 2) ?ho1 w.heap.size 44 ca _ ?hx1 N0.out Tryz.underlying44 ?hd1 ?hi1 ?_); (case hgd1 => rfl); (case ho1 => rfl); (case hx1 => rfl); (case hd1 => rfl); (case hi1 => exact HSA.out))
      | (go_at_call 16; (with_reducible refine HA.out.mono ?_); rintro e w1 ⟨rfl, hb1⟩
         have m1 := (hb1.block _ (lt_of_heapF N1.out)).trans N1.out
         have M1 := Lib.hid m1
         have B1 := hide (NB.out.trans (hb1.mono NB.out.size))
         clear m1 hb1)
      | ((with_reducible refine wpList_load_wholeG w1 ?hgd2 44 (.tmp 3) ?ho2 (w.heap.size + 1) 44 cb _ ?hx2 M1.out Tryz.underlying44 ?hd2 ?hi2 ?_); (case hgd2 => rfl); (case ho2 => rfl); (case hx2 => rfl); (case hd2 => rfl); (case hi2 => exact HSB.out))
      | (go_at_call 16; (with_reducible refine (HB.out _ B1.out).mono ?_); rintro e W2 ⟨rfl, hb2⟩
         have B2 := hide (B1.out.trans (hb2.mono B1.out.size))
         clear hb2)
      | (go_at_call 17; refine (ualive_any _).mono ?_; rintro e w3 ⟨rfl, hb3⟩; have B3 := hide (B2.out.trans (hb3.mono B2.out.size)); clear hb3))
    go_ret
    exact ⟨rfl, B3.out⟩
theorem updatesame_any (ca cb : Array Value) (da db : UpdD) (w : World) (ha : UpdC w w.heap.size ca da) (hb : UpdC w w.heap.size cb db) (oka : UpdOk da) (okb : UpdOk db) :
    Calls Tryz.prog 4 #[.agg ca, .agg cb] w fun e w' => e = .returned (.bool true) ∧ Below w.heap.size w w' := by
  cases h1 : FewU da with
  | false => exact usame_large ca cb da db w ha hb oka okb (.inl h1)
  | true =>
    cases h2 : FewU db with
    | false => exact usame_large ca cb da db w ha hb oka okb (.inr h2)
    | true => exact usame_main ca cb da db w ha hb oka okb h1 h2
end Go.Proofs.YtnfclcbhehbchaaGreatDoor
