/- value.Form at the empty path; the example of the chapter holds. -/
import Derived.Test.YtnfclcbhehbchaaGreatDoorFlgM
set_option autoImplicit false
namespace Go.Proofs.YtnfclcbhehbchaaGreatDoor
open Go.RowKit
set_option maxRecDepth 100000 in
set_option maxHeartbeats 4000000 in
theorem form_two (w : World) : Calls Tryz.prog 44 #[.agg #[.bool false, .bool false, .bool false, .bool false, .bool false, .bool false], .agg #[.int .i64 2, .bool false, .int .u32 0, .int .u32 0, .slice none 0 0, .slice none 0 0, .slice none 0 0, .int .i64 0, .slice none 0 0]] w fun e w' => ∃ v, e = .returned (.tuple #[v, .bool true]) ∧ w'.ownsRow w.heap.size 5 1 v 3 (bV [64, 2, 0]) ∧ Below w.heap.size w w' := by
  have hpv := PV.start w 60
  have HPV := hide hpv
  have hhs := head_size
  have HHS := Lib.hid hhs
  clear hpv hhs
  go_enter Tryz.func44, Tryz.ntmps44
  go_wp2_with (first
    | (go_at_call 63; refine (vbytes_two _).mono ?_; rintro e w1 ⟨rfl, hb1⟩
       have h1 := HPV.out.more hb1
       have c1 : w1.cell? ⟨w.heap.size + 1, 0, none⟩ = some (.int .i64 2) := by rw [cell_of_row _ _ 0 _ _ _ h1.g1]; rfl
       have c2 : w1.cell? ⟨w.heap.size + 1, 1, none⟩ = some (.bool false) := by rw [cell_of_row _ _ 1 _ _ _ h1.g1]; rfl
       have l1 := lt_of_heapF h1.g1
       have H1 := hide h1
       clear hb1 h1)
    | (go_at_call 64; refine (canon_two _).mono ?_; rintro e w2 ⟨rfl, hb2⟩
       have B2 := hide (H1.out.be.trans (hb2.mono H1.out.be.size))
       clear hb2)
    | (go_at_call 65; refine (fbytes_two _).mono ?_; rintro e w3 ⟨v, rfl, ho3, hb3⟩
       obtain ⟨A, c, rfl, hc1, hc2⟩ := slice_of_ownF ho3
       have B3 := hide ((B2.out.alloc B2.out.size (.cells #[.int .i64 64, .int .i64 2, .int .i64 0] 92)).trans (hb3.mono (by simp; have := B2.out.size; omega)))
       have HO3 := hide ho3
       clear hb3 ho3))
  have hct := cat_two w3 (Value.slice A 3 c) (.slice none 0 0) [64, 2, 0] [] (src_of_own HO3.out rfl) ⟨none, 0, rfl, Reads.none_, bV_one []⟩ (by simp)
  refine hct.mono ?_
  rintro e w4 ⟨v, rfl, ho, hb4⟩
  have HO := hide (own_baseF ho B3.out.size)
  have B4 := hide (B3.out.trans (hb4.mono B3.out.size))
  clear ho hb4 hct
  go_wp2_with fail
  refine bodyPost_ret (v := .tuple #[v, .bool true]) (by simp [results, Tryz.results44, go_sem]) rfl ?_
  exact ⟨_, rfl, HO.out, B4.out⟩
end Go.Proofs.YtnfclcbhehbchaaGreatDoor
