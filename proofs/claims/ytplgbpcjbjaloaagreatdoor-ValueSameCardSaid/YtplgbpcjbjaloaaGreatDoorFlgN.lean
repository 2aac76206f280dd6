/- value.Form at the empty path; the example of the chapter holds. -/
import Derived.Test.YtplgbpcjbjaloaaGreatDoorFlgM
set_option autoImplicit false
namespace Go.Proofs.YtplgbpcjbjaloaaGreatDoor
open Go.RowKit
set_option maxRecDepth 100000 in
set_option maxHeartbeats 4000000 in
theorem form_two (w : World) : Calls Tryz.prog 16 #[.agg #[.bool false, .bool false, .bool false, .bool false, .bool false, .bool false], .agg #[.int .i64 2, .bool false, .int .u32 0, .int .u32 0, .slice none 0 0, .slice none 0 0, .slice none 0 0, .int .i64 0, .slice none 0 0]] w fun e w' => ∃ v, e = .returned (.tuple #[v, .bool true]) ∧ w'.ownsRow w.heap.size 5 1 v 3 (bV [64, 2, 0]) ∧ Below w.heap.size w w' := by
  have hpv := PV.start w 41
  have HPV := hide hpv
  have hhs := head_size
  have HHS := Lib.hid hhs
  clear hpv hhs
  go_enter Tryz.func16, Tryz.ntmps16
  go_wp2_with (first
    | (go_at_call 41; refine (vbytes_two _).mono ?_; rintro e w1 ⟨rfl, hb1⟩
       have h1 := HPV.out.more hb1
       have c1 : w1.cell? ⟨w.heap.size + 1, 0, none⟩ = some (.int .i64 2) := by rw [cell_of_row _ _ 0 _ _ _ h1.g1]; rfl
       have c2 : w1.cell? ⟨w.heap.size + 1, 1, none⟩ = some (.bool false) := by rw [cell_of_row _ _ 1 _ _ _ h1.g1]; rfl
       have l1 := lt_of_heapF h1.g1
       have H1 := hide h1
       clear hb1 h1)
    | (go_at_call 42; refine (canon_two _).mono ?_; rintro e w2 ⟨rfl, hb2⟩
       have B2 := hide (H1.out.be.trans (hb2.mono H1.out.be.size))
       clear hb2)
    | (go_at_call 43; refine (fbytes_two _).mono ?_; rintro e w3 ⟨v, rfl, ho3, hb3⟩
       obtain ⟨A, c, rfl, hc1, hc2⟩ := slice_of_ownF ho3
       have B3 := hide ((B2.out.alloc B2.out.size (.cells #[.int .i64 64, .int .i64 2, .int .i64 0] 52)).trans (hb3.mono (by simp; have := B2.out.size; omega)))
       have HO3 := hide ho3
       clear hb3 ho3))
  have hct := cat_two w3 (Value.slice A 3 c) (.slice none 0 0) [64, 2, 0] [] (src_of_own HO3.out rfl) ⟨none, 0, rfl, Reads.none_, bV_one []⟩ (by simp)
  refine hct.mono ?_
  rintro e w4 ⟨v, rfl, ho, hb4⟩
  have HO := hide (own_baseF ho B3.out.size)
  have B4 := hide (B3.out.trans (hb4.mono B3.out.size))
  clear ho hb4 hct
  go_wp2_with fail
  refine bodyPost_ret (v := .tuple #[v, .bool true]) (by simp [results, Tryz.results16, go_sem]) rfl ?_
  exact ⟨_, rfl, HO.out, B4.out⟩
set_option maxRecDepth 100000 in
set_option maxHeartbeats 4000000 in
theorem alive_any (w : World) : Calls Tryz.prog 6 #[] w fun e w' => e = .returned (.bool true) ∧ Below w.heap.size w w' := by
  obtain ⟨W0, hW0⟩ : ∃ W0, W0 = w.alloc (.cells #[.int .i64 2, .bool false, .int .u32 0, .int .u32 0, .slice none 0 0, .slice none 0 0, .slice none 0 0, .int .i64 0, .slice none 0 0] 28) := ⟨_, rfl⟩
  have hg0 : W0.heap[w.heap.size]? = some (.cells #[.int .i64 2, .bool false, .int .u32 0, .int .u32 0, .slice none 0 0, .slice none 0 0, .slice none 0 0, .int .i64 0, .slice none 0 0] 28 (0, 0)) := by rw [hW0]; exact heap_alloc_new _ _
  have hb0 : Below w.heap.size w W0 := by rw [hW0]; exact (Below.refl _ _).alloc (Nat.le_refl _) _
  have B0 := hide hb0
  have G0 := Lib.hid hg0
  have HW0 := Lib.hid hW0
  have has := attr_size
  have HAS := Lib.hid has
  clear hb0 hg0 hW0 has
  go_enter Tryz.func6, Tryz.ntmps6
  go_wp2_with (first
    | (go_at_call 16; rw [← HW0.out]; refine (form_two _).mono ?_; rintro e w1 ⟨v, rfl, ho1, hb1⟩
       have g1 := (hb1.block w.heap.size (lt_of_heapF G0.out)).trans G0.out
       have G1 := Lib.hid g1
       have B1 := hide (B0.out.trans (hb1.mono B0.out.size))
       obtain ⟨hlen, h2⟩ := ho1
       rcases h2 with ⟨_, hn⟩ | ⟨g, cap, cur, rfl, _, hh, hc1, hc2, hs, ht⟩
       · cases hn
       have ho1 : w1.ownsRow W0.heap.size 5 1 (.slice (some ⟨g, 0, none⟩) 3 cap) 3 (bV [64, 2, 0]) := ⟨hlen, .inr ⟨g, cap, cur, rfl, by assumption, hh, hc1, hc2, hs, ht⟩⟩
       have d0 : w1.cell? ⟨g, 0, none⟩ = some (.int .u8 64) := ho1.cellAt 0 (by omega)
       have d1 : w1.cell? ⟨g, 1, none⟩ = some (.int .u8 2) := ho1.cellAt 1 (by omega)
       have d2 : w1.cell? ⟨g, 2, none⟩ = some (.int .u8 0) := ho1.cellAt 2 (by omega)
       clear g1 hb1 ho1 hh hs ht hlen)
    | ((with_reducible refine wpList_load_wholeH w1 ?hgd2 28 (.tmp 1) ?ho2 w.heap.size 28 #[.int .i64 2, .bool false, .int .u32 0, .int .u32 0, .slice none 0 0, .slice none 0 0, .slice none 0 0, .int .i64 0, .slice none 0 0] _ ?hx2 G1.out Tryz.underlying28 ?hd2 ?hi2 ?_); (case hgd2 => rfl); (case ho2 => rfl); (case hx2 => rfl); (case hd2 => rfl); (case hi2 => exact HAS.out))
    | (go_at_call 17; refine (vtext_two _).mono ?_; rintro e w2 ⟨rfl, hb2⟩
       have B2 := hide (B1.out.trans (hb2.mono B1.out.size))
       clear hb2))
  go_ret
  exact ⟨rfl, B2.out⟩
end Go.Proofs.YtplgbpcjbjaloaaGreatDoor
