/- The empty path's methods, and what handles it. -/
import Derived.Test.YtnfclcbhehbchaaGreatDoorFlgK
set_option autoImplicit false
namespace Go.Proofs.YtnfclcbhehbchaaGreatDoor
open Go.RowKit
structure PB (w : World) (V : World) (L : Array Bool) (x4 x5 x6 x7 x8 x9 x10 x11 x12 x13 x14 : Value) : Prop where
  pv : PV w V 122
  f0 : L.getD 0 false = true → x6 = .agg #[.bool false, .bool false, .bool false, .bool false, .bool false, .bool false]
  f1 : L.getD 1 false = true → x7 = .pointer (some ⟨w.heap.size + 1, 0, none⟩)
  f2 : L.getD 2 false = true → x8 = .int .i64 2
  f3 : L.getD 3 false = true → x9 = .int .i64 2
  f4 : L.getD 4 false = true → x10 = .pointer (some ⟨w.heap.size + 1, 4, none⟩)
  f5 : L.getD 5 false = true → x11 = .slice none 0 0
  f6 : L.getD 6 false = true → x12 = .tuple #[.slice none 0 0, .bool true]
  f7 : L.getD 7 false = true → x13 = .slice none 0 0
  f8 : L.getD 8 false = true → x14 = .bool true
  f9 : L.getD 9 false = true → x4 = .slice none 0 0
  f10 : L.getD 10 false = true → x5 = .bool true
theorem PB.more {w V V' : World} {L : Array Bool} {x4 x5 x6 x7 x8 x9 x10 x11 x12 x13 x14 : Value} (H : PB w V L x4 x5 x6 x7 x8 x9 x10 x11 x12 x13 x14) (hb : Below V.heap.size V V') : PB w V' L x4 x5 x6 x7 x8 x9 x10 x11 x12 x13 x14 := ⟨H.pv.more hb, H.f0, H.f1, H.f2, H.f3, H.f4, H.f5, H.f6, H.f7, H.f8, H.f9, H.f10⟩
set_option maxRecDepth 100000 in
set_option maxHeartbeats 4000000 in
theorem pbytes_two (w : World) : Calls Tryz.prog 160 #[.agg #[.bool false, .bool false, .bool false, .bool false, .bool false, .bool false], .agg #[.int .i64 2, .bool false, .int .u32 0, .int .u32 0, .slice none 0 0, .slice none 0 0, .slice none 0 0, .int .i64 0, .slice none 0 0]] w fun e w' => e = .returned (.tuple #[.slice none 0 0, .bool true]) ∧ Below w.heap.size w w' := by
  have hst : PB w ((w.alloc (.cells #[.bool false, .bool false, .bool false, .bool false, .bool false, .bool false] 122)).alloc (.cells #[.int .i64 2, .bool false, .int .u32 0, .int .u32 0, .slice none 0 0, .slice none 0 0, .slice none 0 0, .int .i64 0, .slice none 0 0] 38)).drew (Array.replicate 11 false) (.slice none 0 0) (.bool false) (undef) (undef) (undef) (undef) (undef) (undef) (undef) (undef) (undef) := ⟨⟨(PV.start w 122).g0, (PV.start w 122).g1, (PV.start w 122).be.drew⟩, fun h => absurd h (by decide), fun h => absurd h (by decide), fun h => absurd h (by decide), fun h => absurd h (by decide), fun h => absurd h (by decide), fun h => absurd h (by decide), fun h => absurd h (by decide), fun h => absurd h (by decide), fun h => absurd h (by decide), fun h => absurd h (by decide), fun h => absurd h (by decide)⟩
  have HST := hide hst
  clear hst
  go_enter Tryz.func160, Tryz.ntmps160
  go_wp2_with fail
  refine wp_region_inv (by kernel_rfl) (fun L a V => ∃ x4 x5 x6 x7 x8 x9 x10 x11 x12 x13 x14 : Value, a = ⟨List.toArray ((.agg #[.bool false, .bool false, .bool false, .bool false, .bool false, .bool false]) :: (.agg #[.int .i64 2, .bool false, .int .u32 0, .int .u32 0, .slice none 0 0, .slice none 0 0, .slice none 0 0, .int .i64 0, .slice none 0 0]) :: (.pointer (some ⟨w.heap.size, 0, none⟩)) :: (.pointer (some ⟨w.heap.size + 1, 0, none⟩)) :: (x4) :: (x5) :: (x6) :: (x7) :: (x8) :: (x9) :: (x10) :: (x11) :: (x12) :: (x13) :: (x14) :: []), []⟩ ∧ PB w V L x4 x5 x6 x7 x8 x9 x10 x11 x12 x13 x14) (by kernel_rfl) ?steps ⟨.slice none 0 0, .bool false, undef, undef, undef, undef, undef, undef, undef, undef, undef, rfl, HST.out⟩ ?done
  case steps =>
    refine ⟨?_, ?_, ?_, ?_, ?_, ?_, ?_, ?_, ?_, ?_, ?_, trivial⟩
    · rintro L a V ⟨x4, x5, x6, x7, x8, x9, x10, x11, x12, x13, x14, rfl, H⟩ hl ha K hK
      refine step_load_whole V rfl 122 (.tmp 2) rfl (w.heap.size) 122 #[.bool false, .bool false, .bool false, .bool false, .bool false, .bool false] _ rfl H.pv.g0 Tryz.underlying122 rfl paths_size ?_
      exact hK _ _ ⟨_, _, _, _, _, _, _, _, _, _, _, rfl, ⟨H.pv, fun _ => rfl, fun h => H.f1 ((getD_set h).resolve_left (by decide)), fun h => H.f2 ((getD_set h).resolve_left (by decide)), fun h => H.f3 ((getD_set h).resolve_left (by decide)), fun h => H.f4 ((getD_set h).resolve_left (by decide)), fun h => H.f5 ((getD_set h).resolve_left (by decide)), fun h => H.f6 ((getD_set h).resolve_left (by decide)), fun h => H.f7 ((getD_set h).resolve_left (by decide)), fun h => H.f8 ((getD_set h).resolve_left (by decide)), fun h => H.f9 ((getD_set h).resolve_left (by decide)), fun h => H.f10 ((getD_set h).resolve_left (by decide))⟩⟩
    · rintro L a V ⟨x4, x5, x6, x7, x8, x9, x10, x11, x12, x13, x14, rfl, H⟩ hl ha K hK
      go_simp
      exact hK _ _ ⟨_, _, _, _, _, _, _, _, _, _, _, rfl, ⟨H.pv, fun h => H.f0 ((getD_set h).resolve_left (by decide)), fun _ => rfl, fun h => H.f2 ((getD_set h).resolve_left (by decide)), fun h => H.f3 ((getD_set h).resolve_left (by decide)), fun h => H.f4 ((getD_set h).resolve_left (by decide)), fun h => H.f5 ((getD_set h).resolve_left (by decide)), fun h => H.f6 ((getD_set h).resolve_left (by decide)), fun h => H.f7 ((getD_set h).resolve_left (by decide)), fun h => H.f8 ((getD_set h).resolve_left (by decide)), fun h => H.f9 ((getD_set h).resolve_left (by decide)), fun h => H.f10 ((getD_set h).resolve_left (by decide))⟩⟩
    · rintro L a V ⟨x4, x5, x6, x7, x8, x9, x10, x11, x12, x13, x14, rfl, H⟩ hl ha K hK
      obtain rfl := H.f1 (ha ⟨1, .data⟩ (by simp) rfl)
      refine step_load_cell V rfl 3 (.tmp 7) rfl ⟨w.heap.size + 1, 0, none⟩ _ (.int .i64 2) rfl (by rw [cell_of_row _ _ 0 _ _ _ H.pv.g1]; rfl) Tryz.underlying3 rfl ?_
      exact hK _ _ ⟨_, _, _, _, _, _, _, _, _, _, _, rfl, ⟨H.pv, fun h => H.f0 ((getD_set h).resolve_left (by decide)), fun h => H.f1 ((getD_set h).resolve_left (by decide)), fun _ => rfl, fun h => H.f3 ((getD_set h).resolve_left (by decide)), fun h => H.f4 ((getD_set h).resolve_left (by decide)), fun h => H.f5 ((getD_set h).resolve_left (by decide)), fun h => H.f6 ((getD_set h).resolve_left (by decide)), fun h => H.f7 ((getD_set h).resolve_left (by decide)), fun h => H.f8 ((getD_set h).resolve_left (by decide)), fun h => H.f9 ((getD_set h).resolve_left (by decide)), fun h => H.f10 ((getD_set h).resolve_left (by decide))⟩⟩
    · rintro L a V ⟨x4, x5, x6, x7, x8, x9, x10, x11, x12, x13, x14, rfl, H⟩ hl ha K hK
      obtain rfl := H.f0 (ha ⟨0, .data⟩ (by simp) rfl)
      obtain rfl := H.f2 (ha ⟨2, .data⟩ (by simp) rfl)
      refine step_call_fn (args := #[.agg #[.bool false, .bool false, .bool false, .bool false, .bool false, .bool false], .int .i64 2]) rfl rfl Tryz.func163 (by decide) rfl (by simp [Act.eval]) (pwidth_no V) ?_
      rintro e w' ⟨rfl, hb⟩
      refine ⟨_, rfl, ?_⟩
      replace H := H.more hb
      exact hK _ _ ⟨_, _, _, _, _, _, _, _, _, _, _, rfl, ⟨H.pv, fun h => H.f0 ((getD_set h).resolve_left (by decide)), fun h => H.f1 ((getD_set h).resolve_left (by decide)), fun h => H.f2 ((getD_set h).resolve_left (by decide)), fun _ => rfl, fun h => H.f4 ((getD_set h).resolve_left (by decide)), fun h => H.f5 ((getD_set h).resolve_left (by decide)), fun h => H.f6 ((getD_set h).resolve_left (by decide)), fun h => H.f7 ((getD_set h).resolve_left (by decide)), fun h => H.f8 ((getD_set h).resolve_left (by decide)), fun h => H.f9 ((getD_set h).resolve_left (by decide)), fun h => H.f10 ((getD_set h).resolve_left (by decide))⟩⟩
    · rintro L a V ⟨x4, x5, x6, x7, x8, x9, x10, x11, x12, x13, x14, rfl, H⟩ hl ha K hK
      go_simp
      exact hK _ _ ⟨_, _, _, _, _, _, _, _, _, _, _, rfl, ⟨H.pv, fun h => H.f0 ((getD_set h).resolve_left (by decide)), fun h => H.f1 ((getD_set h).resolve_left (by decide)), fun h => H.f2 ((getD_set h).resolve_left (by decide)), fun h => H.f3 ((getD_set h).resolve_left (by decide)), fun _ => rfl, fun h => H.f5 ((getD_set h).resolve_left (by decide)), fun h => H.f6 ((getD_set h).resolve_left (by decide)), fun h => H.f7 ((getD_set h).resolve_left (by decide)), fun h => H.f8 ((getD_set h).resolve_left (by decide)), fun h => H.f9 ((getD_set h).resolve_left (by decide)), fun h => H.f10 ((getD_set h).resolve_left (by decide))⟩⟩
    · rintro L a V ⟨x4, x5, x6, x7, x8, x9, x10, x11, x12, x13, x14, rfl, H⟩ hl ha K hK
      obtain rfl := H.f4 (ha ⟨4, .data⟩ (by simp) rfl)
      refine step_load_cell V rfl 33 (.tmp 10) rfl ⟨w.heap.size + 1, 4, none⟩ _ (.slice none 0 0) rfl (by rw [cell_of_row _ _ 4 _ _ _ H.pv.g1]; rfl) Tryz.underlying33 rfl ?_
      exact hK _ _ ⟨_, _, _, _, _, _, _, _, _, _, _, rfl, ⟨H.pv, fun h => H.f0 ((getD_set h).resolve_left (by decide)), fun h => H.f1 ((getD_set h).resolve_left (by decide)), fun h => H.f2 ((getD_set h).resolve_left (by decide)), fun h => H.f3 ((getD_set h).resolve_left (by decide)), fun h => H.f4 ((getD_set h).resolve_left (by decide)), fun _ => rfl, fun h => H.f6 ((getD_set h).resolve_left (by decide)), fun h => H.f7 ((getD_set h).resolve_left (by decide)), fun h => H.f8 ((getD_set h).resolve_left (by decide)), fun h => H.f9 ((getD_set h).resolve_left (by decide)), fun h => H.f10 ((getD_set h).resolve_left (by decide))⟩⟩
    · rintro L a V ⟨x4, x5, x6, x7, x8, x9, x10, x11, x12, x13, x14, rfl, H⟩ hl ha K hK
      obtain rfl := H.f3 (ha ⟨3, .data⟩ (by simp) rfl)
      obtain rfl := H.f5 (ha ⟨5, .data⟩ (by simp) rfl)
      refine step_call_fn (args := #[.int .i64 2, .slice none 0 0]) rfl rfl Tryz.func164 (by decide) rfl (by simp [Act.eval]) (sbytes_nil V) ?_
      rintro e w' ⟨rfl, hb⟩
      refine ⟨_, rfl, ?_⟩
      replace H := H.more hb
      exact hK _ _ ⟨_, _, _, _, _, _, _, _, _, _, _, rfl, ⟨H.pv, fun h => H.f0 ((getD_set h).resolve_left (by decide)), fun h => H.f1 ((getD_set h).resolve_left (by decide)), fun h => H.f2 ((getD_set h).resolve_left (by decide)), fun h => H.f3 ((getD_set h).resolve_left (by decide)), fun h => H.f4 ((getD_set h).resolve_left (by decide)), fun h => H.f5 ((getD_set h).resolve_left (by decide)), fun _ => rfl, fun h => H.f7 ((getD_set h).resolve_left (by decide)), fun h => H.f8 ((getD_set h).resolve_left (by decide)), fun h => H.f9 ((getD_set h).resolve_left (by decide)), fun h => H.f10 ((getD_set h).resolve_left (by decide))⟩⟩
    · rintro L a V ⟨x4, x5, x6, x7, x8, x9, x10, x11, x12, x13, x14, rfl, H⟩ hl ha K hK
      obtain rfl := H.f6 (ha ⟨6, .data⟩ (by simp) rfl)
      go_simp
      exact hK _ _ ⟨_, _, _, _, _, _, _, _, _, _, _, rfl, ⟨H.pv, fun h => H.f0 ((getD_set h).resolve_left (by decide)), fun h => H.f1 ((getD_set h).resolve_left (by decide)), fun h => H.f2 ((getD_set h).resolve_left (by decide)), fun h => H.f3 ((getD_set h).resolve_left (by decide)), fun h => H.f4 ((getD_set h).resolve_left (by decide)), fun h => H.f5 ((getD_set h).resolve_left (by decide)), fun h => H.f6 ((getD_set h).resolve_left (by decide)), fun _ => rfl, fun h => H.f8 ((getD_set h).resolve_left (by decide)), fun h => H.f9 ((getD_set h).resolve_left (by decide)), fun h => H.f10 ((getD_set h).resolve_left (by decide))⟩⟩
    · rintro L a V ⟨x4, x5, x6, x7, x8, x9, x10, x11, x12, x13, x14, rfl, H⟩ hl ha K hK
      obtain rfl := H.f6 (ha ⟨6, .data⟩ (by simp) rfl)
      go_simp
      exact hK _ _ ⟨_, _, _, _, _, _, _, _, _, _, _, rfl, ⟨H.pv, fun h => H.f0 ((getD_set h).resolve_left (by decide)), fun h => H.f1 ((getD_set h).resolve_left (by decide)), fun h => H.f2 ((getD_set h).resolve_left (by decide)), fun h => H.f3 ((getD_set h).resolve_left (by decide)), fun h => H.f4 ((getD_set h).resolve_left (by decide)), fun h => H.f5 ((getD_set h).resolve_left (by decide)), fun h => H.f6 ((getD_set h).resolve_left (by decide)), fun h => H.f7 ((getD_set h).resolve_left (by decide)), fun _ => rfl, fun h => H.f9 ((getD_set h).resolve_left (by decide)), fun h => H.f10 ((getD_set h).resolve_left (by decide))⟩⟩
    · rintro L a V ⟨x4, x5, x6, x7, x8, x9, x10, x11, x12, x13, x14, rfl, H⟩ hl ha K hK
      obtain rfl := H.f7 (ha ⟨7, .data⟩ (by simp) rfl)
      go_simp
      exact hK _ _ ⟨_, _, _, _, _, _, _, _, _, _, _, rfl, ⟨H.pv, fun h => H.f0 ((getD_set h).resolve_left (by decide)), fun h => H.f1 ((getD_set h).resolve_left (by decide)), fun h => H.f2 ((getD_set h).resolve_left (by decide)), fun h => H.f3 ((getD_set h).resolve_left (by decide)), fun h => H.f4 ((getD_set h).resolve_left (by decide)), fun h => H.f5 ((getD_set h).resolve_left (by decide)), fun h => H.f6 ((getD_set h).resolve_left (by decide)), fun h => H.f7 ((getD_set h).resolve_left (by decide)), fun h => H.f8 ((getD_set h).resolve_left (by decide)), fun _ => rfl, fun h => H.f10 ((getD_set h).resolve_left (by decide))⟩⟩
    · rintro L a V ⟨x4, x5, x6, x7, x8, x9, x10, x11, x12, x13, x14, rfl, H⟩ hl ha K hK
      obtain rfl := H.f8 (ha ⟨8, .data⟩ (by simp) rfl)
      go_simp
      exact hK _ _ ⟨_, _, _, _, _, _, _, _, _, _, _, rfl, ⟨H.pv, fun h => H.f0 ((getD_set h).resolve_left (by decide)), fun h => H.f1 ((getD_set h).resolve_left (by decide)), fun h => H.f2 ((getD_set h).resolve_left (by decide)), fun h => H.f3 ((getD_set h).resolve_left (by decide)), fun h => H.f4 ((getD_set h).resolve_left (by decide)), fun h => H.f5 ((getD_set h).resolve_left (by decide)), fun h => H.f6 ((getD_set h).resolve_left (by decide)), fun h => H.f7 ((getD_set h).resolve_left (by decide)), fun h => H.f8 ((getD_set h).resolve_left (by decide)), fun h => H.f9 ((getD_set h).resolve_left (by decide)), fun _ => rfl⟩⟩
  case done =>
    rintro L a V ⟨x4, x5, x6, x7, x8, x9, x10, x11, x12, x13, x14, rfl, H⟩ hall
    obtain rfl := H.f9 (hall 9 (by decide))
    obtain rfl := H.f10 (hall 10 (by decide))
    have BE := hide H.pv.be
    clear H hall
    go_wp2_with fail
    refine bodyPost_ret (v := .tuple #[.slice none 0 0, .bool true]) (by simp [results, Tryz.results160, go_sem]) rfl ?_
    exact ⟨rfl, BE.out⟩
set_option maxRecDepth 100000 in
set_option maxHeartbeats 4000000 in
theorem of_two (w : World) : Calls Tryz.prog 79 #[.agg #[.bool false, .bool false, .bool false, .bool false, .bool false, .bool false], .int .i64 2] w fun e w' => e = .returned (.iface 122 (.agg #[.bool false, .bool false, .bool false, .bool false, .bool false, .bool false])) ∧ Below w.heap.size w w' := by
  obtain ⟨W0, hW0⟩ : ∃ W0, W0 = w.alloc (.cells #[.bool false, .bool false, .bool false, .bool false, .bool false, .bool false] 60) := ⟨_, rfl⟩
  have hb0 : Below w.heap.size w W0 := by rw [hW0]; exact (Below.refl _ _).alloc (Nat.le_refl _) _
  have hg0 : W0.heap[w.heap.size]? = some (.cells #[.bool false, .bool false, .bool false, .bool false, .bool false, .bool false] 60 (0, 0)) := by rw [hW0]; exact heap_alloc_new _ _
  have B0 := hide hb0
  have G0 := Lib.hid hg0
  have h2 : hasF 2 = false := by decide
  have hh := has_any 2 W0
  rw [h2] at hh
  have HH := hide hh
  have HW0 := Lib.hid hW0
  have hos := opt_size
  have HOS := Lib.hid hos
  clear hb0 hg0 hW0 hh h2 hos
  go_enter Tryz.func79, Tryz.ntmps79
  go_wp2_with (first
    | (go_at_call 87; rw [← HW0.out]; refine HH.out.mono ?_; rintro e w1 ⟨rfl, hb1⟩
       have g1 := (hb1.block w.heap.size (lt_of_block G0.out)).trans G0.out
       have c0 : w1.cell? ⟨w.heap.size, 0, none⟩ = some (.bool false) := by rw [cell_of_row _ _ 0 _ _ _ g1]; rfl
       have c1 : w1.cell? ⟨w.heap.size, 1, none⟩ = some (.bool false) := by rw [cell_of_row _ _ 1 _ _ _ g1]; rfl
       have c2 : w1.cell? ⟨w.heap.size, 2, none⟩ = some (.bool false) := by rw [cell_of_row _ _ 2 _ _ _ g1]; rfl
       have c3 : w1.cell? ⟨w.heap.size, 3, none⟩ = some (.bool false) := by rw [cell_of_row _ _ 3 _ _ _ g1]; rfl
       have c4 : w1.cell? ⟨w.heap.size, 4, none⟩ = some (.bool false) := by rw [cell_of_row _ _ 4 _ _ _ g1]; rfl
       have c5 : w1.cell? ⟨w.heap.size, 5, none⟩ = some (.bool false) := by rw [cell_of_row _ _ 5 _ _ _ g1]; rfl
       have l0 := lt_of_block g1
       have B1 := hide (B0.out.trans (hb1.mono B0.out.size))
       clear g1 hb1)
    | (go_at_call 88; refine (group_two _).mono ?_; rintro e w2 ⟨rfl, rfl⟩)
    | (go_at_call 89; refine (aggHas_two _).mono ?_; rintro e w2 ⟨rfl, rfl⟩)
    | (go_at_call 90; refine (mpHas_two _).mono ?_; rintro e w2 ⟨rfl, rfl⟩))
  go_ret
  exact ⟨rfl, B1.out⟩
end Go.Proofs.YtnfclcbhehbchaaGreatDoor
