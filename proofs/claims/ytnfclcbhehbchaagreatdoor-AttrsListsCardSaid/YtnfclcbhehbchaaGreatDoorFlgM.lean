/- value.Valid, value.Bytes, value.Text and value.Form at the empty path. -/
import Derived.Test.YtnfclcbhehbchaaGreatDoorFlgL
set_option autoImplicit false
namespace Go.Proofs.YtnfclcbhehbchaaGreatDoor
open Go.RowKit
theorem call_valid (x y : Value) (w : World) : (callMethod (.iface 122 x) "peerage/value.valid" #[y]).run Tryz.prog w = .ok (.enter 162 #[x, y]) w := by kernel_rfl
theorem call_bytes (x y : Value) (w : World) : (callMethod (.iface 122 x) "peerage/value.bytes" #[y]).run Tryz.prog w = .ok (.enter 160 #[x, y]) w := by kernel_rfl
structure VV (w : World) (V : World) (L : Array Bool) (x4 x22 x23 x24 x25 x26 x27 : Value) : Prop where
  pv : PV w V 60
  f0 : L.getD 0 false = true → x22 = .agg #[.bool false, .bool false, .bool false, .bool false, .bool false, .bool false]
  f1 : L.getD 1 false = true → x23 = .pointer (some ⟨w.heap.size + 1, 0, none⟩)
  f2 : L.getD 2 false = true → x24 = .int .i64 2
  f3 : L.getD 3 false = true → x25 = .iface 122 (.agg #[.bool false, .bool false, .bool false, .bool false, .bool false, .bool false])
  f4 : L.getD 4 false = true → x26 = .agg #[.int .i64 2, .bool false, .int .u32 0, .int .u32 0, .slice none 0 0, .slice none 0 0, .slice none 0 0, .int .i64 0, .slice none 0 0]
  f5 : L.getD 5 false = true → x27 = .bool true
  f6 : L.getD 6 false = true → x4 = .bool true
theorem VV.more {w V V' : World} {L : Array Bool} {x4 x22 x23 x24 x25 x26 x27 : Value} (H : VV w V L x4 x22 x23 x24 x25 x26 x27) (hb : Below V.heap.size V V') : VV w V' L x4 x22 x23 x24 x25 x26 x27 := ⟨H.pv.more hb, H.f0, H.f1, H.f2, H.f3, H.f4, H.f5, H.f6⟩
set_option maxRecDepth 100000 in
set_option maxHeartbeats 4000000 in
theorem vvalid_two (w : World) : Calls Tryz.prog 78 #[.agg #[.bool false, .bool false, .bool false, .bool false, .bool false, .bool false], .agg #[.int .i64 2, .bool false, .int .u32 0, .int .u32 0, .slice none 0 0, .slice none 0 0, .slice none 0 0, .int .i64 0, .slice none 0 0]] w fun e w' => e = .returned (.bool true) ∧ Below w.heap.size w w' := by
  have hpv := PV.start w 60
  have HPV := hide hpv
  clear hpv
  have HC := hide (fun W => class_any 2 64 W two_cls)
  go_enter Tryz.func78, Tryz.ntmps78
  go_wp2_with (go_at_call 80; refine (HC.out _).mono ?_; rintro e w1 ⟨rfl, hb1⟩
               have h1 := HPV.out.more hb1
               have c1 : w1.cell? ⟨w.heap.size + 1, 1, none⟩ = some (.bool false) := by rw [cell_of_row _ _ 1 _ _ _ h1.g1]; rfl
               have l1 := lt_of_heapF h1.g1
               have H1 := hide h1
               clear hb1 h1)
  have hst : VV w w1.drew (Array.replicate 7 false) (.bool false) (undef) (undef) (undef) (undef) (undef) (undef) := ⟨⟨H1.out.g0, H1.out.g1, H1.out.be.drew⟩, fun h => absurd h (by decide), fun h => absurd h (by decide), fun h => absurd h (by decide), fun h => absurd h (by decide), fun h => absurd h (by decide), fun h => absurd h (by decide), fun h => absurd h (by decide)⟩
  refine wp_region_inv (by kernel_rfl) (fun L a V => ∃ x4 x22 x23 x24 x25 x26 x27 : Value, a = ⟨List.toArray ((.agg #[.bool false, .bool false, .bool false, .bool false, .bool false, .bool false]) :: (.agg #[.int .i64 2, .bool false, .int .u32 0, .int .u32 0, .slice none 0 0, .slice none 0 0, .slice none 0 0, .int .i64 0, .slice none 0 0]) :: (.pointer (some ⟨w.heap.size, 0, none⟩)) :: (.pointer (some ⟨w.heap.size + 1, 0, none⟩)) :: (x4) :: (.int .i64 64) :: (.bool true) :: (.tuple #[.int .i64 64, .bool true]) :: (.pointer (some ⟨w.heap.size + 1, 0, none⟩)) :: (.int .i64 2) :: (.tuple #[.int .i64 64, .bool true]) :: (.int .i64 64) :: (.bool true) :: (.bool true) :: (.bool true) :: (.int .i64 64) :: (.bool true) :: (.bool true) :: (.bool true) :: (.pointer (some ⟨w.heap.size + 1, 1, none⟩)) :: (.bool false) :: (.bool false) :: (x22) :: (x23) :: (x24) :: (x25) :: (x26) :: (x27) :: []), []⟩ ∧ VV w V L x4 x22 x23 x24 x25 x26 x27) (by kernel_rfl) ?steps ⟨.bool false, undef, undef, undef, undef, undef, undef, rfl, hst⟩ ?done
  case steps =>
    refine ⟨?_, ?_, ?_, ?_, ?_, ?_, ?_, trivial⟩
    · rintro L a V ⟨x4, x22, x23, x24, x25, x26, x27, rfl, H⟩ hl ha K hK
      refine step_load_whole V rfl 60 (.tmp 2) rfl (w.heap.size) 60 #[.bool false, .bool false, .bool false, .bool false, .bool false, .bool false] _ rfl H.pv.g0 Tryz.underlying60 rfl opt_size ?_
      exact hK _ _ ⟨_, _, _, _, _, _, _, rfl, ⟨H.pv, fun _ => rfl, fun h => H.f1 ((getD_set h).resolve_left (by decide)), fun h => H.f2 ((getD_set h).resolve_left (by decide)), fun h => H.f3 ((getD_set h).resolve_left (by decide)), fun h => H.f4 ((getD_set h).resolve_left (by decide)), fun h => H.f5 ((getD_set h).resolve_left (by decide)), fun h => H.f6 ((getD_set h).resolve_left (by decide))⟩⟩
    · rintro L a V ⟨x4, x22, x23, x24, x25, x26, x27, rfl, H⟩ hl ha K hK
      go_simp
      exact hK _ _ ⟨_, _, _, _, _, _, _, rfl, ⟨H.pv, fun h => H.f0 ((getD_set h).resolve_left (by decide)), fun _ => rfl, fun h => H.f2 ((getD_set h).resolve_left (by decide)), fun h => H.f3 ((getD_set h).resolve_left (by decide)), fun h => H.f4 ((getD_set h).resolve_left (by decide)), fun h => H.f5 ((getD_set h).resolve_left (by decide)), fun h => H.f6 ((getD_set h).resolve_left (by decide))⟩⟩
    · rintro L a V ⟨x4, x22, x23, x24, x25, x26, x27, rfl, H⟩ hl ha K hK
      obtain rfl := H.f1 (ha ⟨1, .data⟩ (by simp) rfl)
      refine step_load_cell V rfl 3 (.tmp 23) rfl ⟨w.heap.size + 1, 0, none⟩ _ (.int .i64 2) rfl (by rw [cell_of_row _ _ 0 _ _ _ H.pv.g1]; rfl) Tryz.underlying3 rfl ?_
      exact hK _ _ ⟨_, _, _, _, _, _, _, rfl, ⟨H.pv, fun h => H.f0 ((getD_set h).resolve_left (by decide)), fun h => H.f1 ((getD_set h).resolve_left (by decide)), fun _ => rfl, fun h => H.f3 ((getD_set h).resolve_left (by decide)), fun h => H.f4 ((getD_set h).resolve_left (by decide)), fun h => H.f5 ((getD_set h).resolve_left (by decide)), fun h => H.f6 ((getD_set h).resolve_left (by decide))⟩⟩
    · rintro L a V ⟨x4, x22, x23, x24, x25, x26, x27, rfl, H⟩ hl ha K hK
      obtain rfl := H.f0 (ha ⟨0, .data⟩ (by simp) rfl)
      obtain rfl := H.f2 (ha ⟨2, .data⟩ (by simp) rfl)
      refine step_call_fn (args := #[.agg #[.bool false, .bool false, .bool false, .bool false, .bool false, .bool false], .int .i64 2]) rfl rfl Tryz.func79 (by decide) rfl (by simp [Act.eval]) (of_two V) ?_
      rintro e w' ⟨rfl, hb⟩
      refine ⟨_, rfl, ?_⟩
      replace H := H.more hb
      exact hK _ _ ⟨_, _, _, _, _, _, _, rfl, ⟨H.pv, fun h => H.f0 ((getD_set h).resolve_left (by decide)), fun h => H.f1 ((getD_set h).resolve_left (by decide)), fun h => H.f2 ((getD_set h).resolve_left (by decide)), fun _ => rfl, fun h => H.f4 ((getD_set h).resolve_left (by decide)), fun h => H.f5 ((getD_set h).resolve_left (by decide)), fun h => H.f6 ((getD_set h).resolve_left (by decide))⟩⟩
    · rintro L a V ⟨x4, x22, x23, x24, x25, x26, x27, rfl, H⟩ hl ha K hK
      refine step_load_whole V rfl 38 (.tmp 3) rfl ((w.heap.size + 1)) 38 #[.int .i64 2, .bool false, .int .u32 0, .int .u32 0, .slice none 0 0, .slice none 0 0, .slice none 0 0, .int .i64 0, .slice none 0 0] _ rfl H.pv.g1 Tryz.underlying38 rfl attr_size ?_
      exact hK _ _ ⟨_, _, _, _, _, _, _, rfl, ⟨H.pv, fun h => H.f0 ((getD_set h).resolve_left (by decide)), fun h => H.f1 ((getD_set h).resolve_left (by decide)), fun h => H.f2 ((getD_set h).resolve_left (by decide)), fun h => H.f3 ((getD_set h).resolve_left (by decide)), fun _ => rfl, fun h => H.f5 ((getD_set h).resolve_left (by decide)), fun h => H.f6 ((getD_set h).resolve_left (by decide))⟩⟩
    · rintro L a V ⟨x4, x22, x23, x24, x25, x26, x27, rfl, H⟩ hl ha K hK
      obtain rfl := H.f3 (ha ⟨3, .data⟩ (by simp) rfl)
      obtain rfl := H.f4 (ha ⟨4, .data⟩ (by simp) rfl)
      refine step_invoke (args := #[.agg #[.bool false, .bool false, .bool false, .bool false, .bool false, .bool false], .agg #[.int .i64 2, .bool false, .int .u32 0, .int .u32 0, .slice none 0 0, .slice none 0 0, .slice none 0 0, .int .i64 0, .slice none 0 0]]) rfl rfl (by simp [Act.eval]) (call_valid _ _ V) (pvalid_two V) ?_
      rintro e w' ⟨rfl, hb⟩
      refine ⟨_, rfl, ?_⟩
      replace H := H.more hb
      exact hK _ _ ⟨_, _, _, _, _, _, _, rfl, ⟨H.pv, fun h => H.f0 ((getD_set h).resolve_left (by decide)), fun h => H.f1 ((getD_set h).resolve_left (by decide)), fun h => H.f2 ((getD_set h).resolve_left (by decide)), fun h => H.f3 ((getD_set h).resolve_left (by decide)), fun h => H.f4 ((getD_set h).resolve_left (by decide)), fun _ => rfl, fun h => H.f6 ((getD_set h).resolve_left (by decide))⟩⟩
    · rintro L a V ⟨x4, x22, x23, x24, x25, x26, x27, rfl, H⟩ hl ha K hK
      obtain rfl := H.f5 (ha ⟨5, .data⟩ (by simp) rfl)
      go_simp
      exact hK _ _ ⟨_, _, _, _, _, _, _, rfl, ⟨H.pv, fun h => H.f0 ((getD_set h).resolve_left (by decide)), fun h => H.f1 ((getD_set h).resolve_left (by decide)), fun h => H.f2 ((getD_set h).resolve_left (by decide)), fun h => H.f3 ((getD_set h).resolve_left (by decide)), fun h => H.f4 ((getD_set h).resolve_left (by decide)), fun h => H.f5 ((getD_set h).resolve_left (by decide)), fun _ => rfl⟩⟩
  case done =>
    rintro L a V ⟨x4, x22, x23, x24, x25, x26, x27, rfl, H⟩ hall
    obtain rfl := H.f6 (hall 6 (by decide))
    have BE := hide H.pv.be
    clear H hall
    go_wp2_with fail
    go_ret
    exact ⟨rfl, BE.out⟩
structure VB (w : World) (V : World) (L : Array Bool) (x6 x7 x12 x13 x14 x15 x16 x17 x18 x19 x20 : Value) : Prop where
  pv : PV w V 60
  f0 : L.getD 0 false = true → x13 = .agg #[.bool false, .bool false, .bool false, .bool false, .bool false, .bool false]
  f1 : L.getD 1 false = true → x14 = .pointer (some ⟨w.heap.size + 1, 0, none⟩)
  f2 : L.getD 2 false = true → x15 = .int .i64 2
  f3 : L.getD 3 false = true → x16 = .iface 122 (.agg #[.bool false, .bool false, .bool false, .bool false, .bool false, .bool false])
  f4 : L.getD 4 false = true → x17 = .agg #[.int .i64 2, .bool false, .int .u32 0, .int .u32 0, .slice none 0 0, .slice none 0 0, .slice none 0 0, .int .i64 0, .slice none 0 0]
  f5 : L.getD 5 false = true → x18 = .tuple #[.slice none 0 0, .bool true]
  f6 : L.getD 6 false = true → x12 = .tuple #[.slice none 0 0, .bool true]
  f7 : L.getD 7 false = true → x19 = .slice none 0 0
  f8 : L.getD 8 false = true → x20 = .bool true
  f9 : L.getD 9 false = true → x6 = .slice none 0 0
  f10 : L.getD 10 false = true → x7 = .bool true
theorem VB.more {w V V' : World} {L : Array Bool} {x6 x7 x12 x13 x14 x15 x16 x17 x18 x19 x20 : Value} (H : VB w V L x6 x7 x12 x13 x14 x15 x16 x17 x18 x19 x20) (hb : Below V.heap.size V V') : VB w V' L x6 x7 x12 x13 x14 x15 x16 x17 x18 x19 x20 := ⟨H.pv.more hb, H.f0, H.f1, H.f2, H.f3, H.f4, H.f5, H.f6, H.f7, H.f8, H.f9, H.f10⟩
set_option maxRecDepth 100000 in
set_option maxHeartbeats 4000000 in
theorem vbytes_two (w : World) : Calls Tryz.prog 63 #[.agg #[.bool false, .bool false, .bool false, .bool false, .bool false, .bool false], .agg #[.int .i64 2, .bool false, .int .u32 0, .int .u32 0, .slice none 0 0, .slice none 0 0, .slice none 0 0, .int .i64 0, .slice none 0 0]] w fun e w' => e = .returned (.tuple #[.slice none 0 0, .bool true]) ∧ Below w.heap.size w w' := by
  have hpv := PV.start w 60
  have HPV := hide hpv
  clear hpv
  go_enter Tryz.func63, Tryz.ntmps63
  go_wp2_with (go_at_call 78; refine (vvalid_two _).mono ?_; rintro e w1 ⟨rfl, hb1⟩
               have h1 := HPV.out.more hb1
               have H1 := hide h1
               clear hb1 h1)
  have hst : VB w w1.drew (Array.replicate 11 false) (undef) (undef) (undef) (undef) (undef) (undef) (undef) (undef) (undef) (undef) (undef) := ⟨⟨H1.out.g0, H1.out.g1, H1.out.be.drew⟩, fun h => absurd h (by decide), fun h => absurd h (by decide), fun h => absurd h (by decide), fun h => absurd h (by decide), fun h => absurd h (by decide), fun h => absurd h (by decide), fun h => absurd h (by decide), fun h => absurd h (by decide), fun h => absurd h (by decide), fun h => absurd h (by decide), fun h => absurd h (by decide)⟩
  refine wp_region_inv (by kernel_rfl) (fun L a V => ∃ x6 x7 x12 x13 x14 x15 x16 x17 x18 x19 x20 : Value, a = ⟨List.toArray ((.agg #[.bool false, .bool false, .bool false, .bool false, .bool false, .bool false]) :: (.agg #[.int .i64 2, .bool false, .int .u32 0, .int .u32 0, .slice none 0 0, .slice none 0 0, .slice none 0 0, .int .i64 0, .slice none 0 0]) :: (.pointer (some ⟨w.heap.size, 0, none⟩)) :: (.pointer (some ⟨w.heap.size + 1, 0, none⟩)) :: (.slice none 0 0) :: (.bool false) :: (x6) :: (x7) :: (.agg #[.bool false, .bool false, .bool false, .bool false, .bool false, .bool false]) :: (.agg #[.int .i64 2, .bool false, .int .u32 0, .int .u32 0, .slice none 0 0, .slice none 0 0, .slice none 0 0, .int .i64 0, .slice none 0 0]) :: (.bool true) :: (.bool false) :: (x12) :: (x13) :: (x14) :: (x15) :: (x16) :: (x17) :: (x18) :: (x19) :: (x20) :: (undef) :: (undef) :: (undef) :: (undef) :: (undef) :: (undef) :: (undef) :: (undef) :: []), []⟩ ∧ VB w V L x6 x7 x12 x13 x14 x15 x16 x17 x18 x19 x20) (by kernel_rfl) ?steps ⟨undef, undef, undef, undef, undef, undef, undef, undef, undef, undef, undef, rfl, hst⟩ ?done
  case steps =>
    refine ⟨?_, ?_, ?_, ?_, ?_, ?_, ?_, ?_, ?_, ?_, ?_, trivial⟩
    · rintro L a V ⟨x6, x7, x12, x13, x14, x15, x16, x17, x18, x19, x20, rfl, H⟩ hl ha K hK
      refine step_load_whole V rfl 60 (.tmp 2) rfl (w.heap.size) 60 #[.bool false, .bool false, .bool false, .bool false, .bool false, .bool false] _ rfl H.pv.g0 Tryz.underlying60 rfl opt_size ?_
      exact hK _ _ ⟨_, _, _, _, _, _, _, _, _, _, _, rfl, ⟨H.pv, fun _ => rfl, fun h => H.f1 ((getD_set h).resolve_left (by decide)), fun h => H.f2 ((getD_set h).resolve_left (by decide)), fun h => H.f3 ((getD_set h).resolve_left (by decide)), fun h => H.f4 ((getD_set h).resolve_left (by decide)), fun h => H.f5 ((getD_set h).resolve_left (by decide)), fun h => H.f6 ((getD_set h).resolve_left (by decide)), fun h => H.f7 ((getD_set h).resolve_left (by decide)), fun h => H.f8 ((getD_set h).resolve_left (by decide)), fun h => H.f9 ((getD_set h).resolve_left (by decide)), fun h => H.f10 ((getD_set h).resolve_left (by decide))⟩⟩
    · rintro L a V ⟨x6, x7, x12, x13, x14, x15, x16, x17, x18, x19, x20, rfl, H⟩ hl ha K hK
      go_simp
      exact hK _ _ ⟨_, _, _, _, _, _, _, _, _, _, _, rfl, ⟨H.pv, fun h => H.f0 ((getD_set h).resolve_left (by decide)), fun _ => rfl, fun h => H.f2 ((getD_set h).resolve_left (by decide)), fun h => H.f3 ((getD_set h).resolve_left (by decide)), fun h => H.f4 ((getD_set h).resolve_left (by decide)), fun h => H.f5 ((getD_set h).resolve_left (by decide)), fun h => H.f6 ((getD_set h).resolve_left (by decide)), fun h => H.f7 ((getD_set h).resolve_left (by decide)), fun h => H.f8 ((getD_set h).resolve_left (by decide)), fun h => H.f9 ((getD_set h).resolve_left (by decide)), fun h => H.f10 ((getD_set h).resolve_left (by decide))⟩⟩
    · rintro L a V ⟨x6, x7, x12, x13, x14, x15, x16, x17, x18, x19, x20, rfl, H⟩ hl ha K hK
      obtain rfl := H.f1 (ha ⟨1, .data⟩ (by simp) rfl)
      refine step_load_cell V rfl 3 (.tmp 14) rfl ⟨w.heap.size + 1, 0, none⟩ _ (.int .i64 2) rfl (by rw [cell_of_row _ _ 0 _ _ _ H.pv.g1]; rfl) Tryz.underlying3 rfl ?_
      exact hK _ _ ⟨_, _, _, _, _, _, _, _, _, _, _, rfl, ⟨H.pv, fun h => H.f0 ((getD_set h).resolve_left (by decide)), fun h => H.f1 ((getD_set h).resolve_left (by decide)), fun _ => rfl, fun h => H.f3 ((getD_set h).resolve_left (by decide)), fun h => H.f4 ((getD_set h).resolve_left (by decide)), fun h => H.f5 ((getD_set h).resolve_left (by decide)), fun h => H.f6 ((getD_set h).resolve_left (by decide)), fun h => H.f7 ((getD_set h).resolve_left (by decide)), fun h => H.f8 ((getD_set h).resolve_left (by decide)), fun h => H.f9 ((getD_set h).resolve_left (by decide)), fun h => H.f10 ((getD_set h).resolve_left (by decide))⟩⟩
    · rintro L a V ⟨x6, x7, x12, x13, x14, x15, x16, x17, x18, x19, x20, rfl, H⟩ hl ha K hK
      obtain rfl := H.f0 (ha ⟨0, .data⟩ (by simp) rfl)
      obtain rfl := H.f2 (ha ⟨2, .data⟩ (by simp) rfl)
      refine step_call_fn (args := #[.agg #[.bool false, .bool false, .bool false, .bool false, .bool false, .bool false], .int .i64 2]) rfl rfl Tryz.func79 (by decide) rfl (by simp [Act.eval]) (of_two V) ?_
      rintro e w' ⟨rfl, hb⟩
      refine ⟨_, rfl, ?_⟩
      replace H := H.more hb
      exact hK _ _ ⟨_, _, _, _, _, _, _, _, _, _, _, rfl, ⟨H.pv, fun h => H.f0 ((getD_set h).resolve_left (by decide)), fun h => H.f1 ((getD_set h).resolve_left (by decide)), fun h => H.f2 ((getD_set h).resolve_left (by decide)), fun _ => rfl, fun h => H.f4 ((getD_set h).resolve_left (by decide)), fun h => H.f5 ((getD_set h).resolve_left (by decide)), fun h => H.f6 ((getD_set h).resolve_left (by decide)), fun h => H.f7 ((getD_set h).resolve_left (by decide)), fun h => H.f8 ((getD_set h).resolve_left (by decide)), fun h => H.f9 ((getD_set h).resolve_left (by decide)), fun h => H.f10 ((getD_set h).resolve_left (by decide))⟩⟩
    · rintro L a V ⟨x6, x7, x12, x13, x14, x15, x16, x17, x18, x19, x20, rfl, H⟩ hl ha K hK
      refine step_load_whole V rfl 38 (.tmp 3) rfl ((w.heap.size + 1)) 38 #[.int .i64 2, .bool false, .int .u32 0, .int .u32 0, .slice none 0 0, .slice none 0 0, .slice none 0 0, .int .i64 0, .slice none 0 0] _ rfl H.pv.g1 Tryz.underlying38 rfl attr_size ?_
      exact hK _ _ ⟨_, _, _, _, _, _, _, _, _, _, _, rfl, ⟨H.pv, fun h => H.f0 ((getD_set h).resolve_left (by decide)), fun h => H.f1 ((getD_set h).resolve_left (by decide)), fun h => H.f2 ((getD_set h).resolve_left (by decide)), fun h => H.f3 ((getD_set h).resolve_left (by decide)), fun _ => rfl, fun h => H.f5 ((getD_set h).resolve_left (by decide)), fun h => H.f6 ((getD_set h).resolve_left (by decide)), fun h => H.f7 ((getD_set h).resolve_left (by decide)), fun h => H.f8 ((getD_set h).resolve_left (by decide)), fun h => H.f9 ((getD_set h).resolve_left (by decide)), fun h => H.f10 ((getD_set h).resolve_left (by decide))⟩⟩
    · rintro L a V ⟨x6, x7, x12, x13, x14, x15, x16, x17, x18, x19, x20, rfl, H⟩ hl ha K hK
      obtain rfl := H.f3 (ha ⟨3, .data⟩ (by simp) rfl)
      obtain rfl := H.f4 (ha ⟨4, .data⟩ (by simp) rfl)
      refine step_invoke (args := #[.agg #[.bool false, .bool false, .bool false, .bool false, .bool false, .bool false], .agg #[.int .i64 2, .bool false, .int .u32 0, .int .u32 0, .slice none 0 0, .slice none 0 0, .slice none 0 0, .int .i64 0, .slice none 0 0]]) rfl rfl (by simp [Act.eval]) (call_bytes _ _ V) (pbytes_two V) ?_
      rintro e w' ⟨rfl, hb⟩
      refine ⟨_, rfl, ?_⟩
      replace H := H.more hb
      exact hK _ _ ⟨_, _, _, _, _, _, _, _, _, _, _, rfl, ⟨H.pv, fun h => H.f0 ((getD_set h).resolve_left (by decide)), fun h => H.f1 ((getD_set h).resolve_left (by decide)), fun h => H.f2 ((getD_set h).resolve_left (by decide)), fun h => H.f3 ((getD_set h).resolve_left (by decide)), fun h => H.f4 ((getD_set h).resolve_left (by decide)), fun _ => rfl, fun h => H.f6 ((getD_set h).resolve_left (by decide)), fun h => H.f7 ((getD_set h).resolve_left (by decide)), fun h => H.f8 ((getD_set h).resolve_left (by decide)), fun h => H.f9 ((getD_set h).resolve_left (by decide)), fun h => H.f10 ((getD_set h).resolve_left (by decide))⟩⟩
    · rintro L a V ⟨x6, x7, x12, x13, x14, x15, x16, x17, x18, x19, x20, rfl, H⟩ hl ha K hK
      obtain rfl := H.f5 (ha ⟨5, .data⟩ (by simp) rfl)
      go_simp
      exact hK _ _ ⟨_, _, _, _, _, _, _, _, _, _, _, rfl, ⟨H.pv, fun h => H.f0 ((getD_set h).resolve_left (by decide)), fun h => H.f1 ((getD_set h).resolve_left (by decide)), fun h => H.f2 ((getD_set h).resolve_left (by decide)), fun h => H.f3 ((getD_set h).resolve_left (by decide)), fun h => H.f4 ((getD_set h).resolve_left (by decide)), fun h => H.f5 ((getD_set h).resolve_left (by decide)), fun _ => rfl, fun h => H.f7 ((getD_set h).resolve_left (by decide)), fun h => H.f8 ((getD_set h).resolve_left (by decide)), fun h => H.f9 ((getD_set h).resolve_left (by decide)), fun h => H.f10 ((getD_set h).resolve_left (by decide))⟩⟩
    · rintro L a V ⟨x6, x7, x12, x13, x14, x15, x16, x17, x18, x19, x20, rfl, H⟩ hl ha K hK
      obtain rfl := H.f6 (ha ⟨6, .data⟩ (by simp) rfl)
      go_simp
      exact hK _ _ ⟨_, _, _, _, _, _, _, _, _, _, _, rfl, ⟨H.pv, fun h => H.f0 ((getD_set h).resolve_left (by decide)), fun h => H.f1 ((getD_set h).resolve_left (by decide)), fun h => H.f2 ((getD_set h).resolve_left (by decide)), fun h => H.f3 ((getD_set h).resolve_left (by decide)), fun h => H.f4 ((getD_set h).resolve_left (by decide)), fun h => H.f5 ((getD_set h).resolve_left (by decide)), fun h => H.f6 ((getD_set h).resolve_left (by decide)), fun _ => rfl, fun h => H.f8 ((getD_set h).resolve_left (by decide)), fun h => H.f9 ((getD_set h).resolve_left (by decide)), fun h => H.f10 ((getD_set h).resolve_left (by decide))⟩⟩
    · rintro L a V ⟨x6, x7, x12, x13, x14, x15, x16, x17, x18, x19, x20, rfl, H⟩ hl ha K hK
      obtain rfl := H.f6 (ha ⟨6, .data⟩ (by simp) rfl)
      go_simp
      exact hK _ _ ⟨_, _, _, _, _, _, _, _, _, _, _, rfl, ⟨H.pv, fun h => H.f0 ((getD_set h).resolve_left (by decide)), fun h => H.f1 ((getD_set h).resolve_left (by decide)), fun h => H.f2 ((getD_set h).resolve_left (by decide)), fun h => H.f3 ((getD_set h).resolve_left (by decide)), fun h => H.f4 ((getD_set h).resolve_left (by decide)), fun h => H.f5 ((getD_set h).resolve_left (by decide)), fun h => H.f6 ((getD_set h).resolve_left (by decide)), fun h => H.f7 ((getD_set h).resolve_left (by decide)), fun _ => rfl, fun h => H.f9 ((getD_set h).resolve_left (by decide)), fun h => H.f10 ((getD_set h).resolve_left (by decide))⟩⟩
    · rintro L a V ⟨x6, x7, x12, x13, x14, x15, x16, x17, x18, x19, x20, rfl, H⟩ hl ha K hK
      obtain rfl := H.f7 (ha ⟨7, .data⟩ (by simp) rfl)
      go_simp
      exact hK _ _ ⟨_, _, _, _, _, _, _, _, _, _, _, rfl, ⟨H.pv, fun h => H.f0 ((getD_set h).resolve_left (by decide)), fun h => H.f1 ((getD_set h).resolve_left (by decide)), fun h => H.f2 ((getD_set h).resolve_left (by decide)), fun h => H.f3 ((getD_set h).resolve_left (by decide)), fun h => H.f4 ((getD_set h).resolve_left (by decide)), fun h => H.f5 ((getD_set h).resolve_left (by decide)), fun h => H.f6 ((getD_set h).resolve_left (by decide)), fun h => H.f7 ((getD_set h).resolve_left (by decide)), fun h => H.f8 ((getD_set h).resolve_left (by decide)), fun _ => rfl, fun h => H.f10 ((getD_set h).resolve_left (by decide))⟩⟩
    · rintro L a V ⟨x6, x7, x12, x13, x14, x15, x16, x17, x18, x19, x20, rfl, H⟩ hl ha K hK
      obtain rfl := H.f8 (ha ⟨8, .data⟩ (by simp) rfl)
      go_simp
      exact hK _ _ ⟨_, _, _, _, _, _, _, _, _, _, _, rfl, ⟨H.pv, fun h => H.f0 ((getD_set h).resolve_left (by decide)), fun h => H.f1 ((getD_set h).resolve_left (by decide)), fun h => H.f2 ((getD_set h).resolve_left (by decide)), fun h => H.f3 ((getD_set h).resolve_left (by decide)), fun h => H.f4 ((getD_set h).resolve_left (by decide)), fun h => H.f5 ((getD_set h).resolve_left (by decide)), fun h => H.f6 ((getD_set h).resolve_left (by decide)), fun h => H.f7 ((getD_set h).resolve_left (by decide)), fun h => H.f8 ((getD_set h).resolve_left (by decide)), fun h => H.f9 ((getD_set h).resolve_left (by decide)), fun _ => rfl⟩⟩
  case done =>
    rintro L a V ⟨x6, x7, x12, x13, x14, x15, x16, x17, x18, x19, x20, rfl, H⟩ hall
    obtain rfl := H.f9 (hall 9 (by decide))
    obtain rfl := H.f10 (hall 10 (by decide))
    have BE := hide H.pv.be
    clear H hall
    go_wp2_with fail
    refine bodyPost_ret (v := .tuple #[.slice none 0 0, .bool true]) (by simp [results, Tryz.results63, go_sem]) rfl ?_
    exact ⟨rfl, BE.out⟩
structure VT (w : World) (V : World) (L : Array Bool) (x4 x9 x10 x11 x12 x13 x14 : Value) : Prop where
  pv : PV w V 60
  f0 : L.getD 0 false = true → x9 = .agg #[.bool false, .bool false, .bool false, .bool false, .bool false, .bool false]
  f1 : L.getD 1 false = true → x10 = .pointer (some ⟨w.heap.size + 1, 0, none⟩)
  f2 : L.getD 2 false = true → x11 = .int .i64 2
  f3 : L.getD 3 false = true → x12 = .iface 122 (.agg #[.bool false, .bool false, .bool false, .bool false, .bool false, .bool false])
  f4 : L.getD 4 false = true → x13 = .agg #[.int .i64 2, .bool false, .int .u32 0, .int .u32 0, .slice none 0 0, .slice none 0 0, .slice none 0 0, .int .i64 0, .slice none 0 0]
  f5 : L.getD 5 false = true → x14 = .string ⟨#[112, 97, 116, 104]⟩
  f6 : L.getD 6 false = true → x4 = .string ⟨#[112, 97, 116, 104]⟩
theorem VT.more {w V V' : World} {L : Array Bool} {x4 x9 x10 x11 x12 x13 x14 : Value} (H : VT w V L x4 x9 x10 x11 x12 x13 x14) (hb : Below V.heap.size V V') : VT w V' L x4 x9 x10 x11 x12 x13 x14 := ⟨H.pv.more hb, H.f0, H.f1, H.f2, H.f3, H.f4, H.f5, H.f6⟩
end Go.Proofs.YtnfclcbhehbchaaGreatDoor
