/- value.of, value.Valid, value.Bytes and value.Form at an ORIGIN of 0. -/
import Derived.Test.YtnfclcbhehbchaaGreatDoorLsF
set_option autoImplicit false
namespace Go.Proofs.YtnfclcbhehbchaaGreatDoor
open Go.RowKit
/-- The copies of the arguments: options at block g, the attribute at g + 1. -/
structure PVo (w W : World) (t : TypeId) : Prop where
  g0 : W.heap[w.heap.size]? = some (.cells #[.bool false, .bool false, .bool false, .bool false, .bool false, .bool false] t (0, 0))
  g1 : W.heap[w.heap.size + 1]? = some (.cells #[.int .i64 1, .bool false, .int .u32 0, .int .u32 0, .slice none 0 0, .slice none 0 0, .slice none 0 0, .int .i64 0, .slice none 0 0] 38 (0, 0))
  be : Below w.heap.size w W
theorem PVo.more {w W W' : World} {t : TypeId} (h : PVo w W t) (hb : Below W.heap.size W W') : PVo w W' t := ⟨(hb.block _ (lt_of_heapF h.g0)).trans h.g0, (hb.block _ (lt_of_heapF h.g1)).trans h.g1, h.be.trans (hb.mono h.be.size)⟩
theorem PVo.start (w : World) (t : TypeId) : PVo w ((w.alloc (.cells #[.bool false, .bool false, .bool false, .bool false, .bool false, .bool false] t)).alloc (.cells #[.int .i64 1, .bool false, .int .u32 0, .int .u32 0, .slice none 0 0, .slice none 0 0, .slice none 0 0, .int .i64 0, .slice none 0 0] 38)) t :=
  ⟨heap_alloc2_old _ _ _, heap_alloc2_new _ _ _, ((Below.refl _ _).alloc (Nat.le_refl _) _).alloc (by simp) _⟩
theorem call_valid1 (x y : Value) (w : World) : (callMethod (.iface 117 x) "peerage/value.valid" #[y]).run Tryz.prog w = .ok (.enter 134 #[x, y]) w := by kernel_rfl
theorem call_bytes1 (x y : Value) (w : World) : (callMethod (.iface 117 x) "peerage/value.bytes" #[y]).run Tryz.prog w = .ok (.enter 132 #[x, y]) w := by kernel_rfl
set_option maxRecDepth 100000 in
set_option maxHeartbeats 4000000 in
theorem of_one (w : World) : Calls Tryz.prog 79 #[.agg #[.bool false, .bool false, .bool false, .bool false, .bool false, .bool false], .int .i64 1] w fun e w' => e = .returned (.iface 117 (.agg #[])) ∧ Below w.heap.size w w' := by
  obtain ⟨W0, hW0⟩ : ∃ W0, W0 = w.alloc (.cells #[.bool false, .bool false, .bool false, .bool false, .bool false, .bool false] 60) := ⟨_, rfl⟩
  have hb0 : Below w.heap.size w W0 := by rw [hW0]; exact (Below.refl _ _).alloc (Nat.le_refl _) _
  have B0 := hide hb0
  have h2 : hasF 1 = true := by decide
  have hh := has_any 1 W0
  rw [h2] at hh
  have HH := hide hh
  have HW0 := Lib.hid hW0
  clear hb0 hW0 hh h2
  go_enter Tryz.func79, Tryz.ntmps79
  go_wp2_with (go_at_call 87; rw [← HW0.out]; refine HH.out.mono ?_; rintro e w1 ⟨rfl, hb1⟩
               have B1 := hide (B0.out.trans (hb1.mono B0.out.size))
               clear hb1)
  go_ret
  exact ⟨rfl, B1.out⟩
structure VVo (w : World) (V : World) (L : Array Bool) (x4 x22 x23 x24 x25 x26 x27 : Value) : Prop where
  pv : PVo w V 60
  f0 : L.getD 0 false = true → x22 = .agg #[.bool false, .bool false, .bool false, .bool false, .bool false, .bool false]
  f1 : L.getD 1 false = true → x23 = .pointer (some ⟨w.heap.size + 1, 0, none⟩)
  f2 : L.getD 2 false = true → x24 = .int .i64 1
  f3 : L.getD 3 false = true → x25 = .iface 117 (.agg #[])
  f4 : L.getD 4 false = true → x26 = .agg #[.int .i64 1, .bool false, .int .u32 0, .int .u32 0, .slice none 0 0, .slice none 0 0, .slice none 0 0, .int .i64 0, .slice none 0 0]
  f5 : L.getD 5 false = true → x27 = .bool true
  f6 : L.getD 6 false = true → x4 = .bool true
theorem VVo.more {w V V' : World} {L : Array Bool} {x4 x22 x23 x24 x25 x26 x27 : Value} (H : VVo w V L x4 x22 x23 x24 x25 x26 x27) (hb : Below V.heap.size V V') : VVo w V' L x4 x22 x23 x24 x25 x26 x27 := ⟨H.pv.more hb, H.f0, H.f1, H.f2, H.f3, H.f4, H.f5, H.f6⟩
set_option maxRecDepth 100000 in
set_option maxHeartbeats 4000000 in
theorem vvalid_one (w : World) : Calls Tryz.prog 78 #[.agg #[.bool false, .bool false, .bool false, .bool false, .bool false, .bool false], .agg #[.int .i64 1, .bool false, .int .u32 0, .int .u32 0, .slice none 0 0, .slice none 0 0, .slice none 0 0, .int .i64 0, .slice none 0 0]] w fun e w' => e = .returned (.bool true) ∧ Below w.heap.size w w' := by
  have hpv := PVo.start w 60
  have HPV := hide hpv
  clear hpv
  have HC := hide (fun W => class_any 1 64 W one_cls)
  go_enter Tryz.func78, Tryz.ntmps78
  go_wp2_with (go_at_call 80; refine (HC.out _).mono ?_; rintro e w1 ⟨rfl, hb1⟩
               have h1 := HPV.out.more hb1
               have c1 : w1.cell? ⟨w.heap.size + 1, 1, none⟩ = some (.bool false) := by rw [cell_of_row _ _ 1 _ _ _ h1.g1]; rfl
               have l1 := lt_of_heapF h1.g1
               have H1 := hide h1
               clear hb1 h1)
  have hst : VVo w w1.drew (Array.replicate 7 false) (.bool false) (undef) (undef) (undef) (undef) (undef) (undef) := ⟨⟨H1.out.g0, H1.out.g1, H1.out.be.drew⟩, fun h => absurd h (by decide), fun h => absurd h (by decide), fun h => absurd h (by decide), fun h => absurd h (by decide), fun h => absurd h (by decide), fun h => absurd h (by decide), fun h => absurd h (by decide)⟩
  refine wp_region_inv (by kernel_rfl) (fun L a V => ∃ x4 x22 x23 x24 x25 x26 x27 : Value, a = ⟨List.toArray ((.agg #[.bool false, .bool false, .bool false, .bool false, .bool false, .bool false]) :: (.agg #[.int .i64 1, .bool false, .int .u32 0, .int .u32 0, .slice none 0 0, .slice none 0 0, .slice none 0 0, .int .i64 0, .slice none 0 0]) :: (.pointer (some ⟨w.heap.size, 0, none⟩)) :: (.pointer (some ⟨w.heap.size + 1, 0, none⟩)) :: (x4) :: (.int .i64 64) :: (.bool true) :: (.tuple #[.int .i64 64, .bool true]) :: (.pointer (some ⟨w.heap.size + 1, 0, none⟩)) :: (.int .i64 1) :: (.tuple #[.int .i64 64, .bool true]) :: (.int .i64 64) :: (.bool true) :: (.bool true) :: (.bool true) :: (.int .i64 64) :: (.bool true) :: (.bool true) :: (.bool true) :: (.pointer (some ⟨w.heap.size + 1, 1, none⟩)) :: (.bool false) :: (.bool false) :: (x22) :: (x23) :: (x24) :: (x25) :: (x26) :: (x27) :: []), []⟩ ∧ VVo w V L x4 x22 x23 x24 x25 x26 x27) (by kernel_rfl) ?steps ⟨.bool false, undef, undef, undef, undef, undef, undef, rfl, hst⟩ ?done
  case steps =>
    refine ⟨?_, ?_, ?_, ?_, ?_, ?_, ?_, trivial⟩
    · rintro L a V ⟨x4, x22, x23, x24, x25, x26, x27, rfl, H⟩ hl ha K hK
      refine step_load_whole V rfl 60 (.tmp 2) rfl (w.heap.size) 60 #[.bool false, .bool false, .bool false, .bool false, .bool false, .bool false] _ rfl H.pv.g0 Tryz.underlying60 rfl opt_size ?_
      exact hK _ _ ⟨_, _, _, _, _, _, _, rfl, ⟨H.pv, fun _ => rfl, fun h => H.f1 ((getD_set h).resolve_left (by decide)), fun h => H.f2 ((getD_set h).resolve_left (by decide)), fun h => H.f3 ((getD_set h).resolve_left (by decide)), fun h => H.f4 ((getD_set h).resolve_left (by decide)), fun h => H.f5 ((getD_set h).resolve_left (by decide)), fun h => H.f6 ((getD_set h).resolve_left (by decide))⟩⟩
    · rintro L a V ⟨x4, x22, x23, x24, x25, x26, x27, rfl, H⟩ hl ha K hK
      go_simp
      exact hK _ _ ⟨_, _, _, _, _, _, _, rfl, ⟨H.pv, fun h => H.f0 ((getD_set h).resolve_left (by decide)), fun _ => rfl, fun h => H.f2 ((getD_set h).resolve_left (by decide)), fun h => H.f3 ((getD_set h).resolve_left (by decide)), fun h => H.f4 ((getD_set h).resolve_left (by decide)), fun h => H.f5 ((getD_set h).resolve_left (by decide)), fun h => H.f6 ((getD_set h).resolve_left (by decide))⟩⟩
    · rintro L a V ⟨x4, x22, x23, x24, x25, x26, x27, rfl, H⟩ hl ha K hK
      obtain rfl := H.f1 (ha ⟨1, .data⟩ (by simp) rfl)
      refine step_load_cell V rfl 3 (.tmp 23) rfl ⟨w.heap.size + 1, 0, none⟩ _ (.int .i64 1) rfl (by rw [cell_of_row _ _ 0 _ _ _ H.pv.g1]; rfl) Tryz.underlying3 rfl ?_
      exact hK _ _ ⟨_, _, _, _, _, _, _, rfl, ⟨H.pv, fun h => H.f0 ((getD_set h).resolve_left (by decide)), fun h => H.f1 ((getD_set h).resolve_left (by decide)), fun _ => rfl, fun h => H.f3 ((getD_set h).resolve_left (by decide)), fun h => H.f4 ((getD_set h).resolve_left (by decide)), fun h => H.f5 ((getD_set h).resolve_left (by decide)), fun h => H.f6 ((getD_set h).resolve_left (by decide))⟩⟩
    · rintro L a V ⟨x4, x22, x23, x24, x25, x26, x27, rfl, H⟩ hl ha K hK
      obtain rfl := H.f0 (ha ⟨0, .data⟩ (by simp) rfl)
      obtain rfl := H.f2 (ha ⟨2, .data⟩ (by simp) rfl)
      refine step_call_fn (args := #[.agg #[.bool false, .bool false, .bool false, .bool false, .bool false, .bool false], .int .i64 1]) rfl rfl Tryz.func79 (by decide) rfl (by simp [Act.eval]) (of_one V) ?_
      rintro e w' ⟨rfl, hb⟩
      refine ⟨_, rfl, ?_⟩
      replace H := H.more hb
      exact hK _ _ ⟨_, _, _, _, _, _, _, rfl, ⟨H.pv, fun h => H.f0 ((getD_set h).resolve_left (by decide)), fun h => H.f1 ((getD_set h).resolve_left (by decide)), fun h => H.f2 ((getD_set h).resolve_left (by decide)), fun _ => rfl, fun h => H.f4 ((getD_set h).resolve_left (by decide)), fun h => H.f5 ((getD_set h).resolve_left (by decide)), fun h => H.f6 ((getD_set h).resolve_left (by decide))⟩⟩
    · rintro L a V ⟨x4, x22, x23, x24, x25, x26, x27, rfl, H⟩ hl ha K hK
      refine step_load_whole V rfl 38 (.tmp 3) rfl ((w.heap.size + 1)) 38 #[.int .i64 1, .bool false, .int .u32 0, .int .u32 0, .slice none 0 0, .slice none 0 0, .slice none 0 0, .int .i64 0, .slice none 0 0] _ rfl H.pv.g1 Tryz.underlying38 rfl attr_size ?_
      exact hK _ _ ⟨_, _, _, _, _, _, _, rfl, ⟨H.pv, fun h => H.f0 ((getD_set h).resolve_left (by decide)), fun h => H.f1 ((getD_set h).resolve_left (by decide)), fun h => H.f2 ((getD_set h).resolve_left (by decide)), fun h => H.f3 ((getD_set h).resolve_left (by decide)), fun _ => rfl, fun h => H.f5 ((getD_set h).resolve_left (by decide)), fun h => H.f6 ((getD_set h).resolve_left (by decide))⟩⟩
    · rintro L a V ⟨x4, x22, x23, x24, x25, x26, x27, rfl, H⟩ hl ha K hK
      obtain rfl := H.f3 (ha ⟨3, .data⟩ (by simp) rfl)
      obtain rfl := H.f4 (ha ⟨4, .data⟩ (by simp) rfl)
      refine step_invoke (args := #[.agg #[], .agg #[.int .i64 1, .bool false, .int .u32 0, .int .u32 0, .slice none 0 0, .slice none 0 0, .slice none 0 0, .int .i64 0, .slice none 0 0]]) rfl rfl (by simp [Act.eval]) (call_valid1 _ _ V) (svalid_one V) ?_
      rintro e w' ⟨rfl, hb⟩
      refine ⟨_, rfl, ?_⟩
      replace H := H.more hb
      exact hK _ _ ⟨_, _, _, _, _, _, _, rfl, ⟨H.pv, fun h => H.f0 ((getD_set h).resolve_left (by decide)), fun h => H.f1 ((getD_set h).resolve_left (by decide)), fun h => H.f2 ((getD_set h).resolve_left (by decide)), fun h => H.f3 ((getD_set h).resolve_left (by decide)), fun h => H.f4 ((getD_set h).resolve_left (by decide)), fun _ => rfl, fun h => H.f6 ((getD_set h).resolve_left (by decide))⟩⟩
    · rintro L a V ⟨x4, x22, x23, x24, x25, x26, x27, rfl, H⟩ hl ha K hK
      obtain rfl := H.f5 (ha ⟨5, .data⟩ (by simp) rfl)
      go_simp
      exact hK _ _ ⟨_, _, _, _, _, _, _, rfl, ⟨H.pv, fun h => H.f0 ((getD_set h).resolve_left (by decide)), fun h => H.f1 ((getD_set h).resolve_left (by decide)), fun h => H.f2 ((getD_set h).resolve_left (by decide)), fun h => H.f3 ((getD_set h).resolve_left (by decide)), fun h => H.f4 ((getD_set h).resolve_left (by decide)), fun h => H.f5 ((getD_set h).resolve_left (by decide)), fun _ => rfl⟩⟩
  case done =>
    rintro L a V ⟨x4, x22, x23, x24, x25, x26, x27, rfl, H⟩ hall
    obtain rfl := H.f6 (hall 6 (by decide))
    have BE := hide H.pv.be
    clear H hall
    go_wp2_with fail
    go_ret
    exact ⟨rfl, BE.out⟩
structure VBo (w : World) (V : World) (L : Array Bool) (x6 x7 x12 x13 x14 x15 x16 x17 x18 x19 x20 : Value) : Prop where
  pv : PVo w V 60
  f0 : L.getD 0 false = true → x13 = .agg #[.bool false, .bool false, .bool false, .bool false, .bool false, .bool false]
  f1 : L.getD 1 false = true → x14 = .pointer (some ⟨w.heap.size + 1, 0, none⟩)
  f2 : L.getD 2 false = true → x15 = .int .i64 1
  f3 : L.getD 3 false = true → x16 = .iface 117 (.agg #[])
  f4 : L.getD 4 false = true → x17 = .agg #[.int .i64 1, .bool false, .int .u32 0, .int .u32 0, .slice none 0 0, .slice none 0 0, .slice none 0 0, .int .i64 0, .slice none 0 0]
  f5 : L.getD 5 false = true → ∃ v, x18 = .tuple #[v, .bool true] ∧ SrcB V V.heap.size v (1, bV [0])
  f6 : L.getD 6 false = true → ∃ v, x12 = .tuple #[v, .bool true] ∧ SrcB V V.heap.size v (1, bV [0])
  f7 : L.getD 7 false = true → SrcB V V.heap.size x19 (1, bV [0])
  f8 : L.getD 8 false = true → x20 = .bool true
  f9 : L.getD 9 false = true → SrcB V V.heap.size x6 (1, bV [0])
  f10 : L.getD 10 false = true → x7 = .bool true
theorem VBo.more {w V V' : World} {L : Array Bool} {x6 x7 x12 x13 x14 x15 x16 x17 x18 x19 x20 : Value} (H : VBo w V L x6 x7 x12 x13 x14 x15 x16 x17 x18 x19 x20) (hb : Below V.heap.size V V') : VBo w V' L x6 x7 x12 x13 x14 x15 x16 x17 x18 x19 x20 := ⟨H.pv.more hb, H.f0, H.f1, H.f2, H.f3, H.f4, fun h => by obtain ⟨v, a, b⟩ := H.f5 h; exact ⟨v, a, (b.keep hb).more hb.size⟩, fun h => by obtain ⟨v, a, b⟩ := H.f6 h; exact ⟨v, a, (b.keep hb).more hb.size⟩, fun h => ((H.f7 h).keep hb).more hb.size, H.f8, fun h => ((H.f9 h).keep hb).more hb.size, H.f10⟩
set_option maxRecDepth 100000 in
set_option maxHeartbeats 4000000 in
theorem vbytes_one (w : World) : Calls Tryz.prog 63 #[.agg #[.bool false, .bool false, .bool false, .bool false, .bool false, .bool false], .agg #[.int .i64 1, .bool false, .int .u32 0, .int .u32 0, .slice none 0 0, .slice none 0 0, .slice none 0 0, .int .i64 0, .slice none 0 0]] w fun e w' => ∃ v, e = .returned (.tuple #[v, .bool true]) ∧ SrcB w' w'.heap.size v (1, bV [0]) ∧ Below w.heap.size w w' := by
  have hpv := PVo.start w 60
  have HPV := hide hpv
  clear hpv
  go_enter Tryz.func63, Tryz.ntmps63
  go_wp2_with (go_at_call 78; refine (vvalid_one _).mono ?_; rintro e w1 ⟨rfl, hb1⟩
               have h1 := HPV.out.more hb1
               have H1 := hide h1
               clear hb1 h1)
  have hst : VBo w w1.drew (Array.replicate 11 false) (undef) (undef) (undef) (undef) (undef) (undef) (undef) (undef) (undef) (undef) (undef) := ⟨⟨H1.out.g0, H1.out.g1, H1.out.be.drew⟩, fun h => absurd h (by decide), fun h => absurd h (by decide), fun h => absurd h (by decide), fun h => absurd h (by decide), fun h => absurd h (by decide), fun h => absurd h (by decide), fun h => absurd h (by decide), fun h => absurd h (by decide), fun h => absurd h (by decide), fun h => absurd h (by decide), fun h => absurd h (by decide)⟩
  refine wp_region_inv (by kernel_rfl) (fun L a V => ∃ x6 x7 x12 x13 x14 x15 x16 x17 x18 x19 x20 : Value, a = ⟨List.toArray ((.agg #[.bool false, .bool false, .bool false, .bool false, .bool false, .bool false]) :: (.agg #[.int .i64 1, .bool false, .int .u32 0, .int .u32 0, .slice none 0 0, .slice none 0 0, .slice none 0 0, .int .i64 0, .slice none 0 0]) :: (.pointer (some ⟨w.heap.size, 0, none⟩)) :: (.pointer (some ⟨w.heap.size + 1, 0, none⟩)) :: (.slice none 0 0) :: (.bool false) :: (x6) :: (x7) :: (.agg #[.bool false, .bool false, .bool false, .bool false, .bool false, .bool false]) :: (.agg #[.int .i64 1, .bool false, .int .u32 0, .int .u32 0, .slice none 0 0, .slice none 0 0, .slice none 0 0, .int .i64 0, .slice none 0 0]) :: (.bool true) :: (.bool false) :: (x12) :: (x13) :: (x14) :: (x15) :: (x16) :: (x17) :: (x18) :: (x19) :: (x20) :: (undef) :: (undef) :: (undef) :: (undef) :: (undef) :: (undef) :: (undef) :: (undef) :: []), []⟩ ∧ VBo w V L x6 x7 x12 x13 x14 x15 x16 x17 x18 x19 x20) (by kernel_rfl) ?steps ⟨undef, undef, undef, undef, undef, undef, undef, undef, undef, undef, undef, rfl, hst⟩ ?done
  case steps =>
    refine ⟨?_, ?_, ?_, ?_, ?_, ?_, ?_, ?_, ?_, ?_, ?_, trivial⟩
    · rintro L a V ⟨x6, x7, x12, x13, x14, x15, x16, x17, x18, x19, x20, rfl, H⟩ hl ha K hK
      refine step_load_whole V rfl 60 (.tmp 2) rfl (w.heap.size) 60 #[.bool false, .bool false, .bool false, .bool false, .bool false, .bool false] _ rfl H.pv.g0 Tryz.underlying60 rfl opt_size ?_
      exact hK _ _ ⟨_, _, _, _, _, _, _, _, _, _, _, rfl, ⟨H.pv, fun _ => rfl, fun h => H.f1 ((getD_set h).resolve_left (by decide)), fun h => H.f2 ((getD_set h).resolve_left (by decide)), fun h => H.f3 ((getD_set h).resolve_left (by decide)), fun h => H.f4 ((getD_set h).resolve_left (by decide)), fun h => H.f5 ((getD_set h).resolve_left (by decide)), fun h => H.f6 ((getD_set h).resolve_left (by decide)), fun h => H.f7 ((getD_set h).resolve_left (by decide)), fun h => H.f8 ((getD_set h).resolve_left (by decide)), fun h => H.f9 ((getD_set h).resolve_left (by decide)), fun h => H.f10 ((getD_set h).resolve_left (by decide))⟩⟩
    · rintro L a V ⟨x6, x7, x12, x13, x14, x15, x16, x17, x18, x19, x20, rfl, H⟩ hl ha K hK
      go_simp
      exact hK _ _ ⟨_, _, _, _, _, _, _, _, _, _, _, rfl, ⟨H.pv, fun h => H.f0 ((getD_set h).resolve_left (by decide)), fun _ => rfl, fun h => H.f2 ((getD_set h).resolve_left (by decide)), fun h => H.f3 ((getD_set h).resolve_left (by decide)), fun h => H.f4 ((getD_set h).resolve_left (by decide)), fun h => H.f5 ((getD_set h).resolve_left (by decide)), fun h => H.f6 ((getD_set h).resolve_left (by decide)), fun h => H.f7 ((getD_set h).resolve_left (by decide)), fun h => H.f8 ((getD_set h).resolve_left (by decide)), fun h => H.f9 ((getD_set h).resolve_left (by decide)), fun h => H.f10 ((getD_set h).resolve_left (by decide))⟩⟩
    · rintro L a V ⟨x6, x7, x12, x13, x14, x15, x16, x17, x18, x19, x20, rfl, H⟩ hl ha K hK
      obtain rfl := H.f1 (ha ⟨1, .data⟩ (by simp) rfl)
      refine step_load_cell V rfl 3 (.tmp 14) rfl ⟨w.heap.size + 1, 0, none⟩ _ (.int .i64 1) rfl (by rw [cell_of_row _ _ 0 _ _ _ H.pv.g1]; rfl) Tryz.underlying3 rfl ?_
      exact hK _ _ ⟨_, _, _, _, _, _, _, _, _, _, _, rfl, ⟨H.pv, fun h => H.f0 ((getD_set h).resolve_left (by decide)), fun h => H.f1 ((getD_set h).resolve_left (by decide)), fun _ => rfl, fun h => H.f3 ((getD_set h).resolve_left (by decide)), fun h => H.f4 ((getD_set h).resolve_left (by decide)), fun h => H.f5 ((getD_set h).resolve_left (by decide)), fun h => H.f6 ((getD_set h).resolve_left (by decide)), fun h => H.f7 ((getD_set h).resolve_left (by decide)), fun h => H.f8 ((getD_set h).resolve_left (by decide)), fun h => H.f9 ((getD_set h).resolve_left (by decide)), fun h => H.f10 ((getD_set h).resolve_left (by decide))⟩⟩
    · rintro L a V ⟨x6, x7, x12, x13, x14, x15, x16, x17, x18, x19, x20, rfl, H⟩ hl ha K hK
      obtain rfl := H.f0 (ha ⟨0, .data⟩ (by simp) rfl)
      obtain rfl := H.f2 (ha ⟨2, .data⟩ (by simp) rfl)
      refine step_call_fn (args := #[.agg #[.bool false, .bool false, .bool false, .bool false, .bool false, .bool false], .int .i64 1]) rfl rfl Tryz.func79 (by decide) rfl (by simp [Act.eval]) (of_one V) ?_
      rintro e w' ⟨rfl, hb⟩
      refine ⟨_, rfl, ?_⟩
      replace H := H.more hb
      exact hK _ _ ⟨_, _, _, _, _, _, _, _, _, _, _, rfl, ⟨H.pv, fun h => H.f0 ((getD_set h).resolve_left (by decide)), fun h => H.f1 ((getD_set h).resolve_left (by decide)), fun h => H.f2 ((getD_set h).resolve_left (by decide)), fun _ => rfl, fun h => H.f4 ((getD_set h).resolve_left (by decide)), fun h => H.f5 ((getD_set h).resolve_left (by decide)), fun h => H.f6 ((getD_set h).resolve_left (by decide)), fun h => H.f7 ((getD_set h).resolve_left (by decide)), fun h => H.f8 ((getD_set h).resolve_left (by decide)), fun h => H.f9 ((getD_set h).resolve_left (by decide)), fun h => H.f10 ((getD_set h).resolve_left (by decide))⟩⟩
    · rintro L a V ⟨x6, x7, x12, x13, x14, x15, x16, x17, x18, x19, x20, rfl, H⟩ hl ha K hK
      refine step_load_whole V rfl 38 (.tmp 3) rfl ((w.heap.size + 1)) 38 #[.int .i64 1, .bool false, .int .u32 0, .int .u32 0, .slice none 0 0, .slice none 0 0, .slice none 0 0, .int .i64 0, .slice none 0 0] _ rfl H.pv.g1 Tryz.underlying38 rfl attr_size ?_
      exact hK _ _ ⟨_, _, _, _, _, _, _, _, _, _, _, rfl, ⟨H.pv, fun h => H.f0 ((getD_set h).resolve_left (by decide)), fun h => H.f1 ((getD_set h).resolve_left (by decide)), fun h => H.f2 ((getD_set h).resolve_left (by decide)), fun h => H.f3 ((getD_set h).resolve_left (by decide)), fun _ => rfl, fun h => H.f5 ((getD_set h).resolve_left (by decide)), fun h => H.f6 ((getD_set h).resolve_left (by decide)), fun h => H.f7 ((getD_set h).resolve_left (by decide)), fun h => H.f8 ((getD_set h).resolve_left (by decide)), fun h => H.f9 ((getD_set h).resolve_left (by decide)), fun h => H.f10 ((getD_set h).resolve_left (by decide))⟩⟩
    · rintro L a V ⟨x6, x7, x12, x13, x14, x15, x16, x17, x18, x19, x20, rfl, H⟩ hl ha K hK
      obtain rfl := H.f3 (ha ⟨3, .data⟩ (by simp) rfl)
      obtain rfl := H.f4 (ha ⟨4, .data⟩ (by simp) rfl)
      refine step_invoke (args := #[.agg #[], .agg #[.int .i64 1, .bool false, .int .u32 0, .int .u32 0, .slice none 0 0, .slice none 0 0, .slice none 0 0, .int .i64 0, .slice none 0 0]]) rfl rfl (by simp [Act.eval]) (call_bytes1 _ _ V) (sbytes_one V) ?_
      rintro e w' ⟨v, rfl, hs, hb⟩
      refine ⟨_, rfl, ?_⟩
      replace H := H.more hb
      exact hK _ _ ⟨_, _, _, _, _, _, _, _, _, _, _, rfl, ⟨H.pv, fun h => H.f0 ((getD_set h).resolve_left (by decide)), fun h => H.f1 ((getD_set h).resolve_left (by decide)), fun h => H.f2 ((getD_set h).resolve_left (by decide)), fun h => H.f3 ((getD_set h).resolve_left (by decide)), fun h => H.f4 ((getD_set h).resolve_left (by decide)), fun _ => ⟨v, rfl, hs⟩, fun h => H.f6 ((getD_set h).resolve_left (by decide)), fun h => H.f7 ((getD_set h).resolve_left (by decide)), fun h => H.f8 ((getD_set h).resolve_left (by decide)), fun h => H.f9 ((getD_set h).resolve_left (by decide)), fun h => H.f10 ((getD_set h).resolve_left (by decide))⟩⟩
    · rintro L a V ⟨x6, x7, x12, x13, x14, x15, x16, x17, x18, x19, x20, rfl, H⟩ hl ha K hK
      obtain ⟨v, rfl, hs⟩ := H.f5 (ha ⟨5, .data⟩ (by simp) rfl)
      go_simp
      exact hK _ _ ⟨_, _, _, _, _, _, _, _, _, _, _, rfl, ⟨H.pv, fun h => H.f0 ((getD_set h).resolve_left (by decide)), fun h => H.f1 ((getD_set h).resolve_left (by decide)), fun h => H.f2 ((getD_set h).resolve_left (by decide)), fun h => H.f3 ((getD_set h).resolve_left (by decide)), fun h => H.f4 ((getD_set h).resolve_left (by decide)), fun h => H.f5 ((getD_set h).resolve_left (by decide)), fun _ => ⟨v, rfl, hs⟩, fun h => H.f7 ((getD_set h).resolve_left (by decide)), fun h => H.f8 ((getD_set h).resolve_left (by decide)), fun h => H.f9 ((getD_set h).resolve_left (by decide)), fun h => H.f10 ((getD_set h).resolve_left (by decide))⟩⟩
    · rintro L a V ⟨x6, x7, x12, x13, x14, x15, x16, x17, x18, x19, x20, rfl, H⟩ hl ha K hK
      obtain ⟨v, rfl, hs⟩ := H.f6 (ha ⟨6, .data⟩ (by simp) rfl)
      go_simp
      exact hK _ _ ⟨_, _, _, _, _, _, _, _, _, _, _, rfl, ⟨H.pv, fun h => H.f0 ((getD_set h).resolve_left (by decide)), fun h => H.f1 ((getD_set h).resolve_left (by decide)), fun h => H.f2 ((getD_set h).resolve_left (by decide)), fun h => H.f3 ((getD_set h).resolve_left (by decide)), fun h => H.f4 ((getD_set h).resolve_left (by decide)), fun h => H.f5 ((getD_set h).resolve_left (by decide)), fun h => H.f6 ((getD_set h).resolve_left (by decide)), fun _ => hs, fun h => H.f8 ((getD_set h).resolve_left (by decide)), fun h => H.f9 ((getD_set h).resolve_left (by decide)), fun h => H.f10 ((getD_set h).resolve_left (by decide))⟩⟩
    · rintro L a V ⟨x6, x7, x12, x13, x14, x15, x16, x17, x18, x19, x20, rfl, H⟩ hl ha K hK
      obtain ⟨v, rfl, hs⟩ := H.f6 (ha ⟨6, .data⟩ (by simp) rfl)
      go_simp
      exact hK _ _ ⟨_, _, _, _, _, _, _, _, _, _, _, rfl, ⟨H.pv, fun h => H.f0 ((getD_set h).resolve_left (by decide)), fun h => H.f1 ((getD_set h).resolve_left (by decide)), fun h => H.f2 ((getD_set h).resolve_left (by decide)), fun h => H.f3 ((getD_set h).resolve_left (by decide)), fun h => H.f4 ((getD_set h).resolve_left (by decide)), fun h => H.f5 ((getD_set h).resolve_left (by decide)), fun h => H.f6 ((getD_set h).resolve_left (by decide)), fun h => H.f7 ((getD_set h).resolve_left (by decide)), fun _ => rfl, fun h => H.f9 ((getD_set h).resolve_left (by decide)), fun h => H.f10 ((getD_set h).resolve_left (by decide))⟩⟩
    · rintro L a V ⟨x6, x7, x12, x13, x14, x15, x16, x17, x18, x19, x20, rfl, H⟩ hl ha K hK
      have hs := H.f7 (ha ⟨7, .data⟩ (by simp) rfl)
      go_simp
      exact hK _ _ ⟨_, _, _, _, _, _, _, _, _, _, _, rfl, ⟨H.pv, fun h => H.f0 ((getD_set h).resolve_left (by decide)), fun h => H.f1 ((getD_set h).resolve_left (by decide)), fun h => H.f2 ((getD_set h).resolve_left (by decide)), fun h => H.f3 ((getD_set h).resolve_left (by decide)), fun h => H.f4 ((getD_set h).resolve_left (by decide)), fun h => H.f5 ((getD_set h).resolve_left (by decide)), fun h => H.f6 ((getD_set h).resolve_left (by decide)), fun h => H.f7 ((getD_set h).resolve_left (by decide)), fun h => H.f8 ((getD_set h).resolve_left (by decide)), fun _ => hs, fun h => H.f10 ((getD_set h).resolve_left (by decide))⟩⟩
    · rintro L a V ⟨x6, x7, x12, x13, x14, x15, x16, x17, x18, x19, x20, rfl, H⟩ hl ha K hK
      obtain rfl := H.f8 (ha ⟨8, .data⟩ (by simp) rfl)
      go_simp
      exact hK _ _ ⟨_, _, _, _, _, _, _, _, _, _, _, rfl, ⟨H.pv, fun h => H.f0 ((getD_set h).resolve_left (by decide)), fun h => H.f1 ((getD_set h).resolve_left (by decide)), fun h => H.f2 ((getD_set h).resolve_left (by decide)), fun h => H.f3 ((getD_set h).resolve_left (by decide)), fun h => H.f4 ((getD_set h).resolve_left (by decide)), fun h => H.f5 ((getD_set h).resolve_left (by decide)), fun h => H.f6 ((getD_set h).resolve_left (by decide)), fun h => H.f7 ((getD_set h).resolve_left (by decide)), fun h => H.f8 ((getD_set h).resolve_left (by decide)), fun h => H.f9 ((getD_set h).resolve_left (by decide)), fun _ => rfl⟩⟩
  case done =>
    rintro L a V ⟨x6, x7, x12, x13, x14, x15, x16, x17, x18, x19, x20, rfl, H⟩ hall
    have hs := H.f9 (hall 9 (by decide))
    obtain rfl := H.f10 (hall 10 (by decide))
    obtain ⟨A, c, rfl, hr⟩ := hs
    have HR := Lib.hid hr
    have BE := hide H.pv.be
    clear H hall hr hst
    go_wp2_with fail
    refine bodyPost_ret (v := .tuple #[.slice A 1 c, .bool true]) (by simp [results, Tryz.results63, go_sem]) rfl ?_
    exact ⟨_, rfl, ⟨A, c, rfl, HR.out⟩, BE.out⟩
set_option maxRecDepth 100000 in
set_option maxHeartbeats 4000000 in
theorem form_one (w : World) : Calls Tryz.prog 44 #[.agg #[.bool false, .bool false, .bool false, .bool false, .bool false, .bool false], .agg #[.int .i64 1, .bool false, .int .u32 0, .int .u32 0, .slice none 0 0, .slice none 0 0, .slice none 0 0, .int .i64 0, .slice none 0 0]] w fun e w' => ∃ v, e = .returned (.tuple #[v, .bool true]) ∧ w'.ownsRow w.heap.size 5 1 v 4 (bV [64, 1, 1, 0]) ∧ Below w.heap.size w w' := by
  have hpv := PVo.start w 60
  have HPV := hide hpv
  have hhs := head_size
  have HHS := Lib.hid hhs
  clear hpv hhs
  go_enter Tryz.func44, Tryz.ntmps44
  go_wp2_with (first
    | (go_at_call 63; refine (vbytes_one _).mono ?_; rintro e w1 ⟨v1, rfl, ⟨A1, k1, rfl, hr1⟩, hb1⟩
       have h1 := HPV.out.more hb1
       have c1 : w1.cell? ⟨w.heap.size + 1, 0, none⟩ = some (.int .i64 1) := by rw [cell_of_row _ _ 0 _ _ _ h1.g1]; rfl
       have c2 : w1.cell? ⟨w.heap.size + 1, 1, none⟩ = some (.bool false) := by rw [cell_of_row _ _ 1 _ _ _ h1.g1]; rfl
       have l1 := lt_of_heapF h1.g1
       have H1 := hide h1
       have HR1 := Lib.hid hr1
       clear hb1 h1 hr1)
    | (go_at_call 64; refine (canon_one _).mono ?_; rintro e w2 ⟨rfl, hb2⟩
       have B2 := hide (H1.out.be.trans (hb2.mono H1.out.be.size))
       have B12 := hide hb2
       clear hb2)
    | (go_at_call 65; refine (fbytes_one _).mono ?_; rintro e w3 ⟨v, rfl, ho3, hb3⟩
       obtain ⟨A, c, rfl, hc1, hc2⟩ := slice_of_ownF ho3
       have hal := (Below.refl w2.heap.size w2).alloc (Nat.le_refl _) (.cells #[.int .i64 64, .int .i64 1, .int .i64 1] 92)
       have B13 := hide (B12.out.trans ((hal.trans (hb3.mono (by simp))).mono B12.out.size))
       have B3 := hide ((B2.out.alloc B2.out.size (.cells #[.int .i64 64, .int .i64 1, .int .i64 1] 92)).trans (hb3.mono (by simp; have := B2.out.size; omega)))
       have HO3 := hide ho3
       clear hb3 ho3 hal))
  have hct := cat_two w3 (Value.slice A 3 c) (.slice A1 1 k1) [64, 1, 1] [0] (src_of_own HO3.out rfl) ⟨A1, k1, rfl, (HR1.out.1.below B13.out).more B13.out.size, HR1.out.2⟩ (by simp)
  refine hct.mono ?_
  rintro e w4 ⟨v, rfl, ho, hb4⟩
  have HO := hide (own_baseF ho B3.out.size)
  have B4 := hide (B3.out.trans (hb4.mono B3.out.size))
  clear ho hb4 hct
  go_wp2_with fail
  refine bodyPost_ret (v := .tuple #[v, .bool true]) (by simp [results, Tryz.results44, go_sem]) rfl ?_
  exact ⟨_, rfl, HO.out, B4.out⟩
end Go.Proofs.YtnfclcbhehbchaaGreatDoor
