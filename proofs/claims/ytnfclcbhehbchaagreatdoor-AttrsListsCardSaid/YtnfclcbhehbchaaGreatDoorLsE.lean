/- The head of an ORIGIN, and basic.Plain at it. -/
import Derived.Test.YtnfclcbhehbchaaGreatDoorFlgN
set_option autoImplicit false
namespace Go.Proofs.YtnfclcbhehbchaaGreatDoor
open Go.RowKit
set_option maxRecDepth 100000 in
set_option maxHeartbeats 4000000 in
/-- octet.Put of 1 in 1 bytes. -/
theorem put1_one (w : World) : Calls Tryz.prog 73 #[.int .i64 1, .int .u32 1] w fun e w' => ∃ v, e = .returned (.tuple #[v, .bool true]) ∧ w'.ownsRow w.heap.size 5 1 v 1 (bV [1]) ∧ Below w.heap.size w w' := by
  obtain ⟨iu, hi0, hi1, hi2, hi3⟩ := info_parts u8_info
  have hmk : ∀ w, (Instr.makeSlice 35 (.int .i64 1) (.int .i64 1)).run Tryz.prog w = .ok (.slice (some ⟨w.heap.size, 0, none⟩) 1 1) (w.alloc (.cells #[.int .u8 0] 5)) := fun w => by
    have h := run_make_rowN (P := Tryz.prog) 35 5 iu (.int .u8 0) Tryz.underlying35 hi0 hi1 .i64 .i64 1 1 (Nat.le_refl _) (by rw [hi3]; decide) (by decide) w
    rw [hi2, show madeCells (Value.int .u8 0).cells (1 * 1) = #[.int .u8 0] from by
      apply Array.ext
      · simp [madeCells]
      · intro i h1 h2
        have h3 : i < 1 := by simpa using h2
        rcases i with _ | i <;> first | omega | simp [madeCells, Value.cells, Nat.mod_one]] at h
    exact h
  clear hi0 hi1 hi2 hi3
  go_enter Tryz.func73, Tryz.ntmps73
  go_wp2
  have hst : (w.alloc (.cells #[.int .u8 0] 5)).ownsRow w.heap.size 5 1 (.slice (some ⟨w.heap.size, 0, none⟩) 1 1) 1 (bV [0]) := World.ownsRow_lit w #[.int .u8 0] 1 (Nat.le_refl _) (by simp [maxLen]) (by simp)
  have HST := hide hst
  clear hst hmk
  go_loopw [26] (fun i wr => ∃ (j : Nat) (l : List Int), (j = 0 ∧ l = [0] ∨ j = 1 ∧ l = [1]) ∧ i = .int .i64 j ∧ wr.ownsRow w.heap.size 5 1 (.slice (some ⟨w.heap.size, 0, none⟩) 1 1) 1 (bV l) ∧ Below w.heap.size w wr) (fun i _ => 1 - (intOf i).toNat)
  case atStart => exact ⟨0, [0], .inl ⟨rfl, rfl⟩, rfl, HST.out, (Below.refl _ _).alloc (Nat.le_refl _) _⟩
  case round =>
    obtain ⟨j, l, hj, rfl, hown, hbel⟩ := hrel
    rcases hj with ⟨rfl, rfl⟩ | ⟨rfl, rfl⟩
    · have hcell : ∃ v, wr.cell? ⟨w.heap.size, 0, none⟩ = some v := ⟨_, hown.cellAt 0 (by decide)⟩
      obtain ⟨v0, hc⟩ := hcell
      have hfz : wr.frozen? ⟨w.heap.size, 0, none⟩ = false := hown.frozenAt _
      have hs := hown.stored 0 (.int .u8 1)
      have hb2 := fun v => hbel.setCell (p := ⟨w.heap.size, 0, none⟩) (Nat.le_refl _) v
      have HS := hide hs
      have HB2 := hide hb2
      clear hs hb2 hown hbel HST
      go_wp2
      go_roundw
      case rel => exact ⟨1, [1], .inr (⟨rfl, rfl⟩), by go_num, HS.out.1, HB2.out _⟩
      case measure => simp [intOf]
    · have HO := hide hown
      have HB := hide hbel
      clear hown hbel
      go_wp2
      refine bodyPost_ret (v := .tuple #[.slice (some ⟨w.heap.size, 0, none⟩) 1 1, .bool true]) (by simp [results, Tryz.results73, go_sem]) rfl ?_
      exact ⟨_, rfl, HO.out, HB.out⟩
set_option maxRecDepth 100000 in
set_option maxHeartbeats 4000000 in
/-- octet.Put of 0 in 4 bytes. -/
theorem put4_zero (w : World) : Calls Tryz.prog 73 #[.int .i64 4, .int .u32 0] w fun e w' => ∃ v, e = .returned (.tuple #[v, .bool true]) ∧ w'.ownsRow w.heap.size 5 1 v 4 (bV [0, 0, 0, 0]) ∧ Below w.heap.size w w' := by
  obtain ⟨iu, hi0, hi1, hi2, hi3⟩ := info_parts u8_info
  have hmk : ∀ w, (Instr.makeSlice 35 (.int .i64 4) (.int .i64 4)).run Tryz.prog w = .ok (.slice (some ⟨w.heap.size, 0, none⟩) 4 4) (w.alloc (.cells #[.int .u8 0, .int .u8 0, .int .u8 0, .int .u8 0] 5)) := fun w => by
    have h := run_make_rowN (P := Tryz.prog) 35 5 iu (.int .u8 0) Tryz.underlying35 hi0 hi1 .i64 .i64 4 4 (Nat.le_refl _) (by rw [hi3]; decide) (by decide) w
    rw [hi2, show madeCells (Value.int .u8 0).cells (4 * 1) = #[.int .u8 0, .int .u8 0, .int .u8 0, .int .u8 0] from by
      apply Array.ext
      · simp [madeCells]
      · intro i h1 h2
        have h3 : i < 4 := by simpa using h2
        rcases i with _ | _ | _ | _ | i <;> first | omega | simp [madeCells, Value.cells, Nat.mod_one]] at h
    exact h
  clear hi0 hi1 hi2 hi3
  go_enter Tryz.func73, Tryz.ntmps73
  go_wp2
  have hst : (w.alloc (.cells #[.int .u8 0, .int .u8 0, .int .u8 0, .int .u8 0] 5)).ownsRow w.heap.size 5 1 (.slice (some ⟨w.heap.size, 0, none⟩) 4 4) 4 (bV [0, 0, 0, 0]) := World.ownsRow_lit w #[.int .u8 0, .int .u8 0, .int .u8 0, .int .u8 0] 4 (Nat.le_refl _) (by simp [maxLen]) (by simp)
  have HST := hide hst
  clear hst hmk
  go_loopw [26] (fun i wr => ∃ (j : Nat) (l : List Int), (j = 0 ∧ l = [0, 0, 0, 0] ∨ j = 1 ∧ l = [0, 0, 0, 0] ∨ j = 2 ∧ l = [0, 0, 0, 0] ∨ j = 3 ∧ l = [0, 0, 0, 0] ∨ j = 4 ∧ l = [0, 0, 0, 0]) ∧ i = .int .i64 j ∧ wr.ownsRow w.heap.size 5 1 (.slice (some ⟨w.heap.size, 0, none⟩) 4 4) 4 (bV l) ∧ Below w.heap.size w wr) (fun i _ => 4 - (intOf i).toNat)
  case atStart => exact ⟨0, [0, 0, 0, 0], .inl ⟨rfl, rfl⟩, rfl, HST.out, (Below.refl _ _).alloc (Nat.le_refl _) _⟩
  case round =>
    obtain ⟨j, l, hj, rfl, hown, hbel⟩ := hrel
    rcases hj with ⟨rfl, rfl⟩ | ⟨rfl, rfl⟩ | ⟨rfl, rfl⟩ | ⟨rfl, rfl⟩ | ⟨rfl, rfl⟩
    · have hcell : ∃ v, wr.cell? ⟨w.heap.size, 3, none⟩ = some v := ⟨_, hown.cellAt 3 (by decide)⟩
      obtain ⟨v0, hc⟩ := hcell
      have hfz : wr.frozen? ⟨w.heap.size, 3, none⟩ = false := hown.frozenAt _
      have hs := hown.stored 3 (.int .u8 0)
      have hb2 := fun v => hbel.setCell (p := ⟨w.heap.size, 3, none⟩) (Nat.le_refl _) v
      have HS := hide hs
      have HB2 := hide hb2
      clear hs hb2 hown hbel HST
      go_wp2
      go_roundw
      case rel => exact ⟨1, [0, 0, 0, 0], .inr (.inl ⟨rfl, rfl⟩), by go_num, HS.out.1, HB2.out _⟩
      case measure => simp [intOf]
    · have hcell : ∃ v, wr.cell? ⟨w.heap.size, 2, none⟩ = some v := ⟨_, hown.cellAt 2 (by decide)⟩
      obtain ⟨v0, hc⟩ := hcell
      have hfz : wr.frozen? ⟨w.heap.size, 2, none⟩ = false := hown.frozenAt _
      have hs := hown.stored 2 (.int .u8 0)
      have hb2 := fun v => hbel.setCell (p := ⟨w.heap.size, 2, none⟩) (Nat.le_refl _) v
      have HS := hide hs
      have HB2 := hide hb2
      clear hs hb2 hown hbel HST
      go_wp2
      go_roundw
      case rel => exact ⟨2, [0, 0, 0, 0], .inr (.inr (.inl ⟨rfl, rfl⟩)), by go_num, HS.out.1, HB2.out _⟩
      case measure => simp [intOf]
    · have hcell : ∃ v, wr.cell? ⟨w.heap.size, 1, none⟩ = some v := ⟨_, hown.cellAt 1 (by decide)⟩
      obtain ⟨v0, hc⟩ := hcell
      have hfz : wr.frozen? ⟨w.heap.size, 1, none⟩ = false := hown.frozenAt _
      have hs := hown.stored 1 (.int .u8 0)
      have hb2 := fun v => hbel.setCell (p := ⟨w.heap.size, 1, none⟩) (Nat.le_refl _) v
      have HS := hide hs
      have HB2 := hide hb2
      clear hs hb2 hown hbel HST
      go_wp2
      go_roundw
      case rel => exact ⟨3, [0, 0, 0, 0], .inr (.inr (.inr (.inl ⟨rfl, rfl⟩))), by go_num, HS.out.1, HB2.out _⟩
      case measure => simp [intOf]
    · have hcell : ∃ v, wr.cell? ⟨w.heap.size, 0, none⟩ = some v := ⟨_, hown.cellAt 0 (by decide)⟩
      obtain ⟨v0, hc⟩ := hcell
      have hfz : wr.frozen? ⟨w.heap.size, 0, none⟩ = false := hown.frozenAt _
      have hs := hown.stored 0 (.int .u8 0)
      have hb2 := fun v => hbel.setCell (p := ⟨w.heap.size, 0, none⟩) (Nat.le_refl _) v
      have HS := hide hs
      have HB2 := hide hb2
      clear hs hb2 hown hbel HST
      go_wp2
      go_roundw
      case rel => exact ⟨4, [0, 0, 0, 0], .inr (.inr (.inr (.inr (⟨rfl, rfl⟩)))), by go_num, HS.out.1, HB2.out _⟩
      case measure => simp [intOf]
    · have HO := hide hown
      have HB := hide hbel
      clear hown hbel
      go_wp2
      refine bodyPost_ret (v := .tuple #[.slice (some ⟨w.heap.size, 0, none⟩) 4 4, .bool true]) (by simp [results, Tryz.results73, go_sem]) rfl ?_
      exact ⟨_, rfl, HO.out, HB.out⟩
theorem one_cls : clsF 1 = some 64 := by decide
set_option maxRecDepth 100000 in
set_option maxHeartbeats 4000000 in
theorem canon_one (w : World) : Calls Tryz.prog 64 #[.int .i64 1, .bool false, .int .i64 1] w fun e w' => e = .returned (.tuple #[.agg #[.int .i64 64, .int .i64 1, .int .i64 1], .bool true]) ∧ Below w.heap.size w w' := by
  obtain ⟨W0, hW0⟩ : ∃ W0, W0 = w.alloc (.cells #[.int .i64 0, .int .i64 0, .int .i64 0] 92) := ⟨_, rfl⟩
  have hg0 : W0.heap[w.heap.size]? = some (.cells #[.int .i64 0, .int .i64 0, .int .i64 0] 92 (0, 0)) := by rw [hW0]; exact heap_alloc_new _ _
  have hb0 : Below w.heap.size w W0 := by rw [hW0]; exact (Below.refl _ _).alloc (Nat.le_refl _) _
  have G0 := Lib.hid hg0
  have B0 := hide hb0
  have HW0 := Lib.hid hW0
  have HC := hide (fun W => class_any 1 64 W one_cls)
  have hhs := head_size
  have HHS := Lib.hid hhs
  clear hg0 hb0 hW0 hhs
  go_enter Tryz.func64, Tryz.ntmps64
  go_wp2_with (first
    | (go_at_call 80; rw [← HW0.out]; refine (HC.out _).mono ?_; rintro e w1 ⟨rfl, hb1⟩
       have g1 := (hb1.block _ (lt_of_heapF G0.out)).trans G0.out
       have G1 := Lib.hid g1
       have B1 := hide (B0.out.trans (hb1.mono B0.out.size))
       clear g1 hb1)
    | ((with_reducible refine wpList_store_whole w1 ?hgd2 92 (.tmp 6) (.tmp 49) ?ho2 w.heap.size 92 #[.int .i64 0, .int .i64 0, .int .i64 0] #[.int .i64 64, .int .i64 1, .int .i64 1] ?hx2 ?hp2 G1.out ?hi2 ?hs2 ?hq2 ?_); (case hgd2 => rfl); (case ho2 => rfl); (case hx2 => rfl); (case hp2 => rfl); (case hs2 => rfl); (case hi2 => exact HHS.out); (case hq2 => simp [Value.oneCell'])
       intro W2 G2 O2
       have B2 := hide (B1.out.grown O2.out B1.out.size (fun x hx => by injection hx; omega))
       clear O2))
  exact bodyPost_ret (v := .tuple #[.agg #[.int .i64 64, .int .i64 1, .int .i64 1], .bool true]) (results_cellT (p := 6) (t := 7) rfl _ _ w.heap.size 92 _ _ rfl rfl G2.out Tryz.underlying92 rfl HHS.out) rfl ⟨rfl, B2.out⟩
structure FBo (w : World) (V : World) (L : Array Bool) (x4 x5 x27 x28 x29 x30 x31 x32 x33 x34 x35 x36 : Value) : Prop where
  be : Below w.heap.size w V
  g : V.heap[w.heap.size]? = some (.cells #[.int .i64 64, .int .i64 1, .int .i64 1] 92 (0, 0))
  f0 : L.getD 0 false = true → x28 = .pointer (some ⟨w.heap.size, 0, none⟩)
  f1 : L.getD 1 false = true → x29 = .int .i64 64
  f2 : L.getD 2 false = true → x30 = .int .i64 1
  f3 : L.getD 3 false = true → x31 = .pointer (some ⟨w.heap.size, 2, none⟩)
  f4 : L.getD 4 false = true → x32 = .int .i64 1
  f5 : L.getD 5 false = true → x33 = .int .u32 1
  f6 : L.getD 6 false = true → ∃ v, x34 = .tuple #[v, .bool true] ∧ V.ownsRow w.heap.size 5 1 v 1 (bV [1])
  f7 : L.getD 7 false = true → ∃ v, x27 = .tuple #[v, .bool true] ∧ V.ownsRow w.heap.size 5 1 v 1 (bV [1])
  f8 : L.getD 8 false = true → V.ownsRow w.heap.size 5 1 x35 1 (bV [1])
  f9 : L.getD 9 false = true → x36 = .bool true
  f10 : L.getD 10 false = true → V.ownsRow w.heap.size 5 1 x4 1 (bV [1])
  f11 : L.getD 11 false = true → x5 = .bool true
theorem FBo.more {w V V' : World} {L : Array Bool} {x4 x5 x27 x28 x29 x30 x31 x32 x33 x34 x35 x36 : Value} (H : FBo w V L x4 x5 x27 x28 x29 x30 x31 x32 x33 x34 x35 x36) (hb : Below V.heap.size V V') : FBo w V' L x4 x5 x27 x28 x29 x30 x31 x32 x33 x34 x35 x36 :=
  ⟨H.be.trans (hb.mono H.be.size), (hb.block _ (lt_of_heapF H.g)).trans H.g, H.f0, H.f1, H.f2, H.f3, H.f4, H.f5, fun h => (H.f6 h).imp fun _ p => ⟨p.1, own_more p.2 hb⟩, fun h => (H.f7 h).imp fun _ p => ⟨p.1, own_more p.2 hb⟩, fun h => own_more (H.f8 h) hb, H.f9, fun h => own_more (H.f10 h) hb, H.f11⟩

set_option maxRecDepth 100000 in
set_option maxHeartbeats 4000000 in
theorem fbytes_one (w : World) : Calls Tryz.prog 65 #[.agg #[.int .i64 64, .int .i64 1, .int .i64 1]] w fun e w' => ∃ v, e = .returned (.tuple #[v, .bool true]) ∧ w'.ownsRow w.heap.size 5 1 v 3 (bV [64, 1, 1]) ∧ Below w.heap.size w w' := by
  have hst : FBo w (w.alloc (.cells #[.int .i64 64, .int .i64 1, .int .i64 1] 92)).drew (Array.replicate 12 false) undef undef undef undef undef undef undef undef undef undef undef undef := by
    refine ⟨((Below.refl _ _).alloc (Nat.le_refl _) _).drew, heap_alloc_new _ _, ?_, ?_, ?_, ?_, ?_, ?_, ?_, ?_, ?_, ?_, ?_, ?_⟩ <;> (intro h; exact absurd h (by decide))
  have HST := hide hst
  clear hst
  go_enter Tryz.func65, Tryz.ntmps65
  go_wp2_with fail
  refine wp_region_inv (by kernel_rfl) (fun L a V => ∃ x4 x5 x27 x28 x29 x30 x31 x32 x33 x34 x35 x36 : Value, a = ⟨List.toArray ((.agg #[.int .i64 64, .int .i64 1, .int .i64 1]) :: (.pointer (some ⟨w.heap.size, 0, none⟩)) :: (.slice none 0 0) :: (.bool false) :: (x4) :: (x5) :: (.pointer (some ⟨w.heap.size, 0, none⟩)) :: (.int .i64 64) :: (.pointer (some ⟨w.heap.size, 1, none⟩)) :: (.int .i64 1) :: (.pointer (some ⟨w.heap.size, 2, none⟩)) :: (.int .i64 1) :: (.int .i64 1) :: (.bool false) :: (.bool false) :: (.pointer (some ⟨w.heap.size, 0, none⟩)) :: (.int .i64 64) :: (.pointer (some ⟨w.heap.size, 1, none⟩)) :: (.int .i64 1) :: (.int .i64 64) :: (.bool false) :: (.bool false) :: (.bool false) :: (.pointer (some ⟨w.heap.size, 2, none⟩)) :: (.int .i64 1) :: (.bool false) :: (.bool false) :: (x27) :: (x28) :: (x29) :: (x30) :: (x31) :: (x32) :: (x33) :: (x34) :: (x35) :: (x36) :: (undef) :: (undef) :: (undef) :: (undef) :: (undef) :: (undef) :: (undef) :: (undef) :: (undef) :: (undef) :: (undef) :: (undef) :: []), []⟩ ∧ FBo w V L x4 x5 x27 x28 x29 x30 x31 x32 x33 x34 x35 x36) (by kernel_rfl) ?steps ⟨undef, undef, undef, undef, undef, undef, undef, undef, undef, undef, undef, undef, rfl, HST.out⟩ ?done
  case steps =>
    refine ⟨?_, ?_, ?_, ?_, ?_, ?_, ?_, ?_, ?_, ?_, ?_, ?_, trivial⟩
    · rintro L a V ⟨x4, x5, x27, x28, x29, x30, x31, x32, x33, x34, x35, x36, rfl, H⟩ hl ha K hK
      go_simp
      exact hK _ _ ⟨_, _, _, _, _, _, _, _, _, _, _, _, rfl, ⟨H.be, H.g, fun _ => rfl, fun h => H.f1 ((getD_set h).resolve_left (by decide)), fun h => H.f2 ((getD_set h).resolve_left (by decide)), fun h => H.f3 ((getD_set h).resolve_left (by decide)), fun h => H.f4 ((getD_set h).resolve_left (by decide)), fun h => H.f5 ((getD_set h).resolve_left (by decide)), fun h => H.f6 ((getD_set h).resolve_left (by decide)), fun h => H.f7 ((getD_set h).resolve_left (by decide)), fun h => H.f8 ((getD_set h).resolve_left (by decide)), fun h => H.f9 ((getD_set h).resolve_left (by decide)), fun h => H.f10 ((getD_set h).resolve_left (by decide)), fun h => H.f11 ((getD_set h).resolve_left (by decide))⟩⟩
    · rintro L a V ⟨x4, x5, x27, x28, x29, x30, x31, x32, x33, x34, x35, x36, rfl, H⟩ hl ha K hK
      obtain rfl := H.f0 (ha ⟨0, .data⟩ (by simp) rfl)
      refine step_load_cell V rfl 3 (.tmp 28) rfl ⟨w.heap.size, 0, none⟩ _ (.int .i64 64) rfl (by rw [cell_of_row _ _ 0 _ _ _ H.g]; rfl) Tryz.underlying3 rfl ?_
      exact hK _ _ ⟨_, _, _, _, _, _, _, _, _, _, _, _, rfl, ⟨H.be, H.g, fun h => H.f0 ((getD_set h).resolve_left (by decide)), fun _ => rfl, fun h => H.f2 ((getD_set h).resolve_left (by decide)), fun h => H.f3 ((getD_set h).resolve_left (by decide)), fun h => H.f4 ((getD_set h).resolve_left (by decide)), fun h => H.f5 ((getD_set h).resolve_left (by decide)), fun h => H.f6 ((getD_set h).resolve_left (by decide)), fun h => H.f7 ((getD_set h).resolve_left (by decide)), fun h => H.f8 ((getD_set h).resolve_left (by decide)), fun h => H.f9 ((getD_set h).resolve_left (by decide)), fun h => H.f10 ((getD_set h).resolve_left (by decide)), fun h => H.f11 ((getD_set h).resolve_left (by decide))⟩⟩
    · rintro L a V ⟨x4, x5, x27, x28, x29, x30, x31, x32, x33, x34, x35, x36, rfl, H⟩ hl ha K hK
      obtain rfl := H.f1 (ha ⟨1, .data⟩ (by simp) rfl)
      refine step_call_fn (args := #[.int .i64 64]) rfl rfl Tryz.func81 (by decide) rfl (by simp [Act.eval]) (fwidth_no V) ?_
      rintro e w' ⟨rfl, rfl⟩
      refine ⟨_, rfl, ?_⟩
      exact hK _ _ ⟨_, _, _, _, _, _, _, _, _, _, _, _, rfl, ⟨H.be, H.g, fun h => H.f0 ((getD_set h).resolve_left (by decide)), fun h => H.f1 ((getD_set h).resolve_left (by decide)), fun _ => rfl, fun h => H.f3 ((getD_set h).resolve_left (by decide)), fun h => H.f4 ((getD_set h).resolve_left (by decide)), fun h => H.f5 ((getD_set h).resolve_left (by decide)), fun h => H.f6 ((getD_set h).resolve_left (by decide)), fun h => H.f7 ((getD_set h).resolve_left (by decide)), fun h => H.f8 ((getD_set h).resolve_left (by decide)), fun h => H.f9 ((getD_set h).resolve_left (by decide)), fun h => H.f10 ((getD_set h).resolve_left (by decide)), fun h => H.f11 ((getD_set h).resolve_left (by decide))⟩⟩
    · rintro L a V ⟨x4, x5, x27, x28, x29, x30, x31, x32, x33, x34, x35, x36, rfl, H⟩ hl ha K hK
      go_simp
      exact hK _ _ ⟨_, _, _, _, _, _, _, _, _, _, _, _, rfl, ⟨H.be, H.g, fun h => H.f0 ((getD_set h).resolve_left (by decide)), fun h => H.f1 ((getD_set h).resolve_left (by decide)), fun h => H.f2 ((getD_set h).resolve_left (by decide)), fun _ => rfl, fun h => H.f4 ((getD_set h).resolve_left (by decide)), fun h => H.f5 ((getD_set h).resolve_left (by decide)), fun h => H.f6 ((getD_set h).resolve_left (by decide)), fun h => H.f7 ((getD_set h).resolve_left (by decide)), fun h => H.f8 ((getD_set h).resolve_left (by decide)), fun h => H.f9 ((getD_set h).resolve_left (by decide)), fun h => H.f10 ((getD_set h).resolve_left (by decide)), fun h => H.f11 ((getD_set h).resolve_left (by decide))⟩⟩
    · rintro L a V ⟨x4, x5, x27, x28, x29, x30, x31, x32, x33, x34, x35, x36, rfl, H⟩ hl ha K hK
      obtain rfl := H.f3 (ha ⟨3, .data⟩ (by simp) rfl)
      refine step_load_cell V rfl 3 (.tmp 31) rfl ⟨w.heap.size, 2, none⟩ _ (.int .i64 1) rfl (by rw [cell_of_row _ _ 2 _ _ _ H.g]; rfl) Tryz.underlying3 rfl ?_
      exact hK _ _ ⟨_, _, _, _, _, _, _, _, _, _, _, _, rfl, ⟨H.be, H.g, fun h => H.f0 ((getD_set h).resolve_left (by decide)), fun h => H.f1 ((getD_set h).resolve_left (by decide)), fun h => H.f2 ((getD_set h).resolve_left (by decide)), fun h => H.f3 ((getD_set h).resolve_left (by decide)), fun _ => rfl, fun h => H.f5 ((getD_set h).resolve_left (by decide)), fun h => H.f6 ((getD_set h).resolve_left (by decide)), fun h => H.f7 ((getD_set h).resolve_left (by decide)), fun h => H.f8 ((getD_set h).resolve_left (by decide)), fun h => H.f9 ((getD_set h).resolve_left (by decide)), fun h => H.f10 ((getD_set h).resolve_left (by decide)), fun h => H.f11 ((getD_set h).resolve_left (by decide))⟩⟩
    · rintro L a V ⟨x4, x5, x27, x28, x29, x30, x31, x32, x33, x34, x35, x36, rfl, H⟩ hl ha K hK
      obtain rfl := H.f4 (ha ⟨4, .data⟩ (by simp) rfl)
      go_simp
      exact hK _ _ ⟨_, _, _, _, _, _, _, _, _, _, _, _, rfl, ⟨H.be, H.g, fun h => H.f0 ((getD_set h).resolve_left (by decide)), fun h => H.f1 ((getD_set h).resolve_left (by decide)), fun h => H.f2 ((getD_set h).resolve_left (by decide)), fun h => H.f3 ((getD_set h).resolve_left (by decide)), fun h => H.f4 ((getD_set h).resolve_left (by decide)), fun _ => rfl, fun h => H.f6 ((getD_set h).resolve_left (by decide)), fun h => H.f7 ((getD_set h).resolve_left (by decide)), fun h => H.f8 ((getD_set h).resolve_left (by decide)), fun h => H.f9 ((getD_set h).resolve_left (by decide)), fun h => H.f10 ((getD_set h).resolve_left (by decide)), fun h => H.f11 ((getD_set h).resolve_left (by decide))⟩⟩
    · rintro L a V ⟨x4, x5, x27, x28, x29, x30, x31, x32, x33, x34, x35, x36, rfl, H⟩ hl ha K hK
      obtain rfl := H.f2 (ha ⟨2, .data⟩ (by simp) rfl)
      obtain rfl := H.f5 (ha ⟨5, .data⟩ (by simp) rfl)
      refine step_call_fn (args := #[.int .i64 1, .int .u32 1]) rfl rfl Tryz.func73 (by decide) rfl (by simp [Act.eval]) (put1_one V) ?_
      rintro e w' ⟨v, rfl, hv, hb⟩
      refine ⟨_, rfl, ?_⟩
      have H0 := H.be.size
      have H' := H.more hb
      clear H
      have H := H'
      exact hK _ _ ⟨_, _, _, _, _, _, _, _, _, _, _, _, rfl, ⟨H.be, H.g, fun h => H.f0 ((getD_set h).resolve_left (by decide)), fun h => H.f1 ((getD_set h).resolve_left (by decide)), fun h => H.f2 ((getD_set h).resolve_left (by decide)), fun h => H.f3 ((getD_set h).resolve_left (by decide)), fun h => H.f4 ((getD_set h).resolve_left (by decide)), fun h => H.f5 ((getD_set h).resolve_left (by decide)), fun _ => ⟨v, rfl, own_baseF hv H0⟩, fun h => H.f7 ((getD_set h).resolve_left (by decide)), fun h => H.f8 ((getD_set h).resolve_left (by decide)), fun h => H.f9 ((getD_set h).resolve_left (by decide)), fun h => H.f10 ((getD_set h).resolve_left (by decide)), fun h => H.f11 ((getD_set h).resolve_left (by decide))⟩⟩
    · rintro L a V ⟨x4, x5, x27, x28, x29, x30, x31, x32, x33, x34, x35, x36, rfl, H⟩ hl ha K hK
      obtain ⟨v, rfl, hv⟩ := H.f6 (ha ⟨6, .data⟩ (by simp) rfl)
      go_simp
      exact hK _ _ ⟨_, _, _, _, _, _, _, _, _, _, _, _, rfl, ⟨H.be, H.g, fun h => H.f0 ((getD_set h).resolve_left (by decide)), fun h => H.f1 ((getD_set h).resolve_left (by decide)), fun h => H.f2 ((getD_set h).resolve_left (by decide)), fun h => H.f3 ((getD_set h).resolve_left (by decide)), fun h => H.f4 ((getD_set h).resolve_left (by decide)), fun h => H.f5 ((getD_set h).resolve_left (by decide)), fun h => H.f6 ((getD_set h).resolve_left (by decide)), fun _ => ⟨v, rfl, hv⟩, fun h => H.f8 ((getD_set h).resolve_left (by decide)), fun h => H.f9 ((getD_set h).resolve_left (by decide)), fun h => H.f10 ((getD_set h).resolve_left (by decide)), fun h => H.f11 ((getD_set h).resolve_left (by decide))⟩⟩
    · rintro L a V ⟨x4, x5, x27, x28, x29, x30, x31, x32, x33, x34, x35, x36, rfl, H⟩ hl ha K hK
      obtain ⟨v, rfl, hv⟩ := H.f7 (ha ⟨7, .data⟩ (by simp) rfl)
      go_simp
      exact hK _ _ ⟨_, _, _, _, _, _, _, _, _, _, _, _, rfl, ⟨H.be, H.g, fun h => H.f0 ((getD_set h).resolve_left (by decide)), fun h => H.f1 ((getD_set h).resolve_left (by decide)), fun h => H.f2 ((getD_set h).resolve_left (by decide)), fun h => H.f3 ((getD_set h).resolve_left (by decide)), fun h => H.f4 ((getD_set h).resolve_left (by decide)), fun h => H.f5 ((getD_set h).resolve_left (by decide)), fun h => H.f6 ((getD_set h).resolve_left (by decide)), fun h => H.f7 ((getD_set h).resolve_left (by decide)), fun _ => hv, fun h => H.f9 ((getD_set h).resolve_left (by decide)), fun h => H.f10 ((getD_set h).resolve_left (by decide)), fun h => H.f11 ((getD_set h).resolve_left (by decide))⟩⟩
    · rintro L a V ⟨x4, x5, x27, x28, x29, x30, x31, x32, x33, x34, x35, x36, rfl, H⟩ hl ha K hK
      obtain ⟨v, rfl, hv⟩ := H.f7 (ha ⟨7, .data⟩ (by simp) rfl)
      go_simp
      exact hK _ _ ⟨_, _, _, _, _, _, _, _, _, _, _, _, rfl, ⟨H.be, H.g, fun h => H.f0 ((getD_set h).resolve_left (by decide)), fun h => H.f1 ((getD_set h).resolve_left (by decide)), fun h => H.f2 ((getD_set h).resolve_left (by decide)), fun h => H.f3 ((getD_set h).resolve_left (by decide)), fun h => H.f4 ((getD_set h).resolve_left (by decide)), fun h => H.f5 ((getD_set h).resolve_left (by decide)), fun h => H.f6 ((getD_set h).resolve_left (by decide)), fun h => H.f7 ((getD_set h).resolve_left (by decide)), fun h => H.f8 ((getD_set h).resolve_left (by decide)), fun _ => rfl, fun h => H.f10 ((getD_set h).resolve_left (by decide)), fun h => H.f11 ((getD_set h).resolve_left (by decide))⟩⟩
    · rintro L a V ⟨x4, x5, x27, x28, x29, x30, x31, x32, x33, x34, x35, x36, rfl, H⟩ hl ha K hK
      have hv := H.f8 (ha ⟨8, .data⟩ (by simp) rfl)
      go_simp
      exact hK _ _ ⟨_, _, _, _, _, _, _, _, _, _, _, _, rfl, ⟨H.be, H.g, fun h => H.f0 ((getD_set h).resolve_left (by decide)), fun h => H.f1 ((getD_set h).resolve_left (by decide)), fun h => H.f2 ((getD_set h).resolve_left (by decide)), fun h => H.f3 ((getD_set h).resolve_left (by decide)), fun h => H.f4 ((getD_set h).resolve_left (by decide)), fun h => H.f5 ((getD_set h).resolve_left (by decide)), fun h => H.f6 ((getD_set h).resolve_left (by decide)), fun h => H.f7 ((getD_set h).resolve_left (by decide)), fun h => H.f8 ((getD_set h).resolve_left (by decide)), fun h => H.f9 ((getD_set h).resolve_left (by decide)), fun _ => hv, fun h => H.f11 ((getD_set h).resolve_left (by decide))⟩⟩
    · rintro L a V ⟨x4, x5, x27, x28, x29, x30, x31, x32, x33, x34, x35, x36, rfl, H⟩ hl ha K hK
      obtain rfl := H.f9 (ha ⟨9, .data⟩ (by simp) rfl)
      go_simp
      exact hK _ _ ⟨_, _, _, _, _, _, _, _, _, _, _, _, rfl, ⟨H.be, H.g, fun h => H.f0 ((getD_set h).resolve_left (by decide)), fun h => H.f1 ((getD_set h).resolve_left (by decide)), fun h => H.f2 ((getD_set h).resolve_left (by decide)), fun h => H.f3 ((getD_set h).resolve_left (by decide)), fun h => H.f4 ((getD_set h).resolve_left (by decide)), fun h => H.f5 ((getD_set h).resolve_left (by decide)), fun h => H.f6 ((getD_set h).resolve_left (by decide)), fun h => H.f7 ((getD_set h).resolve_left (by decide)), fun h => H.f8 ((getD_set h).resolve_left (by decide)), fun h => H.f9 ((getD_set h).resolve_left (by decide)), fun h => H.f10 ((getD_set h).resolve_left (by decide)), fun _ => rfl⟩⟩
  case done =>
    rintro L a V ⟨x4, x5, x27, x28, x29, x30, x31, x32, x33, x34, x35, x36, rfl, H⟩ hall
    obtain rfl := H.f11 (hall 11 (by decide))
    have hx := H.f10 (hall 10 (by decide))
    obtain ⟨A, c, rfl, hc1, hc2⟩ := slice_of_ownF hx
    have hg := H.g
    have hbe := H.be
    have c0 : V.cell? ⟨w.heap.size, 0, none⟩ = some (.int .i64 64) := by rw [cell_of_row _ _ 0 _ _ _ hg]; rfl
    have c1 : V.cell? ⟨w.heap.size, 1, none⟩ = some (.int .i64 1) := by rw [cell_of_row _ _ 1 _ _ _ hg]; rfl
    have l0 := lt_of_heapF hg
    have HX := hide hx
    have BE := hide hbe
    clear H hall hx hg hbe
    go_wp2_with fail
    have hsl : SrcB (V.alloc (Obj.cells #[Value.int .u8 64, Value.int .u8 1] 5)) (V.heap.size + 1) (Value.slice (some ⟨V.heap.size, 0, none⟩) 2 2) (2, bV [64, 1]) :=
      ⟨_, _, rfl, ⟨by simp [bV], fun _ => ⟨_, rfl, by show V.heap.size < _; omega, fun j u hu => World.news_of_block (cs := #[Value.int .u8 64, Value.int .u8 1]) (heap_alloc_new _ _) j u (by simpa [bV] using hu)⟩⟩, bV_one _⟩
    have hsr : SrcB (V.alloc (Obj.cells #[Value.int .u8 64, Value.int .u8 1] 5)) (V.heap.size + 1) (Value.slice A 1 c) (1, bV [1]) := ((src_of_own HX.out rfl).keep ((Below.refl _ _).alloc (Nat.le_refl _) _)).more (by simp)
    have hsz : (V.alloc (Obj.cells #[Value.int .u8 64, Value.int .u8 1] 5)).heap.size = V.heap.size + 1 := by simp
    have hct := cat_two (V.alloc (Obj.cells #[Value.int .u8 64, Value.int .u8 1] 5)) (Value.slice (some ⟨V.heap.size, 0, none⟩) 2 2) (Value.slice A 1 c) [64, 1] [1] (by rw [hsz]; exact hsl) (by rw [hsz]; exact hsr) (by simp)
    rw [hsz] at hct
    refine hct.mono ?_
    rintro e w' ⟨v, rfl, ho, hb2⟩
    have HO := hide (own_baseF ho (Nat.le_trans BE.out.size (Nat.le_succ _)))
    have HB2 := hide (BE.out.trans ((((Below.refl _ _).alloc (Nat.le_refl _) _).trans (hb2.mono (by simp))).mono BE.out.size))
    clear ho hb2 hct hsl hsr hsz
    go_wp2_with fail
    refine bodyPost_ret (v := .tuple #[v, .bool true]) (by simp [results, Tryz.results65, go_sem]) rfl ?_
    exact ⟨_, rfl, HO.out, HB2.out⟩
set_option maxRecDepth 100000 in
set_option maxHeartbeats 4000000 in
theorem plain_one (p : Nat) (w : World) (hp : w.cell? ⟨p, 0, none⟩ = some (.int .u32 0)) : Calls Tryz.prog 137 #[.agg #[.int .i64 1, .bool false, .int .u32 0, .int .u32 0, .slice none 0 0, .slice none 0 0, .slice none 0 0, .int .i64 0, .slice none 0 0], .slice (some ⟨p, 0, none⟩) 1 1] w fun e w' => e = .returned (.bool true) ∧ Below w.heap.size w w' := by
  have hpl : p < w.heap.size := World.block_lt_of_cell? w ⟨p, 0, none⟩ hp
  obtain ⟨WW, hWW⟩ : ∃ WW, WW = (w.alloc (.cells #[.int .i64 1, .bool false, .int .u32 0, .int .u32 0, .slice none 0 0, .slice none 0 0, .slice none 0 0, .int .i64 0, .slice none 0 0] 38)).alloc (.cells #[.int .u32 0, .int .u32 0] 169) := ⟨_, rfl⟩
  have hbb : Below w.heap.size w WW := by rw [hWW]; exact ((Below.refl _ _).alloc (Nat.le_refl _) _).alloc (by simp) _
  have hb0 : Blk WW w.heap.size 38 #[.int .i64 1, .bool false, .int .u32 0, .int .u32 0, .slice none 0 0, .slice none 0 0, .slice none 0 0, .int .i64 0, .slice none 0 0] := by rw [hWW]; exact heap_alloc2_old _ _ _
  have hb1 : Blk WW (w.heap.size + 1) 169 #[.int .u32 0, .int .u32 0] := by rw [hWW]; exact heap_alloc2_new _ _ _
  have hp2 : WW.cell? ⟨p, 0, none⟩ = some (.int .u32 0) := (hbb.cell (p := ⟨p, 0, none⟩) hpl).trans hp
  have hcp : (Builtin.copy_ #[34, 34] 3 #[.slice (some ⟨w.heap.size + 1, 0, none⟩) 2 2, .slice (some ⟨p, 0, none⟩) 1 1]).run Tryz.prog WW = .ok (.int .i64 1) (WW.setCells (w.heap.size + 1) 0 [.int .u32 0]) :=
    run_copy_cells WW _ _ _ 32 (w.heap.size + 1) 0 2 2 ⟨p, 0, none⟩ 1 1 [.int .u32 0] Tryz.underlying34 (by kernel_rfl) rfl (fun j v hv => by
      rcases j with _ | j
      · have e : v = .int .u32 0 := by simpa using hv.symm
        subst e
        exact hp2
      · simp at hv) (fun j hj => by
      have : j = 0 := by simpa using hj
      subst this
      rw [hb1.cell]; rfl) (fun j hj => hb1.frozen _) (by simp [Value.oneCell'])
  obtain ⟨WV, hWV⟩ : ∃ WV, WV = WW.setCells (w.heap.size + 1) 0 [.int .u32 0] := ⟨_, rfl⟩
  rw [← hWV, hWW] at hcp
  have hv1 : Blk WV (w.heap.size + 1) 169 #[.int .u32 0, .int .u32 0] := by rw [hWV]; exact hb1.set_ 0 (.int .u32 0)
  have hv0 : Blk WV w.heap.size 38 #[.int .i64 1, .bool false, .int .u32 0, .int .u32 0, .slice none 0 0, .slice none 0 0, .slice none 0 0, .int .i64 0, .slice none 0 0] := by rw [hWV]; exact hb0.far (p := ⟨w.heap.size + 1, 0, none⟩) (by show w.heap.size ≠ w.heap.size + 1; omega) (.int .u32 0)
  have hvb : Below w.heap.size w WV := by rw [hWV]; exact hbb.setCell (p := ⟨w.heap.size + 1, 0, none⟩) (by show w.heap.size ≤ w.heap.size + 1; omega) (.int .u32 0)
  have heq := two_eq
  have C2 : WV.cell? ⟨w.heap.size, 2, none⟩ = some (.int .u32 0) := by rw [hv0.cell]; rfl
  have C3 : WV.cell? ⟨w.heap.size, 3, none⟩ = some (.int .u32 0) := by rw [hv0.cell]; rfl
  have C4 : WV.cell? ⟨w.heap.size, 4, none⟩ = some (.slice none 0 0) := by rw [hv0.cell]; rfl
  have C5 : WV.cell? ⟨w.heap.size, 5, none⟩ = some (.slice none 0 0) := by rw [hv0.cell]; rfl
  have C6 : WV.cell? ⟨w.heap.size, 6, none⟩ = some (.slice none 0 0) := by rw [hv0.cell]; rfl
  have C7 : WV.cell? ⟨w.heap.size, 7, none⟩ = some (.int .i64 0) := by rw [hv0.cell]; rfl
  have C8 : WV.cell? ⟨w.heap.size, 8, none⟩ = some (.slice none 0 0) := by rw [hv0.cell]; rfl
  have D0 : WV.cell? ⟨w.heap.size + 1, 0, none⟩ = some (.int .u32 0) := by rw [hv1.cell]; rfl
  have D1 : WV.cell? ⟨w.heap.size + 1, 1, none⟩ = some (.int .u32 0) := by rw [hv1.cell]; rfl
  have l1 := hv1.lt
  have l0 := hv0.lt
  have HV1 := Lib.hid hv1
  have HVB := hide hvb
  have hts : (Tryz.prog.info? 169).map (·.size) = some 2 := by kernel_rfl
  have HTS := Lib.hid hts
  clear hbb hb0 hb1 hp2 hWV hv1 hv0 hvb hWW hp hts
  go_enter Tryz.func137, Tryz.ntmps137
  go_wp2
  go_ret
  exact ⟨rfl, HVB.out⟩
end Go.Proofs.YtnfclcbhehbchaaGreatDoor
