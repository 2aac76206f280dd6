/- The example of the chapter: a script's state; frame.New, proxy.New and what state asks of a new proxy. -/
import Derived.Test.YtakocncckglboaaGreatDoorHexE
set_option autoImplicit false
namespace Go.Proofs.YtakocncckglboaaGreatDoor
open Go.RowKit

def optZ : Array Value := #[.bool false, .bool false, .bool false, .bool false, .bool false, .bool false]
theorem opt_info : (Tryz.prog.info? 68).map (·.size) = some 6 := by kernel_rfl
set_option maxRecDepth 100000 in
set_option maxHeartbeats 1000000 in
theorem fnew_any (w : World) : Calls Tryz.prog 30 #[.agg #[.bool false, .bool false, .bool false, .bool false, .bool false, .bool false]] w fun e w' => (∃ g, e = .returned (.pointer (some ⟨g, 0, none⟩))) ∧ Below w.heap.size w w' := by
  go_enter Tryz.func30, Tryz.ntmps30
  go_wp2
  go_ret
  exact ⟨⟨_, rfl⟩, ((Below.refl _ _).alloc (Nat.le_refl _) _).alloc (by simp) _⟩
/-- The cells of a new proxy, but for its framers. -/
def prxC (f0 f1 : Value) : Array Value := #[f0, .bool false, .bool false, .bool false, .bool false, .bool false, .bool false, .int .u32 0, .int .i64 0, .int .u32 0, .slice none 0 0, .bool false, .int .i64 0, f1, .bool false, .bool false, .bool false, .bool false, .bool false, .bool false,
  .int .u32 0, .int .i64 0, .int .u32 0, .slice none 0 0, .bool false, .int .i64 0, .int .u32 0, .int .i32 0, .int .u32 0, .int .u32 0, .int .i64 0, .int .i64 0, .int .i64 0, .slice none 0 0, .int .i64 0]
def Prx (b : Nat) (w : World) : Prop := ∃ f0 f1, w.heap[b]? = some (.cells (prxC f0 f1) 93 (0, 0))
set_option maxRecDepth 100000 in
set_option maxHeartbeats 4000000 in
theorem pnew_any (w : World) : Calls Tryz.prog 23 #[] w fun e w' => e = .returned (.pointer (some ⟨w.heap.size, 0, none⟩)) ∧ Prx w.heap.size w' ∧ Below w.heap.size w w' := by
  have HF := hide fnew_any
  go_enter Tryz.func23, Tryz.ntmps23
  go_wp2
  go_loopw [5] (fun i wr => ∃ k : Nat, i = .int .i64 k ∧ k ≤ 2 ∧ Hid (Prx w.heap.size wr) ∧ Hid (Below w.heap.size w wr)) (fun i _ => 2 - (intOf i).toNat)
  case atStart => exact ⟨0, rfl, by omega, hide ⟨.pointer none, .pointer none, heap_alloc_new w _⟩, hide ((Below.refl _ _).alloc (Nat.le_refl _) _)⟩
  case round =>
    obtain ⟨k, rfl, hk, HP, HB⟩ := hrel
    have hbz := HB.out.size
    have hk3 : k = 0 ∨ k = 1 ∨ k = 2 := by omega
    rcases hk3 with rfl | rfl | rfl
    · go_wp2_with fail
      go_region_law (first
        | (go_simp; go_at_call 30; refine (HF.out _).mono ?_; rintro e w6 ⟨⟨g, rfl⟩, hb6⟩
           obtain ⟨f0, f1, hg⟩ := HP.out
           have hg6 : w6.heap[w.heap.size]? = some (.cells (prxC f0 f1) 93 (0, 0)) := (hb6.block w.heap.size (lt_of_block hg)).trans hg
           have c6 : w6.cell? ⟨w.heap.size, 0, none⟩ = some f0 := by rw [cell_of_row _ _ 0 _ _ _ hg6]; rfl
           have z6 : w6.frozen? ⟨w.heap.size, 0, none⟩ = false := frozen_of_row _ _ _ _ _ hg6
           have l6 := lt_of_block hg6
           have B6 : Hid (Below w.heap.size w w6) := hide (HB.out.trans (Below.mono (w := wr) ⟨hb6.os, hb6.tape, hb6.output, hb6.size, hb6.block⟩ hbz))
           have G6 := hide hg6
           clear hg hg6 hb6))
      go_wp2_with fail
      go_roundw
      case rel => exact ⟨1, by go_num, by omega, hide ⟨.pointer (some ⟨g, 0, none⟩), f1, by rw [heap_setCell_same _ _ _ _ _ _ G6.out]; rfl⟩, hide (B6.out.setCell (p := ⟨w.heap.size, 0, none⟩) (Nat.le_refl _) _)⟩
      case measure => simp [intOf]
    · go_wp2_with fail
      go_region_law (first
        | (go_simp; go_at_call 30; refine (HF.out _).mono ?_; rintro e w6 ⟨⟨g, rfl⟩, hb6⟩
           obtain ⟨f0, f1, hg⟩ := HP.out
           have hg6 : w6.heap[w.heap.size]? = some (.cells (prxC f0 f1) 93 (0, 0)) := (hb6.block w.heap.size (lt_of_block hg)).trans hg
           have c6 : w6.cell? ⟨w.heap.size, 13, none⟩ = some f1 := by rw [cell_of_row _ _ 13 _ _ _ hg6]; rfl
           have z6 : w6.frozen? ⟨w.heap.size, 13, none⟩ = false := frozen_of_row _ _ _ _ _ hg6
           have l6 := lt_of_block hg6
           have B6 : Hid (Below w.heap.size w w6) := hide (HB.out.trans (Below.mono (w := wr) ⟨hb6.os, hb6.tape, hb6.output, hb6.size, hb6.block⟩ hbz))
           have G6 := hide hg6
           clear hg hg6 hb6))
      go_wp2_with fail
      go_roundw
      case rel => exact ⟨2, by go_num, by omega, hide ⟨f0, .pointer (some ⟨g, 0, none⟩), by rw [heap_setCell_same _ _ _ _ _ _ G6.out]; rfl⟩, hide (B6.out.setCell (p := ⟨w.heap.size, 13, none⟩) (Nat.le_refl _) _)⟩
      case measure => simp [intOf]
    · go_wp2
      go_ret
      exact ⟨rfl, HP.out, HB.out⟩
/-- A script with a new proxy. -/
def Scr (b : Nat) (w : World) : Prop := ∃ pb, w.heap[b]? = some (.cells #[.pointer (some ⟨pb, 0, none⟩)] 55 (0, 0)) ∧ Prx pb w
theorem Prx.below {b : Nat} {w w' : World} (h : Prx b w) (hb : Below w.heap.size w w') : Prx b w' := by
  obtain ⟨f0, f1, hg⟩ := h; exact ⟨f0, f1, (hb.block b (lt_of_block hg)).trans hg⟩
theorem Scr.below {b : Nat} {w w' : World} (h : Scr b w) (hb : Below w.heap.size w w') : Scr b w' := by
  obtain ⟨pb, hg, hp⟩ := h; exact ⟨pb, (hb.block b (lt_of_block hg)).trans hg, hp.below hb⟩
theorem snew_any (w : World) : Calls Tryz.prog 15 #[] w fun e w' => ∃ b, e = .returned (.pointer (some ⟨b, 0, none⟩)) ∧ Scr b w' ∧ Below w.heap.size w w' := by
  have HP := hide (pnew_any w)
  go_enter Tryz.func15, Tryz.ntmps15
  go_wp2_with (go_at_call 23; refine HP.out.mono ?_; rintro e w1 ⟨rfl, hp, hb⟩)
  go_ret
  exact ⟨_, rfl, ⟨_, heap_alloc_new _ _, hp.below ((Below.refl _ _).alloc (Nat.le_refl _) _)⟩, hb.alloc hb.size _⟩
end Go.Proofs.YtakocncckglboaaGreatDoor
