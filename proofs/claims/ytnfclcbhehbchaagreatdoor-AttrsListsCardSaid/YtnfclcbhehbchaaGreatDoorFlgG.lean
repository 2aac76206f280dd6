/- The functions that the example of a chapter runs, at the empty path and no options: the second part. -/
import Derived.Test.YtnfclcbhehbchaaGreatDoorFlgF
set_option autoImplicit false
namespace Go.Proofs.YtnfclcbhehbchaaGreatDoor
open Go.RowKit
theorem wpList_wantedF {P : Program} {ops : Array Oper} {Q : Exit → Act → World → Prop} {a : Act} {w : World} {rest : List Oper} {o : Oper} (hg : Region.wanted o (yielded ops a.tmps) = true)
    (h : ∀ K : Act → World → Prop, (∀ a w, wpList P ops Q rest a w → K a w) → o.wp P a w K Q) : wpList P ops Q (o :: rest) a w :=
  wpList_step fun K hK => by simp only [hg, if_true]; exact h K hK
theorem wpList_load_wholeH {P : Program} {ops : Array Oper} {rest : List Oper} {o : Oper} {a : Act} {Q : Exit → Act → World → Prop} (w : World) (hgd : Region.wanted o (yielded ops a.tmps) = true) (ty : TypeId) (x : Operand) (ho : o.op = .load ty x)
    (g : Nat) (t : TypeId) (cs : Array Value) (d : TypeDesc) (hx : a.eval x = .pointer (some ⟨g, 0, none⟩)) (hg : w.heap[g]? = some (.cells cs t (0, 0))) (hu : P.underlying ty = some d)
    (hd : (match d with | .struct _ | .array _ _ => true | _ => false) = true) (hi : (P.info? ty).map (·.size) = some cs.size)
    (h : wpList P ops Q rest (a.put o.dst (.agg cs)) w) : wpList P ops Q (o :: rest) a w :=
  wpList_wantedF hgd fun _ hK => by
    unfold Oper.wp execOp
    simp only [ho, hx, Instr.loadAt, Instr.sureAddr, Sem.run_bind, Sem.run_pure, Result.andThen_ok, run_loadVar_rowF w g t ty cs (0, 0) d hg hu hd hi]
    exact hK _ _ h
theorem paths_size : (Tryz.prog.info? 122).map (·.size) = some 6 := by kernel_rfl
def a2C : Array Value := #[.int .i64 2, .bool false, .int .u32 0, .int .u32 0, .slice none 0 0, .slice none 0 0, .slice none 0 0, .int .i64 0, .slice none 0 0]
def o0C : Array Value := #[.bool false, .bool false, .bool false, .bool false, .bool false, .bool false]
/-- The copies of the arguments: options at block g, the attribute at g + 1. -/
structure PV (w W : World) (t : TypeId) : Prop where
  g0 : W.heap[w.heap.size]? = some (.cells #[.bool false, .bool false, .bool false, .bool false, .bool false, .bool false] t (0, 0))
  g1 : W.heap[w.heap.size + 1]? = some (.cells #[.int .i64 2, .bool false, .int .u32 0, .int .u32 0, .slice none 0 0, .slice none 0 0, .slice none 0 0, .int .i64 0, .slice none 0 0] 38 (0, 0))
  be : Below w.heap.size w W
theorem PV.more {w W W' : World} {t : TypeId} (h : PV w W t) (hb : Below W.heap.size W W') : PV w W' t := ⟨(hb.block _ (lt_of_heapF h.g0)).trans h.g0, (hb.block _ (lt_of_heapF h.g1)).trans h.g1, h.be.trans (hb.mono h.be.size)⟩
theorem PV.start (w : World) (t : TypeId) : PV w ((w.alloc (.cells #[.bool false, .bool false, .bool false, .bool false, .bool false, .bool false] t)).alloc (.cells #[.int .i64 2, .bool false, .int .u32 0, .int .u32 0, .slice none 0 0, .slice none 0 0, .slice none 0 0, .int .i64 0, .slice none 0 0] 38)) t :=
  ⟨heap_alloc2_old _ _ _, heap_alloc2_new _ _ _, ((Below.refl _ _).alloc (Nat.le_refl _) _).alloc (by simp) _⟩
set_option maxRecDepth 100000 in
set_option maxHeartbeats 4000000 in
theorem pvalid_two (w : World) : Calls Tryz.prog 162 #[.agg #[.bool false, .bool false, .bool false, .bool false, .bool false, .bool false], .agg #[.int .i64 2, .bool false, .int .u32 0, .int .u32 0, .slice none 0 0, .slice none 0 0, .slice none 0 0, .int .i64 0, .slice none 0 0]] w fun e w' => e = .returned (.bool true) ∧ Below w.heap.size w w' := by
  obtain ⟨W0, hW0⟩ : ∃ W0, W0 = (w.alloc (.cells #[.bool false, .bool false, .bool false, .bool false, .bool false, .bool false] 122)).alloc (.cells #[.int .i64 2, .bool false, .int .u32 0, .int .u32 0, .slice none 0 0, .slice none 0 0, .slice none 0 0, .int .i64 0, .slice none 0 0] 38) := ⟨_, rfl⟩
  have h0 : PV w W0 122 := by rw [hW0]; exact PV.start w _
  have H1 := hide h0
  have HW1 := Lib.hid hW0
  have has := attr_size
  have HAS := Lib.hid has
  have hps := paths_size
  have HPS := Lib.hid hps
  clear hW0 h0 has hps
  go_enter Tryz.func162, Tryz.ntmps162
  go_wp2_with (first
    | ((with_reducible refine wpList_load_wholeF W0 ?hgd1 38 (.tmp 3) ?ho1 (w.heap.size + 1) 38 #[.int .i64 2, .bool false, .int .u32 0, .int .u32 0, .slice none 0 0, .slice none 0 0, .slice none 0 0, .int .i64 0, .slice none 0 0] _ ?hx1 H1.out.g1 Tryz.underlying38 ?hd1 ?hi1 ?_); (case hgd1 => rfl); (case ho1 => rfl); (case hx1 => rfl); (case hd1 => rfl); (case hi1 => exact HAS.out))
    | (go_at_call 137; rw [← HW1.out]; refine (plain_two _).mono ?_; rintro e w2 ⟨rfl, hb2⟩
       have h2 := H1.out.more hb2
       have c2 : w2.cell? ⟨w.heap.size + 1, 0, none⟩ = some (.int .i64 2) := by rw [cell_of_row _ _ 0 _ _ _ h2.g1]; rfl
       have l2 := lt_of_heapF h2.g1
       have H2 := hide h2
       clear hb2 h2)
    | ((with_reducible refine wpList_load_wholeH w2 ?hgd2 122 (.tmp 2) ?ho2 w.heap.size 122 #[.bool false, .bool false, .bool false, .bool false, .bool false, .bool false] _ ?hx2 H2.out.g0 Tryz.underlying122 ?hd2 ?hi2 ?_); (case hgd2 => rfl); (case ho2 => rfl); (case hx2 => rfl); (case hd2 => rfl); (case hi2 => exact HPS.out))
    | (go_at_call 163; refine (pwidth_no w2).mono ?_; rintro e w3 ⟨rfl, hb3⟩
       have h3 := H2.out.more hb3
       have c3 : w3.cell? ⟨w.heap.size + 1, 0, none⟩ = some (.int .i64 2) := by rw [cell_of_row _ _ 0 _ _ _ h3.g1]; rfl
       have l3 := lt_of_heapF h3.g1
       have H3 := hide h3
       clear hb3 h3)
    | (go_at_call 165; refine (svalid_nil 2 (.inl rfl) w3).mono ?_; rintro e w4 ⟨rfl, hb4⟩
       have h4 := H3.out.more hb4
       have c4 : w4.cell? ⟨w.heap.size + 1, 0, none⟩ = some (.int .i64 2) := by rw [cell_of_row _ _ 0 _ _ _ h4.g1]; rfl
       have l4 := lt_of_heapF h4.g1
       have H4 := hide h4
       clear hb4 h4))
  go_ret
  exact ⟨rfl, H4.out.be⟩
set_option maxRecDepth 100000 in
set_option maxHeartbeats 4000000 in
/-- octet.Put of 0 in one byte. -/
theorem put1_zero (w : World) : Calls Tryz.prog 73 #[.int .i64 1, .int .u32 0] w fun e w' => ∃ v, e = .returned (.tuple #[v, .bool true]) ∧ w'.ownsRow w.heap.size 5 1 v 1 (bV [0]) ∧ Below w.heap.size w w' := by
  obtain ⟨iu, hi0, hi1, hi2, hi3⟩ := info_parts u8_info
  have hmk : ∀ w, (Instr.makeSlice 35 (.int .i64 1) (.int .i64 1)).run Tryz.prog w = .ok (.slice (some ⟨w.heap.size, 0, none⟩) 1 1) (w.alloc (.cells #[.int .u8 0] 5)) := fun w => by
    have h := run_make_rowN (P := Tryz.prog) 35 5 iu (.int .u8 0) Tryz.underlying35 hi0 hi1 .i64 .i64 1 1 (Nat.le_refl _) (by rw [hi3]; decide) (by decide) w
    rw [hi2, show madeCells (Value.int .u8 0).cells (1 * 1) = #[.int .u8 0] from by
      apply Array.ext
      · simp [madeCells]
      · intro i h1 h2
        have h3 : i < 1 := by simpa using h2
        rcases i with _ | i <;> first | omega | simp [madeCells, Value.cells, Nat.mod_one]] at h
    exact h
  clear hi0 hi1 hi2 hi3
  go_enter Tryz.func73, Tryz.ntmps73
  go_wp2
  have hst : (w.alloc (.cells #[.int .u8 0] 5)).ownsRow w.heap.size 5 1 (.slice (some ⟨w.heap.size, 0, none⟩) 1 1) 1 (bV [0]) := World.ownsRow_lit w #[.int .u8 0] 1 (Nat.le_refl _) (by simp [maxLen]) (by simp)
  have HST := hide hst
  clear hst hmk
  go_loopw [26] (fun i wr => ∃ j : Nat, j ≤ 1 ∧ i = .int .i64 j ∧ wr.ownsRow w.heap.size 5 1 (.slice (some ⟨w.heap.size, 0, none⟩) 1 1) 1 (bV [0]) ∧ Below w.heap.size w wr) (fun i _ => 1 - (intOf i).toNat)
  case atStart => exact ⟨0, by omega, rfl, HST.out, (Below.refl _ _).alloc (Nat.le_refl _) _⟩
  case round =>
    obtain ⟨j, hj, rfl, hown, hbel⟩ := hrel
    by_cases hlt : j < 1
    · obtain rfl : j = 0 := by omega
      have hcell : ∃ v, wr.cell? ⟨w.heap.size, 0, none⟩ = some v := ⟨_, hown.cellAt 0 (by omega)⟩
      obtain ⟨v0, hc⟩ := hcell
      have hfz : wr.frozen? ⟨w.heap.size, 0, none⟩ = false := hown.frozenAt _
      have hs := hown.stored 0 (.int .u8 0)
      have hb2 := fun v => hbel.setCell (p := ⟨w.heap.size, 0, none⟩) (Nat.le_refl _) v
      have HS := hide hs
      have HB2 := hide hb2
      clear hs hb2 hown hbel HST
      go_wp2
      go_roundw
      case rel => exact ⟨1, by omega, by go_num, HS.out.1, HB2.out _⟩
      case measure => simp [intOf]
    · obtain rfl : j = 1 := by omega
      have HO := hide hown
      have HB := hide hbel
      clear hown hbel
      go_wp2
      refine bodyPost_ret (v := .tuple #[.slice (some ⟨w.heap.size, 0, none⟩) 1 1, .bool true]) (by simp [results, Tryz.results73, go_sem]) rfl ?_
      exact ⟨_, rfl, HO.out, HB.out⟩
end Go.Proofs.YtnfclcbhehbchaaGreatDoor
