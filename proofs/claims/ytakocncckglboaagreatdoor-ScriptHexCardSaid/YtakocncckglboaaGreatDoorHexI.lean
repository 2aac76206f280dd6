/- script.Do and script.Run at the line "state"; the example of the chapter. -/
import Derived.Test.YtakocncckglboaaGreatDoorHexH
import Derived.Laws.EntriesVeiled
set_option autoImplicit false
namespace Go.Proofs.YtakocncckglboaaGreatDoor
open Go.RowKit

theorem run_lookup_hit {P : Program} (w : World) (mty kt et : TypeId) (r clock i : Nat) (es : Array MapEntry) (s : ByteArray) (val : Value) (hm : P.underlying mty = some (.map kt et)) (hk : P.underlying kt = some .string) (hb : w.heap[r]? = some (.map es clock))
    (hf : Instr.findNow .string (.string s) es.toList 0 = some (some (i, val))) :
    (Instr.lookup mty (.map (some r)) (.string s) true).run P w = .ok (.tuple #[val, .bool true]) w := by
  have hc : ∀ b, (Instr.checkKey b 10000 kt (.string s)).run P w = .ok () w := fun b => MapKept.run_checkKey (k := .string s) hk (by simp [MapKept.IsKey]) b 9999
  simp [Instr.lookup, run_underlying hm, MapKept.run_getObj_map hb, hc, MapKept.run_findKey hk hf, Result.andThen]
theorem lt_of_heap {w : World} {k : Nat} {o : Obj} (h : w.heap[k]? = some o) : k < w.heap.size := (Array.getElem?_eq_some_iff.1 h).1
def stS : ByteArray := ⟨#[115, 116, 97, 116, 101]⟩
def cmdV : Value := .agg #[.int .i64 1, .func (.func 37) #[] #[]]
theorem cmds_state : Instr.findNow .string (.string ⟨#[115, 116, 97, 116, 101]⟩) cmds.toList 0 = some (some (3, .agg #[.int .i64 1, .func (.func 37) #[] #[]])) := rfl
theorem split_one (m : Int) (w : World) (sep : UInt8) (hm : w.cell? ⟨0, 0, none⟩ = some (.int .i64 m)) (h1 : Lib.countB ⟨#[115, 116, 97, 116, 101]⟩ ⟨#[sep]⟩ = 0) :
    Calls Tryz.prog 16 #[.string ⟨#[115, 116, 97, 116, 101]⟩, .string ⟨#[sep]⟩] w fun e w' => e = .returned (.slice (some ⟨w.heap.size, 0, none⟩) 1 1) ∧ w' = w.alloc (.cells #[.string ⟨#[115, 116, 97, 116, 101]⟩] 9) := by
  have h := Tryz.strings_Split ⟨#[115, 116, 97, 116, 101]⟩ ⟨#[sep]⟩ m w (by decide) hm (Nat.le_refl 1)
  rw [h1] at h
  have e : Lib.splitB ⟨#[sep]⟩ 0 0 ⟨#[115, 116, 97, 116, 101]⟩ = [⟨#[115, 116, 97, 116, 101]⟩] := rfl
  rw [e] at h
  exact h
set_option maxRecDepth 100000 in
set_option maxHeartbeats 8000000 in
theorem do_any (b : Nat) (m : Int) (w : World) (h : Scr b w) (hm : w.cell? ⟨0, 0, none⟩ = some (.int .i64 m)) :
    Calls Tryz.prog 18 #[.pointer (some ⟨b, 0, none⟩), .string ⟨#[115, 116, 97, 116, 101]⟩] w fun e w' => e = .returned (.tuple #[.string ⟨#[119, 97, 105, 116, 105, 110, 103, 44, 32, 45, 44, 32, 45, 10]⟩, .int .i64 0]) ∧ Below w.heap.size w w' := by
  have HS := hide (split_one m w 32 hm (by decide +kernel))
  have HSC := hide h
  clear h hm
  go_enter Tryz.func18, Tryz.ntmps18
  go_wp2_with (go_at_call 16; refine HS.out.mono ?_; rintro e w1 ⟨rfl, hw1⟩
               have g1 : w1.heap[w.heap.size]? = some (.cells #[.string ⟨#[115, 116, 97, 116, 101]⟩] 9 (0, 0)) := by rw [hw1]; exact heap_alloc_new _ _
               have b1 : Below w.heap.size w w1 := by rw [hw1]; exact (Below.refl _ _).alloc (Nat.le_refl _) _
               have c1 : w1.cell? ⟨w.heap.size, 0, none⟩ = some (.string ⟨#[115, 116, 97, 116, 101]⟩) := by rw [cell_of_row _ _ 0 _ _ _ g1]; rfl
               have G1 := Lib.hid g1
               have B1 := hide b1
               have hl1 := lt_of_block g1
               clear g1 b1 hw1)
  go_region_law (first
    | (go_simp; go_at_call 26; refine (commands_any _).mono ?_; rintro e w2 ⟨rfl, hm2, hb2⟩
       have g2 : w2.heap[w.heap.size]? = some (.cells #[.string ⟨#[115, 116, 97, 116, 101]⟩] 9 (0, 0)) := (hb2.block w.heap.size hl1).trans G1.out
       have c2 : w2.cell? ⟨w.heap.size, 0, none⟩ = some (.string ⟨#[115, 116, 97, 116, 101]⟩) := by rw [cell_of_row _ _ 0 _ _ _ g2]; rfl
       have l2 := lt_of_block g2
       have hm3 : w2.heap[w1.heap.size]? = some (.map cmds 7) := hm2
       have hlk := run_lookup_hit (P := Tryz.prog) w2 61 9 59 _ 7 3 cmds _ _ Tryz.underlying61 Tryz.underlying9 hm3 cmds_state
       have hm4 : (w2.alloc (.cells #[.int .i64 0, .nilFunc] 59)).heap[w1.heap.size]? = some (.map cmds 7) := (Below.heap_alloc w2 _ _ (lt_of_heap hm3)).trans hm3
       have hlk4 := run_lookup_hit (P := Tryz.prog) (w2.alloc (.cells #[.int .i64 0, .nilFunc] 59)) 61 9 59 _ 7 3 cmds _ _ Tryz.underlying61 Tryz.underlying9 hm4 cmds_state
       have G2 := Lib.hid g2
       have B2 : Hid (Below w.heap.size w w2) := hide (B1.out.trans (Below.mono (w := w1) ⟨hb2.os, hb2.tape, hb2.output, hb2.size, hb2.block⟩ B1.out.size))
       clear g2 hm2 hm3 hm4 hb2)
    | (go_simp; go_at_call 26; refine (commands_any _).mono ?_; rintro e w2 ⟨rfl, hm2, hb2⟩
       have hm3 : w2.heap[w1.heap.size + 1]? = some (.map cmds 7) := by simpa using hm2
       have hba : Below w1.heap.size w1 w2 := ((Below.refl _ _).alloc (Nat.le_refl _) (.cells #[.int .i64 0, .nilFunc] 59)).trans (Below.mono (w := w1.alloc (.cells #[.int .i64 0, .nilFunc] 59)) ⟨hb2.os, hb2.tape, hb2.output, hb2.size, hb2.block⟩ (by simp))
       have g7 : w2.heap[w1.heap.size]? = some (.cells #[.int .i64 0, .nilFunc] 59 (0, 0)) := (hb2.block w1.heap.size (by simp)).trans (heap_alloc_new w1 _)
       have g2 : w2.heap[w.heap.size]? = some (.cells #[.string ⟨#[115, 116, 97, 116, 101]⟩] 9 (0, 0)) := (hba.block w.heap.size hl1).trans G1.out
       have c2 : w2.cell? ⟨w.heap.size, 0, none⟩ = some (.string ⟨#[115, 116, 97, 116, 101]⟩) := by rw [cell_of_row _ _ 0 _ _ _ g2]; rfl
       have e0 : w2.cell? ⟨w1.heap.size, 0, none⟩ = some (.int .i64 0) := by rw [cell_of_row _ _ 0 _ _ _ g7]; rfl
       have e1 : w2.cell? ⟨w1.heap.size, 1, none⟩ = some .nilFunc := by rw [cell_of_row _ _ 1 _ _ _ g7]; rfl
       have f0 : w2.frozen? ⟨w1.heap.size, 0, none⟩ = false := frozen_of_row _ _ _ _ _ g7
       have f1 : w2.frozen? ⟨w1.heap.size, 1, none⟩ = false := frozen_of_row _ _ _ _ _ g7
       have l7 := lt_of_block g7
       have l2 := lt_of_block g2
       have hlk := run_lookup_hit (P := Tryz.prog) w2 61 9 59 _ 7 3 cmds _ _ Tryz.underlying61 Tryz.underlying9 hm3 cmds_state
       have G2 := Lib.hid g2
       have B2 : Hid (Below w.heap.size w w2) := hide (B1.out.trans (hba.mono B1.out.size))
       clear g2 g7 hm2 hm3 hb2 hba))
  all_goals
    go_wp2_with (go_at_call 37
                 refine (state_any b _ _ (HSC.out.below ?hb)).mono ?_
                 case hb => first
                   | exact B2.out.alloc B2.out.size _
                   | exact (B2.out.setCell (p := ⟨w1.heap.size, 0, none⟩) B1.out.size _).setCell (p := ⟨w1.heap.size, 1, none⟩) B1.out.size _
                 rintro e w3 ⟨rfl, hb3⟩)
    go_ret2
    first
      | exact ⟨rfl, (B2.out.alloc B2.out.size _).trans (hb3.mono (by have := B2.out.size; simp; omega))⟩
      | exact ⟨rfl, ((B2.out.setCell (p := ⟨w1.heap.size, 0, none⟩) B1.out.size _).setCell (p := ⟨w1.heap.size, 1, none⟩) B1.out.size _).trans (hb3.mono (by have := B2.out.size; simpa [World.setCell] using this))⟩
end Go.Proofs.YtakocncckglboaaGreatDoor
