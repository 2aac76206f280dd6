/- script.Run at the text "state", and the example of the chapter. -/
import Derived.Test.YtakocncckglboaaGreatDoorHexI
set_option autoImplicit false
namespace Go.Proofs.YtakocncckglboaaGreatDoor
open Go.RowKit

def outS : ByteArray := ⟨#[119, 97, 105, 116, 105, 110, 103, 44, 32, 45, 44, 32, 45, 10]⟩
theorem trim_one (w : World) : Calls Tryz.prog 17 #[.string ⟨#[115, 116, 97, 116, 101]⟩, .string ⟨#[10]⟩] w fun e w' => e = .returned (.string ⟨#[115, 116, 97, 116, 101]⟩) ∧ w' = w := by
  have h := Tryz.strings_TrimSuffix ⟨#[115, 116, 97, 116, 101]⟩ ⟨#[10]⟩ w (by decide)
  have e : Lib.trimSuffix (⟨#[115, 116, 97, 116, 101]⟩ : ByteArray).data.toList (⟨#[10]⟩ : ByteArray).data.toList = [115, 116, 97, 116, 101] := rfl
  rw [e] at h
  exact h
set_option maxRecDepth 100000 in
set_option maxHeartbeats 8000000 in
theorem run_any (m : Int) (w : World) (hm : w.cell? ⟨0, 0, none⟩ = some (.int .i64 m)) :
    Calls Tryz.prog 10 #[.string ⟨#[115, 116, 97, 116, 101]⟩] w fun e w' => e = .returned (.string ⟨#[119, 97, 105, 116, 105, 110, 103, 44, 32, 45, 44, 32, 45, 10]⟩) ∧ Below w.heap.size w w' := by
  have HN := hide (snew_any w)
  have hgm : 0 < w.heap.size := by
    rcases Nat.lt_or_ge 0 w.heap.size with h | h
    · exact h
    · unfold World.cell? at hm; rw [Array.getElem?_eq_none h] at hm; simp at hm
  have HM := hide (fun W (hb : Below w.heap.size w W) => (hb.cell (p := ⟨0, 0, none⟩) hgm).trans hm)
  clear hm hgm
  go_enter Tryz.func10, Tryz.ntmps10
  go_wp2_with (go_at_call 15; refine HN.out.mono ?_; rintro e w1 ⟨b, rfl, hs1, hb1⟩
               have B1 := hide hb1
               have S1 := hide hs1
               have hz1 := hb1.size
               obtain ⟨W2, hW2⟩ : ∃ W2, W2 = w1.alloc (.cells #[.pointer none, .slice none 0 0] 32) := ⟨_, rfl⟩
               have hz2 : W2.heap.size = w1.heap.size + 1 := by rw [hW2]; simp
               have hb2 : Below w1.heap.size w1 W2 := by rw [hW2]; exact (Below.refl _ _).alloc (Nat.le_refl _) _
               have hg2 : W2.heap[w1.heap.size]? = some (.cells #[.pointer none, .slice none 0 0] 32 (0, 0)) := by rw [hW2]; exact heap_alloc_new _ _
               have B2 := hide hb2
               have G2 := hide hg2
               have Z2 := Lib.hid hz2
               have HW2 := Lib.hid hW2
               clear hb1 hs1 hb2 hg2 hz2 hW2)
  rw [← HW2.out]
  have hm2 := HM.out W2 (B1.out.trans (B2.out.mono hz1))
  have hsp := split_one m W2 10 hm2 (by decide +kernel)
  have HSP := hide hsp
  clear hm2 hsp
  go_wp2_with (first
    | (go_at_call 17; refine (trim_one W2).mono ?_; rintro e w0 ⟨rfl, hw0⟩; rw [hw0]; clear hw0)
    | (go_at_call 16; refine HSP.out.mono ?_; rintro e w3 ⟨rfl, hw3⟩
       have g3 : w3.heap[W2.heap.size]? = some (.cells #[.string ⟨#[115, 116, 97, 116, 101]⟩] 9 (0, 0)) := by rw [hw3]; exact heap_alloc_new _ _
       have b3 : Below W2.heap.size W2 w3 := by rw [hw3]; exact (Below.refl _ _).alloc (Nat.le_refl _) _
       have c3 : w3.cell? ⟨W2.heap.size, 0, none⟩ = some (.string ⟨#[115, 116, 97, 116, 101]⟩) := by rw [cell_of_row _ _ 0 _ _ _ g3]; rfl
       have l3 := lt_of_block g3
       have b13 : Below w1.heap.size w1 w3 := B2.out.trans (b3.mono (by have := Z2.out; omega))
       have I4 : ∀ w4 : World, Below w3.heap.size w3 w4 → Lib.IsBuilder 32 5 w1.heap.size w1.heap.size [] w4 := fun w4 hb =>
         .inl ⟨Nat.le_refl _, .slice none 0 0, (hb.block w1.heap.size (by have := b3.size; have := Z2.out; omega)).trans ((b3.block w1.heap.size (by have := Z2.out; omega)).trans G2.out), World.ownsRow_nil _ _ _ _, by simp [Value.ownBlock]⟩
       have B13 := hide b13
       have I4 := hide I4
       clear g3 b3 b13 hw3))
  go_loopw [14] (fun i wr => (i = .int .i64 0 ∧ wr = w3) ∨ (i = .int .i64 1 ∧ Hid (Lib.IsBuilder 32 5 w1.heap.size w1.heap.size (Lib.byteCells [119, 97, 105, 116, 105, 110, 103, 44, 32, 45, 44, 32, 45, 10]) wr) ∧ Hid (Below w1.heap.size w1 wr))) (fun i _ => 1 - (intOf i).toNat)
  case atStart => exact .inl ⟨rfl, rfl⟩
  case round =>
    rcases hrel with ⟨rfl, rfl⟩ | ⟨rfl, HI, HB⟩
    · have HD := hide (do_any b m wr (S1.out.below B13.out) (HM.out wr (B1.out.trans (B13.out.mono hz1))))
      go_wp2_with (first
        | (go_at_call 18; refine HD.out.mono ?_; rintro e w4 ⟨rfl, hb4⟩
           have hzb := hb4.size
           have i4 : Lib.IsBuilder 32 5 w1.heap.size w1.heap.size [] w4 := I4.out w4 hb4
           have b14 := B13.out.trans (hb4.mono B13.out.size)
           have HI4 := hide i4
           have B14 := hide b14
           clear i4 b14 hb4)
        | (go_at_call 20; refine (wstr_any w1.heap.size w1.heap.size [] _ w4 HI4.out (by decide) B14.out.size).mono ?_; rintro e w5 ⟨rfl, hw5, hb5⟩
           have i5 : Lib.IsBuilder 32 5 w1.heap.size w1.heap.size (Lib.byteCells [119, 97, 105, 116, 105, 110, 103, 44, 32, 45, 44, 32, 45, 10]) w5 := .inr hw5
           have HI5 := hide i5
           have B15 := hide (B14.out.trans hb5)
           clear i5 hw5 hb5))
      go_roundw
      case rel => exact .inr ⟨by go_num, HI5, B15⟩
      case measure => simp [intOf]
    · have HS := hide (Tryz.Builder_String_any w1.heap.size w1.heap.size [119, 97, 105, 116, 105, 110, 103, 44, 32, 45, 44, 32, 45, 10] wr HI.out HB.out.size)
      go_wp2_with (go_at_call 12; refine HS.out.mono ?_; rintro e w6 ⟨rfl, hb6⟩)
      go_ret
      exact ⟨rfl, B1.out.trans ((HB.out.trans hb6).mono hz1)⟩
end Go.Proofs.YtakocncckglboaaGreatDoor
