/- peeragelaw02.alive: the examples of the chapter hold wherever the table of powers is laid. -/
import Derived.Test.YtgegloplhlkafaaDoorPfxF
import Derived.Test.YtgegloplhlkafaaDoorPfxT
set_option autoImplicit false
namespace Go.Proofs.YtgegloplhlkafaaDoor
open Go.RowKit Go.Sort Go.Shelf

def exP : List Int := [10, 128, 0, 0, 0, 0, 0, 0, 0, 0, 0, 0, 0, 0, 0, 0]
def exQ : List Int := [10, 0, 0, 0, 0, 0, 0, 0, 0, 0, 0, 0, 0, 0, 0, 0]
theorem exP_ok : rdOk 1 [9, 10, 255] = true ∧ rdP 1 [9, 10, 255] = (1, 9, exP) := by decide
theorem exP_v : vF 1 9 exP = true := by decide
theorem exQ_b : pBytes 1 8 exQ = [8, 10] ∧ vF 1 8 exQ = true := by decide
theorem exP_text : strB (text4 9 exP) = ⟨#[49, 48, 46, 49, 50, 56, 46, 48, 46, 48, 47, 57]⟩ := by
  have d10 : numL 10 = [49, 48] := by simp [numL, Lib.decDigits]
  have d128 : numL 128 = [49, 50, 56] := by simp [numL, Lib.decDigits]
  have d0 : numL 0 = [48] := by simp [numL, Lib.decDigits]
  have d9 : numL 9 = [57] := by simp [numL, Lib.decDigits]
  have : text4 9 exP = [49, 48, 46, 49, 50, 56, 46, 48, 46, 48, 47, 57] := by
    simp [text4, exP, d10, d128, d0, d9, Lib.join, List.intercalate]
  rw [this]; rfl

set_option maxRecDepth 100000 in
set_option maxHeartbeats 4000000 in
theorem alive2_any (w : World) (ht : Tab w) :
    Calls Tryd.prog 9 #[] w fun e w' => e = .returned (.bool true) ∧ Below w.heap.size w w' := by
  obtain ⟨W, hW⟩ : ∃ W, W = w.alloc (.cells #[.int .u8 9, .int .u8 10, .int .u8 255] 5) := ⟨_, rfl⟩
  have hz : W.heap.size = w.heap.size + 1 := by rw [hW]; simp
  have hbW : Below w.heap.size w W := by rw [hW]; exact (Below.refl _ _).alloc (Nat.le_refl _) _
  have h0 : W.heap[w.heap.size]? = some (.cells #[.int .u8 9, .int .u8 10, .int .u8 255] 5 (0, 0)) := by rw [hW]; exact heap_alloc_new _ _
  have hby : Byts W W.heap.size (some ⟨w.heap.size, 0, none⟩) [9, 10, 255] :=
    ⟨rfl, fun _ => ⟨_, rfl, by show w.heap.size < _; omega, fun j u hu => World.news_of_block (cs := #[.int .u8 9, .int .u8 10, .int .u8 255]) h0 j u (by simpa [bV] using hu)⟩⟩
  have HN := hide (new_any _ 3 [9, 10, 255] W hby (by simp))
  have HBW := hide hbW
  have HT := hide ht
  clear hby h0 hbW ht
  go_enter Tryd.func9, Tryd.ntmps9
  go_wp2_with fail
  rw [← hW]
  clear hW
  refine HN.out.mono ?_
  rintro e w1 ⟨g, rfl, hg, hrd, hb1⟩
  have hb01 := HBW.out.trans (hb1.mono HBW.out.size)
  have hrk := read_ok 1 g [9, 10, 255] 0 w1 hrd (by intro x hx; simp at hx; rcases hx with rfl | rfl | rfl <;> decide) (by simp) (by omega) (by omega) exP_ok.1
  rw [exP_ok.2, show pvT (1, 9, exP) = pvL 1 9 exP from rfl] at hrk
  have HRK := hide hrk
  have HB1 := hide hb01
  have hgw : w.heap.size ≤ g := by omega
  clear hrk hrd hb1 hb01 HN
  go_wp2_with fail
  refine HRK.out.mono ?_
  rintro e w2 ⟨rfl, hrd2, hgr2⟩
  have hb02 : Below w.heap.size w w2 := HB1.out.grown hgr2 HB1.out.size (fun x hx => by injection hx with e; omega)
  have hz2 := hb02.size
  obtain ⟨W2, hW2⟩ : ∃ W2, W2 = (w2.alloc (Obj.cells (pvL 0 0 zeroA).toArray 26)).setRow w2.heap.size (pvL 1 9 exP).toArray := ⟨_, rfl⟩
  have hG : W2.heap[w2.heap.size]? = some (.cells (pvL 1 9 exP).toArray 26 (0, 0)) := by rw [hW2]; exact setRow_heap _ _ _ _ _ _ (heap_alloc_new _ _)
  have hbW2 : Below w.heap.size w W2 := by rw [hW2]; exact below_setRow (hb02.alloc hz2 _) hz2 _
  have hzW2 : W2.heap.size = w2.heap.size + 1 := by rw [hW2]; simp [World.setRow]
  rw [zero_pv] at hW2
  have HG := Lib.hid hG
  have HW2 := hide hbW2
  have hpb := pbytes_any 1 8 exQ rfl (by intro x hx; simp [exQ] at hx; rcases hx with rfl | rfl <;> decide) W2
  rw [exQ_b.1, exQ_b.2] at hpb
  have HPB := hide hpb
  have hh1 : (Tryd.prog.info? 26).map (·.size) = some (pvL 1 9 exP).toArray.size := by rw [pfx_info]; rfl
  have hh2 : 0 + (pvL 1 9 exP).toArray.size ≤ (pvL 0 0 zeroA).toArray.size := by simp [pvL_len, zeroA, exP]
  have hh3 : ∀ v ∈ (pvL 1 9 exP).toArray.toList, v.oneCell' = true := by simpa using pvL_one 1 9 exP
  clear hpb hG hbW2 hb02 hrd2 hgr2 HRK HB1
  go_wp2_with (first
    | (refine wpList_store_mid rfl _ (.tmp 1) _ rfl w2.heap.size 0 rfl 26 (pvL 0 0 zeroA).toArray (pvL 1 9 exP).toArray rfl (heap_alloc_new _ _) hh1 hh2 hh3 ?_
       rw [whole_store (pvL 0 0 zeroA).toArray (pvL 1 9 exP).toArray rfl]
       rw [← hW2]
       clear hW2)
    | (go_at_call 25
       refine HPB.out.mono ?_
       rintro e w3 ⟨A3, c3, rfl, hc3, hm3, hby3, hb3⟩
       have hg3 := (hb3.block w2.heap.size (by omega)).trans HG.out
       have HG3 := Lib.hid hg3
       have HB3 := hide (HW2.out.trans (hb3.mono HW2.out.size))
       have HBY := hide hby3
       have hz3 := hb3.size
       clear hg3 hby3 hb3 HPB)
    | (refine wpList_load_mid rfl _ (.tmp 1) rfl w2.heap.size 0 18 rfl 26 _ (0, 0) _ HG3.out Tryd.underlying26 rfl pfx_info (by simp [pvL_len, exP]) ?_
       rw [show (pvL 1 9 exP).toArray.extract 0 (0 + 18) = (pvL 1 9 exP).toArray from rfl])
    | (go_at_call 24
       have htx := text4_any 9 exP rfl (by intro x hx; simp [exP] at hx; rcases hx with rfl | rfl | rfl <;> decide) w3 exP_v (HT.out.below HB3.out)
       rw [exP_text] at htx
       refine htx.mono ?_
       rintro e w4 ⟨rfl, hb4⟩
       obtain ⟨ad, rfl, had, hcell⟩ := (HBY.out.below hb4).2 (by decide)
       have c0 : w4.cell? ad = some (.int .u8 8) := hcell 0 _ rfl
       have c1 : w4.cell? (ad.add 1) = some (.int .u8 10) := hcell 1 _ rfl
       have c2 : w4.cell? ⟨ad.block, ad.off + 1, none⟩ = some (.int .u8 10) := hcell 1 _ rfl
       have HB4 := hide (HB3.out.trans (hb4.mono HB3.out.size))
       clear hb4 htx hcell))
  go_ret
  exact ⟨rfl, HB4.out⟩
end Go.Proofs.YtgegloplhlkafaaDoor
