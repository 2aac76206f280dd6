/- attrs.Bytes at an ORIGIN and an AS_PATH; the example of the chapter holds. -/
import Derived.Test.YtnfclcbhehbchaaGreatDoorLsG
import Derived.Test.YtnfclcbhehbchaaGreatDoorUpA
set_option autoImplicit false
namespace Go.Proofs.YtnfclcbhehbchaaGreatDoor
open Go.RowKit
theorem bytes_infoL : (Tryz.prog.info? 35).map (fun i => (i.zero, i.size, i.bytes)) = some (some (.slice none 0 0), 1, 24) := by kernel_rfl
theorem own_otherL {w w' : World} {lo base k sz sz2 n : Nat} {e t : TypeId} {v v1 : Value} {xs ys : List Value} (hne : e ≠ t) (h : w.ownsRow lo e sz v1 n xs) (hg : w.grownBy w' v.ownBlock) (hv : w.ownsRow base t sz2 v k ys) : w'.ownsRow lo e sz v1 n xs := by
  refine h.kept hg ?_
  rcases hv.2 with ⟨rfl, _⟩ | ⟨g, cap, cur, rfl, _, hh, _⟩
  · cases h1 : Value.ownBlock _ with
    | none => exact .inl rfl
    | some b => exact .inr (by simp [Value.ownBlock])
  · exact .inr (own_blk_ne (t := t) (cs := cur) h hh hne)
/-- What lies where while attrs.Bytes runs. -/
structure AX (w wr : World) (G : Nat) : Prop where
  o : wr.heap[w.heap.size]? = some (.cells #[.bool false, .bool false, .bool false, .bool false, .bool false, .bool false] 60 (0, 0))
  g : wr.heap[G]? = some (.cells #[.int .i64 1, .bool false, .int .u32 0, .int .u32 0, .slice none 0 0, .slice none 0 0, .slice none 0 0, .int .i64 0, .slice none 0 0, .int .i64 2, .bool false, .int .u32 0, .int .u32 0, .slice none 0 0, .slice none 0 0, .slice none 0 0, .int .i64 0, .slice none 0 0] 38 (0, 0))
  be : Below w.heap.size w wr
theorem AX.more {w wr w' : World} {G : Nat} (h : AX w wr G) (hb : Below wr.heap.size wr w') : AX w w' G :=
  ⟨(hb.block _ (lt_of_heapF h.o)).trans h.o, (hb.block _ (lt_of_heapF h.g)).trans h.g, h.be.trans (hb.mono h.be.size)⟩
theorem AX.grown {w wr w' : World} {G k : Nat} {v : Value} {ys : List Value} (h : AX w wr G) (hG : G < w.heap.size) (hv : wr.ownsRow (w.heap.size + 1) 35 1 v k ys) (hg : wr.grownBy w' v.ownBlock) : AX w w' G :=
  ⟨(hg.block _ (lt_of_heapF h.o) (fun e => by have := (hv.lt _ e.symm).1; omega)).trans h.o, (hg.block _ (lt_of_heapF h.g) (fun e => by have := (hv.lt _ e.symm).1; omega)).trans h.g, h.be.grown hg h.be.size (fun x hx => by have := (hv.lt x hx).1; omega)⟩
set_option maxRecDepth 100000 in
set_option maxHeartbeats 8000000 in
theorem abytes_ex (G : Nat) (w : World) (hG : w.heap[G]? = some (.cells #[.int .i64 1, .bool false, .int .u32 0, .int .u32 0, .slice none 0 0, .slice none 0 0, .slice none 0 0, .int .i64 0, .slice none 0 0, .int .i64 2, .bool false, .int .u32 0, .int .u32 0, .slice none 0 0, .slice none 0 0, .slice none 0 0, .int .i64 0, .slice none 0 0] 38 (0, 0))) : Calls Tryz.prog 23 #[.agg #[.bool false, .bool false, .bool false, .bool false, .bool false, .bool false], .slice (some ⟨G, 0, none⟩) 2 2] w fun e w' => ∃ v, e = .returned (.tuple #[v, .bool true]) ∧ w'.ownsRow w.heap.size 5 1 v 7 (bV [64, 1, 1, 0, 64, 2, 0]) ∧ Below w.heap.size w w' := by
  obtain ⟨ib, hb0, hb1, hb2, hb3⟩ := info_parts bytes_infoL
  have hGl := lt_of_heapF hG
  have HGL := Lib.hid hGl
  have hx0 : AX w (w.alloc (.cells #[.bool false, .bool false, .bool false, .bool false, .bool false, .bool false] 60)) G := ⟨heap_alloc_new _ _, ((Below.heap_alloc w _ _ hGl)).trans hG, (Below.refl _ _).alloc (Nat.le_refl _) _⟩
  have HX0 := hide hx0
  have has := attr_size
  have HAS := Lib.hid has
  have hos := opt_size
  have HOS := Lib.hid hos
  clear hx0 hG has hos
  go_enter Tryz.func23, Tryz.ntmps23
  go_wp2_with fail
  go_loopw [6, 7, 15] (fun p l i wr => AX w wr G ∧ ((i = .int .i64 0 ∧ (∃ z : Int, l = .int .i64 z ∧ z < 1) ∧ p = .slice none 0 0) ∨
    (i = .int .i64 1 ∧ l = .int .i64 1 ∧ ∃ v1 A c, p = .slice A 1 c ∧ wr.ownsRow (w.heap.size + 1) 35 1 (.slice A 1 c) 1 [v1] ∧ wr.ownsRow (w.heap.size + 1) 5 1 v1 4 (bV [64, 1, 1, 0])) ∨
    (i = .int .i64 2 ∧ l = .int .i64 2 ∧ ∃ v1 v2 A c, p = .slice A 2 c ∧ wr.ownsRow (w.heap.size + 1) 35 1 (.slice A 2 c) 2 [v1, v2] ∧ wr.ownsRow (w.heap.size + 1) 5 1 v1 4 (bV [64, 1, 1, 0]) ∧ wr.ownsRow (w.heap.size + 1) 5 1 v2 3 (bV [64, 2, 0])))) (fun _ _ i _ => 2 - (intOf i).toNat)
  case atStart => exact ⟨HX0.out, .inl ⟨rfl, ⟨-1, rfl, by decide⟩, rfl⟩⟩
  case round =>
    clear HX0
    obtain ⟨hx, hcase⟩ := hrel
    obtain ⟨wo, rfl⟩ : ∃ wo : World, wo = wr := ⟨_, rfl⟩
    have HX := hide hx
    clear hx
    rcases hcase with ⟨rfl, ⟨z, rfl, hz⟩, rfl⟩ | ⟨rfl, rfl, v1, A, c, rfl, ho1, hv1⟩ | ⟨rfl, rfl, v1, v2, A, c, rfl, ho1, hv1, hv2⟩
    · have hcell : ∀ (j : Nat) (v : Value), [.int .i64 1, .bool false, .int .u32 0, .int .u32 0, .slice none 0 0, .slice none 0 0, .slice none 0 0, .int .i64 0, .slice none 0 0][j]? = some v → wo.cell? (Addr.add ⟨G, 0, none⟩ j) = some v := fun j v hv => by
        have e : Addr.add ⟨G, 0, none⟩ j = ⟨G, 0 + j, none⟩ := by unfold Addr.add; split <;> simp_all
        rw [e, cell_of_row _ _ _ _ _ _ HX.out.g]
        have hj : j < 9 := (List.getElem?_eq_some_iff.1 hv).1
        match j, hj with
        | 0, _ => exact hv
        | 1, _ => exact hv
        | 2, _ => exact hv
        | 3, _ => exact hv
        | 4, _ => exact hv
        | 5, _ => exact hv
        | 6, _ => exact hv
        | 7, _ => exact hv
        | 8, _ => exact hv
      have HC := Lib.hid hcell
      clear hcell
      go_wp2_with (first
        | ((with_reducible refine wpList_load_at wo ?hg1 38 (.tmp 17) ?ho1 ⟨G, 0, none⟩ [.int .i64 1, .bool false, .int .u32 0, .int .u32 0, .slice none 0 0, .slice none 0 0, .slice none 0 0, .int .i64 0, .slice none 0 0] _ ?hx1 HC.out Tryz.underlying38 ?hd1 ?hi1 ?_); (case hg1 => rfl); (case ho1 => rfl); (case hx1 => rfl); (case hd1 => rfl); (case hi1 => exact HAS.out))
        | ((with_reducible refine wpList_store_whole (wo.alloc (.cells #[.int .i64 0, .bool false, .int .u32 0, .int .u32 0, .slice none 0 0, .slice none 0 0, .slice none 0 0, .int .i64 0, .slice none 0 0] 38)) ?hg2 38 (.tmp 9) (.tmp 18) ?ho2 wo.heap.size 38 #[.int .i64 0, .bool false, .int .u32 0, .int .u32 0, .slice none 0 0, .slice none 0 0, .slice none 0 0, .int .i64 0, .slice none 0 0] #[.int .i64 1, .bool false, .int .u32 0, .int .u32 0, .slice none 0 0, .slice none 0 0, .slice none 0 0, .int .i64 0, .slice none 0 0] ?hx2 ?hp2 (heap_alloc_new _ _) ?hi2 ?hs2 ?hq2 ?_); (case hg2 => rfl); (case ho2 => rfl); (case hx2 => rfl); (case hp2 => rfl); (case hs2 => rfl); (case hi2 => exact HAS.out); (case hq2 => simp [Value.oneCell'])
           intro W1 G1 O1
           have hb1 : Below wo.heap.size wo W1 := ((Below.refl _ _).alloc (Nat.le_refl _) _).grown O1.out (by simp) (fun x hx => by injection hx; omega)
           have B1 := hide hb1
           have X1 := hide (HX.out.more hb1)
           clear hb1 O1)
        | ((with_reducible refine wpList_load_wholeF W1 ?hg3 60 (.tmp 2) ?ho3 w.heap.size 60 #[.bool false, .bool false, .bool false, .bool false, .bool false, .bool false] _ ?hx3 X1.out.o Tryz.underlying60 ?hd3 ?hi3 ?_); (case hg3 => rfl); (case ho3 => rfl); (case hx3 => rfl); (case hd3 => rfl); (case hi3 => exact HOS.out))
        | ((with_reducible refine wpList_load_wholeF W1 ?hg4 38 (.tmp 9) ?ho4 wo.heap.size 38 #[.int .i64 1, .bool false, .int .u32 0, .int .u32 0, .slice none 0 0, .slice none 0 0, .slice none 0 0, .int .i64 0, .slice none 0 0] _ ?hx4 G1.out Tryz.underlying38 ?hd4 ?hi4 ?_); (case hg4 => rfl); (case ho4 => rfl); (case hx4 => rfl); (case hd4 => rfl); (case hi4 => exact HAS.out))
        | (go_at_call 44; refine (form_one W1).mono ?_; rintro e W2 ⟨v, rfl, ho, hb2⟩
           have g2 := (hb2.block _ (lt_of_heapF G1.out)).trans G1.out
           have c9 : W2.cell? ⟨wo.heap.size, 0, none⟩ = some (.int .i64 1) := by rw [cell_of_row _ _ 0 _ _ _ g2]; rfl
           have l9 := lt_of_heapF g2
           have hoo := own_baseF ho (Nat.le_trans (show w.heap.size + 1 ≤ wo.heap.size from lt_of_heapF HX.out.o) B1.out.size)
           have B2 := hide (B1.out.trans (hb2.mono B1.out.size))
           have X2 := hide (X1.out.more hb2)
           have HV := hide hoo
           obtain ⟨A9, k9, rfl, _, _⟩ := slice_of_ownF hoo
           have G2 := Lib.hid g2
           clear g2 hb2 ho hoo))
      have hal : Below W2.heap.size W2 (W2.alloc (.cells #[(Value.slice A9 4 k9)] 35)).drew := ((Below.refl _ _).alloc (Nat.le_refl _) _).drew
      have hpo : (W2.alloc (.cells #[(Value.slice A9 4 k9)] 35)).drew.ownsRow (w.heap.size + 1) 35 1 (Value.slice none 0 0) 0 [] := World.ownsRow_nil _ _ _ _
      have hnew : Reads (W2.alloc (.cells #[(Value.slice A9 4 k9)] 35)).drew (W2.heap.size + 1) 1 (some ⟨W2.heap.size, 0, none⟩) 1 [(Value.slice A9 4 k9)] := ⟨by simp, fun _ => ⟨_, rfl, Nat.lt_succ_self _, fun j u hu => World.news_of_block (cs := #[(Value.slice A9 4 k9)]) (heap_alloc_new W2 _) j u (by simpa using hu)⟩⟩
      have hwl : w.heap.size + 1 ≤ W2.heap.size := Nat.le_trans (show w.heap.size + 1 ≤ wo.heap.size from lt_of_heapF HX.out.o) B2.out.size
      have HAL := hide hal
      have HPO := hide hpo
      have HNW := hide hnew
      clear hal hpo hnew HC
      go_region_law ((
        refine step_append_any _ rfl (.tmp 33) (.tmp 35) _ rfl (w.heap.size + 1) 35 ib _ 1 24 Tryz.underlying77 hb0 hb1 hb2 hb3 rfl (by omega) (Value.slice none 0 0) 0 [] rfl HPO.out (W2.heap.size + 1) (some ⟨W2.heap.size, 0, none⟩) 1 1 [(Value.slice A9 4 k9)] rfl HNW.out (by simp [Value.oneCell']) (by simp [maxLen]) (by omega) (by show _ ≤ (W2.alloc _).heap.size; simp; omega) ?_
        intro v5 w5 hown5 hg5 hat5
        have hX5 : AX w w5 G := (X2.out.more HAL.out).grown HGL.out HPO.out hg5
        have c5 : w5.cell? ⟨wo.heap.size, 0, none⟩ = some (.int .i64 1) := by
          have hbk : Blk (W2.alloc (.cells #[(Value.slice A9 4 k9)] 35)).drew wo.heap.size 38 #[.int .i64 1, .bool false, .int .u32 0, .int .u32 0, .slice none 0 0, .slice none 0 0, .slice none 0 0, .int .i64 0, .slice none 0 0] := (HAL.out.block _ l9).trans G2.out
          have hbk5 : Blk w5 wo.heap.size 38 #[.int .i64 1, .bool false, .int .u32 0, .int .u32 0, .slice none 0 0, .slice none 0 0, .slice none 0 0, .int .i64 0, .slice none 0 0] := hbk.grown hg5 (fun e => own_blk_ne (t := 38) (cs := #[.int .i64 1, .bool false, .int .u32 0, .int .u32 0, .slice none 0 0, .slice none 0 0, .slice none 0 0, .int .i64 0, .slice none 0 0]) HPO.out hbk (by decide) e.symm)
          rw [hbk5.cell]; rfl
        obtain ⟨A5, k5, rfl, _, _⟩ := slice_of_ownF hown5
        have hV5 := own_otherL (by decide) (own_more HV.out HAL.out) hg5 HPO.out
        
        have X5 := hide hX5
        have O5 := hide hown5
        have V5 := hide hV5
        clear hX5 hown5 hg5 hat5 hV5))
      all_goals
        go_wp2
        go_roundw
        case rel => exact ⟨X5.out, .inr (.inl ⟨by go_num, rfl, _, A5, k5, rfl, O5.out, V5.out⟩)⟩
        case measure => simp [intOf]
    · have HO1 := hide ho1
      have HV1 := hide hv1
      clear ho1 hv1
      have hcell : ∀ (j : Nat) (v : Value), [.int .i64 2, .bool false, .int .u32 0, .int .u32 0, .slice none 0 0, .slice none 0 0, .slice none 0 0, .int .i64 0, .slice none 0 0][j]? = some v → wo.cell? (Addr.add ⟨G, 9, none⟩ j) = some v := fun j v hv => by
        have e : Addr.add ⟨G, 9, none⟩ j = ⟨G, 9 + j, none⟩ := by unfold Addr.add; split <;> simp_all
        rw [e, cell_of_row _ _ _ _ _ _ HX.out.g]
        have hj : j < 9 := (List.getElem?_eq_some_iff.1 hv).1
        match j, hj with
        | 0, _ => exact hv
        | 1, _ => exact hv
        | 2, _ => exact hv
        | 3, _ => exact hv
        | 4, _ => exact hv
        | 5, _ => exact hv
        | 6, _ => exact hv
        | 7, _ => exact hv
        | 8, _ => exact hv
      have HC := Lib.hid hcell
      clear hcell
      go_wp2_with (first
        | ((with_reducible refine wpList_load_at wo ?hg1 38 (.tmp 17) ?ho1 ⟨G, 9, none⟩ [.int .i64 2, .bool false, .int .u32 0, .int .u32 0, .slice none 0 0, .slice none 0 0, .slice none 0 0, .int .i64 0, .slice none 0 0] _ ?hx1 HC.out Tryz.underlying38 ?hd1 ?hi1 ?_); (case hg1 => rfl); (case ho1 => rfl); (case hx1 => rfl); (case hd1 => rfl); (case hi1 => exact HAS.out))
        | ((with_reducible refine wpList_store_whole (wo.alloc (.cells #[.int .i64 0, .bool false, .int .u32 0, .int .u32 0, .slice none 0 0, .slice none 0 0, .slice none 0 0, .int .i64 0, .slice none 0 0] 38)) ?hg2 38 (.tmp 9) (.tmp 18) ?ho2 wo.heap.size 38 #[.int .i64 0, .bool false, .int .u32 0, .int .u32 0, .slice none 0 0, .slice none 0 0, .slice none 0 0, .int .i64 0, .slice none 0 0] #[.int .i64 2, .bool false, .int .u32 0, .int .u32 0, .slice none 0 0, .slice none 0 0, .slice none 0 0, .int .i64 0, .slice none 0 0] ?hx2 ?hp2 (heap_alloc_new _ _) ?hi2 ?hs2 ?hq2 ?_); (case hg2 => rfl); (case ho2 => rfl); (case hx2 => rfl); (case hp2 => rfl); (case hs2 => rfl); (case hi2 => exact HAS.out); (case hq2 => simp [Value.oneCell'])
           intro W1 G1 O1
           have hb1 : Below wo.heap.size wo W1 := ((Below.refl _ _).alloc (Nat.le_refl _) _).grown O1.out (by simp) (fun x hx => by injection hx; omega)
           have B1 := hide hb1
           have X1 := hide (HX.out.more hb1)
           clear hb1 O1)
        | ((with_reducible refine wpList_load_wholeF W1 ?hg3 60 (.tmp 2) ?ho3 w.heap.size 60 #[.bool false, .bool false, .bool false, .bool false, .bool false, .bool false] _ ?hx3 X1.out.o Tryz.underlying60 ?hd3 ?hi3 ?_); (case hg3 => rfl); (case ho3 => rfl); (case hx3 => rfl); (case hd3 => rfl); (case hi3 => exact HOS.out))
        | ((with_reducible refine wpList_load_wholeF W1 ?hg4 38 (.tmp 9) ?ho4 wo.heap.size 38 #[.int .i64 2, .bool false, .int .u32 0, .int .u32 0, .slice none 0 0, .slice none 0 0, .slice none 0 0, .int .i64 0, .slice none 0 0] _ ?hx4 G1.out Tryz.underlying38 ?hd4 ?hi4 ?_); (case hg4 => rfl); (case ho4 => rfl); (case hx4 => rfl); (case hd4 => rfl); (case hi4 => exact HAS.out))
        | (go_at_call 44; refine (form_two W1).mono ?_; rintro e W2 ⟨v, rfl, ho, hb2⟩
           have g2 := (hb2.block _ (lt_of_heapF G1.out)).trans G1.out
           have c9 : W2.cell? ⟨wo.heap.size, 0, none⟩ = some (.int .i64 2) := by rw [cell_of_row _ _ 0 _ _ _ g2]; rfl
           have l9 := lt_of_heapF g2
           have hoo := own_baseF ho (Nat.le_trans (show w.heap.size + 1 ≤ wo.heap.size from lt_of_heapF HX.out.o) B1.out.size)
           have B2 := hide (B1.out.trans (hb2.mono B1.out.size))
           have X2 := hide (X1.out.more hb2)
           have HV := hide hoo
           obtain ⟨A9, k9, rfl, _, _⟩ := slice_of_ownF hoo
           have G2 := Lib.hid g2
           clear g2 hb2 ho hoo))
      have hal : Below W2.heap.size W2 (W2.alloc (.cells #[(Value.slice A9 3 k9)] 35)).drew := ((Below.refl _ _).alloc (Nat.le_refl _) _).drew
      have hpo : (W2.alloc (.cells #[(Value.slice A9 3 k9)] 35)).drew.ownsRow (w.heap.size + 1) 35 1 (Value.slice A 1 c) 1 [v1] := (own_more HO1.out (B2.out.trans (hal.mono B2.out.size)))
      have hnew : Reads (W2.alloc (.cells #[(Value.slice A9 3 k9)] 35)).drew (W2.heap.size + 1) 1 (some ⟨W2.heap.size, 0, none⟩) 1 [(Value.slice A9 3 k9)] := ⟨by simp, fun _ => ⟨_, rfl, Nat.lt_succ_self _, fun j u hu => World.news_of_block (cs := #[(Value.slice A9 3 k9)]) (heap_alloc_new W2 _) j u (by simpa using hu)⟩⟩
      have hwl : w.heap.size + 1 ≤ W2.heap.size := Nat.le_trans (show w.heap.size + 1 ≤ wo.heap.size from lt_of_heapF HX.out.o) B2.out.size
      have HAL := hide hal
      have HPO := hide hpo
      have HNW := hide hnew
      clear hal hpo hnew HC
      go_region_law ((
        refine step_append_any _ rfl (.tmp 33) (.tmp 35) _ rfl (w.heap.size + 1) 35 ib _ 1 24 Tryz.underlying77 hb0 hb1 hb2 hb3 rfl (by omega) (Value.slice A 1 c) 1 [v1] rfl HPO.out (W2.heap.size + 1) (some ⟨W2.heap.size, 0, none⟩) 1 1 [(Value.slice A9 3 k9)] rfl HNW.out (by simp [Value.oneCell']) (by simp [maxLen]) (by omega) (by show _ ≤ (W2.alloc _).heap.size; simp; omega) ?_
        intro v5 w5 hown5 hg5 hat5
        have hX5 : AX w w5 G := (X2.out.more HAL.out).grown HGL.out HPO.out hg5
        have c5 : w5.cell? ⟨wo.heap.size, 0, none⟩ = some (.int .i64 2) := by
          have hbk : Blk (W2.alloc (.cells #[(Value.slice A9 3 k9)] 35)).drew wo.heap.size 38 #[.int .i64 2, .bool false, .int .u32 0, .int .u32 0, .slice none 0 0, .slice none 0 0, .slice none 0 0, .int .i64 0, .slice none 0 0] := (HAL.out.block _ l9).trans G2.out
          have hbk5 : Blk w5 wo.heap.size 38 #[.int .i64 2, .bool false, .int .u32 0, .int .u32 0, .slice none 0 0, .slice none 0 0, .slice none 0 0, .int .i64 0, .slice none 0 0] := hbk.grown hg5 (fun e => own_blk_ne (t := 38) (cs := #[.int .i64 2, .bool false, .int .u32 0, .int .u32 0, .slice none 0 0, .slice none 0 0, .slice none 0 0, .int .i64 0, .slice none 0 0]) HPO.out hbk (by decide) e.symm)
          rw [hbk5.cell]; rfl
        obtain ⟨A5, k5, rfl, _, _⟩ := slice_of_ownF hown5
        have hV5 := own_otherL (by decide) (own_more HV.out HAL.out) hg5 HPO.out
        have H15 := hide (own_otherL (by decide) (own_more HV1.out (B2.out.trans (HAL.out.mono B2.out.size))) hg5 HPO.out)
        have X5 := hide hX5
        have O5 := hide hown5
        have V5 := hide hV5
        clear hX5 hown5 hg5 hat5 hV5))
      all_goals
        go_wp2
        go_roundw
        case rel => exact ⟨X5.out, .inr (.inr ⟨by go_num, rfl, v1, _, A5, k5, rfl, O5.out, H15.out, V5.out⟩)⟩
        case measure => simp [intOf]
    · obtain ⟨B1, k1, rfl, _, _⟩ := slice_of_ownF hv1
      obtain ⟨B2, k2, rfl, _, _⟩ := slice_of_ownF hv2
      have hct := cat_any A c [Value.slice B1 4 k1, Value.slice B2 3 k2] [(4, bV [64, 1, 1, 0]), (3, bV [64, 2, 0])] wo (Reads.of_own ho1) rfl (by simp) (fun i v p hv hp => by
        match i with
        | 0 => simp at hv hp; subst hv; subst hp; exact src_of_own hv1 rfl
        | 1 => simp at hv hp; subst hv; subst hp; exact src_of_own hv2 rfl
        | i + 2 => simp at hv) (by simp [totB])
      have e1 : totB [(4, bV [64, 1, 1, 0]), (3, bV [64, 2, 0])] = 7 := rfl
      have e2 : catB [(4, bV [64, 1, 1, 0]), (3, bV [64, 2, 0])] = bV [64, 1, 1, 0, 64, 2, 0] := rfl
      rw [e1, e2] at hct
      have HCT := hide hct
      clear hct ho1 hv1 hv2 e1 e2
      go_wp2_with (go_at_call 45; refine HCT.out.mono ?_; rintro e w4 ⟨v, rfl, ho, hb4⟩
                   have HO := hide (own_baseF ho HX.out.be.size)
                   obtain ⟨A4, k4, rfl, _, _⟩ := slice_of_ownF ho
                   have B4 := hide (HX.out.be.trans (hb4.mono HX.out.be.size))
                   clear ho hb4)
      refine bodyPost_ret (v := .tuple #[.slice A4 7 k4, .bool true]) (by simp [results, Tryz.results23, go_sem]) rfl ?_
      exact ⟨_, rfl, HO.out, B4.out⟩
set_option maxRecDepth 100000 in
set_option maxHeartbeats 8000000 in
theorem alive14_any (w : World) : Calls Tryz.prog 6 #[] w fun e w' => e = .returned (.bool true) ∧ Below w.heap.size w w' := by
  obtain ⟨W0, hW0⟩ : ∃ W0, W0 = w.alloc (.cells #[.int .i64 1, .bool false, .int .u32 0, .int .u32 0, .slice none 0 0, .slice none 0 0, .slice none 0 0, .int .i64 0, .slice none 0 0, .int .i64 2, .bool false, .int .u32 0, .int .u32 0, .slice none 0 0, .slice none 0 0, .slice none 0 0, .int .i64 0, .slice none 0 0] 38) := ⟨_, rfl⟩
  have hg0 : W0.heap[w.heap.size]? = some (.cells #[.int .i64 1, .bool false, .int .u32 0, .int .u32 0, .slice none 0 0, .slice none 0 0, .slice none 0 0, .int .i64 0, .slice none 0 0, .int .i64 2, .bool false, .int .u32 0, .int .u32 0, .slice none 0 0, .slice none 0 0, .slice none 0 0, .int .i64 0, .slice none 0 0] 38 (0, 0)) := by rw [hW0]; exact heap_alloc_new _ _
  have hb0 : Below w.heap.size w W0 := by rw [hW0]; exact (Below.refl _ _).alloc (Nat.le_refl _) _
  have hab := abytes_ex w.heap.size W0 hg0
  have HAB := hide hab
  have B0 := hide hb0
  have HW0 := Lib.hid hW0
  clear hg0 hb0 hW0 hab
  go_enter Tryz.func6, Tryz.ntmps6
  go_wp2_with (first
    | (go_at_call 23; rw [← HW0.out]; refine HAB.out.mono ?_; rintro e w1 ⟨v, rfl, ho, hb1⟩
       obtain ⟨A, c, rfl, _, _⟩ := slice_of_ownF ho
       have hal : Below w1.heap.size w1 (w1.alloc (.cells #[.int .u8 64, .int .u8 1, .int .u8 1, .int .u8 0, .int .u8 64, .int .u8 2, .int .u8 0] 5)) := (Below.refl _ _).alloc (Nat.le_refl _) _
       have hr1 : Reads (w1.alloc (.cells #[.int .u8 64, .int .u8 1, .int .u8 1, .int .u8 0, .int .u8 64, .int .u8 2, .int .u8 0] 5)) (w1.alloc (.cells #[.int .u8 64, .int .u8 1, .int .u8 1, .int .u8 0, .int .u8 64, .int .u8 2, .int .u8 0] 5)).heap.size 1 A 7 (bV [64, 1, 1, 0, 64, 2, 0]) := ((Reads.of_own ho).below hal).more hal.size
       have hr2 : Reads (w1.alloc (.cells #[.int .u8 64, .int .u8 1, .int .u8 1, .int .u8 0, .int .u8 64, .int .u8 2, .int .u8 0] 5)) (w1.alloc (.cells #[.int .u8 64, .int .u8 1, .int .u8 1, .int .u8 0, .int .u8 64, .int .u8 2, .int .u8 0] 5)).heap.size 1 (some ⟨w1.heap.size, 0, none⟩) 7 (bV [64, 1, 1, 0, 64, 2, 0]) :=
         ⟨rfl, fun _ => ⟨_, rfl, by show w1.heap.size < _; simp, fun j u hu => World.news_of_block (cs := #[.int .u8 64, .int .u8 1, .int .u8 1, .int .u8 0, .int .u8 64, .int .u8 2, .int .u8 0]) (heap_alloc_new _ _) j u (by simpa [bV] using hu)⟩⟩
       have heq := equalB_any A (some ⟨w1.heap.size, 0, none⟩) c 7 [64, 1, 1, 0, 64, 2, 0] [64, 1, 1, 0, 64, 2, 0] _ hr1 hr2 (by simp)
       rw [decide_eq_true rfl] at heq
       have HEQ := hide heq
       have B1 := hide (B0.out.trans ((hb1.trans (hal.mono hb1.size)).mono B0.out.size))
       clear ho hb1 hal hr1 hr2 heq)
    | (go_at_call 24; refine HEQ.out.mono ?_; rintro e w2 ⟨rfl, hb2⟩
       have B2 := hide (B1.out.trans (hb2.mono B1.out.size))
       clear hb2))
  go_ret
  exact ⟨rfl, B2.out⟩
end Go.Proofs.YtnfclcbhehbchaaGreatDoor
