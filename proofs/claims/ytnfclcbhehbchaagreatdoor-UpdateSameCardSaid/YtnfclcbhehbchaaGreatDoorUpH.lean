/- The example of chapter 15: update.Bytes of an empty update, and what is asked of it. -/
import Derived.Test.YtnfclcbhehbchaaGreatDoorUpG
set_option autoImplicit false
namespace Go.Proofs.YtnfclcbhehbchaaGreatDoor
open Go.RowKit
structure LU (w : World) (V : World) (L : Array Bool) (x8 x9 x14 x15 x16 x17 x18 x19 x20 x21 : Value) : Prop where
  pv : BU w V
  f0 : L.getD 0 false = true → x14 = .func (.func 52) #[] #[.pointer (some ⟨w.heap.size, 0, none⟩), .pointer (some ⟨w.heap.size + 2, 0, none⟩)]
  f1 : L.getD 1 false = true → x15 = .pointer (some ⟨w.heap.size + 1, 0, none⟩)
  f2 : L.getD 2 false = true → x16 = .slice none 0 0
  f3 : L.getD 3 false = true → x17 = .slice none 0 0
  f4 : L.getD 4 false = true → x18 = .func (.func 52) #[] #[.pointer (some ⟨w.heap.size, 0, none⟩), .pointer (some ⟨w.heap.size + 2, 0, none⟩)]
  f5 : L.getD 5 false = true → x19 = .pointer (some ⟨w.heap.size + 1, 2, none⟩)
  f6 : L.getD 6 false = true → x20 = .slice none 0 0
  f7 : L.getD 7 false = true → x21 = .slice none 0 0
  f8 : L.getD 8 false = true → x8 = .slice none 0 0
  f9 : L.getD 9 false = true → x9 = .slice none 0 0
theorem LU.more {w V V' : World} {L : Array Bool} {x8 x9 x14 x15 x16 x17 x18 x19 x20 x21 : Value} (H : LU w V L x8 x9 x14 x15 x16 x17 x18 x19 x20 x21) (hg : V.grownBy V' (some (w.heap.size + 2))) (h2 : V'.heap[w.heap.size + 2]? = some (.cells #[.bool true] 4 (0, 0))) : LU w V' L x8 x9 x14 x15 x16 x17 x18 x19 x20 x21 := ⟨H.pv.ok hg h2, H.f0, H.f1, H.f2, H.f3, H.f4, H.f5, H.f6, H.f7, H.f8, H.f9⟩
set_option maxRecDepth 100000 in
set_option maxHeartbeats 4000000 in
theorem ubytes_nil (w : World) : Calls Tryz.prog 37 #[.agg #[.bool false, .bool false, .bool false, .bool false, .bool false, .bool false], .agg #[.slice none 0 0, .slice none 0 0, .slice none 0 0]] w fun e w' => ∃ v, e = .returned (.tuple #[v, .bool true]) ∧ w'.ownsRow w.heap.size 5 1 v 4 (bV [0, 0, 0, 0]) ∧ Below w.heap.size w w' := by
  have h0 := BU.start w
  have HS := hide h0
  have has := options_size
  have HAS := Lib.hid has
  have hus := upd_sizeG
  have HUS := Lib.hid hus
  clear h0 has hus
  go_enter Tryz.func37, Tryz.ntmps37
  go_wp2_with fail
  have h1 := HS.out
  refine wp_region_inv (by kernel_rfl) (fun L a V => ∃ x8 x9 x14 x15 x16 x17 x18 x19 x20 x21 : Value, a = ⟨List.toArray ((.agg #[.bool false, .bool false, .bool false, .bool false, .bool false, .bool false]) :: (.agg #[.slice none 0 0, .slice none 0 0, .slice none 0 0]) :: (.pointer (some ⟨w.heap.size, 0, none⟩)) :: (.pointer (some ⟨w.heap.size + 1, 0, none⟩)) :: (.slice none 0 0) :: (.bool false) :: (.pointer (some ⟨w.heap.size + 2, 0, none⟩)) :: (.func (.func 52) #[] #[.pointer (some ⟨w.heap.size, 0, none⟩), .pointer (some ⟨w.heap.size + 2, 0, none⟩)]) :: (x8) :: (x9) :: (undef) :: (undef) :: (undef) :: (.func (.func 52) #[] #[.pointer (some ⟨w.heap.size, 0, none⟩), .pointer (some ⟨w.heap.size + 2, 0, none⟩)]) :: (x14) :: (x15) :: (x16) :: (x17) :: (x18) :: (x19) :: (x20) :: (x21) :: (undef) :: (undef) :: (undef) :: (undef) :: (undef) :: (undef) :: (undef) :: (undef) :: (undef) :: (undef) :: (undef) :: (undef) :: (undef) :: (undef) :: (undef) :: (undef) :: (undef) :: (undef) :: (undef) :: (undef) :: (undef) :: (undef) :: (undef) :: (undef) :: (undef) :: (undef) :: (undef) :: (undef) :: (undef) :: (undef) :: []), []⟩ ∧ LU w V L x8 x9 x14 x15 x16 x17 x18 x19 x20 x21) (by kernel_rfl) ?_ ⟨undef, undef, undef, undef, undef, undef, undef, undef, undef, undef, rfl, ⟨⟨h1.g0, h1.g1, h1.g2, below_drewN h1.be 1⟩, fun h => absurd h (by decide), fun h => absurd h (by decide), fun h => absurd h (by decide), fun h => absurd h (by decide), fun h => absurd h (by decide), fun h => absurd h (by decide), fun h => absurd h (by decide), fun h => absurd h (by decide), fun h => absurd h (by decide), fun h => absurd h (by decide)⟩⟩ ?_
  · refine ⟨?_, ?_, ?_, ?_, ?_, ?_, ?_, ?_, ?_, ?_, trivial⟩
    · rintro L a V ⟨x8, x9, x14, x15, x16, x17, x18, x19, x20, x21, rfl, H⟩ hl ha K hK
      go_simp
      exact hK _ _ ⟨_, _, _, _, _, _, _, _, _, _, rfl, ⟨H.pv, fun _ => rfl, fun h => H.f1 ((getD_set h).resolve_left (by decide)), fun h => H.f2 ((getD_set h).resolve_left (by decide)), fun h => H.f3 ((getD_set h).resolve_left (by decide)), fun h => H.f4 ((getD_set h).resolve_left (by decide)), fun h => H.f5 ((getD_set h).resolve_left (by decide)), fun h => H.f6 ((getD_set h).resolve_left (by decide)), fun h => H.f7 ((getD_set h).resolve_left (by decide)), fun h => H.f8 ((getD_set h).resolve_left (by decide)), fun h => H.f9 ((getD_set h).resolve_left (by decide))⟩⟩
    · rintro L a V ⟨x8, x9, x14, x15, x16, x17, x18, x19, x20, x21, rfl, H⟩ hl ha K hK
      go_simp
      exact hK _ _ ⟨_, _, _, _, _, _, _, _, _, _, rfl, ⟨H.pv, fun h => H.f0 ((getD_set h).resolve_left (by decide)), fun _ => rfl, fun h => H.f2 ((getD_set h).resolve_left (by decide)), fun h => H.f3 ((getD_set h).resolve_left (by decide)), fun h => H.f4 ((getD_set h).resolve_left (by decide)), fun h => H.f5 ((getD_set h).resolve_left (by decide)), fun h => H.f6 ((getD_set h).resolve_left (by decide)), fun h => H.f7 ((getD_set h).resolve_left (by decide)), fun h => H.f8 ((getD_set h).resolve_left (by decide)), fun h => H.f9 ((getD_set h).resolve_left (by decide))⟩⟩
    · rintro L a V ⟨x8, x9, x14, x15, x16, x17, x18, x19, x20, x21, rfl, H⟩ hl ha K hK
      obtain rfl := H.f1 (ha ⟨1, .data⟩ (by simp) rfl)
      refine step_load_cell V rfl 36 (.tmp 15) rfl ⟨w.heap.size + 1, 0, none⟩ _ (.slice none 0 0) rfl (by rw [cell_of_row _ _ 0 _ _ _ H.pv.g1]; rfl) Tryz.underlying36 rfl ?_
      exact hK _ _ ⟨_, _, _, _, _, _, _, _, _, _, rfl, ⟨H.pv, fun h => H.f0 ((getD_set h).resolve_left (by decide)), fun h => H.f1 ((getD_set h).resolve_left (by decide)), fun _ => rfl, fun h => H.f3 ((getD_set h).resolve_left (by decide)), fun h => H.f4 ((getD_set h).resolve_left (by decide)), fun h => H.f5 ((getD_set h).resolve_left (by decide)), fun h => H.f6 ((getD_set h).resolve_left (by decide)), fun h => H.f7 ((getD_set h).resolve_left (by decide)), fun h => H.f8 ((getD_set h).resolve_left (by decide)), fun h => H.f9 ((getD_set h).resolve_left (by decide))⟩⟩
    · rintro L a V ⟨x8, x9, x14, x15, x16, x17, x18, x19, x20, x21, rfl, H⟩ hl ha K hK
      obtain rfl := H.f0 (ha ⟨0, .data⟩ (by simp) rfl)
      obtain rfl := H.f2 (ha ⟨2, .data⟩ (by simp) rfl)
      refine step_call_clos (args := #[.slice none 0 0, .pointer (some ⟨w.heap.size, 0, none⟩), .pointer (some ⟨w.heap.size + 2, 0, none⟩)]) rfl rfl (by rfl) Tryz.func52 (by decide) rfl (by simp [Act.eval]) (bclos w.heap.size (w.heap.size + 2) V H.pv.g0 H.pv.g2) ?_
      rintro e w' ⟨rfl, hg, h2⟩
      refine ⟨_, rfl, ?_⟩
      replace H := H.more hg h2
      exact hK _ _ ⟨_, _, _, _, _, _, _, _, _, _, rfl, ⟨H.pv, fun h => H.f0 ((getD_set h).resolve_left (by decide)), fun h => H.f1 ((getD_set h).resolve_left (by decide)), fun h => H.f2 ((getD_set h).resolve_left (by decide)), fun _ => rfl, fun h => H.f4 ((getD_set h).resolve_left (by decide)), fun h => H.f5 ((getD_set h).resolve_left (by decide)), fun h => H.f6 ((getD_set h).resolve_left (by decide)), fun h => H.f7 ((getD_set h).resolve_left (by decide)), fun h => H.f8 ((getD_set h).resolve_left (by decide)), fun h => H.f9 ((getD_set h).resolve_left (by decide))⟩⟩
    · rintro L a V ⟨x8, x9, x14, x15, x16, x17, x18, x19, x20, x21, rfl, H⟩ hl ha K hK
      go_simp
      exact hK _ _ ⟨_, _, _, _, _, _, _, _, _, _, rfl, ⟨H.pv, fun h => H.f0 ((getD_set h).resolve_left (by decide)), fun h => H.f1 ((getD_set h).resolve_left (by decide)), fun h => H.f2 ((getD_set h).resolve_left (by decide)), fun h => H.f3 ((getD_set h).resolve_left (by decide)), fun _ => rfl, fun h => H.f5 ((getD_set h).resolve_left (by decide)), fun h => H.f6 ((getD_set h).resolve_left (by decide)), fun h => H.f7 ((getD_set h).resolve_left (by decide)), fun h => H.f8 ((getD_set h).resolve_left (by decide)), fun h => H.f9 ((getD_set h).resolve_left (by decide))⟩⟩
    · rintro L a V ⟨x8, x9, x14, x15, x16, x17, x18, x19, x20, x21, rfl, H⟩ hl ha K hK
      go_simp
      exact hK _ _ ⟨_, _, _, _, _, _, _, _, _, _, rfl, ⟨H.pv, fun h => H.f0 ((getD_set h).resolve_left (by decide)), fun h => H.f1 ((getD_set h).resolve_left (by decide)), fun h => H.f2 ((getD_set h).resolve_left (by decide)), fun h => H.f3 ((getD_set h).resolve_left (by decide)), fun h => H.f4 ((getD_set h).resolve_left (by decide)), fun _ => rfl, fun h => H.f6 ((getD_set h).resolve_left (by decide)), fun h => H.f7 ((getD_set h).resolve_left (by decide)), fun h => H.f8 ((getD_set h).resolve_left (by decide)), fun h => H.f9 ((getD_set h).resolve_left (by decide))⟩⟩
    · rintro L a V ⟨x8, x9, x14, x15, x16, x17, x18, x19, x20, x21, rfl, H⟩ hl ha K hK
      obtain rfl := H.f5 (ha ⟨5, .data⟩ (by simp) rfl)
      refine step_load_cell V rfl 36 (.tmp 19) rfl ⟨w.heap.size + 1, 2, none⟩ _ (.slice none 0 0) rfl (by rw [cell_of_row _ _ 2 _ _ _ H.pv.g1]; rfl) Tryz.underlying36 rfl ?_
      exact hK _ _ ⟨_, _, _, _, _, _, _, _, _, _, rfl, ⟨H.pv, fun h => H.f0 ((getD_set h).resolve_left (by decide)), fun h => H.f1 ((getD_set h).resolve_left (by decide)), fun h => H.f2 ((getD_set h).resolve_left (by decide)), fun h => H.f3 ((getD_set h).resolve_left (by decide)), fun h => H.f4 ((getD_set h).resolve_left (by decide)), fun h => H.f5 ((getD_set h).resolve_left (by decide)), fun _ => rfl, fun h => H.f7 ((getD_set h).resolve_left (by decide)), fun h => H.f8 ((getD_set h).resolve_left (by decide)), fun h => H.f9 ((getD_set h).resolve_left (by decide))⟩⟩
    · rintro L a V ⟨x8, x9, x14, x15, x16, x17, x18, x19, x20, x21, rfl, H⟩ hl ha K hK
      obtain rfl := H.f4 (ha ⟨4, .data⟩ (by simp) rfl)
      obtain rfl := H.f6 (ha ⟨6, .data⟩ (by simp) rfl)
      refine step_call_clos (args := #[.slice none 0 0, .pointer (some ⟨w.heap.size, 0, none⟩), .pointer (some ⟨w.heap.size + 2, 0, none⟩)]) rfl rfl (by rfl) Tryz.func52 (by decide) rfl (by simp [Act.eval]) (bclos w.heap.size (w.heap.size + 2) V H.pv.g0 H.pv.g2) ?_
      rintro e w' ⟨rfl, hg, h2⟩
      refine ⟨_, rfl, ?_⟩
      replace H := H.more hg h2
      exact hK _ _ ⟨_, _, _, _, _, _, _, _, _, _, rfl, ⟨H.pv, fun h => H.f0 ((getD_set h).resolve_left (by decide)), fun h => H.f1 ((getD_set h).resolve_left (by decide)), fun h => H.f2 ((getD_set h).resolve_left (by decide)), fun h => H.f3 ((getD_set h).resolve_left (by decide)), fun h => H.f4 ((getD_set h).resolve_left (by decide)), fun h => H.f5 ((getD_set h).resolve_left (by decide)), fun h => H.f6 ((getD_set h).resolve_left (by decide)), fun _ => rfl, fun h => H.f8 ((getD_set h).resolve_left (by decide)), fun h => H.f9 ((getD_set h).resolve_left (by decide))⟩⟩
    · rintro L a V ⟨x8, x9, x14, x15, x16, x17, x18, x19, x20, x21, rfl, H⟩ hl ha K hK
      obtain rfl := H.f3 (ha ⟨3, .data⟩ (by simp) rfl)
      go_simp
      exact hK _ _ ⟨_, _, _, _, _, _, _, _, _, _, rfl, ⟨H.pv, fun h => H.f0 ((getD_set h).resolve_left (by decide)), fun h => H.f1 ((getD_set h).resolve_left (by decide)), fun h => H.f2 ((getD_set h).resolve_left (by decide)), fun h => H.f3 ((getD_set h).resolve_left (by decide)), fun h => H.f4 ((getD_set h).resolve_left (by decide)), fun h => H.f5 ((getD_set h).resolve_left (by decide)), fun h => H.f6 ((getD_set h).resolve_left (by decide)), fun h => H.f7 ((getD_set h).resolve_left (by decide)), fun _ => rfl, fun h => H.f9 ((getD_set h).resolve_left (by decide))⟩⟩
    · rintro L a V ⟨x8, x9, x14, x15, x16, x17, x18, x19, x20, x21, rfl, H⟩ hl ha K hK
      obtain rfl := H.f7 (ha ⟨7, .data⟩ (by simp) rfl)
      go_simp
      exact hK _ _ ⟨_, _, _, _, _, _, _, _, _, _, rfl, ⟨H.pv, fun h => H.f0 ((getD_set h).resolve_left (by decide)), fun h => H.f1 ((getD_set h).resolve_left (by decide)), fun h => H.f2 ((getD_set h).resolve_left (by decide)), fun h => H.f3 ((getD_set h).resolve_left (by decide)), fun h => H.f4 ((getD_set h).resolve_left (by decide)), fun h => H.f5 ((getD_set h).resolve_left (by decide)), fun h => H.f6 ((getD_set h).resolve_left (by decide)), fun h => H.f7 ((getD_set h).resolve_left (by decide)), fun h => H.f8 ((getD_set h).resolve_left (by decide)), fun _ => rfl⟩⟩
  · rintro L a V ⟨x8, x9, x14, x15, x16, x17, x18, x19, x20, x21, rfl, H⟩ hd
    obtain rfl := H.f0 (hd 0 (by decide))
    obtain rfl := H.f1 (hd 1 (by decide))
    obtain rfl := H.f2 (hd 2 (by decide))
    obtain rfl := H.f3 (hd 3 (by decide))
    obtain rfl := H.f4 (hd 4 (by decide))
    obtain rfl := H.f5 (hd 5 (by decide))
    obtain rfl := H.f6 (hd 6 (by decide))
    obtain rfl := H.f7 (hd 7 (by decide))
    obtain rfl := H.f8 (hd 8 (by decide))
    obtain rfl := H.f9 (hd 9 (by decide))
    have hv := H.pv
    have cu1 : V.cell? ⟨w.heap.size + 1, 1, none⟩ = some (.slice none 0 0) := by rw [cell_of_row _ _ 1 _ _ _ hv.g1]; rfl
    have lu1 := lt_of_heapF hv.g1
    have HV := hide hv
    clear hd H hv h1
    go_wp2_with (first
      | ((with_reducible refine wpList_load_wholeG V ?hgd1 60 (.tmp 2) ?ho1 w.heap.size 60 #[.bool false, .bool false, .bool false, .bool false, .bool false, .bool false] _ ?hx1 HV.out.g0 Tryz.underlying60 ?hd1 ?hi1 ?_); (case hgd1 => rfl); (case ho1 => rfl); (case hx1 => rfl); (case hd1 => rfl); (case hi1 => exact HAS.out))
      | (go_at_call 23; refine (abytes_nil V).mono ?_; rintro e w2 ⟨rfl, hb2⟩
         have h2 := HV.out.more hb2
         have c2 : w2.cell? ⟨w.heap.size + 2, 0, none⟩ = some (.bool true) := by rw [cell_of_row _ _ 0 _ _ _ h2.g2]; rfl
         have l2 := lt_of_heapF h2.g2
         have H2 := hide h2
         clear hb2 h2)
      | ((with_reducible refine wpList_load_wholeG w2 ?hgd2 46 (.tmp 3) ?ho2 (w.heap.size + 1) 46 #[.slice none 0 0, .slice none 0 0, .slice none 0 0] _ ?hx2 H2.out.g1 Tryz.underlying46 ?hd2 ?hi2 ?_); (case hgd2 => rfl); (case ho2 => rfl); (case hx2 => rfl); (case hd2 => rfl); (case hi2 => exact HUS.out))
      | (go_at_call 55; refine (lack_nil w2).mono ?_; rintro e w3 ⟨rfl, hb3⟩
         have B3 := hide (H2.out.be.trans (hb3.mono H2.out.be.size))
         clear hb3)
      | (go_at_call 56; refine (measured_nil w3).mono ?_; rintro e w4 ⟨v4, rfl, ho4, hb4⟩
         obtain ⟨A4, c4, rfl, hc4, hc4'⟩ := slice_of_ownG ho4
         have B4 := hide (B3.out.trans (hb4.mono B3.out.size))
         have HO4 := hide ho4
         clear hb4 ho4)
      | (go_at_call 56; refine (measured_nil w4).mono ?_; rintro e w5 ⟨v5, rfl, ho5, hb5⟩
         obtain ⟨A5, c5, rfl, hc5, hc5'⟩ := slice_of_ownG ho5
         have ho45 := own_more HO4.out hb5
         have B5 := hide (B4.out.trans (hb5.mono B4.out.size))
         have HO45 := hide ho45
         have HO5 := hide ho5
         clear hb5 ho5 ho45))
    have hct := cat_three w5 (Value.slice A4 2 c4) (Value.slice A5 2 c5) (.slice none 0 0) [0, 0] [0, 0] [] (src_of_own HO45.out rfl) (src_of_own HO5.out rfl) ⟨none, 0, rfl, Reads.none_, bV_one []⟩ (by simp)
    refine hct.mono ?_
    rintro e w6 ⟨v, rfl, ho, hb6⟩
    have ho2 := own_base ho B5.out.size
    obtain ⟨A6, c6, rfl, hc6, hc6'⟩ := slice_of_ownG ho2
    have HO := hide ho2
    have B6 := hide (B5.out.trans (hb6.mono B5.out.size))
    clear ho hb6 hct ho2
    go_wp2_with fail
    refine bodyPost_ret (v := .tuple #[_, .bool true]) (by simp [results, Tryz.results37, go_sem]; rfl) rfl ?_
    exact ⟨_, rfl, HO.out, B6.out⟩
set_option maxRecDepth 100000 in
set_option maxHeartbeats 4000000 in
theorem ualive_any (w : World) : Calls Tryz.prog 17 #[] w fun e w' => e = .returned (.bool true) ∧ Below w.heap.size w w' := by
  go_enter Tryz.func17, Tryz.ntmps17
  go_wp2_with (first
    | (go_at_call 37; refine (ubytes_nil w).mono ?_; rintro e w1 ⟨v, rfl, ho1, hb1⟩
       obtain ⟨A, c, rfl, hc1, hc2⟩ := slice_of_ownG ho1
       have HO1 := hide ho1
       have B1 := hide hb1
       clear hb1 ho1)
    | (go_at_call 24
       refine (equalB_any A (some ⟨w1.heap.size, 0, none⟩) c 4 [0, 0, 0, 0] [0, 0, 0, 0] _ (((Reads.of_own HO1.out).below ((Below.refl _ _).alloc (Nat.le_refl _) _)).more (by simp)) ⟨by simp [bV], fun _ => ⟨_, rfl, by simp, fun j u hu => World.news_of_block (cs := #[.int .u8 0, .int .u8 0, .int .u8 0, .int .u8 0]) (heap_alloc_new w1 _) j u (by simpa [bV] using hu)⟩⟩ (by decide)).mono ?_; rintro e w2 ⟨rfl, hb2⟩
       have B2 := hide ((B1.out.alloc B1.out.size _).trans (hb2.mono (by simp; have := B1.out.size; omega)))
       clear hb2))
  go_ret
  exact ⟨rfl, B2.out⟩
end Go.Proofs.YtnfclcbhehbchaaGreatDoor
