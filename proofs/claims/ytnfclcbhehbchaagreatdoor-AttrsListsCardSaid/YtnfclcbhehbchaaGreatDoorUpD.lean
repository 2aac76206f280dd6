/- attrs.Without of no types: a list of attributes of the call's own. -/
import Derived.Test.YtnfclcbhehbchaaGreatDoorUpC
set_option autoImplicit false
namespace Go.Proofs.YtnfclcbhehbchaaGreatDoor
open Go.RowKit

theorem attr_info : (Tryz.prog.info? 38).map (fun i => (i.zero, i.size, i.bytes)) = some (some (.agg #[.int .i64 0, .bool false, .int .u32 0, .int .u32 0, .slice none 0 0, .slice none 0 0, .slice none 0 0, .int .i64 0, .slice none 0 0]), 9, 128) := by kernel_rfl
set_option maxRecDepth 100000 in
set_option maxHeartbeats 4000000 in
theorem index_nilU (k : Int) (w : World) : Calls Tryz.prog 46 #[.slice none 0 0, .int .i64 k] w fun e w' => e = .returned (.int .i64 (-1)) ∧ Below w.heap.size w w' := by
  go_enter Tryz.func46, Tryz.ntmps46
  go_wp2_with fail
  go_loop [8] (fun i => i = .int .i64 0) (fun _ => 0)
  case atStart => exact rfl
  case round =>
    subst hrel
    go_wp2
    go_ret
    exact ⟨rfl, Below.refl _ _⟩
theorem alloc_szU (W : World) (o : Obj) : (W.alloc o).heap.size = W.heap.size + 1 := by simp
set_option maxRecDepth 100000 in
theorem contains_nilU (k : Int) (w : World) : Calls Tryz.prog 25 #[.slice none 0 0, .int .i64 k] w fun e w' => e = .returned (.bool false) ∧ Below w.heap.size w w' := by
  go_enter Tryz.func25, Tryz.ntmps25
  go_wp2_with (go_at_call 46; refine (index_nilU k w).mono ?_; rintro e w1 ⟨rfl, hb⟩; have B1 := hide hb; clear hb)
  go_ret
  exact ⟨rfl, B1.out⟩

/-- A list of attributes in rows of the call's own. -/
def AttrsO (w : World) (lo : Nat) (v : Value) (l : List AttrD) : Prop := ∃ vs, w.ownsRow lo 38 9 v l.length vs ∧ ∀ (i : Nat) (d : AttrD), l[i]? = some d → AttrO w lo (chunk vs i).toArray d
theorem AttrO.other {w w' : World} {lo base k : Nat} {cs : Array Value} {d : AttrD} {v : Value} {ys : List Value} (h : AttrO w lo cs d) (hg : w.grownBy w' v.ownBlock) (hv : w.ownsRow base 38 9 v k ys) : AttrO w' lo cs d := by
  have key : ∀ {e : TypeId} {sz n : Nat} {v1 : Value} {xs : List Value}, e ≠ 38 → w.ownsRow lo e sz v1 n xs → w'.ownsRow lo e sz v1 n xs := fun hne h => by
    refine h.kept hg ?_
    rcases hv.2 with ⟨rfl, _⟩ | ⟨g, cap, cur, rfl, _, hh, _⟩
    · cases h1 : Value.ownBlock _ with
      | none => exact .inl rfl
      | some b => exact .inr (by simp [Value.ownBlock])
    · exact .inr (own_blk_ne (t := 38) (cs := cur) h hh hne)
  obtain ⟨A1, c1, vs, A2, c2, A3, c3, A4, c4, e, h1, h2, h3, h4, h5⟩ := h
  exact ⟨A1, c1, vs, A2, c2, A3, c3, A4, c4, e, key (by decide) h1, ⟨h2.1, fun i s hs => by obtain ⟨v0, v1, a, b, c⟩ := h2.2 i s hs; exact ⟨v0, v1, a, b, c.1, key (by decide) c.2⟩⟩, key (by decide) h3, key (by decide) h4, key (by decide) h5⟩
theorem chunk_app {xs ys : List Value} {k i : Nat} (h : xs.length = k * 9) (hi : i < k) : chunk (xs ++ ys) i = chunk xs i := by
  unfold chunk
  rw [List.drop_append_of_le_length (by omega), List.take_append_of_le_length (by rw [List.length_drop]; omega)]
theorem chunk_last {xs ys : List Value} {k : Nat} (h : xs.length = k * 9) (hy : ys.length = 9) : chunk (xs ++ ys) k = ys := by
  unfold chunk
  rw [← h, List.drop_left, List.take_of_length_le (by omega)]
theorem AttrO.nine {w : World} {lo : Nat} {cs : Array Value} {d : AttrD} (h : AttrO w lo cs d) : cs.size = 9 ∧ ∀ v ∈ cs.toList, v.oneCell' = true := by
  obtain ⟨A1, c1, vs, A2, c2, A3, c3, A4, c4, rfl, _⟩ := h; exact ⟨rfl, by simp [Value.oneCell']⟩
theorem attrC_type {w : World} {B : Nat} {cs : Array Value} {d : AttrD} (h : AttrC w B cs d) : cs[0]? = some (.int .i64 d.ty) ∧ cs.size = 9 := by
  obtain ⟨A1, c1, A2, c2, A3, c3, A4, c4, rfl, _⟩ := h; exact ⟨rfl, rfl⟩
set_option maxRecDepth 100000 in
set_option maxHeartbeats 8000000 in
theorem without_any (A : Option Addr) (c : Nat) (l : List AttrD) (w : World) (h : AttrsC w w.heap.size A l) (hl : l.length ≤ 1000)
    (hm : ∀ d ∈ l, d.segs.length ≤ 1000000 ∧ (∀ s ∈ d.segs, s.2.length ≤ 1000000) ∧ d.list.length ≤ 1000000 ∧ d.byts.length ≤ 1000000 ∧ d.routes.length ≤ 1000000) :
    Calls Tryz.prog 8 #[.slice A l.length c, .slice none 0 0] w fun e w' => ∃ v, e = .returned v ∧ AttrsO w' w.heap.size v l ∧ Below w.heap.size w w' := by
  obtain ⟨i0, hi0, hz0, hz1, hz2⟩ := info_parts attr_info
  have H := Lib.hid h
  have HM := Lib.hid hm
  clear h hm
  go_enter Tryz.func8, Tryz.ntmps8
  go_wp2_with fail
  go_loopw [5, 10] (fun v i wr => ∃ (k : Nat) (vsN : List Value) (Ao : Option Addr) (co : Nat), k ≤ l.length ∧ i = .int .i64 k ∧ v = .slice Ao k co ∧ wr.ownsRow w.heap.size 38 9 (.slice Ao k co) k vsN ∧
    (∀ (i : Nat) (d : AttrD), (l.take k)[i]? = some d → AttrO wr w.heap.size (chunk vsN i).toArray d) ∧ Below w.heap.size w wr) (fun _ i _ => l.length - (intOf i).toNat)
  case atStart => exact ⟨0, [], none, 0, Nat.zero_le _, rfl, rfl, World.ownsRow_nil _ _ _ _, fun i d hd => by simp at hd, Below.refl _ _⟩
  case round =>
    obtain ⟨k, vsN, Ao, co, hk, rfl, rfl, hown, hats, hbel⟩ := hrel
    obtain ⟨wo, rfl⟩ : ∃ wo : World, wo = wr := ⟨_, rfl⟩
    have hk0 : (0 : Int) ≤ (k : Int) := Int.natCast_nonneg _
    by_cases hlt : k < l.length
    · obtain ⟨ad, cs, rfl, had, hc, ha, h9⟩ := (H.out.below hbel).at_ hlt
      have hmk := HM.out _ (List.getElem_mem hlt)
      generalize hdk : l[k] = dk at ha hmk
      have HDK := Lib.hid hdk
      clear hdk
      have hsz : (Tryz.prog.info? 38).map (·.size) = some cs.length := by rw [h9]; exact attr_size
      have hsz2 : (Tryz.prog.info? 38).map (·.size) = some cs.toArray.size := by rw [List.size_toArray, h9]; exact attr_size
      have hty := (attrC_type ha).1
      have hone := attrC_one ha
      have hk1 : (k : Int) < (l.length : Int) := by omega
      have hwz := hbel.size
      have HC := Lib.hid hc
      have HSZ := Lib.hid hsz
      have HSZ2 := Lib.hid hsz2
      have HT := Lib.hid hty
      have HON := Lib.hid hone
      have H9 := Lib.hid h9
      have HA := Lib.hid ha
      have HMK := Lib.hid hmk
      have HBE := hide hbel
      have HOWN := hide hown
      have HATS := Lib.hid hats
      clear hc ha h9 hsz hsz2 hty hone hmk hbel hown hats
      go_wp2_with (first
        | ((with_reducible refine wpList_load_at wo ?hg1 38 (.tmp 12) ?ho1 (ad.add (k * 9)) cs _ ?hx1 HC.out Tryz.underlying38 ?hd1 ?hi1 ?_); (case hg1 => rfl); (case ho1 => rfl); (case hx1 => rfl); (case hd1 => rfl); (case hi1 => exact HSZ.out))
        | ((with_reducible refine wpList_store_whole (wo.alloc (.cells #[.int .i64 0, .bool false, .int .u32 0, .int .u32 0, .slice none 0 0, .slice none 0 0, .slice none 0 0, .int .i64 0, .slice none 0 0] 38)) ?hg2 38 (.tmp 7) (.tmp 13) ?ho2 wo.heap.size 38 #[.int .i64 0, .bool false, .int .u32 0, .int .u32 0, .slice none 0 0, .slice none 0 0, .slice none 0 0, .int .i64 0, .slice none 0 0] cs.toArray ?hx2 ?hp2 (heap_alloc_new _ _) ?hi2 ?hs2 ?hq2 ?_); (case hg2 => rfl); (case ho2 => rfl); (case hx2 => rfl); (case hp2 => rfl); (case hs2 => exact (by show 9 = cs.toArray.size; simp [H9.out])); (case hi2 => exact HSZ2.out); (case hq2 => exact HON.out)
           intro W1 G1 O1
           have hb1 : Below wo.heap.size wo W1 := ((Below.refl _ _).alloc (Nat.le_refl _) _).grown O1.out (by simp) (fun x hx => by injection hx; omega)
           have B1 := hide hb1
           have hzW := lt_of_heapF G1.out
           have ct : W1.cell? ⟨wo.heap.size, 0, none⟩ = some (.int .i64 dk.ty) := by rw [cell_of_row _ _ 0 _ _ _ G1.out]; exact HT.out
           clear hb1)
        | (go_at_call 25; refine (contains_nilU _ _).mono ?_; rintro e W2 ⟨rfl, hb2⟩
           have g2 := (hb2.block _ hzW).trans G1.out
           have G2 := Lib.hid g2
           have B2 := hide (B1.out.trans (hb2.mono B1.out.size))
           clear hb2 g2)
        | ((with_reducible refine wpList_load_wholeF W2 ?hg3 38 (.tmp 7) ?ho3 wo.heap.size 38 cs.toArray _ ?hx3 G2.out Tryz.underlying38 ?hd3 ?hi3 ?_); (case hg3 => rfl); (case ho3 => rfl); (case hx3 => rfl); (case hd3 => rfl); (case hi3 => exact HSZ2.out))
        | (go_at_call 26
           have hcl := cloneA_any cs.toArray dk W2 ((HA.out.below (B2.out.mono hwz)).more (Nat.le_trans hwz B2.out.size)) HMK.out.1 HMK.out.2.1 HMK.out.2.2.1 HMK.out.2.2.2.1 HMK.out.2.2.2.2
           refine hcl.mono ?_; rintro e W3 ⟨cs', rfl, hoo, hb3⟩
           have B3 := hide (B2.out.trans (hb3.mono B2.out.size))
           have HOO := Lib.hid hoo
           obtain ⟨Q1, e1, us, Q2, e2, Q3, e3, Q4, e4, ecs, _⟩ := hoo
           subst ecs
           clear hcl hb3)
        | (at_builtin
           have hgN : (W3.alloc (.cells #[.int .i64 dk.ty, .bool dk.part, .int .u32 dk.n, .int .u32 dk.m, .slice Q1 dk.segs.length e1, .slice Q2 dk.list.length e2, .slice Q3 dk.byts.length e3, .int .i64 dk.fam, .slice Q4 dk.routes.length e4] 38)).heap[W3.heap.size]? = some (.cells #[.int .i64 dk.ty, .bool dk.part, .int .u32 dk.n, .int .u32 dk.m, .slice Q1 dk.segs.length e1, .slice Q2 dk.list.length e2, .slice Q3 dk.byts.length e3, .int .i64 dk.fam, .slice Q4 dk.routes.length e4] 38 (0, 0)) := heap_alloc_new _ _
           have hbN : Below wo.heap.size wo (W3.alloc (.cells #[.int .i64 dk.ty, .bool dk.part, .int .u32 dk.n, .int .u32 dk.m, .slice Q1 dk.segs.length e1, .slice Q2 dk.list.length e2, .slice Q3 dk.byts.length e3, .int .i64 dk.fam, .slice Q4 dk.routes.length e4] 38)) := B3.out.alloc B3.out.size _
           have hzN : (W3.alloc (.cells #[.int .i64 dk.ty, .bool dk.part, .int .u32 dk.n, .int .u32 dk.m, .slice Q1 dk.segs.length e1, .slice Q2 dk.list.length e2, .slice Q3 dk.byts.length e3, .int .i64 dk.fam, .slice Q4 dk.routes.length e4] 38)).heap.size = W3.heap.size + 1 := alloc_szU _ _
           have hownN := own_keep HOWN.out (fun b hb => hbN.block b (HOWN.out.lt b hb).2)
           refine wpList_append_any _ rfl (.tmp 19) (.tmp 22) _ rfl w.heap.size 38 i0 _ 9 128 Tryz.underlying22 hi0 hz0 hz1 hz2 rfl (by omega) _ k vsN rfl hownN (W3.heap.size + 1) (some ⟨W3.heap.size, 0, none⟩) 1 1 [.int .i64 dk.ty, .bool dk.part, .int .u32 dk.n, .int .u32 dk.m, .slice Q1 dk.segs.length e1, .slice Q2 dk.list.length e2, .slice Q3 dk.byts.length e3, .int .i64 dk.fam, .slice Q4 dk.routes.length e4] rfl
             ⟨by simp, fun _ => ⟨_, rfl, by show W3.heap.size < _; omega, fun j u hu => World.news_of_block (cs := #[.int .i64 dk.ty, .bool dk.part, .int .u32 dk.n, .int .u32 dk.m, .slice Q1 dk.segs.length e1, .slice Q2 dk.list.length e2, .slice Q3 dk.byts.length e3, .int .i64 dk.fam, .slice Q4 dk.routes.length e4]) hgN j u (by simpa using hu)⟩⟩ (by simp [Value.oneCell']) (by simp only [maxLen]; omega) (by omega) (by rw [hzN]; have := B3.out.size; have := HBE.out.size; omega) ?_
           intro v1 W5 hown1 hg1 hat1
           have hats5 : ∀ (i : Nat) (d : AttrD), (l.take (k + 1))[i]? = some d → AttrO W5 w.heap.size (chunk (vsN ++ [.int .i64 dk.ty, .bool dk.part, .int .u32 dk.n, .int .u32 dk.m, .slice Q1 dk.segs.length e1, .slice Q2 dk.list.length e2, .slice Q3 dk.byts.length e3, .int .i64 dk.fam, .slice Q4 dk.routes.length e4]) i).toArray d := fun i d hd => by
             have hlv : vsN.length = k * 9 := HOWN.out.1
             rcases Nat.lt_or_ge i k with hik | hik
             · rw [chunk_app hlv hik]
               have h1 : (l.take k)[i]? = some d := by rw [List.getElem?_take_of_lt (by omega)] at hd; rw [List.getElem?_take_of_lt hik]; exact hd
               exact ((HATS.out i d h1).keep (fun b _ h2 => hbN.block b h2)).other hg1 hownN
             · have hi1 : i < k + 1 := by
                 have := (List.getElem?_eq_some_iff.1 hd).1
                 rw [List.length_take] at this; omega
               have hi2 : i = k := by omega
               subst hi2
               rw [chunk_last hlv (by rfl)]
               have h1 : d = dk := by rw [List.getElem?_take_of_lt (by omega), List.getElem?_eq_getElem hlt] at hd; injection hd with hd; exact hd.symm.trans HDK.out
               subst h1
               exact ((HOO.out.more (Nat.le_trans hwz B2.out.size)).keep (fun b _ h2 => Below.heap_alloc W3 _ b h2)).other hg1 hownN
           have hb5 : Below w.heap.size w W5 := (HBE.out.trans (hbN.mono HBE.out.size)).grown hg1 (by rw [hzN]; have := B3.out.size; omega) (fun x hx => (hownN.lt x hx).1)
           obtain ⟨A5, c5, rfl, _, _⟩ := slice_of_own hown1
           have HO5 := hide hown1
           have HA5 := Lib.hid hats5
           have HB5 := hide hb5
           clear hgN hbN hzN hownN hown1 hg1 hat1 hats5 hb5))
      go_roundw
      case rel => exact ⟨k + 1, _, A5, c5, by omega, by go_num, rfl, HO5.out, HA5.out, HB5.out⟩
      case measure => simp [intOf]; omega
    · have hkl : k = l.length := by omega
      subst hkl
      have hk1 : ¬ (l.length : Int) < (l.length : Int) := by omega
      rw [List.take_of_length_le (Nat.le_refl _)] at hats
      have HF1 := hide hown
      have HF2 := Lib.hid hats
      have HF3 := hide hbel
      clear hown hats hbel
      go_wp2
      go_ret
      exact ⟨_, rfl, ⟨vsN, HF1.out, HF2.out⟩, HF3.out⟩
end Go.Proofs.YtnfclcbhehbchaaGreatDoor
