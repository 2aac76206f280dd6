/- attrs.Missing and the reference's Missing: the types of which there are no attributes. -/
import Derived.Test.YtnfclcbhehbchaaGreatDoorLsC
import Derived.Lib.SliceRun
set_option autoImplicit false
namespace Go.Proofs.YtnfclcbhehbchaaGreatDoor
open Go.RowKit

def hasD (l : List AttrD) (k : Int) : Bool := (findD l k).isSome
def missD (l : List AttrD) (ks : List Int) : List Int := ks.filter (fun k => !hasD l k)
theorem miss_in {l : List AttrD} {ks : List Int} {k : Nat} {x : Int} (h : ks[k]? = some x) (hm : hasD l x = false) : missD l (ks.take (k + 1)) = missD l (ks.take k) ++ [x] := by
  unfold missD
  rw [List.take_add_one, h, List.filter_append]
  simp [hm]
theorem miss_out {l : List AttrD} {ks : List Int} {k : Nat} {x : Int} (h : ks[k]? = some x) (hm : hasD l x = true) : missD l (ks.take (k + 1)) = missD l (ks.take k) := by
  unfold missD
  rw [List.take_add_one, h, List.filter_append]
  simp [hm]
/-- A slice of whole numbers that can be read. -/
def SlI (w : World) (v : Value) (l : List Int) : Prop := ∃ A c, v = .slice A l.length c ∧ Reads w w.heap.size 1 A l.length (iV l)
theorem int_infoI : (Tryz.prog.info? 3).map (fun i => (i.zero, i.size, i.bytes)) = some (some (.int .i64 0), 1, 8) := by kernel_rfl
set_option maxHeartbeats 400000 in
/-- slices.Clone of whole numbers: a row of the call's own. -/
theorem cloneI_any (A : Option Addr) (c : Nat) (l : List Int) (w : World) (h : Reads w w.heap.size 1 A l.length (iV l)) (hn : l.length ≤ 1000000) :
    Calls Tryz.prog 29 #[.slice A l.length c] w fun e w' => ∃ A' c', e = .returned (.slice A' l.length c') ∧ l.length ≤ c' ∧ c' ≤ maxLen ∧
      w'.ownsRow w.heap.size 3 1 (.slice A' l.length c') l.length (iV l) ∧ Below w.heap.size w w' := by
  obtain ⟨i0, hi0, hz0, hz1, hz2⟩ := info_parts int_infoI
  have qT : ∀ (w : World) (a : Option Addr) (n c n' c' : Nat), (binOp .eql 23 (.slice a n c) (.slice none n' c')).run Tryz.prog w = .ok (.bool a.isNone) w := fun w a n c n' c' => Lib.run_eql_slice_nil w _ _ a n c n' c' Tryz.underlying23
  rcases A with _ | ad
  · have h0 : l = [] := by
      rcases List.eq_nil_or_concat l with e | ⟨l', x, e⟩
      · exact e
      · obtain ⟨ad, e', _⟩ := h.2 (by rw [e]; simp)
        cases e'
    subst h0
    go_enter Tryz.func29, Tryz.ntmps29
    go_wp2
    go_ret
    exact ⟨none, 0, rfl, Nat.le_refl _, by simp [maxLen], World.ownsRow_nil _ _ _ _, Below.refl _ _⟩
  · go_enter Tryz.func29, Tryz.ntmps29
    go_wp2_with (first
      | (at_builtin
         refine wpList_append_any _ rfl (.tmp 5) (.tmp 6) _ rfl w.heap.size 3 i0 _ 1 8 Tryz.underlying23 hi0 hz0 hz1 hz2 rfl (by omega) _ 0 [] rfl
           (World.ownsRow_lit w #[] 0 (Nat.le_refl _) (by simp [maxLen]) (by simp)) w.heap.size (some ad) l.length c (iV l) rfl ((h.alloc (Nat.le_refl _) _)) (iV_one l) (by simp only [maxLen]; omega) (by omega) (by simp) ?_
         intro v1 w1 hown1 hg1 hat1))
    go_ret
    have hb1 : Below w.heap.size w w1 := ((Below.refl _ _).alloc (Nat.le_refl _) _).grown hg1 (by simp) (fun k hk => by have e : w.heap.size = k := Option.some.inj hk; omega)
    simp only [Nat.zero_add, List.nil_append] at hown1
    obtain ⟨A', c', rfl, h1, h2⟩ := slice_of_own hown1
    exact ⟨A', c', rfl, h1, h2, hown1, hb1⟩
set_option maxRecDepth 100000 in
set_option maxHeartbeats 4000000 in
theorem missC_any (A : Option Addr) (c : Nat) (l : List AttrD) (k : Int) (b : Nat) (w : World) (h : AttrsC w w.heap.size A l) (hl : l.length ≤ 1000) (hm : ∀ d ∈ l, Small d) (hb : w.cell? ⟨b, 0, none⟩ = some (.slice A l.length c)) :
    Calls Tryz.prog 30 #[.int .i64 k, .pointer (some ⟨b, 0, none⟩)] w fun e w' => e = .returned (.bool (hasD l k)) ∧ Below w.heap.size w w' := by
  have hf := find_any A c l k w h hl hm
  have HF := hide hf
  have hbl := World.block_lt_of_cell? w ⟨b, 0, none⟩ hb
  clear hf h hm
  go_enter Tryz.func30, Tryz.ntmps30
  go_wp2_with (first
    | (go_at_call 13; refine HF.out.mono ?_; rintro e w1 ⟨cs, rfl, ha, hb1⟩
       have hn := attrC_type ha
       have h9 : (Tryz.prog.info? 38).map (·.size) = some cs.size := by rw [hn.2]; exact attr_size
       have HN := Lib.hid hn.2
       have H9 := Lib.hid h9
       have ho := attrC_one ha
       have HO := Lib.hid ho
       have HB1 := hide hb1
       clear hb1 hn h9 ho ha)
    | ((with_reducible refine wpList_store_whole (w1.alloc (.cells #[.int .i64 0, .bool false, .int .u32 0, .int .u32 0, .slice none 0 0, .slice none 0 0, .slice none 0 0, .int .i64 0, .slice none 0 0] 38)) ?hg2 38 (.tmp 4) (.tmp 10) ?ho2 w1.heap.size 38 #[.int .i64 0, .bool false, .int .u32 0, .int .u32 0, .slice none 0 0, .slice none 0 0, .slice none 0 0, .int .i64 0, .slice none 0 0] cs ?hx2 ?hp2 (heap_alloc_new _ _) ?hi2 ?hs2 ?hq2 ?_); (case hg2 => rfl); (case ho2 => rfl); (case hx2 => rfl); (case hp2 => rfl); (case hs2 => exact HN.out.symm); (case hi2 => exact H9.out); (case hq2 => exact HO.out)
       intro W2 G2 O2
       have B2 := hide ((HB1.out.alloc HB1.out.size _).grown O2.out (by simp; have := HB1.out.size; omega) (fun x hx => by injection hx; have := HB1.out.size; omega))
       clear O2))
  go_ret
  exact ⟨rfl, B2.out⟩
set_option maxRecDepth 100000 in
set_option maxHeartbeats 4000000 in
theorem indexM_any (A K : Option Addr) (c ck : Nat) (l : List AttrD) (ks : List Int) (b B : Nat) (w : World) (h : AttrsC w B A l) (hBw : B ≤ w.heap.size) (hl : l.length ≤ 1000) (hm : ∀ d ∈ l, Small d) (hb : w.cell? ⟨b, 0, none⟩ = some (.slice A l.length c))
    (hk : Reads w w.heap.size 1 K ks.length (iV ks)) (hkl : ks.length ≤ 1000000) :
    Calls Tryz.prog 51 #[.slice K ks.length ck, .func (.func 30) #[] #[.pointer (some ⟨b, 0, none⟩)]] w fun e w' =>
      ∃ j : Int, e = .returned (.int .i64 j) ∧ ((∃ (n : Nat) (x : Int), j = n ∧ ks[n]? = some x ∧ hasD l x = true ∧ missD l (ks.take n) = ks.take n) ∨ j = -1 ∧ missD l ks = ks) ∧ Below w.heap.size w w' := by
  have hblt : b < w.heap.size := World.block_lt_of_cell? w ⟨b, 0, none⟩ hb
  have H := Lib.hid h
  have HM := Lib.hid hm
  have HK := Lib.hid hk
  have HBC := Lib.hid hb
  clear h hm hk hb
  go_enter Tryz.func51, Tryz.ntmps51
  go_wp2_with fail
  go_loopw [8] (fun i wr => ∃ n : Nat, n ≤ ks.length ∧ i = .int .i64 n ∧ Hid (missD l (ks.take n) = ks.take n) ∧ Below w.heap.size w wr) (fun i _ => ks.length - (intOf i).toNat)
  case atStart => exact ⟨0, Nat.zero_le _, rfl, by show _ = _; simp [missD], Below.refl _ _⟩
  case round =>
    obtain ⟨n, hn, rfl, hall, hbel⟩ := hrel
    obtain ⟨wo, rfl⟩ : ∃ wo : World, wo = wr := ⟨_, rfl⟩
    have hk0 : (0 : Int) ≤ (n : Int) := Int.natCast_nonneg _
    by_cases hlt : n < ks.length
    · obtain ⟨ap, u, rfl, hap, hx, hc⟩ := (HK.out.below hbel).at_ hlt
      obtain ⟨x, hx1, rfl⟩ := iV_get hx
      have hk1 : (n : Int) < (ks.length : Int) := by omega
      have hf := missC_any A c l x b wo ((H.out.below (hbel.mono hBw)).more (Nat.le_trans hBw hbel.size)) hl HM.out (cell_below HBC.out hbel)
      have HBE := hide hbel
      have HX := Lib.hid hx1
      clear hbel hx hx1
      by_cases hb : hasD l x = true
      · rw [hb] at hf
        have HF := hide hf
        have HBB := Lib.hid hb
        clear hf hb
        go_wp2_with (go_at_call 30; refine HF.out.mono ?_; rintro e w1 ⟨rfl, hb1⟩; have B1 := hide (HBE.out.trans (hb1.mono HBE.out.size)); clear hb1)
        go_ret
        exact ⟨n, rfl, .inl ⟨n, x, rfl, HX.out, HBB.out, hall.out⟩, B1.out⟩
      · have hb' : hasD l x = false := by simpa using hb
        rw [hb'] at hf
        have HF := hide hf
        have HBB := Lib.hid hb'
        clear hf hb hb'
        go_wp2_with (go_at_call 30; refine HF.out.mono ?_; rintro e w1 ⟨rfl, hb1⟩; have B1 := hide (HBE.out.trans (hb1.mono HBE.out.size)); clear hb1)
        go_roundw
        case rel => exact ⟨n + 1, by omega, by go_num, (by rw [miss_in HX.out HBB.out, hall.out, List.take_add_one, HX.out]; rfl : missD l (ks.take (n + 1)) = ks.take (n + 1)), B1.out⟩
        case measure => simp [intOf]; omega
    · have he : missD l ks = ks := by have := hall.out; rwa [List.take_of_length_le (by omega)] at this
      have HE := Lib.hid he
      have HBE := hide hbel
      have hk1 : ¬ (n : Int) < (ks.length : Int) := by omega
      clear hbel he
      go_wp2
      go_ret
      exact ⟨-1, rfl, .inr ⟨rfl, HE.out⟩, HBE.out⟩
theorem setCells_keep : ∀ {vs : List Value} {w : World} {g o : Nat} {t : TypeId} {cur : Array Value}, Blk w g t cur → ∃ cur', Blk (w.setCells g o vs) g t cur' ∧ (∀ i, i < o → cur'[i]? = cur[i]?) ∧ w.grownBy (w.setCells g o vs) (some g)
  | [], w, g, o, t, cur, h => ⟨cur, h, fun _ _ => rfl, World.grownBy.refl w _⟩
  | v :: r, w, g, o, t, cur, h => by
    obtain ⟨cur', h1, h2, h3⟩ := setCells_keep (vs := r) (o := o + 1) (h.set_ o v)
    refine ⟨cur', h1, fun i hi => ?_, ?_⟩
    · rw [h2 i (by omega), Array.getElem?_setIfInBounds]
      simp [show o ≠ i by omega]
    · exact (only_setCell (World.grownBy.refl w _) (.inl rfl) v).andThen h3 (fun j hj => by cases hj; exact .inr rfl)
/-- A row of numbers, of which F stands in front, and ks from k on. -/
structure DelR (w : World) (g : Nat) (ks F : List Int) (k : Nat) (cur : Array Value) : Prop where
  blk : Blk w g 3 cur
  len : ks.length ≤ cur.size
  fst : ∀ (a : Nat) (x : Int), F[a]? = some x → cur[a]? = some (.int .i64 x)
  snd : ∀ (a : Nat) (x : Int), k ≤ a → ks[a]? = some x → cur[a]? = some (.int .i64 x)
set_option maxRecDepth 100000 in
set_option maxHeartbeats 8000000 in
theorem delete_any (A K : Option Addr) (c ck : Nat) (l : List AttrD) (ks : List Int) (b lo : Nat) (w : World) (h : AttrsC w lo A l) (hlo : lo ≤ w.heap.size) (hl : l.length ≤ 1000) (hm : ∀ d ∈ l, Small d) (hbl : b < lo) (hb : w.cell? ⟨b, 0, none⟩ = some (.slice A l.length c))
    (hk : w.ownsRow lo 3 1 (.slice K ks.length ck) ks.length (iV ks)) (hkl : ks.length ≤ 1000000) :
    Calls Tryz.prog 28 #[.slice K ks.length ck, .func (.func 30) #[] #[.pointer (some ⟨b, 0, none⟩)]] w fun e w' => ∃ v, e = .returned v ∧ SlI w' v (missD l ks) ∧ Below lo w w' := by
  have hI := indexM_any A K c ck l ks b lo w h hlo hl hm hb (Reads.of_own hk) hkl
  have HI := hide hI
  have H := Lib.hid h
  have HM := Lib.hid hm
  have HK := hide hk
  have HBC := Lib.hid hb
  clear h hm hk hb hI
  go_enter Tryz.func28, Tryz.ntmps28
  go_wp2_with fail
  refine HI.out.mono ?_
  rintro e w1 ⟨j, rfl, hj, hb1⟩
  have HB1 := hide hb1
  clear hb1 HI
  rcases hj with ⟨n, x, rfl, hx, hh, hpre⟩ | ⟨rfl, he⟩
  · have hn := (List.getElem?_eq_some_iff.1 hx).1
    obtain ⟨hlen, hrow⟩ := HK.out
    rcases hrow with ⟨e0, hz⟩ | ⟨g, cap0, cur, e0, hg, hh0, hc1, hc2, hcs, htk⟩
    · omega
    · injection e0 with e1 e2 e3
      subst e1
      subst e3
      have hcur : ∀ (a : Nat) (y : Int), ks[a]? = some y → cur[a]? = some (.int .i64 y) := fun a y hy => by
        have ha := (List.getElem?_eq_some_iff.1 hy).1
        have hv : (iV ks)[a]? = some (.int .i64 y) := by rw [iV, List.getElem?_map, hy]; rfl
        rw [← htk] at hv
        rw [List.getElem?_take_of_lt (by omega)] at hv
        simpa using hv
      have hst : DelR w1 g ks (ks.take n) (n + 1) cur := ⟨Blk.below (t := 3) (cs := cur) hh0 HB1.out (lt_of_heapF hh0), by omega, fun a y hy => by
        have ha := (List.getElem?_eq_some_iff.1 hy).1
        rw [List.length_take] at ha
        rw [List.getElem?_take_of_lt (by omega)] at hy
        exact hcur a y hy, fun a y _ hy => hcur a y hy⟩
      have hF : ks.take n = missD l (ks.take (n + 1)) := by rw [miss_out hx hh]; exact hpre.symm
      have hFl : (ks.take n).length = n := by rw [List.length_take]; omega
      have HST := Lib.hid hst
      have HF := Lib.hid hF
      have HFL := Lib.hid hFl
      have hn1 : ((n : Int) == -1) = false := by simp
      have hn0 : (0 : Int) ≤ (n : Int) := Int.natCast_nonneg _
      clear hx hh hpre hlen hh0 hcs htk hcur hst hF hFl HK
      go_wp2_with fail
      go_loopw [5, 6] (fun i j wr => ∃ (k : Nat) (F : List Int) (cur : Array Value), k ≤ ks.length ∧ F.length < k ∧ Hid (F = missD l (ks.take k)) ∧ j = .int .i64 k ∧ i = .int .i64 F.length ∧ Hid (DelR wr g ks F k cur) ∧ Below lo w wr) (fun _ j _ => ks.length - (intOf j).toNat)
      case atStart => exact ⟨n + 1, ks.take n, cur, hn, by rw [HFL.out]; omega, HF.out, by go_num, by rw [HFL.out], HST.out, HB1.out.mono hlo⟩
      case round =>
        clear HST HF HFL
        obtain ⟨k, F, cu, hk, hFk, hF, rfl, rfl, hD, hbel⟩ := hrel
        obtain ⟨wo, rfl⟩ : ∃ wo : World, wo = wr := ⟨_, rfl⟩
        have hk0 : (0 : Int) ≤ (k : Int) := Int.natCast_nonneg _
        have hf0 : (0 : Int) ≤ (F.length : Int) := Int.natCast_nonneg _
        by_cases hlt : k < ks.length
        · obtain ⟨y, hy⟩ : ∃ y, ks[k]? = some y := ⟨_, List.getElem?_eq_getElem hlt⟩
          have hc : wo.cell? ⟨g, k, none⟩ = some (.int .i64 y) := by rw [hD.out.blk.cell]; exact hD.out.snd k y (Nat.le_refl _) hy
          have hk1 : (k : Int) < (ks.length : Int) := by omega
          have hwz := hbel.size
          have hf := missC_any A c l y b wo ((H.out.below hbel).more (Nat.le_trans hlo hwz)) hl HM.out ((hbel.cell (p := ⟨b, 0, none⟩) hbl).trans HBC.out)
          have HBE := hide hbel
          have HY := Lib.hid hy
          clear hbel hy
          by_cases hb : hasD l y = true
          · rw [hb] at hf
            have HF := hide hf
            have HBB := Lib.hid hb
            clear hf hb
            go_wp2_with (go_at_call 30; refine HF.out.mono ?_; rintro e w2 ⟨rfl, hb2⟩
                         have B2 := hide (HBE.out.trans (hb2.mono (Nat.le_trans hlo HBE.out.size)))
                         have hD2 : DelR w2 g ks F (k + 1) cu := ⟨hD.out.blk.below hb2 hD.out.blk.lt, hD.out.len, hD.out.fst, fun a x ha => hD.out.snd a x (by omega)⟩
                         have HD2 := Lib.hid hD2
                         clear hb2 hD2)
            go_roundw
            case rel => exact ⟨k + 1, F, cu, by omega, by omega, (by rw [hF.out, miss_out HY.out HBB.out] : F = missD l (ks.take (k + 1))), by go_num, rfl, HD2.out, B2.out⟩
            case measure => simp [intOf]; omega
          · have hb' : hasD l y = false := by simpa using hb
            rw [hb'] at hf
            have HF := hide hf
            have HBB := Lib.hid hb'
            have hf1 : (F.length : Int) < (ks.length : Int) := by omega
            clear hf hb hb'
            go_wp2_with (go_at_call 30; refine HF.out.mono ?_; rintro e w2 ⟨rfl, hb2⟩
                         have B2 := hide (HBE.out.trans (hb2.mono (Nat.le_trans hlo HBE.out.size)))
                         have hbk := hD.out.blk.below hb2 hD.out.blk.lt
                         have hcf : ∃ z, w2.cell? ⟨g, F.length, none⟩ = some z := by rw [hbk.cell]; exact ⟨_, Array.getElem?_eq_getElem (by have := hD.out.len; omega)⟩
                         obtain ⟨z, hcf⟩ := hcf
                         have hfz := hbk.frozen F.length
                         have hD2 : DelR (w2.setCell ⟨g, F.length, none⟩ (.int .i64 y)) g ks (F ++ [y]) (k + 1) (cu.setIfInBounds F.length (.int .i64 y)) := ⟨hbk.set_ _ _, by rw [Array.size_setIfInBounds]; exact hD.out.len, fun a x ha => by
                           rw [Array.getElem?_setIfInBounds]
                           by_cases e : F.length = a
                           · subst e
                             rw [List.getElem?_append_right (Nat.le_refl _), Nat.sub_self] at ha
                             have : y = x := by simpa using ha
                             subst this
                             rw [if_pos rfl, if_pos (by have := hD.out.len; omega)]
                           · rw [if_neg e]
                             have ha' := (List.getElem?_eq_some_iff.1 ha).1
                             rw [List.length_append] at ha'
                             rw [List.getElem?_append_left (by simp at ha'; omega)] at ha
                             exact hD.out.fst a x ha, fun a x ha hx => by
                           rw [Array.getElem?_setIfInBounds, if_neg (by omega)]
                           exact hD.out.snd a x (by omega) hx⟩
                         have B3 := hide (B2.out.grown (only_setCell (p := ⟨g, F.length, none⟩) (World.grownBy.refl w2 (some g)) (.inl rfl) (.int .i64 y)) (Nat.le_trans hlo B2.out.size) (fun x hx => by injection hx with hx; omega))
                         have HD2 := Lib.hid hD2
                         clear hb2 hD2 hbk)
            go_roundw
            case rel => exact ⟨k + 1, F ++ [y], _, by omega, by simp; omega, (by rw [hF.out, miss_in HY.out HBB.out] : F ++ [y] = missD l (ks.take (k + 1))), by go_num, by simp, HD2.out, B3.out⟩
            case measure => simp [intOf]; omega
        · have hkn : k = ks.length := by omega
          have hkn1 : ¬ (k : Int) < (ks.length : Int) := by omega
          have hPe : F = missD l ks := by have := hF.out; rwa [List.take_of_length_le (by omega)] at this
          have hclr : ∀ ty, (Builtin.clear_ #[23] ty #[.slice (some ⟨g, F.length, none⟩) (ks.length - F.length) (ck - F.length)]).run Tryz.prog wo = .ok (.tuple #[]) (wo.setCells g F.length (List.replicate (ks.length - F.length) (.int .i64 0))) := fun ty =>
            Lib.run_clear_slice wo 23 3 ty (.int .i64 0) Tryz.underlying23 Tryz.zeroValue3 rfl rfl g F.length _ _ (by omega) (fun j hj => by rw [hD.out.blk.cell, Array.getElem?_eq_getElem (by have := hD.out.len; omega)]; rfl) (fun j _ => hD.out.blk.frozen _)
          have hf1 : (F.length : Int) ≤ (ks.length : Int) := by omega
          have hf2 : (F.length : Int) ≤ (ck : Int) := by omega
          have hf3 : F.length ≤ ks.length := by omega
          have hf4 : F.length ≤ ck := by omega
          obtain ⟨cur', g1, g2, g3⟩ := setCells_keep (vs := List.replicate (ks.length - F.length) (.int .i64 0)) (o := F.length) hD.out.blk
          have hsl : SlI (wo.setCells g F.length (List.replicate (ks.length - F.length) (.int .i64 0))) (.slice (some ⟨g, 0, none⟩) F.length ck) F := ⟨some ⟨g, 0, none⟩, ck, rfl, by rw [iV_len]; simp, fun _ => ⟨⟨g, 0, none⟩, rfl, g1.lt, fun j u hu => by
            obtain ⟨x, hx, rfl⟩ := iV_get hu
            have hj := (List.getElem?_eq_some_iff.1 hx).1
            have e : (Addr.add ⟨g, 0, none⟩ j) = ⟨g, j, none⟩ := by simp [Addr.add]; omega
            rw [e, g1.cell, g2 j hj]
            exact hD.out.fst j x hx⟩⟩
          have hbz := hbel.grown g3 (Nat.le_trans hlo hbel.size) (fun x hx => by injection hx with hx; omega)
          have HSL := Lib.hid hsl
          have HBZ := hide hbz
          have HPE := Lib.hid hPe
          clear g1 g2 g3 hsl hbz hbel hD hF hPe
          go_wp2
          go_ret
          exact ⟨_, rfl, by rw [← HPE.out]; exact HSL.out, HBZ.out⟩
  · have hr : SlI w1 (.slice K ks.length ck) ks := ⟨K, ck, rfl, Reads.of_own (own_keep HK.out (fun b hb => HB1.out.block b (HK.out.lt b hb).2))⟩
    have HR := Lib.hid hr
    have HE := Lib.hid he
    clear hr he
    go_wp2
    go_ret
    exact ⟨_, rfl, by rw [HE.out]; exact HR.out, HB1.out.mono hlo⟩
set_option maxRecDepth 100000 in
set_option maxHeartbeats 4000000 in
theorem missing_any (A K : Option Addr) (c ck : Nat) (l : List AttrD) (ks : List Int) (w : World) (h : AttrsC w w.heap.size A l) (hl : l.length ≤ 1000) (hm : ∀ d ∈ l, Small d) (hk : Reads w w.heap.size 1 K ks.length (iV ks)) (hkl : ks.length ≤ 1000000) :
    Calls Tryz.prog 11 #[.slice A l.length c, .slice K ks.length ck] w fun e w' => ∃ v, e = .returned v ∧ SlI w' v (missD l ks) ∧ Below w.heap.size w w' := by
  have hb : Below w.heap.size w (w.alloc (.cells #[.slice A l.length c] 22)) := (Below.refl _ _).alloc (Nat.le_refl _) _
  have hcl := cloneI_any K ck ks (w.alloc (.cells #[.slice A l.length c] 22)) ((hk.below hb).more hb.size) hkl
  have hz : (w.alloc (.cells #[.slice A l.length c] 22)).heap.size = w.heap.size + 1 := by simp
  have hc0 : (w.alloc (.cells #[.slice A l.length c] 22)).cell? ⟨w.heap.size, 0, none⟩ = some (.slice A l.length c) := by rw [cell_of_row _ _ 0 _ _ _ (heap_alloc_new w _)]; rfl
  have H1 := Lib.hid ((h.below hb).more hb.size)
  have HM := Lib.hid hm
  have HCL := hide hcl
  have HZ := Lib.hid hz
  have HC0 := Lib.hid hc0
  have HB := hide hb
  clear hb h hm hk hcl hz hc0
  go_enter Tryz.func11, Tryz.ntmps11
  go_wp2_with (first
    | (go_at_call 29; refine HCL.out.mono ?_; rintro e w1 ⟨K', c', rfl, _, _, ho, hb1⟩
       have hlt1 := hb1.size
       have hx := delete_any A K' c c' l ks w.heap.size (w.alloc (.cells #[.slice A l.length c] 22)).heap.size w1 (H1.out.below hb1) hlt1 (by omega) HM.out (by rw [HZ.out]; omega) (cell_below HC0.out hb1) ho hkl
       have HX := hide hx
       have HB1 := hide (HB.out.trans (hb1.mono HB.out.size))
       clear hx ho hb1 hlt1)
    | (go_at_call 28; refine HX.out.mono ?_; rintro e w2 ⟨v, rfl, hs, hb2⟩
       have HS := Lib.hid hs
       have HB2 := hide (HB1.out.trans (hb2.mono (by rw [HZ.out]; omega)))
       clear hs hb2))
  go_ret
  exact ⟨_, rfl, HS.out, HB2.out⟩
set_option maxRecDepth 100000 in
set_option maxHeartbeats 8000000 in
theorem rmissing_any (A K : Option Addr) (c ck : Nat) (l : List AttrD) (ks : List Int) (w : World) (h : AttrsC w w.heap.size A l) (hl : l.length ≤ 1000) (hk : Reads w w.heap.size 1 K ks.length (iV ks)) (hkl : ks.length ≤ 1000000) :
    Calls Tryz.prog 12 #[.slice A l.length c, .slice K ks.length ck] w fun e w' => ∃ v, e = .returned v ∧ SlI w' v (missD l ks) ∧ Below w.heap.size w w' := by
  obtain ⟨i0, hi0, hz0, hz1, hz2⟩ := info_parts int_infoI
  have H := Lib.hid h
  have HK := Lib.hid hk
  clear h hk
  go_enter Tryz.func12, Tryz.ntmps12
  go_wp2_with fail
  go_loopw [5, 6] (fun v i wr => ∃ (k : Nat) (F : List Int) (Ao : Option Addr) (co : Nat), k ≤ ks.length ∧ F.length ≤ k ∧ Hid (F = missD l (ks.take k)) ∧ i = .int .i64 k ∧ v = .slice Ao F.length co ∧ wr.ownsRow w.heap.size 3 1 (.slice Ao F.length co) F.length (iV F) ∧ Below w.heap.size w wr) (fun _ i _ => ks.length - (intOf i).toNat)
  case atStart => exact ⟨0, [], none, 0, Nat.zero_le _, Nat.le_refl _, by show _ = _; simp [missD], rfl, rfl, World.ownsRow_nil _ _ _ _, Below.refl _ _⟩
  case round =>
    obtain ⟨k, F, Ao, co, hkk, hFk, hF, rfl, rfl, hown, hbel⟩ := hrel
    obtain ⟨wo, rfl⟩ : ∃ wo : World, wo = wr := ⟨_, rfl⟩
    have hk0 : (0 : Int) ≤ (k : Int) := Int.natCast_nonneg _
    by_cases hlt : k < ks.length
    · obtain ⟨ap, u, rfl, hap, hx, hc⟩ := (HK.out.below hbel).at_ hlt
      obtain ⟨y, hy, rfl⟩ := iV_get hx
      have hk1 : (k : Int) < (ks.length : Int) := by omega
      have hwz := hbel.size
      have hf := rfind_any A c l y wo ((H.out.below hbel).more hwz) hl
      have e0 : (findD l y).isSome = hasD l y := rfl
      rw [e0] at hf
      have HBE := hide hbel
      have HY := Lib.hid hy
      have HC := Lib.hid hc
      have HAP := Lib.hid (show (ap.add k).block < w.heap.size by rw [block_of_add]; exact hap)
      have HOWN := hide hown
      clear hbel hx hy hown e0
      obtain ⟨q, hq⟩ : ∃ q, hasD l y = q := ⟨_, rfl⟩
      rw [hq] at hf
      have HF := hide hf
      have HQ := Lib.hid hq
      clear hf hq
      cases q
      · go_wp2_with (first
          | (go_at_call 14; refine HF.out.mono ?_; rintro e w1 ⟨cs, rfl, ha, hb1⟩
             have hn := attrC_type ha
             have h9 : (Tryz.prog.info? 38).map (·.size) = some cs.size := by rw [hn.2]; exact attr_size
             have HN := Lib.hid hn.2
             have H9 := Lib.hid h9
             have ho := attrC_one ha
             have HO := Lib.hid ho
             have HB1 := hide hb1
             clear hb1 hn h9 ho ha)
          | ((with_reducible refine wpList_store_whole (w1.alloc (.cells #[.int .i64 0, .bool false, .int .u32 0, .int .u32 0, .slice none 0 0, .slice none 0 0, .slice none 0 0, .int .i64 0, .slice none 0 0] 38)) ?hg2 38 (.tmp 7) (.tmp 22) ?ho2 w1.heap.size 38 #[.int .i64 0, .bool false, .int .u32 0, .int .u32 0, .slice none 0 0, .slice none 0 0, .slice none 0 0, .int .i64 0, .slice none 0 0] cs ?hx2 ?hp2 (heap_alloc_new _ _) ?hi2 ?hs2 ?hq2 ?_); (case hg2 => rfl); (case ho2 => rfl); (case hx2 => rfl); (case hp2 => rfl); (case hs2 => exact HN.out.symm); (case hi2 => exact H9.out); (case hq2 => exact HO.out)
             intro W2 G2 O2
             have b2 := (HB1.out.alloc HB1.out.size (.cells #[.int .i64 0, .bool false, .int .u32 0, .int .u32 0, .slice none 0 0, .slice none 0 0, .slice none 0 0, .int .i64 0, .slice none 0 0] 38)).grown O2.out (by simp; have := HB1.out.size; omega) (fun x hx => by injection hx; have := HB1.out.size; omega)
             have B2 := hide b2
             have hcc : W2.cell? (ap.add k) = some (.int .i64 y) := (b2.cell (Nat.lt_of_lt_of_le HAP.out hwz)).trans HC.out
             clear O2 b2)
          | (at_builtin
             have hbN : Below wo.heap.size wo (W2.alloc (.cells #[.int .i64 y] 3)) := B2.out.alloc B2.out.size _
             have hzN : (W2.alloc (.cells #[.int .i64 y] 3)).heap.size = W2.heap.size + 1 := alloc_szU _ _
             have hownN := own_keep HOWN.out (fun b hb => hbN.block b (HOWN.out.lt b hb).2)
             refine wpList_append_any _ rfl (.tmp 26) (.tmp 31) _ rfl w.heap.size 3 i0 _ 1 8 Tryz.underlying23 hi0 hz0 hz1 hz2 rfl (by omega) _ F.length (iV F) rfl hownN (W2.heap.size + 1) (some ⟨W2.heap.size, 0, none⟩) 1 1 [.int .i64 y] rfl
               ⟨by simp, fun _ => ⟨_, rfl, by show W2.heap.size < _; omega, fun j u hu => World.news_of_block (cs := #[.int .i64 y]) (heap_alloc_new _ _) j u (by simpa using hu)⟩⟩ (by simp [Value.oneCell']) (by simp only [maxLen]; omega) (by omega) (by rw [hzN]; have := B2.out.size; have := HBE.out.size; omega) ?_
             intro v1 W5 hown1 hg1 hat1
             have hb5 : Below w.heap.size w W5 := (HBE.out.trans (hbN.mono HBE.out.size)).grown hg1 (by rw [hzN]; have := B2.out.size; omega) (fun x hx => (hownN.lt x hx).1)
             obtain ⟨A5, c5, rfl, _, _⟩ := slice_of_own hown1
             have HO5 := hide hown1
             have HB5 := hide hb5
             clear hbN hzN hownN hown1 hg1 hat1 hb5))
        go_roundw
        case rel => exact ⟨k + 1, F ++ [y], A5, c5, by omega, by simp; omega, (by rw [hF.out, miss_in HY.out HQ.out] : F ++ [y] = missD l (ks.take (k + 1))), by go_num, by simp, by simpa [iV] using HO5.out, HB5.out⟩
        case measure => simp [intOf]; omega
      · go_wp2_with (first
          | (go_at_call 14; refine HF.out.mono ?_; rintro e w1 ⟨cs, rfl, ha, hb1⟩
             have hn := attrC_type ha
             have h9 : (Tryz.prog.info? 38).map (·.size) = some cs.size := by rw [hn.2]; exact attr_size
             have HN := Lib.hid hn.2
             have H9 := Lib.hid h9
             have ho := attrC_one ha
             have HO := Lib.hid ho
             have HB1 := hide hb1
             clear hb1 hn h9 ho ha)
          | ((with_reducible refine wpList_store_whole (w1.alloc (.cells #[.int .i64 0, .bool false, .int .u32 0, .int .u32 0, .slice none 0 0, .slice none 0 0, .slice none 0 0, .int .i64 0, .slice none 0 0] 38)) ?hg3 38 (.tmp 7) (.tmp 22) ?ho3 w1.heap.size 38 #[.int .i64 0, .bool false, .int .u32 0, .int .u32 0, .slice none 0 0, .slice none 0 0, .slice none 0 0, .int .i64 0, .slice none 0 0] cs ?hx3 ?hp3 (heap_alloc_new _ _) ?hi3 ?hs3 ?hq3 ?_); (case hg3 => rfl); (case ho3 => rfl); (case hx3 => rfl); (case hp3 => rfl); (case hs3 => exact HN.out.symm); (case hi3 => exact H9.out); (case hq3 => exact HO.out)
             intro W2 G2 O2
             have b2 := (HB1.out.alloc HB1.out.size (.cells #[.int .i64 0, .bool false, .int .u32 0, .int .u32 0, .slice none 0 0, .slice none 0 0, .slice none 0 0, .int .i64 0, .slice none 0 0] 38)).grown O2.out (by simp; have := HB1.out.size; omega) (fun x hx => by injection hx; have := HB1.out.size; omega)
             have ho5 := own_keep HOWN.out (fun b hb => b2.block b (HOWN.out.lt b hb).2)
             have HO5 := hide ho5
             have B2 := hide (HBE.out.trans (b2.mono HBE.out.size))
             clear O2 b2 ho5))
        go_roundw
        case rel => exact ⟨k + 1, F, Ao, co, by omega, by omega, (by rw [hF.out, miss_out HY.out HQ.out] : F = missD l (ks.take (k + 1))), by go_num, rfl, HO5.out, B2.out⟩
        case measure => simp [intOf]; omega
    · have hkn : k = ks.length := by omega
      subst hkn
      have hk1 : ¬ (ks.length : Int) < (ks.length : Int) := by omega
      have hPe : F = missD l ks := by have := hF.out; rwa [List.take_of_length_le (Nat.le_refl _)] at this
      subst hPe
      have hS : SlI wo (.slice Ao (missD l ks).length co) (missD l ks) := ⟨_, _, rfl, Reads.of_own hown⟩
      have HS := Lib.hid hS
      have HB := hide hbel
      clear hown hbel hS
      go_wp2
      go_ret
      exact ⟨_, rfl, HS.out, HB.out⟩
end Go.Proofs.YtnfclcbhehbchaaGreatDoor
