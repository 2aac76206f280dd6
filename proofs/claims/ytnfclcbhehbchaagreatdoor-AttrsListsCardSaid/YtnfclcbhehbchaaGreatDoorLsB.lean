/- attrs.Find and the reference's Find: the first attribute of a type. -/
import Derived.Test.YtnfclcbhehbchaaGreatDoorUpD
import Derived.Test.YtnfclcbhehbchaaGreatDoorLsA
set_option autoImplicit false
namespace Go.Proofs.YtnfclcbhehbchaaGreatDoor
open Go.RowKit

def findD (l : List AttrD) (k : Int) : Option AttrD := l.find? (fun d => d.ty == k)
def zeroA : AttrD := ⟨0, false, 0, 0, [], [], [], 0, []⟩
theorem find_hit {l : List AttrD} {n : Nat} {k : Int} {d : AttrD} (h : findD (l.take n) k = none) (hd : l[n]? = some d) (hp : d.ty = k) : findD l k = some d := by
  obtain ⟨hn, e⟩ := List.getElem?_eq_some_iff.1 hd
  unfold findD at *
  have h1 : l = l.take n ++ l.drop n := (List.take_append_drop n l).symm
  rw [h1, List.find?_append, h, Option.none_or, List.drop_eq_getElem_cons hn, e, List.find?_cons_of_pos (by simpa using hp)]
theorem find_succ {l : List AttrD} {n : Nat} {k : Int} {d : AttrD} (h : findD (l.take n) k = none) (hd : l[n]? = some d) (hp : d.ty ≠ k) : findD (l.take (n + 1)) k = none := by
  unfold findD at *
  rw [List.take_add_one, hd, List.find?_append, h, Option.none_or]
  simp only [Option.toList_some]
  rw [List.find?_cons_of_neg (by simpa using hp)]
  rfl
theorem find_end {l : List AttrD} {n : Nat} {k : Int} (h : findD (l.take n) k = none) (hn : l.length ≤ n) : findD l k = none := by rwa [List.take_of_length_le hn] at h
theorem find_get {l : List AttrD} {k : Int} {d : AttrD} (h : findD l k = some d) : d ∈ l := List.mem_of_find?_eq_some h
set_option maxRecDepth 100000 in
set_option maxHeartbeats 4000000 in
theorem findC_any (cs : Array Value) (t k : Int) (b : Nat) (w : World) (h0 : cs[0]? = some (.int .i64 t)) (hk : w.cell? ⟨b, 0, none⟩ = some (.int .i64 k)) :
    Calls Tryz.prog 32 #[.agg cs, .pointer (some ⟨b, 0, none⟩)] w fun e w' => e = .returned (.bool (t == k)) ∧ Below w.heap.size w w' := by
  have hb : Below w.heap.size w (w.alloc (.cells cs 38)) := (Below.refl _ _).alloc (Nat.le_refl _) _
  have c0 : (w.alloc (.cells cs 38)).cell? ⟨w.heap.size, 0, none⟩ = some (.int .i64 t) := by rw [cell_of_row _ _ 0 _ _ _ (heap_alloc_new w _)]; exact h0
  have c1 : (w.alloc (.cells cs 38)).cell? ⟨b, 0, none⟩ = some (.int .i64 k) := (World.cell?_alloc_lt w _ _ (World.block_lt_of_cell? w ⟨b, 0, none⟩ hk)).trans hk
  have HB := hide hb
  clear hb h0 hk
  go_enter Tryz.func32, Tryz.ntmps32
  go_wp2
  go_ret
  exact ⟨rfl, HB.out⟩
set_option maxRecDepth 100000 in
set_option maxHeartbeats 4000000 in
theorem indexA_any (A : Option Addr) (c : Nat) (l : List AttrD) (k : Int) (b : Nat) (w : World) (h : AttrsC w w.heap.size A l) (hl : l.length ≤ 140737488351232) (hk : w.cell? ⟨b, 0, none⟩ = some (.int .i64 k)) :
    Calls Tryz.prog 31 #[.slice A l.length c, .func (.func 32) #[] #[.pointer (some ⟨b, 0, none⟩)]] w fun e w' =>
      ∃ j : Int, e = .returned (.int .i64 j) ∧ ((∃ (n : Nat) (d : AttrD), j = n ∧ l[n]? = some d ∧ findD l k = some d) ∨ j = -1 ∧ findD l k = none) ∧ Below w.heap.size w w' := by
  have hblt : b < w.heap.size := World.block_lt_of_cell? w ⟨b, 0, none⟩ hk
  have H := Lib.hid h
  have HK := Lib.hid hk
  clear h hk
  go_enter Tryz.func31, Tryz.ntmps31
  go_wp2_with fail
  go_loopw [8] (fun i wr => ∃ n : Nat, n ≤ l.length ∧ i = .int .i64 n ∧ Hid (findD (l.take n) k = none) ∧ Below w.heap.size w wr) (fun i _ => l.length - (intOf i).toNat)
  case atStart => exact ⟨0, Nat.zero_le _, rfl, by show _ = _; simp [findD], Below.refl _ _⟩
  case round =>
    obtain ⟨n, hn, rfl, hall, hbel⟩ := hrel
    obtain ⟨wo, rfl⟩ : ∃ wo : World, wo = wr := ⟨_, rfl⟩
    have hk0 : (0 : Int) ≤ (n : Int) := Int.natCast_nonneg _
    by_cases hlt : n < l.length
    · obtain ⟨ad, cs, rfl, had, hc, ha, h9⟩ := (H.out.below hbel).at_ hlt
      obtain ⟨d, hd⟩ : ∃ d, l[n] = d := ⟨_, rfl⟩
      rw [hd] at ha
      have hd' : l[n]? = some d := by rw [List.getElem?_eq_getElem hlt, hd]
      have hty := (attrC_type ha).1
      have hsz : (Tryz.prog.info? 38).map (·.size) = some cs.length := by rw [h9]; exact attr_size
      have hk1 : (n : Int) < (l.length : Int) := by omega
      have hf := findC_any cs.toArray d.ty k b wo hty (cell_below HK.out hbel)
      have HC := Lib.hid hc
      have HSZ := Lib.hid hsz
      have HBE := hide hbel
      have HD := Lib.hid hd'
      clear hc ha h9 hsz hbel hd hd' hty
      by_cases hb : d.ty = k
      · rw [show (d.ty == k) = true by simpa using hb] at hf
        have HF := hide hf
        have HBB := Lib.hid hb
        clear hf hb
        go_wp2_with (first
          | ((with_reducible refine wpList_load_at wo ?hgd1 38 (.tmp 14) ?ho1 (ad.add (n * 9)) cs _ ?hx1 HC.out Tryz.underlying38 ?hd1 ?hi1 ?_); (case hgd1 => rfl); (case ho1 => rfl); (case hx1 => rfl); (case hd1 => rfl); (case hi1 => exact HSZ.out))
          | (go_at_call 32; refine HF.out.mono ?_; rintro e w1 ⟨rfl, hb1⟩; have B1 := hide (HBE.out.trans (hb1.mono HBE.out.size)); clear hb1))
        go_ret
        exact ⟨n, rfl, .inl ⟨n, d, rfl, HD.out, find_hit hall.out HD.out HBB.out⟩, B1.out⟩
      · rw [show (d.ty == k) = false by simpa using hb] at hf
        have HF := hide hf
        have HBB := Lib.hid hb
        clear hf hb
        go_wp2_with (first
          | ((with_reducible refine wpList_load_at wo ?hgd2 38 (.tmp 14) ?ho2 (ad.add (n * 9)) cs _ ?hx2 HC.out Tryz.underlying38 ?hd2 ?hi2 ?_); (case hgd2 => rfl); (case ho2 => rfl); (case hx2 => rfl); (case hd2 => rfl); (case hi2 => exact HSZ.out))
          | (go_at_call 32; refine HF.out.mono ?_; rintro e w1 ⟨rfl, hb1⟩; have B1 := hide (HBE.out.trans (hb1.mono HBE.out.size)); clear hb1))
        go_roundw
        case rel => exact ⟨n + 1, by omega, by go_num, find_succ hall.out HD.out HBB.out, B1.out⟩
        case measure => simp [intOf]; omega
    · have HE := Lib.hid (find_end hall.out (by omega))
      have HBE := hide hbel
      have hk1 : ¬ (n : Int) < (l.length : Int) := by omega
      clear hbel
      go_wp2
      go_ret
      exact ⟨-1, rfl, .inr ⟨rfl, HE.out⟩, HBE.out⟩
/-- What may be copied. -/
def Small (d : AttrD) : Prop := d.segs.length ≤ 1000000 ∧ (∀ s ∈ d.segs, s.2.length ≤ 1000000) ∧ d.list.length ≤ 1000000 ∧ d.byts.length ≤ 1000000 ∧ d.routes.length ≤ 1000000
theorem zeroA_C (w : World) (B : Nat) : AttrC w B #[.int .i64 0, .bool false, .int .u32 0, .int .u32 0, .slice none 0 0, .slice none 0 0, .slice none 0 0, .int .i64 0, .slice none 0 0] zeroA :=
  ⟨none, 0, none, 0, none, 0, none, 0, rfl, Path.nil_, Reads.none_, Reads.none_, Reads.none_⟩
set_option maxRecDepth 100000 in
set_option maxHeartbeats 8000000 in
theorem find_any (A : Option Addr) (c : Nat) (l : List AttrD) (k : Int) (w : World) (h : AttrsC w w.heap.size A l) (hl : l.length ≤ 1000) (hm : ∀ d ∈ l, Small d) :
    Calls Tryz.prog 13 #[.slice A l.length c, .int .i64 k] w fun e w' => ∃ cs, e = .returned (.tuple #[.agg cs, .bool (findD l k).isSome]) ∧ AttrC w' w'.heap.size cs ((findD l k).getD zeroA) ∧ Below w.heap.size w w' := by
  obtain ⟨W0, hW0⟩ : ∃ W0, W0 = (w.alloc (.cells #[.int .i64 k] 3)).alloc (.cells #[.int .i64 0, .bool false, .int .u32 0, .int .u32 0, .slice none 0 0, .slice none 0 0, .slice none 0 0, .int .i64 0, .slice none 0 0] 38) := ⟨_, rfl⟩
  have hg : W0.heap[w.heap.size + 1]? = some (.cells #[.int .i64 0, .bool false, .int .u32 0, .int .u32 0, .slice none 0 0, .slice none 0 0, .slice none 0 0, .int .i64 0, .slice none 0 0] 38 (0, 0)) := by rw [hW0]; exact heap_alloc2_new _ _ _
  have hg0 : W0.heap[w.heap.size]? = some (.cells #[.int .i64 k] 3 (0, 0)) := by rw [hW0]; exact heap_alloc2_old _ _ _
  have hb : Below w.heap.size w W0 := by rw [hW0]; exact ((Below.refl _ _).alloc (Nat.le_refl _) _).alloc (by simp) _
  have hx := indexA_any A c l k w.heap.size W0 ((h.below hb).more hb.size) (by omega) (by rw [cell_of_row _ _ 0 _ _ _ hg0]; rfl)
  have HW := Lib.hid hW0
  have HG := Lib.hid hg
  have HB := hide hb
  have HX := hide hx
  have H := Lib.hid h
  have HM := Lib.hid hm
  have has := attr_size
  have HAS := Lib.hid has
  clear hW0 hg hg0 hb has hx h hm
  go_enter Tryz.func13, Tryz.ntmps13
  go_wp2_with fail
  rw [← HW.out]
  refine HX.out.mono ?_
  rintro e w1 ⟨j, rfl, hj, h1⟩
  have g1 := (h1.block _ (lt_of_heapF HG.out)).trans HG.out
  have HG1 := Lib.hid g1
  have HB1 := hide (HB.out.trans (h1.mono HB.out.size))
  clear h1 g1 HX HG HB
  rcases hj with ⟨n, d, rfl, hd, hf⟩ | ⟨rfl, hf⟩
  · have hn : n < l.length := (List.getElem?_eq_some_iff.1 hd).1
    obtain ⟨ad, cs, rfl, had, hc, ha, h9⟩ := (H.out.below HB1.out).at_ hn
    have e1 : l[n] = d := (List.getElem?_eq_some_iff.1 hd).2
    rw [e1] at ha
    have hsz : (Tryz.prog.info? 38).map (·.size) = some cs.length := by rw [h9]; exact attr_size
    have hk0 : (0 : Int) ≤ (n : Int) := Int.natCast_nonneg _
    have hk1 : (n : Int) < (l.length : Int) := by omega
    have hmk := HM.out _ (List.mem_of_getElem? hd)
    have HC := Lib.hid hc
    have HSZ := Lib.hid hsz
    have HA := Lib.hid ha
    have HF := Lib.hid hf
    have HMK := Lib.hid hmk
    have hwz := HB1.out.size
    clear hc hsz ha hf hmk hd e1 h9
    go_wp2_with (first
      | ((with_reducible refine wpList_load_at w1 ?hg2 38 (.tmp 15) ?ho2 (ad.add (n * 9)) cs _ ?hx2 HC.out Tryz.underlying38 ?hd2 ?hi2 ?_); (case hg2 => rfl); (case ho2 => rfl); (case hx2 => rfl); (case hd2 => rfl); (case hi2 => exact HSZ.out))
      | (go_at_call 26
         refine (cloneA_any cs.toArray d w1 (HA.out.more hwz) HMK.out.1 HMK.out.2.1 HMK.out.2.2.1 HMK.out.2.2.2.1 HMK.out.2.2.2.2).mono ?_
         rintro e w2 ⟨cs', rfl, hoo, hb2⟩
         have g2 := (hb2.block _ (lt_of_heapF HG1.out)).trans HG1.out
         have HG2 := Lib.hid g2
         have HB2 := hide (HB1.out.trans (hb2.mono HB1.out.size))
         have hlt1 := lt_of_heapF HG1.out
         have HOO := Lib.hid hoo
         have hnine := hoo.nine
         have HN := Lib.hid hnine.1
         have HO := Lib.hid hnine.2
         have hsz2 : (Tryz.prog.info? 38).map (·.size) = some cs'.size := by rw [HN.out]; exact attr_size
         have HSZ2 := Lib.hid hsz2
         clear hb2 g2 hoo hnine hsz2)
      | ((with_reducible refine wpList_store_whole w2 ?hgd3 38 (.tmp 4) (.tmp 17) ?ho3 (w.heap.size + 1) 38 #[.int .i64 0, .bool false, .int .u32 0, .int .u32 0, .slice none 0 0, .slice none 0 0, .slice none 0 0, .int .i64 0, .slice none 0 0] cs' ?hx3 ?hp3 HG2.out ?hi3 ?hs3 ?hq3 ?_); (case hgd3 => rfl); (case ho3 => rfl); (case hx3 => rfl); (case hp3 => rfl); (case hs3 => exact HN.out.symm); (case hi3 => exact HSZ2.out); (case hq3 => exact HO.out)
         intro W2 G2 O2
         have B2 := hide (HB2.out.grown O2.out HB2.out.size (fun x hx => by injection hx; omega))
         have hoo2 := HOO.out.keep (w' := W2) (fun b h1 h2 => O2.out.block b h2 (by intro e; injection e; omega))
         have HOO2 := Lib.hid hoo2
         clear O2 hoo2))
    refine bodyPost_ret (v := .tuple #[.agg cs', .bool true]) (results_cellT (p := 4) (t := 5) rfl _ _ (w.heap.size + 1) 38 _ _ rfl rfl G2.out Tryz.underlying38 rfl HSZ2.out) rfl ⟨cs', by rw [HF.out]; rfl, by rw [HF.out]; exact HOO2.out.attrC, B2.out⟩
  · have HF := Lib.hid hf
    clear hf
    go_wp2_with (first
      | ((with_reducible refine wpList_store_whole w1 ?hgd2 38 (.tmp 4) (.tmp 12) ?ho2 (w.heap.size + 1) 38 #[.int .i64 0, .bool false, .int .u32 0, .int .u32 0, .slice none 0 0, .slice none 0 0, .slice none 0 0, .int .i64 0, .slice none 0 0] #[.int .i64 0, .bool false, .int .u32 0, .int .u32 0, .slice none 0 0, .slice none 0 0, .slice none 0 0, .int .i64 0, .slice none 0 0] ?hx2 ?hp2 HG1.out ?hi2 ?hs2 ?hq2 ?_); (case hgd2 => rfl); (case ho2 => rfl); (case hx2 => rfl); (case hp2 => rfl); (case hs2 => rfl); (case hi2 => exact HAS.out); (case hq2 => simp [Value.oneCell'])
         intro W2 G2 O2
         have B2 := hide (HB1.out.grown O2.out HB1.out.size (fun x hx => by injection hx; omega))
         clear O2))
    refine bodyPost_ret (v := .tuple #[.agg #[.int .i64 0, .bool false, .int .u32 0, .int .u32 0, .slice none 0 0, .slice none 0 0, .slice none 0 0, .int .i64 0, .slice none 0 0], .bool false]) (results_cellT (p := 4) (t := 5) rfl _ _ (w.heap.size + 1) 38 _ _ rfl rfl G2.out Tryz.underlying38 rfl HAS.out) rfl ⟨_, by rw [HF.out]; rfl, by rw [HF.out]; exact zeroA_C _ _, B2.out⟩
set_option maxRecDepth 100000 in
set_option maxHeartbeats 8000000 in
theorem rfind_any (A : Option Addr) (c : Nat) (l : List AttrD) (k : Int) (w : World) (h : AttrsC w w.heap.size A l) (hl : l.length ≤ 1000) :
    Calls Tryz.prog 14 #[.slice A l.length c, .int .i64 k] w fun e w' => ∃ cs, e = .returned (.tuple #[.agg cs, .bool (findD l k).isSome]) ∧ AttrC w' w'.heap.size cs ((findD l k).getD zeroA) ∧ Below w.heap.size w w' := by
  obtain ⟨W0, hW0⟩ : ∃ W0, W0 = w.alloc (.cells #[.int .i64 0, .bool false, .int .u32 0, .int .u32 0, .slice none 0 0, .slice none 0 0, .slice none 0 0, .int .i64 0, .slice none 0 0] 38) := ⟨_, rfl⟩
  have hg : W0.heap[w.heap.size]? = some (.cells #[.int .i64 0, .bool false, .int .u32 0, .int .u32 0, .slice none 0 0, .slice none 0 0, .slice none 0 0, .int .i64 0, .slice none 0 0] 38 (0, 0)) := by rw [hW0]; exact heap_alloc_new _ _
  have hb : Below w.heap.size w W0 := by rw [hW0]; exact (Below.refl _ _).alloc (Nat.le_refl _) _
  have HW := Lib.hid hW0
  have HG := Lib.hid hg
  have HB := hide hb
  have H := Lib.hid (h.below hb)
  have has := attr_size
  have HAS := Lib.hid has
  clear hW0 hg hb has h
  go_enter Tryz.func14, Tryz.ntmps14
  go_wp2_with fail
  rw [← HW.out]
  go_loop [6] (fun i => ∃ n : Nat, n ≤ l.length ∧ i = .int .i64 n ∧ Hid (findD (l.take n) k = none)) (fun i => l.length - (intOf i).toNat)
  case atStart => exact ⟨0, Nat.zero_le _, rfl, by show _ = _; simp [findD]⟩
  case round =>
    obtain ⟨n, hn, rfl, hall⟩ := hrel
    have hk0 : (0 : Int) ≤ (n : Int) := Int.natCast_nonneg _
    by_cases hlt : n < l.length
    · obtain ⟨ad, cs, rfl, had, hc, ha, h9⟩ := H.out.at_ hlt
      obtain ⟨d, hd⟩ : ∃ d, l[n] = d := ⟨_, rfl⟩
      rw [hd] at ha
      have hd' : l[n]? = some d := by rw [List.getElem?_eq_getElem hlt, hd]
      have hty : W0.cell? (ad.add (n * 9)) = some (.int .i64 d.ty) := by
        have := hc 0 _ (by simpa using (attrC_type ha).1)
        rwa [add_of_add, Nat.add_zero] at this
      have hsz : (Tryz.prog.info? 38).map (·.size) = some cs.length := by rw [h9]; exact attr_size
      have hsz2 : (Tryz.prog.info? 38).map (·.size) = some cs.toArray.size := by rw [List.size_toArray, h9]; exact attr_size
      have hk1 : (n : Int) < (l.length : Int) := by omega
      have hone := attrC_one ha
      have HC := Lib.hid hc
      have HSZ := Lib.hid hsz
      have HSZ2 := Lib.hid hsz2
      have HD := Lib.hid hd'
      have HA := Lib.hid ha
      have H9 := Lib.hid h9
      have HON := Lib.hid hone
      clear hc ha h9 hsz hsz2 hd hd' hone
      by_cases hb : d.ty = k
      · have b3 : (d.ty == k) = true := by simpa using hb
        have HBB := Lib.hid hb
        clear hb
        go_wp2_with (first
          | ((with_reducible refine wpList_load_at W0 ?hgd1 38 (.tmp 22) ?ho1 (ad.add (n * 9)) cs _ ?hx1 HC.out Tryz.underlying38 ?hd1 ?hi1 ?_); (case hgd1 => rfl); (case ho1 => rfl); (case hx1 => rfl); (case hd1 => rfl); (case hi1 => exact HSZ.out))
          | ((with_reducible refine wpList_store_whole W0 ?hgd3 38 (.tmp 4) (.tmp 23) ?ho3 w.heap.size 38 #[.int .i64 0, .bool false, .int .u32 0, .int .u32 0, .slice none 0 0, .slice none 0 0, .slice none 0 0, .int .i64 0, .slice none 0 0] cs.toArray ?hx3 ?hp3 HG.out ?hi3 ?hs3 ?hq3 ?_); (case hgd3 => rfl); (case ho3 => rfl); (case hx3 => rfl); (case hp3 => rfl); (case hs3 => exact (by show 9 = cs.toArray.size; simp [H9.out])); (case hi3 => exact HSZ2.out); (case hq3 => exact HON.out)
             intro W2 G2 O2
             have B2 := hide (HB.out.grown O2.out HB.out.size (fun x hx => by injection hx; omega))
             have ha2 : AttrC W2 W2.heap.size cs.toArray d := (HA.out.below ((Below.refl _ _).grown O2.out HB.out.size (fun x hx => by injection hx; omega))).more B2.out.size
             have HA2 := Lib.hid ha2
             clear O2 ha2))
        refine bodyPost_ret (v := .tuple #[.agg cs.toArray, .bool true]) (results_cellT (p := 4) (t := 5) rfl _ _ w.heap.size 38 _ _ rfl rfl G2.out Tryz.underlying38 rfl HSZ2.out) rfl ⟨_, by rw [find_hit hall.out HD.out HBB.out]; rfl, by rw [find_hit hall.out HD.out HBB.out]; exact HA2.out, B2.out⟩
      · have b3 : (d.ty == k) = false := by simpa using hb
        have HBB := Lib.hid hb
        clear hb
        go_wp2
        go_round
        case rel => exact ⟨n + 1, by omega, by go_num, find_succ hall.out HD.out HBB.out⟩
        case measure => simp [intOf]; omega
    · have HE := Lib.hid (find_end hall.out (by omega))
      have hk1 : ¬ (n : Int) < (l.length : Int) := by omega
      go_wp2_with (first
        | ((with_reducible refine wpList_store_whole W0 ?hgd2 38 (.tmp 4) (.tmp 24) ?ho2 w.heap.size 38 #[.int .i64 0, .bool false, .int .u32 0, .int .u32 0, .slice none 0 0, .slice none 0 0, .slice none 0 0, .int .i64 0, .slice none 0 0] #[.int .i64 0, .bool false, .int .u32 0, .int .u32 0, .slice none 0 0, .slice none 0 0, .slice none 0 0, .int .i64 0, .slice none 0 0] ?hx2 ?hp2 HG.out ?hi2 ?hs2 ?hq2 ?_); (case hgd2 => rfl); (case ho2 => rfl); (case hx2 => rfl); (case hp2 => rfl); (case hs2 => rfl); (case hi2 => exact HAS.out); (case hq2 => simp [Value.oneCell'])
           intro W2 G2 O2
           have B2 := hide (HB.out.grown O2.out HB.out.size (fun x hx => by injection hx; omega))
           clear O2))
      refine bodyPost_ret (v := .tuple #[.agg #[.int .i64 0, .bool false, .int .u32 0, .int .u32 0, .slice none 0 0, .slice none 0 0, .slice none 0 0, .int .i64 0, .slice none 0 0], .bool false]) (results_cellT (p := 4) (t := 5) rfl _ _ w.heap.size 38 _ _ rfl rfl G2.out Tryz.underlying38 rfl HAS.out) rfl ⟨_, by rw [HE.out]; rfl, by rw [HE.out]; exact zeroA_C _ _, B2.out⟩
end Go.Proofs.YtnfclcbhehbchaaGreatDoor
