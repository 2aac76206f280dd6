/- attrs.Without and the reference's Without. -/
import Derived.Test.YtnfclcbhehbchaaGreatDoorLsB
set_option autoImplicit false
namespace Go.Proofs.YtnfclcbhehbchaaGreatDoor
open Go.RowKit

def keepD (l : List AttrD) (ks : List Int) : List AttrD := l.filter (fun d => !decide (d.ty ∈ ks))
theorem keep_in {l : List AttrD} {ks : List Int} {k : Nat} {d : AttrD} (h : l[k]? = some d) (hm : d.ty ∉ ks) : keepD (l.take (k + 1)) ks = keepD (l.take k) ks ++ [d] := by
  unfold keepD
  rw [List.take_add_one, h, List.filter_append]
  simp [hm]
theorem keep_out {l : List AttrD} {ks : List Int} {k : Nat} {d : AttrD} (h : l[k]? = some d) (hm : d.ty ∈ ks) : keepD (l.take (k + 1)) ks = keepD (l.take k) ks := by
  unfold keepD
  rw [List.take_add_one, h, List.filter_append]
  simp [hm]
theorem keep_len (l : List AttrD) (ks : List Int) : (keepD l ks).length ≤ l.length := List.length_filter_le _ _
theorem keep_mem {l : List AttrD} {ks : List Int} {d : AttrD} (h : d ∈ keepD l ks) : d ∈ l := (List.mem_filter.1 h).1
/-- A slice of attributes that can be read. -/
def SlC (w : World) (v : Value) (l : List AttrD) : Prop := ∃ A c, v = .slice A l.length c ∧ AttrsC w w.heap.size A l
theorem AttrsO.attrsC {w : World} {lo : Nat} {v : Value} {l : List AttrD} (h : AttrsO w lo v l) : SlC w v l := by
  obtain ⟨vs, h1, h2⟩ := h
  obtain ⟨A, c, rfl, _, _⟩ := slice_of_own h1
  exact ⟨A, c, rfl, vs, Reads.of_own h1, fun i d hd => (h2 i d hd).attrC⟩
set_option maxRecDepth 100000 in
set_option maxHeartbeats 8000000 in
theorem withoutK_any (A K : Option Addr) (c ck : Nat) (l : List AttrD) (ks : List Int) (w : World) (h : AttrsC w w.heap.size A l) (hl : l.length ≤ 1000) (hks : Reads w w.heap.size 1 K ks.length (iV ks)) (hkl : ks.length ≤ 140737488351232)
    (hm : ∀ d ∈ l, d.segs.length ≤ 1000000 ∧ (∀ s ∈ d.segs, s.2.length ≤ 1000000) ∧ d.list.length ≤ 1000000 ∧ d.byts.length ≤ 1000000 ∧ d.routes.length ≤ 1000000) :
    Calls Tryz.prog 8 #[.slice A l.length c, .slice K ks.length ck] w fun e w' => ∃ v, e = .returned v ∧ AttrsO w' w.heap.size v (keepD l ks) ∧ Below w.heap.size w w' := by
  obtain ⟨i0, hi0, hz0, hz1, hz2⟩ := info_parts attr_info
  have H := Lib.hid h
  have HM := Lib.hid hm
  have HKS := Lib.hid hks
  clear h hm hks
  go_enter Tryz.func8, Tryz.ntmps8
  go_wp2_with fail
  go_loopw [5, 10] (fun v i wr => ∃ (k : Nat) (P : List AttrD) (vsN : List Value) (Ao : Option Addr) (co : Nat), k ≤ l.length ∧ P.length ≤ k ∧ Hid (P = keepD (l.take k) ks) ∧ i = .int .i64 k ∧ v = .slice Ao P.length co ∧ wr.ownsRow w.heap.size 38 9 (.slice Ao P.length co) P.length vsN ∧
    (∀ (i : Nat) (d : AttrD), P[i]? = some d → AttrO wr w.heap.size (chunk vsN i).toArray d) ∧ Below w.heap.size w wr) (fun _ i _ => l.length - (intOf i).toNat)
  case atStart => exact ⟨0, [], [], none, 0, Nat.zero_le _, Nat.le_refl _, by show _ = _; simp [keepD], rfl, rfl, World.ownsRow_nil _ _ _ _, fun i d hd => by simp at hd, Below.refl _ _⟩
  case round =>
    obtain ⟨k, P, vsN, Ao, co, hk, hPk, hP, rfl, rfl, hown, hats, hbel⟩ := hrel
    obtain ⟨wo, rfl⟩ : ∃ wo : World, wo = wr := ⟨_, rfl⟩
    have hk0 : (0 : Int) ≤ (k : Int) := Int.natCast_nonneg _
    by_cases hlt : k < l.length
    · obtain ⟨ad, cs, rfl, had, hc, ha, h9⟩ := (H.out.below hbel).at_ hlt
      have hmk := HM.out _ (List.getElem_mem hlt)
      generalize hdk : l[k] = dk at ha hmk
      have HDK := Lib.hid hdk
      clear hdk
      have hsz : (Tryz.prog.info? 38).map (·.size) = some cs.length := by rw [h9]; exact attr_size
      have hsz2 : (Tryz.prog.info? 38).map (·.size) = some cs.toArray.size := by rw [List.size_toArray, h9]; exact attr_size
      have hty := (attrC_type ha).1
      have hone := attrC_one ha
      have hk1 : (k : Int) < (l.length : Int) := by omega
      have hwz := hbel.size
      have HC := Lib.hid hc
      have HSZ := Lib.hid hsz
      have HSZ2 := Lib.hid hsz2
      have HT := Lib.hid hty
      have HON := Lib.hid hone
      have H9 := Lib.hid h9
      have HA := Lib.hid ha
      have HMK := Lib.hid hmk
      have HBE := hide hbel
      have HOWN := hide hown
      have HATS := Lib.hid hats
      clear hc ha h9 hsz hsz2 hty hone hmk hbel hown hats
      have hdk2 : l[k]? = some dk := by rw [List.getElem?_eq_getElem hlt, HDK.out]
      have HD := Lib.hid hdk2
      clear hdk2
      by_cases hmem : dk.ty ∈ ks
      · have HMEM := Lib.hid (decide_eq_true hmem)
        have HNM := Lib.hid hmem
        clear hmem
        go_wp2_with (first
          | ((with_reducible refine wpList_load_at wo ?hgs1 38 (.tmp 12) ?hos1 (ad.add (k * 9)) cs _ ?hxs1 HC.out Tryz.underlying38 ?hds1 ?his1 ?_); (case hgs1 => rfl); (case hos1 => rfl); (case hxs1 => rfl); (case hds1 => rfl); (case his1 => exact HSZ.out))
          | ((with_reducible refine wpList_store_whole (wo.alloc (.cells #[.int .i64 0, .bool false, .int .u32 0, .int .u32 0, .slice none 0 0, .slice none 0 0, .slice none 0 0, .int .i64 0, .slice none 0 0] 38)) ?hgs2 38 (.tmp 7) (.tmp 13) ?hos2 wo.heap.size 38 #[.int .i64 0, .bool false, .int .u32 0, .int .u32 0, .slice none 0 0, .slice none 0 0, .slice none 0 0, .int .i64 0, .slice none 0 0] cs.toArray ?hxs2 ?hps2 (heap_alloc_new _ _) ?his2 ?hss2 ?hqs2 ?_); (case hgs2 => rfl); (case hos2 => rfl); (case hxs2 => rfl); (case hps2 => rfl); (case hss2 => exact (by show 9 = cs.toArray.size; simp [H9.out])); (case his2 => exact HSZ2.out); (case hqs2 => exact HON.out)
             intro W1 G1 O1
             have hb1 : Below wo.heap.size wo W1 := ((Below.refl _ _).alloc (Nat.le_refl _) _).grown O1.out (by simp) (fun x hx => by injection hx; omega)
             have B1 := hide hb1
             have hzW := lt_of_heapF G1.out
             have ct : W1.cell? ⟨wo.heap.size, 0, none⟩ = some (.int .i64 dk.ty) := by rw [cell_of_row _ _ 0 _ _ _ G1.out]; exact HT.out
             have hco := containsI_any K ck ks dk.ty W1 ((HKS.out.below (HBE.out.trans (hb1.mono HBE.out.size))).more (HBE.out.trans (hb1.mono HBE.out.size)).size) hkl
             rw [HMEM.out] at hco
             have HCO := hide hco
             clear hb1 hco)
          | (go_at_call 25; refine HCO.out.mono ?_; rintro e W2 ⟨rfl, hb2⟩
             have g2 := (hb2.block _ hzW).trans G1.out
             have G2 := Lib.hid g2
             have B2 := hide (B1.out.trans (hb2.mono B1.out.size))
             clear hb2 g2))
        have hb5 : Below w.heap.size w W2 := HBE.out.trans (B2.out.mono HBE.out.size)
        have ho5 := own_keep HOWN.out (fun b hb => B2.out.block b (HOWN.out.lt b hb).2)
        have ha5 : ∀ (i : Nat) (d : AttrD), P[i]? = some d → AttrO W2 w.heap.size (chunk vsN i).toArray d := fun i d hd => (HATS.out i d hd).keep (fun b _ h2 => B2.out.block b h2)
        have HO5 := hide ho5
        have HA5 := Lib.hid ha5
        have HB5 := hide hb5
        clear hb5 ho5 ha5
        go_wp2
        go_roundw
        case rel => exact ⟨k + 1, P, _, Ao, co, by omega, by omega, (by rw [hP.out, keep_out HD.out HNM.out] : P = keepD (l.take (k + 1)) ks), by go_num, rfl, HO5.out, HA5.out, HB5.out⟩
        case measure => simp [intOf]; omega
      · have HMEM := Lib.hid (decide_eq_false hmem)
        have HNM := Lib.hid hmem
        clear hmem
        go_wp2_with (first
          | ((with_reducible refine wpList_load_at wo ?hg1 38 (.tmp 12) ?ho1 (ad.add (k * 9)) cs _ ?hx1 HC.out Tryz.underlying38 ?hd1 ?hi1 ?_); (case hg1 => rfl); (case ho1 => rfl); (case hx1 => rfl); (case hd1 => rfl); (case hi1 => exact HSZ.out))
          | ((with_reducible refine wpList_store_whole (wo.alloc (.cells #[.int .i64 0, .bool false, .int .u32 0, .int .u32 0, .slice none 0 0, .slice none 0 0, .slice none 0 0, .int .i64 0, .slice none 0 0] 38)) ?hg2 38 (.tmp 7) (.tmp 13) ?ho2 wo.heap.size 38 #[.int .i64 0, .bool false, .int .u32 0, .int .u32 0, .slice none 0 0, .slice none 0 0, .slice none 0 0, .int .i64 0, .slice none 0 0] cs.toArray ?hx2 ?hp2 (heap_alloc_new _ _) ?hi2 ?hs2 ?hq2 ?_); (case hg2 => rfl); (case ho2 => rfl); (case hx2 => rfl); (case hp2 => rfl); (case hs2 => exact (by show 9 = cs.toArray.size; simp [H9.out])); (case hi2 => exact HSZ2.out); (case hq2 => exact HON.out)
             intro W1 G1 O1
             have hb1 : Below wo.heap.size wo W1 := ((Below.refl _ _).alloc (Nat.le_refl _) _).grown O1.out (by simp) (fun x hx => by injection hx; omega)
             have B1 := hide hb1
             have hzW := lt_of_heapF G1.out
             have ct : W1.cell? ⟨wo.heap.size, 0, none⟩ = some (.int .i64 dk.ty) := by rw [cell_of_row _ _ 0 _ _ _ G1.out]; exact HT.out
             have hco := containsI_any K ck ks dk.ty W1 ((HKS.out.below (HBE.out.trans (hb1.mono HBE.out.size))).more (HBE.out.trans (hb1.mono HBE.out.size)).size) hkl
             rw [HMEM.out] at hco
             have HCO := hide hco
             clear hb1 hco)
          | (go_at_call 25; refine HCO.out.mono ?_; rintro e W2 ⟨rfl, hb2⟩
             have g2 := (hb2.block _ hzW).trans G1.out
             have G2 := Lib.hid g2
             have B2 := hide (B1.out.trans (hb2.mono B1.out.size))
             clear hb2 g2)
          | ((with_reducible refine wpList_load_wholeF W2 ?hg3 38 (.tmp 7) ?ho3 wo.heap.size 38 cs.toArray _ ?hx3 G2.out Tryz.underlying38 ?hd3 ?hi3 ?_); (case hg3 => rfl); (case ho3 => rfl); (case hx3 => rfl); (case hd3 => rfl); (case hi3 => exact HSZ2.out))
          | (go_at_call 26
             have hcl := cloneA_any cs.toArray dk W2 ((HA.out.below (B2.out.mono hwz)).more (Nat.le_trans hwz B2.out.size)) HMK.out.1 HMK.out.2.1 HMK.out.2.2.1 HMK.out.2.2.2.1 HMK.out.2.2.2.2
             refine hcl.mono ?_; rintro e W3 ⟨cs', rfl, hoo, hb3⟩
             have B3 := hide (B2.out.trans (hb3.mono B2.out.size))
             have HOO := Lib.hid hoo
             obtain ⟨Q1, e1, us, Q2, e2, Q3, e3, Q4, e4, ecs, _⟩ := hoo
             subst ecs
             clear hcl hb3)
          | (at_builtin
             have hgN : (W3.alloc (.cells #[.int .i64 dk.ty, .bool dk.part, .int .u32 dk.n, .int .u32 dk.m, .slice Q1 dk.segs.length e1, .slice Q2 dk.list.length e2, .slice Q3 dk.byts.length e3, .int .i64 dk.fam, .slice Q4 dk.routes.length e4] 38)).heap[W3.heap.size]? = some (.cells #[.int .i64 dk.ty, .bool dk.part, .int .u32 dk.n, .int .u32 dk.m, .slice Q1 dk.segs.length e1, .slice Q2 dk.list.length e2, .slice Q3 dk.byts.length e3, .int .i64 dk.fam, .slice Q4 dk.routes.length e4] 38 (0, 0)) := heap_alloc_new _ _
             have hbN : Below wo.heap.size wo (W3.alloc (.cells #[.int .i64 dk.ty, .bool dk.part, .int .u32 dk.n, .int .u32 dk.m, .slice Q1 dk.segs.length e1, .slice Q2 dk.list.length e2, .slice Q3 dk.byts.length e3, .int .i64 dk.fam, .slice Q4 dk.routes.length e4] 38)) := B3.out.alloc B3.out.size _
             have hzN : (W3.alloc (.cells #[.int .i64 dk.ty, .bool dk.part, .int .u32 dk.n, .int .u32 dk.m, .slice Q1 dk.segs.length e1, .slice Q2 dk.list.length e2, .slice Q3 dk.byts.length e3, .int .i64 dk.fam, .slice Q4 dk.routes.length e4] 38)).heap.size = W3.heap.size + 1 := alloc_szU _ _
             have hownN := own_keep HOWN.out (fun b hb => hbN.block b (HOWN.out.lt b hb).2)
             refine wpList_append_any _ rfl (.tmp 19) (.tmp 22) _ rfl w.heap.size 38 i0 _ 9 128 Tryz.underlying22 hi0 hz0 hz1 hz2 rfl (by omega) _ P.length vsN rfl hownN (W3.heap.size + 1) (some ⟨W3.heap.size, 0, none⟩) 1 1 [.int .i64 dk.ty, .bool dk.part, .int .u32 dk.n, .int .u32 dk.m, .slice Q1 dk.segs.length e1, .slice Q2 dk.list.length e2, .slice Q3 dk.byts.length e3, .int .i64 dk.fam, .slice Q4 dk.routes.length e4] rfl
               ⟨by simp, fun _ => ⟨_, rfl, by show W3.heap.size < _; omega, fun j u hu => World.news_of_block (cs := #[.int .i64 dk.ty, .bool dk.part, .int .u32 dk.n, .int .u32 dk.m, .slice Q1 dk.segs.length e1, .slice Q2 dk.list.length e2, .slice Q3 dk.byts.length e3, .int .i64 dk.fam, .slice Q4 dk.routes.length e4]) hgN j u (by simpa using hu)⟩⟩ (by simp [Value.oneCell']) (by simp only [maxLen]; omega) (by omega) (by rw [hzN]; have := B3.out.size; have := HBE.out.size; omega) ?_
             intro v1 W5 hown1 hg1 hat1
             have hats5 : ∀ (i : Nat) (d : AttrD), (P ++ [dk])[i]? = some d → AttrO W5 w.heap.size (chunk (vsN ++ [.int .i64 dk.ty, .bool dk.part, .int .u32 dk.n, .int .u32 dk.m, .slice Q1 dk.segs.length e1, .slice Q2 dk.list.length e2, .slice Q3 dk.byts.length e3, .int .i64 dk.fam, .slice Q4 dk.routes.length e4]) i).toArray d := fun i d hd => by
               have hlv : vsN.length = P.length * 9 := HOWN.out.1
               rcases Nat.lt_or_ge i P.length with hik | hik
               · rw [chunk_app hlv hik]
                 rw [List.getElem?_append_left hik] at hd
                 exact ((HATS.out i d hd).keep (fun b _ h2 => hbN.block b h2)).other hg1 hownN
               · have hi1 := (List.getElem?_eq_some_iff.1 hd).1
                 rw [List.length_append] at hi1
                 have hi2 : i = P.length := by simp at hi1; omega
                 subst hi2
                 rw [chunk_last hlv (by rfl)]
                 rw [List.getElem?_append_right (Nat.le_refl _), Nat.sub_self] at hd
                 have h1 : d = dk := by simpa using hd.symm
                 subst h1
                 exact ((HOO.out.more (Nat.le_trans hwz B2.out.size)).keep (fun b _ h2 => Below.heap_alloc W3 _ b h2)).other hg1 hownN
             have hb5 : Below w.heap.size w W5 := (HBE.out.trans (hbN.mono HBE.out.size)).grown hg1 (by rw [hzN]; have := B3.out.size; omega) (fun x hx => (hownN.lt x hx).1)
             obtain ⟨A5, c5, rfl, _, _⟩ := slice_of_own hown1
             have HO5 := hide hown1
             have HA5 := Lib.hid hats5
             have HB5 := hide hb5
             clear hgN hbN hzN hownN hown1 hg1 hat1 hats5 hb5))
        go_roundw
        case rel => exact ⟨k + 1, P ++ [dk], _, A5, c5, by omega, by simp; omega, (by rw [hP.out, keep_in HD.out HNM.out] : P ++ [dk] = keepD (l.take (k + 1)) ks), by go_num, by simp, by simpa using HO5.out, HA5.out, HB5.out⟩
        case measure => simp [intOf]; omega
    · have hkn : k = l.length := by omega
      subst hkn
      have hk1 : ¬ (l.length : Int) < (l.length : Int) := by omega
      have hPe : P = keepD l ks := by have := hP.out; rwa [List.take_of_length_le (Nat.le_refl _)] at this
      subst hPe
      have HF1 := hide hown
      have HF2 := Lib.hid hats
      have HF3 := hide hbel
      clear hown hats hbel
      go_wp2
      go_ret
      exact ⟨_, rfl, ⟨vsN, HF1.out, HF2.out⟩, HF3.out⟩
set_option maxRecDepth 100000 in
set_option maxHeartbeats 8000000 in
theorem rwithout_any (A K : Option Addr) (c ck : Nat) (l : List AttrD) (ks : List Int) (w : World) (h : AttrsC w w.heap.size A l) (hl : l.length ≤ 1000) (hks : Reads w w.heap.size 1 K ks.length (iV ks)) (hkl : ks.length ≤ 140737488351232) :
    Calls Tryz.prog 9 #[.slice A l.length c, .slice K ks.length ck] w fun e w' => ∃ v, e = .returned v ∧ SlC w' v (keepD l ks) ∧ Below w.heap.size w w' := by
  obtain ⟨i0, hi0, hz0, hz1, hz2⟩ := info_parts attr_info
  have H := Lib.hid h
  have HKS := Lib.hid hks
  clear h hks
  go_enter Tryz.func9, Tryz.ntmps9
  go_wp2_with fail
  go_loopw [5, 6] (fun v i wr => ∃ (k : Nat) (P : List AttrD) (vsN : List Value) (Ao : Option Addr) (co : Nat), k ≤ l.length ∧ P.length ≤ k ∧ Hid (P = keepD (l.take k) ks) ∧ i = .int .i64 k ∧ v = .slice Ao P.length co ∧ wr.ownsRow w.heap.size 38 9 (.slice Ao P.length co) P.length vsN ∧
    (∀ (i : Nat) (d : AttrD), P[i]? = some d → AttrC w w.heap.size (chunk vsN i).toArray d) ∧ Below w.heap.size w wr) (fun _ i _ => l.length - (intOf i).toNat)
  case atStart => exact ⟨0, [], [], none, 0, Nat.zero_le _, Nat.le_refl _, by show _ = _; simp [keepD], rfl, rfl, World.ownsRow_nil _ _ _ _, fun i d hd => by simp at hd, Below.refl _ _⟩
  case round =>
    obtain ⟨k, P, vsN, Ao, co, hk, hPk, hP, rfl, rfl, hown, hats, hbel⟩ := hrel
    obtain ⟨wo, rfl⟩ : ∃ wo : World, wo = wr := ⟨_, rfl⟩
    have hk0 : (0 : Int) ≤ (k : Int) := Int.natCast_nonneg _
    by_cases hlt : k < l.length
    · obtain ⟨ad, cs, rfl, had, hc, ha, h9⟩ := H.out.at_ hlt
      generalize hdk : l[k] = dk at ha
      have hdk2 : l[k]? = some dk := by rw [List.getElem?_eq_getElem hlt, hdk]
      obtain ⟨Q1, e1, Q2, e2, Q3, e3, Q4, e4, ecs, _⟩ := id ha
      have ecs : cs = [.int .i64 dk.ty, .bool dk.part, .int .u32 dk.n, .int .u32 dk.m, .slice Q1 dk.segs.length e1, .slice Q2 dk.list.length e2, .slice Q3 dk.byts.length e3, .int .i64 dk.fam, .slice Q4 dk.routes.length e4] := by simpa using congrArg Array.toList ecs
      subst ecs
      have hwz := hbel.size
      have had2 : ∀ j, ((ad.add (k * 9)).add j).block < w.heap.size := fun j => by rw [block_of_add, block_of_add]; exact had
      have hc2 : ∀ (j : Nat) (v : Value), ([.int .i64 dk.ty, .bool dk.part, .int .u32 dk.n, .int .u32 dk.m, .slice Q1 dk.segs.length e1, .slice Q2 dk.list.length e2, .slice Q3 dk.byts.length e3, .int .i64 dk.fam, .slice Q4 dk.routes.length e4] : List Value)[j]? = some v → wo.cell? ((ad.add (k * 9)).add j) = some v := fun j v hv => (hbel.cell (had2 j)).trans (hc j v hv)
      have hty : wo.cell? (ad.add (k * 9)) = some (.int .i64 dk.ty) := by
        have := hc2 0 (.int .i64 dk.ty) rfl
        rwa [add_of_add, Nat.add_zero] at this
      have hsz : (Tryz.prog.info? 38).map (·.size) = some 9 := attr_size
      have hone := attrC_one ha
      have hk1 : (k : Int) < (l.length : Int) := by omega
      have hin := inI_any K ck ks dk.ty wo ((HKS.out.below hbel).more hwz) hkl
      have HC := Lib.hid hc2
      have HC0 := Lib.hid hc
      have HSZ := Lib.hid hsz
      have HON := Lib.hid hone
      have H9 := Lib.hid h9
      have HA := Lib.hid ha
      have HD := Lib.hid hdk2
      have HBE := hide hbel
      have HOWN := hide hown
      have HATS := Lib.hid hats
      have HAD := Lib.hid had2
      clear hc hc2 ha h9 hsz hone hbel hown hats hdk hdk2 had2
      by_cases hmem : dk.ty ∈ ks
      · rw [decide_eq_true hmem] at hin
        have HIN := hide hin
        have HNM := Lib.hid hmem
        clear hmem hin
        go_wp2_with (first
          | (go_at_call 27; refine HIN.out.mono ?_; rintro e W2 ⟨rfl, hb2⟩
             have hb5 : Below w.heap.size w W2 := HBE.out.trans (hb2.mono HBE.out.size)
             have ho5 := own_keep HOWN.out (fun b hb => hb2.block b (HOWN.out.lt b hb).2)
             have HO5 := hide ho5
             have HB5 := hide hb5
             clear hb2 hb5 ho5))
        go_roundw
        case rel => exact ⟨k + 1, P, _, Ao, co, by omega, by omega, (by rw [hP.out, keep_out HD.out HNM.out] : P = keepD (l.take (k + 1)) ks), by go_num, rfl, HO5.out, HATS.out, HB5.out⟩
        case measure => simp [intOf]; omega
      · rw [decide_eq_false hmem] at hin
        have HIN := hide hin
        have HNM := Lib.hid hmem
        clear hmem hin
        go_wp2_with (first
          | (go_at_call 27; refine HIN.out.mono ?_; rintro e W2 ⟨rfl, hb2⟩
             have hcW : ∀ (j : Nat) (v : Value), ([.int .i64 dk.ty, .bool dk.part, .int .u32 dk.n, .int .u32 dk.m, .slice Q1 dk.segs.length e1, .slice Q2 dk.list.length e2, .slice Q3 dk.byts.length e3, .int .i64 dk.fam, .slice Q4 dk.routes.length e4] : List Value)[j]? = some v → W2.cell? ((ad.add (k * 9)).add j) = some v := fun j v hv => (hb2.cell (Nat.lt_of_lt_of_le (HAD.out j) hwz)).trans (HC.out j v hv)
             have HCW := Lib.hid hcW
             have B2 := hide hb2
             clear hb2 hcW)
          | ((with_reducible refine wpList_load_at W2 ?hg1 38 (.tmp 24) ?ho1 (ad.add (k * 9)) [.int .i64 dk.ty, .bool dk.part, .int .u32 dk.n, .int .u32 dk.m, .slice Q1 dk.segs.length e1, .slice Q2 dk.list.length e2, .slice Q3 dk.byts.length e3, .int .i64 dk.fam, .slice Q4 dk.routes.length e4] _ ?hx1 HCW.out Tryz.underlying38 ?hd1 ?hi1 ?_); (case hg1 => rfl); (case ho1 => rfl); (case hx1 => rfl); (case hd1 => rfl); (case hi1 => exact HSZ.out))
          | (at_builtin
             have hgN : (W2.alloc (.cells #[.int .i64 dk.ty, .bool dk.part, .int .u32 dk.n, .int .u32 dk.m, .slice Q1 dk.segs.length e1, .slice Q2 dk.list.length e2, .slice Q3 dk.byts.length e3, .int .i64 dk.fam, .slice Q4 dk.routes.length e4] 38)).heap[W2.heap.size]? = some (.cells #[.int .i64 dk.ty, .bool dk.part, .int .u32 dk.n, .int .u32 dk.m, .slice Q1 dk.segs.length e1, .slice Q2 dk.list.length e2, .slice Q3 dk.byts.length e3, .int .i64 dk.fam, .slice Q4 dk.routes.length e4] 38 (0, 0)) := heap_alloc_new _ _
             have hbN : Below wo.heap.size wo (W2.alloc (.cells #[.int .i64 dk.ty, .bool dk.part, .int .u32 dk.n, .int .u32 dk.m, .slice Q1 dk.segs.length e1, .slice Q2 dk.list.length e2, .slice Q3 dk.byts.length e3, .int .i64 dk.fam, .slice Q4 dk.routes.length e4] 38)) := B2.out.alloc B2.out.size _
             have hzN : (W2.alloc (.cells #[.int .i64 dk.ty, .bool dk.part, .int .u32 dk.n, .int .u32 dk.m, .slice Q1 dk.segs.length e1, .slice Q2 dk.list.length e2, .slice Q3 dk.byts.length e3, .int .i64 dk.fam, .slice Q4 dk.routes.length e4] 38)).heap.size = W2.heap.size + 1 := alloc_szU _ _
             have hownN := own_keep HOWN.out (fun b hb => hbN.block b (HOWN.out.lt b hb).2)
             refine wpList_append_any _ rfl (.tmp 21) (.tmp 26) _ rfl w.heap.size 38 i0 _ 9 128 Tryz.underlying22 hi0 hz0 hz1 hz2 rfl (by omega) _ P.length vsN rfl hownN (W2.heap.size + 1) (some ⟨W2.heap.size, 0, none⟩) 1 1 [.int .i64 dk.ty, .bool dk.part, .int .u32 dk.n, .int .u32 dk.m, .slice Q1 dk.segs.length e1, .slice Q2 dk.list.length e2, .slice Q3 dk.byts.length e3, .int .i64 dk.fam, .slice Q4 dk.routes.length e4] rfl
               ⟨by simp, fun _ => ⟨_, rfl, by show W2.heap.size < _; omega, fun j u hu => World.news_of_block (cs := #[.int .i64 dk.ty, .bool dk.part, .int .u32 dk.n, .int .u32 dk.m, .slice Q1 dk.segs.length e1, .slice Q2 dk.list.length e2, .slice Q3 dk.byts.length e3, .int .i64 dk.fam, .slice Q4 dk.routes.length e4]) hgN j u (by simpa using hu)⟩⟩ (by simp [Value.oneCell']) (by simp only [maxLen]; omega) (by omega) (by rw [hzN]; have := B2.out.size; have := HBE.out.size; omega) ?_
             intro v1 W5 hown1 hg1 hat1
             have hats5 : ∀ (i : Nat) (d : AttrD), (P ++ [dk])[i]? = some d → AttrC w w.heap.size (chunk (vsN ++ [.int .i64 dk.ty, .bool dk.part, .int .u32 dk.n, .int .u32 dk.m, .slice Q1 dk.segs.length e1, .slice Q2 dk.list.length e2, .slice Q3 dk.byts.length e3, .int .i64 dk.fam, .slice Q4 dk.routes.length e4]) i).toArray d := fun i d hd => by
               have hlv : vsN.length = P.length * 9 := HOWN.out.1
               rcases Nat.lt_or_ge i P.length with hik | hik
               · rw [chunk_app hlv hik]
                 rw [List.getElem?_append_left hik] at hd
                 exact HATS.out i d hd
               · have hi1 := (List.getElem?_eq_some_iff.1 hd).1
                 rw [List.length_append] at hi1
                 have hi2 : i = P.length := by simp at hi1; omega
                 subst hi2
                 rw [chunk_last hlv rfl]
                 rw [List.getElem?_append_right (Nat.le_refl _), Nat.sub_self] at hd
                 have h1 : d = dk := by simpa using hd.symm
                 subst h1
                 exact HA.out
             have hb5 : Below w.heap.size w W5 := (HBE.out.trans (hbN.mono HBE.out.size)).grown hg1 (by rw [hzN]; have := B2.out.size; omega) (fun x hx => (hownN.lt x hx).1)
             obtain ⟨A5, c5, rfl, _, _⟩ := slice_of_own hown1
             have HO5 := hide hown1
             have HA5 := Lib.hid hats5
             have HB5 := hide hb5
             clear hgN hbN hzN hownN hown1 hg1 hat1 hats5 hb5))
        go_roundw
        case rel => exact ⟨k + 1, P ++ [dk], _, A5, c5, by omega, by simp; omega, (by rw [hP.out, keep_in HD.out HNM.out] : P ++ [dk] = keepD (l.take (k + 1)) ks), by go_num, by simp, by simpa using HO5.out, HA5.out, HB5.out⟩
        case measure => simp [intOf]; omega
    · have hkn : k = l.length := by omega
      subst hkn
      have hk1 : ¬ (l.length : Int) < (l.length : Int) := by omega
      have hPe : P = keepD l ks := by have := hP.out; rwa [List.take_of_length_le (Nat.le_refl _)] at this
      subst hPe
      have hR : AttrsC wo wo.heap.size Ao (keepD l ks) := ⟨vsN, Reads.of_own hown, fun i d hd => ((hats i d hd).below hbel).more hbel.size⟩
      have HF1 := Lib.hid hR
      have HF3 := hide hbel
      clear hown hats hbel hR
      go_wp2
      go_ret
      exact ⟨_, rfl, ⟨_, _, rfl, HF1.out⟩, HF3.out⟩
end Go.Proofs.YtnfclcbhehbchaaGreatDoor
