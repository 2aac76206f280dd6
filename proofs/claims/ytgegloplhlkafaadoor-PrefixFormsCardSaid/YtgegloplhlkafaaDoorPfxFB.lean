/- The reference's Bytes of a prefix; the form of a valid prefix leads back to it. -/
import Derived.Test.YtgegloplhlkafaaDoorPfxV
import Derived.Test.YtgegloplhlkafaaDoorPfxF
set_option autoImplicit false
namespace Go.Proofs.YtgegloplhlkafaaDoor
open Go.RowKit Go.Sort Go.Shelf

set_option maxRecDepth 100000 in
set_option maxHeartbeats 8000000 in
theorem rbytesP_any (fam len : Int) (a : List Int) (ha : a.length = 16) (hb : Bs a) (w : World) :
    Calls Tryd.prog 26 #[.agg (pvL fam len a).toArray] w fun e w' => ∃ A c, e = .returned (.tuple #[.slice A (pBytes fam len a).length c, .bool (vF fam len a)]) ∧ Byts w' w'.heap.size A (pBytes fam len a) ∧ Below w.heap.size w w' := by
  obtain ⟨iu, hu0, hu1, hu2, hu3⟩ := info_parts u8_info
  have hva := rvalid_any fam len a ha hb
  have hx0 : (pvL fam len a).toArray.extract 0 (0 + 18) = (pvL fam len a).toArray := extract_all _ _ (by simp [pvL_len, ha])
  have hsz : (pvL fam len a).toArray.size = 18 := by simp [pvL_len, ha]
  have HX0 := Lib.hid hx0
  have HSZ := Lib.hid hsz
  have HA := Lib.hid ha
  have HBS := hide hb
  cases hv : vF fam len a
  · rw [hv] at hva
    have HV := hide hva
    have e : pBytes fam len a = [] := by unfold pBytes; rw [hv]; rfl
    rw [e]
    clear hva hv e hx0 hsz ha hb
    go_enter Tryd.func26, Tryd.ntmps26
    go_wp2_with (first
      | (refine wpList_load_mid rfl _ (.tmp 1) rfl w.heap.size 0 18 rfl 26 _ (0, 0) _ (heap_alloc_new _ _) Tryd.underlying26 rfl pfx_info (by rw [HSZ.out]; exact Nat.le_refl _) ?_
         rw [HX0.out])
      | (go_at_call 14
         refine (HV.out _).mono ?_
         rintro e w1 ⟨rfl, hb1⟩
         have B1 := hide (((Below.refl _ _).alloc (Nat.le_refl _) _).trans (hb1.mono (by simp)))
         clear hb1))
    go_ret2
    exact ⟨_, _, rfl, ⟨rfl, fun h => absurd h (by decide)⟩, B1.out⟩
  · have hr : rangedF fam len = true := by unfold vF at hv; simp at hv; exact hv.1
    obtain ⟨_, h0, _, h1, _⟩ := ranged_bd hr
    have hpb : pBytes fam len a = len :: a.take ((len + 7) / 8).toNat := by unfold pBytes; rw [if_pos hv]
    obtain ⟨K, hK⟩ : ∃ K : Nat, (K : Int) = (len + 7) / 8 := ⟨((len + 7) / 8).toNat, by omega⟩
    have hKn : ((len + 7) / 8).toNat = K := by omega
    rw [hKn] at hpb
    have hK16 : K ≤ 16 := by omega
    rw [hv] at hva
    rw [hpb]
    have HV := hide hva
    have e1 : IntKind.i64.wrap (len + 7) = len + 7 := by rw [IntKind.wrap_i64]; omega
    have e2 : (len + 7).tdiv 8 = (K : Int) := by rw [Int.tdiv_eq_ediv_of_nonneg (by omega), hK]
    have e3 : IntKind.u8.wrap len = len := by rw [IntKind.wrap_u8]; omega
    have HK := Lib.hid hK
    clear hva hv hpb hKn hx0 hsz ha hb hK
    go_enter Tryd.func26, Tryd.ntmps26
    go_wp2_with (first
      | (refine wpList_load_mid rfl _ (.tmp 1) rfl w.heap.size 0 18 rfl 26 _ (0, 0) _ (heap_alloc_new _ _) Tryd.underlying26 rfl pfx_info (by rw [HSZ.out]; exact Nat.le_refl _) ?_
         rw [HX0.out])
      | (go_at_call 14
         refine (HV.out _).mono ?_
         rintro e w1 ⟨rfl, hb1⟩
         have hg1 : w1.heap[w.heap.size]? = some (.cells (pvL fam len a).toArray 26 (0, 0)) := (hb1.block w.heap.size (by simp)).trans (heap_alloc_new _ _)
         have hL1 : w1.cell? ⟨w.heap.size, 1, none⟩ = some (.int .i64 len) := by rw [cell_of_row _ _ 1 _ _ _ hg1]; rfl
         have B1 := hide (((Below.refl _ _).alloc (Nat.le_refl _) _).trans (hb1.mono (by simp)))
         have hz1 : w.heap.size < w1.heap.size := lt_of_block hg1
         have G1 := Lib.hid hg1
         clear hg1 hb1))
    go_loopw [4, 5] (fun v i wr => ∃ k : Nat, k ≤ K ∧ i = .int .i64 k ∧ Hid (wr.ownsRow w1.heap.size 5 1 v (k + 1) (bV (len :: a.take k))) ∧ Hid (Below w1.heap.size w1 wr)) (fun _ i _ => K - (intOf i).toNat)
    case atStart =>
      refine ⟨0, Nat.zero_le _, rfl, hide ?_, hide ((Below.refl _ _).alloc (Nat.le_refl _) _)⟩
      exact ⟨rfl, .inr ⟨w1.heap.size, 1, _, rfl, Nat.le_refl _, heap_alloc_new w1 _, Nat.le_refl _, by simp only [maxLen]; omega, rfl, rfl⟩⟩
    case round =>
      obtain ⟨k, hk, rfl, HO, HB⟩ := hrel
      have hbz := HB.out.size
      have hgr := (HB.out.block w.heap.size hz1).trans G1.out
      have hLr : wr.cell? ⟨w.heap.size, 1, none⟩ = some (.int .i64 len) := by rw [cell_of_row _ _ 1 _ _ _ hgr]; rfl
      have hki : (0 : Int) ≤ (k : Int) := Int.natCast_nonneg _
      by_cases hlt : k < K
      · have hka : k < a.length := by have := HA.out; omega
        have hxb := HBS.out.get hka
        have hc : wr.cell? ⟨w.heap.size, 2 + k, none⟩ = some (.int .u8 a[k]) := by
          rw [cell_of_row _ _ _ _ _ _ hgr, show 2 + k = k + 1 + 1 by omega]
          simp [pvL, bV, hka]
        have hkk : (k : Int) < (K : Int) := by omega
        have hsu : bV (len :: a.take (k + 1)) = bV (len :: a.take k) ++ [.int .u8 a[k]] := by
          rw [List.take_succ_eq_append_getElem hka]; simp only [bV, List.map_cons, List.map_append, List.map_nil, List.cons_append]
        have HSU := Lib.hid hsu
        clear hsu hgr
        generalize a[k] = x at *
        go_wp2_with (at_builtin
                     refine wpList_append_lies _ rfl (.tmp 21) (.tmp 26) _ rfl w1.heap.size 5 iu _ 1 1 Tryd.underlying22 hu0 hu1 hu2 hu3 rfl (by omega) _ (k + 1) _ rfl (HO.out.alloc _)
                       ⟨wr.heap.size, 0, none⟩ 1 1 [.int .u8 x] rfl rfl (World.news_of_block (cs := #[.int .u8 x]) (t := 5) (fr := (0, 0)) (heap_alloc_new wr _)) (by simp [Value.oneCell'])
                       (by omega) (by simp only [maxLen]; omega) (by omega) (by simp; omega) _ rfl ?_
                     intro g cap w7 hown7 hgrow hat hltg
                     have hb7 : Below w1.heap.size w1 w7 := (HB.out.alloc HB.out.size _).grown hgrow (by simp; omega) (fun x hx => (HO.out.lt x hx).1)
                     have Q1 := hide hown7
                     have Q3 := hide hb7
                     clear hown7 hgrow hat hb7)
        go_roundw
        case rel => exact ⟨k + 1, by omega, by go_num, hide (by rw [HSU.out]; exact Q1.out), Q3⟩
        case measure => simp [intOf]; omega
      · have hkk : k = K := by omega
        subst hkk
        obtain ⟨A, c, rfl, _⟩ := slice_of_own HO.out
        clear hgr
        go_wp2
        go_ret2
        have hl2 : (a.take k).length = k := by have := HA.out; rw [List.length_take]; omega
        have hln : (len :: a.take k).length = k + 1 := by rw [List.length_cons, hl2]
        refine ⟨A, c, by rw [hl2]; rfl, ?_, B1.out.trans (HB.out.mono (by have := B1.out.size; omega))⟩
        have := Reads.of_own HO.out
        unfold Byts
        rw [hln]; exact this

/-- The form of a valid prefix, read. -/
theorem bytes_back (fam len : Int) (a : List Int) (ha : a.length = 16) (hb : Bs a) (hv : vF fam len a = true) :
    rdOk fam (pBytes fam len a) = true ∧ rdP fam (pBytes fam len a) = (fam, len, a) ∧ (pBytes fam len a).drop (rdN (pBytes fam len a)).toNat = [] ∧ Bs (pBytes fam len a) := by
  have hv' := hv
  unfold vF at hv'
  rw [Bool.and_eq_true, decide_eq_true_eq] at hv'
  obtain ⟨hr, hm⟩ := hv'
  obtain ⟨_, h0, _, h1, _⟩ := ranged_bd hr
  have hpb : pBytes fam len a = len :: a.take ((len + 7) / 8).toNat := by unfold pBytes; rw [if_pos hv]
  obtain ⟨K, hK⟩ : ∃ K : Nat, (K : Int) = (len + 7) / 8 := ⟨((len + 7) / 8).toNat, by omega⟩
  have hKn : ((len + 7) / 8).toNat = K := by omega
  have hK16 : K ≤ 16 := by omega
  have hlt : (a.take K).length = K := by rw [List.length_take]; omega
  rw [hpb, hKn]
  have hok : rdOk fam (len :: a.take K) = true := by
    simp only [rdOk, hr, Bool.true_and, decide_eq_true_eq]; omega
  refine ⟨hok, ?_, ?_, ?_⟩
  · have hz := (mTo_same_iff len a ha hb).1 hm
    have hp : padA (a.take K) = a := padA_take a K ha hK16 hb fun i hi h => hz i hi (by omega)
    simp only [rdP]
    rw [if_pos hok, hKn, List.take_of_length_le (by omega), hp, hm]
  · rw [List.drop_eq_nil_of_le]
    simp only [rdN, List.length_cons, hlt]; omega
  · intro x hx
    rcases List.mem_cons.1 hx with rfl | hx
    · omega
    · exact hb x (List.mem_of_mem_take hx)
end Go.Proofs.YtgegloplhlkafaaDoor
