/- prefix.width, ranged, masked, need: what they compute; no condition but that a Len lies in 0 .. 128 for masked. -/
import Derived.Test.YtgegloplhlkafaaDoorOctet
set_option autoImplicit false
namespace Go.Proofs.YtgegloplhlkafaaDoor
open Go.RowKit

def bytesV (a : List Int) : Array Value := (bV a).toArray
def widthF (fam : Int) : Int := if fam = 1 then 4 else if fam = 2 then 16 else 0
theorem ret_bool {a b : Bool} (h : a = b) : Ending.returned (.bool a) = .returned (.bool b) := by rw [h]
theorem ret_int {k : IntKind} {a b : Int} (h : a = b) : Ending.returned (.int k a) = .returned (.int k b) := by rw [h]
def RetI (v : Int) (w : World) (e : Ending) (w' : World) : Prop := e = .returned (.int .i64 v) ∧ w = w'
def RetB (b : Bool) (w : World) (e : Ending) (w' : World) : Prop := e = .returned (.bool b) ∧ w = w'

theorem width_any (fam : Int) (w : World) : Calls Tryd.prog 31 #[.int .i64 fam] w (RetI (widthF fam) w) := by
  by_cases h1 : fam = 1
  · subst h1
    go_enter Tryd.func31, Tryd.ntmps31
    go_wp2
    go_ret
    exact ⟨rfl, rfl⟩
  · by_cases h2 : fam = 2
    · subst h2
      go_enter Tryd.func31, Tryd.ntmps31
      go_wp2
      go_ret
      exact ⟨rfl, rfl⟩
    · have e1 : (fam == 1) = false := by simpa using h1
      have e2 : (fam == 2) = false := by simpa using h2
      have e : widthF fam = 0 := by simp [widthF, h1, h2]
      rw [e]
      clear h1 h2 e
      go_enter Tryd.func31, Tryd.ntmps31
      go_wp2
      go_ret
      exact ⟨rfl, rfl⟩

theorem widthF_cases (fam : Int) : widthF fam = 0 ∨ widthF fam = 4 ∨ widthF fam = 16 := by
  unfold widthF; split
  · simp
  · split <;> simp

def rangedF (fam len : Int) : Bool := decide (0 < widthF fam ∧ 0 ≤ len ∧ len ≤ 8 * widthF fam)
theorem ranged_any (fam len : Int) (w : World) : Calls Tryd.prog 30 #[.int .i64 fam, .int .i64 len] w (RetB (rangedF fam len) w) := by
  have hb : rangedF fam len = decide (0 < widthF fam ∧ 0 ≤ len ∧ len ≤ 8 * widthF fam) := rfl
  have hc := widthF_cases fam
  generalize rangedF fam len = b at hb ⊢
  have hw := width_any fam w
  generalize widthF fam = W at *
  have HW := hide hw
  clear hw
  have HB := hide hb
  clear hb
  have h0 : 0 ≤ W := by omega
  have h1 : W ≤ 16 := by omega
  clear hc
  go_enter Tryd.func30, Tryd.ntmps30
  go_wp2_with (go_at_call 31; refine HW.out.mono ?_; rintro e w1 ⟨rfl, rfl⟩)
  all_goals
    go_ret
    refine ⟨ret_bool ?_, rfl⟩
    rw [HB.out]
    first
      | (refine (decide_eq_false_iff_not.2 ?_).symm; omega)
      | (refine decide_eq_decide.2 ?_; omega)
      | (refine (decide_eq_true_iff.2 ?_).symm; omega)
      | skip

theorem need_any (n : Int) (w : World) (h0 : 0 ≤ n) (h1 : n ≤ 255) : Calls Tryd.prog 38 #[.int .i64 n] w (RetI ((n + 7) / 8) w) := by
  go_enter Tryd.func38, Tryd.ntmps38
  go_wp2
  go_ret
  exact ⟨rfl, rfl⟩

/-- A byte of an address, zero from a bit on. -/
def mB (len : Int) (j : Nat) (x : Int) : Int := if len ≤ 8 * j then 0 else if len < 8 * j + 8 then x - x % 2 ^ (8 * j + 8 - len).toNat else x
def mTo (len : Int) (k : Nat) (a : List Int) : List Int := a.mapIdx fun j x => if j < k then mB len j x else x
theorem mTo_length (len : Int) (k : Nat) (a : List Int) : (mTo len k a).length = a.length := by simp [mTo]
theorem mTo_zero (len : Int) (a : List Int) : mTo len 0 a = a := by
  apply List.ext_getElem
  · simp [mTo]
  · intro i h1 h2; simp [mTo]
theorem mTo_succ (len : Int) (k : Nat) (a : List Int) (h : k < a.length) : mTo len (k + 1) a = (mTo len k a).set k (mB len k a[k]) := by
  apply List.ext_getElem
  · simp [mTo]
  · intro i h1 h2
    simp only [mTo, List.getElem_mapIdx, List.getElem_set]
    by_cases e : k = i
    · subst e; simp
    · simp only [e, if_false]
      by_cases hlt : i < k
      · simp [hlt, Nat.lt_succ_of_lt hlt]
      · simp [hlt]; intro h; omega
theorem mTo_keep (len : Int) (k : Nat) (a : List Int) (h : k < a.length) (hk : mB len k a[k] = a[k]) : mTo len (k + 1) a = mTo len k a := by
  rw [mTo_succ len k a h, hk]
  apply List.ext_getElem
  · simp
  · intro i h1 h2
    rw [List.getElem_set]
    split
    · rename_i e; subst e; simp [mTo]
    · rfl
theorem u8_high (x : Int) (k : Nat) (h0 : 0 ≤ x) (h1 : x < 256) (hk : k < 8) : bits .and .u8 x (IntKind.u8.wrap (255 * 2 ^ k)) = x - x % 2 ^ k := by
  obtain ⟨n, rfl⟩ := Int.eq_ofNat_of_zero_le h0
  have hn : n < 256 := by omega
  have key : ∀ k : Fin 8, ∀ n : Fin 256, bits .and .u8 ((n.val : Nat) : Int) (IntKind.u8.wrap (255 * 2 ^ k.val)) = (n.val : Int) - (n.val : Int) % 2 ^ k.val := by decide +kernel
  exact key ⟨k, hk⟩ ⟨n, hn⟩

theorem bytesV_get (a : List Int) (k : Nat) (h : k < a.length) : (bytesV a)[k]? = some (.int .u8 a[k]) := by simp [bytesV, bV, h]
theorem bytesV_set (a : List Int) (k : Nat) (v : Int) : (bytesV a).setIfInBounds k (.int .u8 v) = bytesV (a.set k v) := by simp [bytesV, bV, List.map_set]
theorem bytesV_size (a : List Int) : (bytesV a).size = a.length := by simp [bytesV, bV]
theorem bytesV_one (a : List Int) : ∀ v ∈ (bytesV a).toList, v.oneCell' = true := by simpa [bytesV] using bV_one a

theorem extract_all {α : Type} (a : Array α) (n : Nat) (h : a.size = n) : a.extract 0 (0 + n) = a := by subst h; simp
theorem arr_info : (Tryd.prog.info? 24).map (·.size) = some 16 := by kernel_rfl

set_option maxHeartbeats 1000000 in
theorem masked_any (a : List Int) (ha : a.length = 16) (len : Int) (h0 : 0 ≤ len) (h1 : len ≤ 128) (hb : Bs a) (w : World) :
    Calls Tryd.prog 32 #[.agg (bytesV a), .int .i64 len] w fun e w' => e = .returned (.agg (bytesV (mTo len 16 a))) ∧ Below w.heap.size w w' := by
  go_enter Tryd.func32, Tryd.ntmps32
  go_wp2_with fail
  go_loopw [7] (fun i wr => ∃ k : Nat, k ≤ 16 ∧ i = .int .i64 k ∧ wr.heap[w.heap.size]? = some (.cells (bytesV (mTo len k a)) 24 (0, 0)) ∧
    wr.heap[w.heap.size + 1]? = some (.cells (bytesV (List.replicate 16 0)) 24 (0, 0)) ∧ Below w.heap.size w wr) (fun i _ => 16 - (intOf i).toNat)
  case atStart =>
    refine ⟨0, by omega, rfl, ?_, ?_, ?_⟩
    · rw [mTo_zero]; exact heap_alloc2_old _ _ _
    · exact heap_alloc2_new _ _ _
    · exact ((Below.refl _ _).alloc (Nat.le_refl _) _).alloc (by simp) _
  case round =>
    obtain ⟨k, hk, rfl, hA, hB, hbel⟩ := hrel
    have hlen : (mTo len k a).length = 16 := by simp [mTo, ha]
    have HA := Lib.hid hA
    have HB := Lib.hid hB
    have Hl := Lib.hid hlen
    have Ha := Lib.hid ha
    by_cases hlt : k < 16
    · have hka : k < a.length := by omega
      have hcell : wr.cell? ⟨w.heap.size, k, none⟩ = some (.int .u8 a[k]) := by
        rw [cell_of_row wr _ k _ _ _ hA, bytesV_get _ _ (by omega)]; simp [mTo]
      have hfz : wr.frozen? ⟨w.heap.size, k, none⟩ = false := frozen_of_row wr _ k _ _ hA
      have hxb := hb.get hka
      have hsucc := mTo_succ len k a hka
      have hkeep := mTo_keep len k a hka
      have hmB : mB len k a[k] = if len ≤ 8 * k then 0 else if len < 8 * k + 8 then a[k] - a[k] % 2 ^ (8 * k + 8 - len).toNat else a[k] := rfl
      have HK := Lib.hid hkeep
      have HS := Lib.hid hsucc
      have HM := Lib.hid hmB
      clear hA hB hlen ha hkeep hsucc hmB
      have step : ∀ v, mB len k a[k] = v → ∀ w2 : World, w2 = wr.setCell ⟨w.heap.size, k, none⟩ (.int .u8 v) ∨ w2 = (wr.setCell ⟨w.heap.size, k, none⟩ (.int .u8 v)).drew →
          w2.heap[w.heap.size]? = some (.cells (bytesV (mTo len (k + 1) a)) 24 (0, 0)) ∧ w2.heap[w.heap.size + 1]? = some (.cells (bytesV (List.replicate 16 0)) 24 (0, 0)) ∧ Below w.heap.size w w2 := by
        intro v hv w2 h2
        have g1 : (wr.setCell ⟨w.heap.size, k, none⟩ (.int .u8 v)).heap[w.heap.size]? = some (.cells (bytesV (mTo len (k + 1) a)) 24 (0, 0)) := by
          rw [heap_setCell_same wr _ k _ _ _ HA.out, bytesV_set, HS.out, hv]
        have g2 : (wr.setCell ⟨w.heap.size, k, none⟩ (.int .u8 v)).heap[w.heap.size + 1]? = some (.cells (bytesV (List.replicate 16 0)) 24 (0, 0)) := by
          rw [heap_setCell_other wr _ _ _ (by simp), HB.out]
        have g3 : Below w.heap.size w (wr.setCell ⟨w.heap.size, k, none⟩ (.int .u8 v)) := hbel.setCell (Nat.le_refl _) _
        rcases h2 with rfl | rfl
        · exact ⟨g1, g2, g3⟩
        · exact ⟨g1, g2, g3.drew⟩
      have ST := Lib.hid step
      clear step
      by_cases c1 : len ≤ 8 * k
      · go_wp2
        go_roundw
        case rel =>
          obtain ⟨q1, q2, q3⟩ := ST.out 0 (by rw [HM.out, if_pos c1]) _ (.inl rfl)
          exact ⟨k + 1, by omega, by go_num, q1, q2, q3⟩
        case measure => simp [intOf]; omega
      · by_cases c2 : len < 8 * k + 8
        · go_wp2
          go_region
          go_wp2
          go_roundw
          case rel =>
            have e : (8 * (k : Int) + 8 - len).toNat = (8 - (len - 8 * k)).toNat := by omega
            obtain ⟨q1, q2, q3⟩ := ST.out (bits .and .u8 a[k] (IntKind.u8.wrap (255 * 2 ^ (8 - (len - 8 * k)).toNat))) (by rw [HM.out, if_neg (by omega), if_pos c2, e, u8_high _ _ hxb.1 hxb.2 (by omega)]) _ (.inr rfl)
            exact ⟨k + 1, by omega, by go_num, q1, q2, q3⟩
          case measure => simp [intOf]; omega
        · go_wp2
          go_roundw
          case rel => exact ⟨k + 1, by omega, by go_num, by rw [HK.out (by rw [HM.out, if_neg c1, if_neg c2])]; exact HA.out, HB.out, hbel⟩
          case measure => simp [intOf]; omega
    · have hk16 : k = 16 := by omega
      subst hk16
      clear hA hB hlen ha
      have hs1 : (bytesV (mTo len 16 a)).size = 16 := by rw [bytesV_size, Hl.out]
      have hs2 : (bytesV (List.replicate 16 0)).size = 16 := by simp [bytesV_size]
      have hex : (bytesV (mTo len 16 a)).extract 0 (0 + 16) = bytesV (mTo len 16 a) := extract_all _ _ hs1
      have HX := Lib.hid hex
      have HS1 := Lib.hid hs1
      have HS2 := Lib.hid hs2
      clear hs1 hs2 hex
      go_wp2_with (first
        | (refine wpList_load_mid rfl _ _ rfl w.heap.size 0 16 rfl 24 _ (0, 0) _ HA.out Tryd.underlying24 rfl arr_info (by rw [HS1.out]; exact Nat.le_refl _) ?_
           rw [HX.out])
        | (refine wpList_store_mid rfl _ _ _ rfl (w.heap.size + 1) 0 rfl 24 _ _ rfl HB.out (by rw [arr_info, HS1.out]) (by rw [HS1.out, HS2.out]; exact Nat.le_refl _) (bytesV_one _) ?_))
      have hrow := setRow_heap wr (w.heap.size + 1) _ ((bytesV (List.replicate 16 0)).toList.take 0 ++ (bytesV (mTo len 16 a)).toList ++ (bytesV (List.replicate 16 0)).toList.drop (0 + (bytesV (mTo len 16 a)).size)).toArray _ _ HB.out
      have he : ((bytesV (List.replicate 16 0)).toList.take 0 ++ (bytesV (mTo len 16 a)).toList ++ (bytesV (List.replicate 16 0)).toList.drop (0 + (bytesV (mTo len 16 a)).size)).toArray = bytesV (mTo len 16 a) := by
        rw [List.drop_eq_nil_of_le (by rw [Array.length_toList, HS1.out, HS2.out]; exact Nat.le_refl _)]
        simp
      rw [he] at hrow ⊢
      refine bodyPost_ret (v := .agg (bytesV (mTo len 16 a))) (results_cell_row (p := 4) (ty := 24) rfl _ _ (w.heap.size + 1) 24 _ (0, 0) _ rfl hrow Tryd.underlying24 rfl (by rw [arr_info, HS1.out])) rfl ⟨rfl, ?_⟩
      exact below_setRow hbel (by omega) _
end Go.Proofs.YtgegloplhlkafaaDoor
