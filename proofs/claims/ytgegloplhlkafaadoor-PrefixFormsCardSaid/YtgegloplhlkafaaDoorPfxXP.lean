/- prefix.parts at rows of strings; strings.Split, strings.Cut, strings.Contains, strconv.Atoi as prefix.Parse calls them. -/
import Derived.Test.YtgegloplhlkafaaDoorPfxXV
import Derived.Lib.ParseIntBCases
set_option autoImplicit false
namespace Go.Proofs.YtgegloplhlkafaaDoor
open Go.RowKit Go.Sort Go.Shelf

theorem strB_eta (p : ByteArray) : strB p.data.toList = p := by cases p; simp [strB]
theorem strV_map (ps : List ByteArray) : ps.map Value.string = strV (ps.map (·.data.toList)) := by
  simp only [strV, List.map_map]
  refine List.map_congr_left fun p _ => ?_
  show Value.string p = Value.string (strB p.data.toList)
  rw [strB_eta]
theorem split_any (b : UInt8) (l : List UInt8) (w : World) (hl : l.length ≤ 100000) (ht : TabsR w) :
    Calls Tryd.prog 49 #[.string (strB l), .string ⟨#[b]⟩] w fun e w' => e = .returned (.slice (some ⟨w.heap.size, 0, none⟩) (cutB b l).length (cutB b l).length) ∧ w' = w.alloc (.cells (strV (cutB b l)).toArray 9) := by
  obtain ⟨m, hm⟩ := ht.max
  have hsz : (strB l).size = l.length := strB_size l
  have hd : (Lib.splitB ⟨#[b]⟩ 0 (Lib.countB (strB l) ⟨#[b]⟩) (strB l)).map (·.data.toList) = cutB b l := by
    rw [Lib.splitB_data]
    exact split_cut b l
  have hn : Lib.countB (strB l) ⟨#[b]⟩ + 1 = (cutB b l).length := by
    rw [← hd, List.length_map, Lib.splitB_all ⟨#[b]⟩ (Nat.le_refl 1) 0 _ _ rfl]
  have := Tryd.strings_Split (strB l) ⟨#[b]⟩ m w (by omega) hm (Nat.le_refl 1)
  rw [hn, strV_map, hd] at this
  exact this
theorem parts16_take (l : List (List UInt8)) (k : Nat) (h : k < l.length) : parts16 (l.take (k + 1)) = parts16 (l.take k) ++ [(v16 l[k] : Int) / 256, (v16 l[k] : Int) % 256] := by
  rw [List.take_succ_eq_append_getElem h]; simp only [parts16, List.flatMap_append, List.flatMap_cons, List.flatMap_nil, List.append_nil]
theorem parts10_take (l : List (List UInt8)) (k : Nat) (h : k < l.length) : parts10 (l.take (k + 1)) = parts10 (l.take k) ++ [(v10 l[k] : Int)] := by
  rw [List.take_succ_eq_append_getElem h]; simp only [parts10, List.map_append, List.map_cons, List.map_nil]
theorem parts16_len (l : List (List UInt8)) : (parts16 l).length = 2 * l.length := by
  induction l with
  | nil => rfl
  | cons x r ih => simp only [parts16, List.flatMap_cons, List.length_append, List.length_cons, List.length_nil] at ih ⊢; omega
theorem parts10_len (l : List (List UInt8)) : (parts10 l).length = l.length := by simp [parts10]

set_option maxRecDepth 100000 in
set_option maxHeartbeats 8000000 in
theorem parts16_any (l : List (List UInt8)) (g c : Nat) (w : World) (hg : w.heap[g]? = some (.cells (strV l).toArray 9 (0, 0))) (hn : l.length ≤ 10000) (hx : ∀ x ∈ l, x.length ≤ 10000) (ht : TabsR w) :
    Calls Tryd.prog 48 #[.slice (some ⟨g, 0, none⟩) l.length c, .int .i64 16, .int .i64 16] w fun e w' => ∃ v, e = .returned v ∧ w'.ownsRow w.heap.size 5 1 v (parts16 l).length (bV (parts16 l)) ∧ Below w.heap.size w w' := by
  obtain ⟨iu, hu0, hu1, hu2, hu3⟩ := info_parts u8_info
  have hgl : g < w.heap.size := lt_of_block hg
  have HT := hide ht
  have HG := Lib.hid hg
  have HX := hide hx
  clear ht hg hx
  go_enter Tryd.func48, Tryd.ntmps48
  go_wp2
  go_loopw [7, 14] (fun v i wr => ∃ k m : Nat, k ≤ l.length ∧ i = .int .i64 k ∧ m = (parts16 (l.take k)).length ∧ wr.ownsRow w.heap.size 5 1 v m (bV (parts16 (l.take k))) ∧ Below w.heap.size w wr) (fun _ i _ => l.length - (intOf i).toNat)
  case atStart => exact ⟨0, 0, Nat.zero_le _, rfl, by simp [parts16], by simpa [parts16, bV] using World.ownsRow_nil _ _ _ _, Below.refl _ _⟩
  case round =>
    obtain ⟨k, m, hk, rfl, hm, hown, hbel⟩ := hrel
    have hbz := hbel.size
    by_cases hlt : k < l.length
    · have hc : wr.cell? ⟨g, k, none⟩ = some (.string (strB l[k])) := by
        rw [cell_of_row _ _ _ _ _ _ ((hbel.block g hgl).trans HG.out)]
        simp [strV, hlt]
      have hxl := HX.out l[k] (List.getElem_mem hlt)
      have hnum := num16_any l[k] wr (by omega) (HT.out.below hbel)
      have hm2 : m ≤ 20000 := by rw [hm, parts16_len, List.length_take]; omega
      have hsu := parts16_take l k hlt
      have hv := v16_le l[k]
      generalize strB l[k] = s at *
      generalize v16 l[k] = V at *
      have hV0 : (0 : Int) ≤ (V : Int) := Int.natCast_nonneg _
      have hV1 : (V : Int) ≤ 65535 := by omega
      have HNUM := hide hnum
      have HSU := Lib.hid hsu
      have HOWN := hide hown
      have HBEL := hide hbel
      have HM := Lib.hid hm
      have hki : (0 : Int) ≤ (k : Int) := Int.natCast_nonneg _
      have hgr : g < wr.heap.size := by omega
      clear hnum hsu hown hbel hm hxl hv
      go_wp2_with (first
        | (go_at_call 66; refine HNUM.out.mono ?_; rintro e w6 ⟨hb6, er, rfl⟩
           have hr6 : w6.ownsRow w.heap.size 5 1 u7 m (bV (parts16 (l.take k))) := own_keep HOWN.out fun b hb => hb6.block b (HOWN.out.lt b hb).2
           have hb06 : Below w.heap.size w w6 := HBEL.out.trans (hb6.mono hbz)
           have HR6 := hide hr6
           have HB6 := hide hb06
           have hz6 := hb06.size
           clear hr6 hb06 hb6)
        | (at_builtin
           refine wpList_append_lies _ rfl (.tmp 27) (.tmp 31) _ rfl w.heap.size 5 iu _ 1 1 Tryd.underlying22 hu0 hu1 hu2 hu3 rfl (by omega) _ m _ rfl (HR6.out.alloc _)
             ⟨w6.heap.size, 0, none⟩ 1 1 [.int .u8 ((V : Int) / 256)] rfl rfl (World.news_of_block (cs := #[.int .u8 ((V : Int) / 256)]) (t := 5) (fr := (0, 0)) (heap_alloc_new w6 _)) (by simp [Value.oneCell'])
             (by omega) (by simp only [maxLen]; omega) (by omega) (by simp; omega) _ rfl ?_
           intro g7 cap7 w7 hown7 hgrow7 hat7 hltg7
           have hb7 : Below w.heap.size w w7 := (HB6.out.alloc HB6.out.size _).grown hgrow7 (by simp; omega) (fun x hx => (HR6.out.lt x hx).1)
           have Q7 := hide hown7
           have R7 := hide hb7
           have hz7 := hb7.size
           clear hown7 hgrow7 hat7 hb7)
        | (at_builtin
           refine wpList_append_lies _ rfl (.tmp 33) (.tmp 36) _ rfl w.heap.size 5 iu _ 1 1 Tryd.underlying22 hu0 hu1 hu2 hu3 rfl (by omega) _ (m + 1) _ rfl (Q7.out.alloc _)
             ⟨w7.heap.size, 0, none⟩ 1 1 [.int .u8 ((V : Int) % 256)] rfl rfl (World.news_of_block (cs := #[.int .u8 ((V : Int) % 256)]) (t := 5) (fr := (0, 0)) (heap_alloc_new w7 _)) (by simp [Value.oneCell'])
             (by omega) (by simp only [maxLen]; omega) (by omega) (by simp; omega) _ rfl ?_
           intro g8 cap8 w8 hown8 hgrow8 hat8 hltg8
           have hb8 : Below w.heap.size w w8 := (R7.out.alloc R7.out.size _).grown hgrow8 (by simp; omega) (fun x hx => (Q7.out.lt x hx).1)
           have Q8 := hide hown8
           have R8 := hide hb8
           clear hown8 hgrow8 hat8 hb8))
      go_roundw
      case rel =>
        refine ⟨k + 1, m + 2, by omega, by go_num, ?_, ?_, R8.out⟩
        · rw [HSU.out, List.length_append, ← HM.out]; rfl
        · rw [HSU.out, bV_append]
          have := Q8.out
          rw [List.append_assoc] at this
          exact this
      case measure => simp [intOf]; omega
    · have hkk : k = l.length := by omega
      subst hkk
      rw [List.take_length] at hm hown
      go_wp2
      go_ret
      exact ⟨_, rfl, by rw [← hm]; exact hown, hbel⟩
theorem v10_le (s : List UInt8) : v10 s ≤ 255 := by
  unfold v10
  split
  · rename_i u h
    have := Lib.parseUintB_le h; omega
  · omega
  · omega
set_option maxRecDepth 100000 in
set_option maxHeartbeats 8000000 in
theorem parts10_any (l : List (List UInt8)) (g c : Nat) (w : World) (hg : w.heap[g]? = some (.cells (strV l).toArray 9 (0, 0))) (hn : l.length ≤ 10000) (hx : ∀ x ∈ l, x.length ≤ 10000) (ht : TabsR w) :
    Calls Tryd.prog 48 #[.slice (some ⟨g, 0, none⟩) l.length c, .int .i64 10, .int .i64 8] w fun e w' => ∃ v, e = .returned v ∧ w'.ownsRow w.heap.size 5 1 v (parts10 l).length (bV (parts10 l)) ∧ Below w.heap.size w w' := by
  obtain ⟨iu, hu0, hu1, hu2, hu3⟩ := info_parts u8_info
  have hgl : g < w.heap.size := lt_of_block hg
  have HT := hide ht
  have HG := Lib.hid hg
  have HX := hide hx
  clear ht hg hx
  go_enter Tryd.func48, Tryd.ntmps48
  go_wp2
  go_loopw [7, 14] (fun v i wr => ∃ k m : Nat, k ≤ l.length ∧ i = .int .i64 k ∧ m = (parts10 (l.take k)).length ∧ wr.ownsRow w.heap.size 5 1 v m (bV (parts10 (l.take k))) ∧ Below w.heap.size w wr) (fun _ i _ => l.length - (intOf i).toNat)
  case atStart => exact ⟨0, 0, Nat.zero_le _, rfl, by simp [parts10], by simpa [parts10, bV] using World.ownsRow_nil _ _ _ _, Below.refl _ _⟩
  case round =>
    obtain ⟨k, m, hk, rfl, hm, hown, hbel⟩ := hrel
    have hbz := hbel.size
    by_cases hlt : k < l.length
    · have hc : wr.cell? ⟨g, k, none⟩ = some (.string (strB l[k])) := by
        rw [cell_of_row _ _ _ _ _ _ ((hbel.block g hgl).trans HG.out)]
        simp [strV, hlt]
      have hxl := HX.out l[k] (List.getElem_mem hlt)
      have hnum := num10_any l[k] wr (by omega) (HT.out.below hbel)
      have hm2 : m ≤ 20000 := by rw [hm, parts10_len, List.length_take]; omega
      have hsu := parts10_take l k hlt
      have hv := v10_le l[k]
      generalize strB l[k] = s at *
      generalize v10 l[k] = V at *
      have hV0 : (0 : Int) ≤ (V : Int) := Int.natCast_nonneg _
      have hV1 : (V : Int) ≤ 255 := by omega
      have HNUM := hide hnum
      have HSU := Lib.hid hsu
      have HOWN := hide hown
      have HBEL := hide hbel
      have HM := Lib.hid hm
      have hki : (0 : Int) ≤ (k : Int) := Int.natCast_nonneg _
      have hgr : g < wr.heap.size := by omega
      clear hnum hsu hown hbel hm hxl hv
      go_wp2_with (first
        | (go_at_call 66; refine HNUM.out.mono ?_; rintro e w6 ⟨hb6, er, rfl⟩
           have hr6 : w6.ownsRow w.heap.size 5 1 u7 m (bV (parts10 (l.take k))) := own_keep HOWN.out fun b hb => hb6.block b (HOWN.out.lt b hb).2
           have hb06 : Below w.heap.size w w6 := HBEL.out.trans (hb6.mono hbz)
           have HR6 := hide hr6
           have HB6 := hide hb06
           have hz6 := hb06.size
           clear hr6 hb06 hb6)
        | (at_builtin
           refine wpList_append_lies _ rfl (.tmp 33) (.tmp 36) _ rfl w.heap.size 5 iu _ 1 1 Tryd.underlying22 hu0 hu1 hu2 hu3 rfl (by omega) _ m _ rfl (HR6.out.alloc _)
             ⟨w6.heap.size, 0, none⟩ 1 1 [.int .u8 ((V : Int))] rfl rfl (World.news_of_block (cs := #[.int .u8 ((V : Int))]) (t := 5) (fr := (0, 0)) (heap_alloc_new w6 _)) (by simp [Value.oneCell'])
             (by omega) (by simp only [maxLen]; omega) (by omega) (by simp; omega) _ rfl ?_
           intro g8 cap8 w8 hown8 hgrow8 hat8 hltg8
           have hb8 : Below w.heap.size w w8 := (HB6.out.alloc HB6.out.size _).grown hgrow8 (by simp; omega) (fun x hx => (HR6.out.lt x hx).1)
           have Q8 := hide hown8
           have R8 := hide hb8
           clear hown8 hgrow8 hat8 hb8))
      go_roundw
      case rel =>
        refine ⟨k + 1, m + 1, by omega, by go_num, ?_, ?_, R8.out⟩
        · rw [HSU.out, List.length_append, ← HM.out]; rfl
        · rw [HSU.out, bV_append]
          have := Q8.out
          exact this
      case measure => simp [intOf]; omega
    · have hkk : k = l.length := by omega
      subst hkk
      rw [List.take_length] at hm hown
      go_wp2
      go_ret
      exact ⟨_, rfl, by rw [← hm]; exact hown, hbel⟩
end Go.Proofs.YtgegloplhlkafaaDoor
