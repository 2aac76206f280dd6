/- The reference's addr, at the two bases. -/
import Derived.Test.YtgegloplhlkafaaDoorPfxZD
set_option autoImplicit false
namespace Go.Proofs.YtgegloplhlkafaaDoor
open Go.RowKit Go.Sort Go.Shelf

def adB (o : Option (List Int)) : List Int := o.getD []
theorem ad_none {b top : Nat} {l : List (List UInt8)} {d : List Int} {k : Nat} (h : addrF b top l = (addrF b top (l.drop k)).map (d ++ ·)) (hk : k < l.length) (hn : numR b top l[k] = none) : addrF b top l = none := by
  rw [h, List.drop_eq_getElem_cons hk, addrF, hn]; rfl
theorem ad_some {b top : Nat} {l : List (List UInt8)} {d : List Int} {k n : Nat} (h : addrF b top l = (addrF b top (l.drop k)).map (d ++ ·)) (hk : k < l.length) (hn : numR b top l[k] = some n) :
    addrF b top l = (addrF b top (l.drop (k + 1))).map ((d ++ bytesR top n) ++ ·) := by
  rw [h, List.drop_eq_getElem_cons hk, addrF, hn]
  simp only []
  cases addrF b top (l.drop (k + 1)) with
  | none => rfl
  | some x => simp
theorem ad_end {b top : Nat} {l : List (List UInt8)} {d : List Int} (h : addrF b top l = (addrF b top (l.drop l.length)).map (d ++ ·)) : addrF b top l = some d := by
  rw [h, List.drop_length]; simp [addrF]

set_option maxRecDepth 100000 in
set_option maxHeartbeats 8000000 in
theorem addr16_any (l : List (List UInt8)) (g c : Nat) (w : World) (hg : g < w.heap.size) (hc : ∀ j (h : j < l.length), w.cell? ⟨g, j, none⟩ = some (.string (strB l[j]))) (hn : l.length ≤ 10000) (hx : ∀ x ∈ l, x.length ≤ 10000) :
    Calls Tryd.prog 51 #[.slice (some ⟨g, 0, none⟩) l.length c, .int .i64 16, .int .i64 65535] w fun e w' => ∃ v, e = .returned (.tuple #[v, .bool (addrF 16 65535 l).isSome]) ∧ w'.ownsRow w.heap.size 5 1 v (adB (addrF 16 65535 l)).length (bV (adB (addrF 16 65535 l))) ∧ Below w.heap.size w w' := by
  obtain ⟨iu, hu0, hu1, hu2, hu3⟩ := info_parts u8_info
  have HC := hide hc
  have HX := hide hx
  clear hc hx
  go_enter Tryd.func51, Tryd.ntmps51
  go_wp2
  go_loopw [8, 9] (fun v i wr => ∃ (k : Nat) (d : List Int), k ≤ l.length ∧ i = .int .i64 k ∧ d.length ≤ 2 * k ∧ Hid (addrF 16 65535 l = (addrF 16 65535 (l.drop k)).map (d ++ ·)) ∧ Hid (wr.ownsRow w.heap.size 5 1 v d.length (bV d)) ∧ Hid (Below w.heap.size w wr)) (fun _ i _ => l.length - (intOf i).toNat)
  case atStart => exact ⟨0, [], Nat.zero_le _, rfl, Nat.le_refl _, hide (by rw [List.drop_zero]; cases addrF 16 65535 l <;> simp), hide (by simpa [bV] using World.ownsRow_nil _ _ _ _), hide (Below.refl _ _)⟩
  case round =>
    obtain ⟨k, d, hk, rfl, hdl, HA, HO, HB⟩ := hrel
    have hbz := HB.out.size
    by_cases hlt : k < l.length
    · have hck := (HB.out.cell (p := ⟨g, k, none⟩) hg).trans (HC.out k hlt)
      have hxl := HX.out l[k] (List.getElem_mem hlt)
      have hnum := number_any l[k] 16 65535 wr (by omega) (by omega) (by omega) (by omega)
      have hki : (0 : Int) ≤ (k : Int) := Int.natCast_nonneg _
      have hgr : g < wr.heap.size := by omega
      rcases hh : numR 16 65535 l[k] with _ | n
      · have hnone := ad_none HA.out hlt hh
        rw [hh] at hnum
        obtain ⟨iv, hiv⟩ : ∃ iv : Int, iv = numV none := ⟨_, rfl⟩
        rw [← hiv] at hnum
        have hneg : ¬ 0 ≤ iv := by rw [hiv]; decide
        have hneg2 : iv < 0 := by omega
        have HNUM := hide hnum
        have HNO := Lib.hid hnone
        clear hnum hnone hh hiv hxl HA
        generalize strB l[k] = s at *
        go_wp2_with (go_at_call 52; refine HNUM.out.mono ?_; rintro e w6 ⟨rfl, rfl⟩)
        go_ret2
        exact ⟨_, by rw [HNO.out]; rfl, by rw [HNO.out]; exact World.ownsRow_nil _ _ _ _, HB.out⟩
      · have hle := numR_le 16 65535 _ n hh
        have hsome := ad_some HA.out hlt hh
        have hbr : bytesR 65535 n = [(n : Int) / 256, (n : Int) % 256] := rfl
        rw [hh] at hnum
        have hV0 : (0 : Int) ≤ (n : Int) := Int.natCast_nonneg _
        have hV1 : (n : Int) ≤ 65535 := by omega
        have hand : bits .and .i64 (n : Int) 255 = (n : Int) % 256 := by
          rw [show (255 : Int) = ((255 : Nat) : Int) from rfl, i64_and_nat n 255 (by omega) (by omega), show (255 : Nat) = 2 ^ 8 - 1 from rfl, Nat.and_two_pow_sub_one_eq_mod]
          omega
        have hm0 : (0 : Int) ≤ (n : Int) % 256 := by omega
        have hm1 : (n : Int) % 256 < 256 := by omega
        have hnv : numV (some n) = (n : Int) := rfl
        rw [hnv] at hnum
        have HNUM := hide hnum
        have HSO := Lib.hid hsome
        have HBR := Lib.hid hbr
        clear hnum hsome hh hxl HA hle hbr hnv
        generalize strB l[k] = s at *
        go_wp2_with (first
          | (go_at_call 52; refine HNUM.out.mono ?_; rintro e w6 ⟨rfl, rfl⟩)
          | (at_builtin
             refine wpList_append_lies _ rfl (.tmp 28) (.tmp 32) _ rfl w.heap.size 5 iu _ 1 1 Tryd.underlying22 hu0 hu1 hu2 hu3 rfl (by omega) _ d.length _ rfl (HO.out.alloc _)
               ⟨wr.heap.size, 0, none⟩ 1 1 [.int .u8 ((n : Int) / 256)] rfl rfl (World.news_of_block (cs := #[.int .u8 ((n : Int) / 256)]) (t := 5) (fr := (0, 0)) (heap_alloc_new wr _)) (by simp [Value.oneCell'])
               (by omega) (by simp only [maxLen]; omega) (by omega) (by simp; omega) _ rfl ?_
             intro g7 cap7 w7 hown7 hgrow7 hat7 hltg7
             have hb7 : Below w.heap.size w w7 := (HB.out.alloc HB.out.size _).grown hgrow7 (by simp; omega) (fun x hx => (HO.out.lt x hx).1)
             have Q7 := hide hown7
             have R7 := hide hb7
             have hz7 := hb7.size
             clear hown7 hgrow7 hat7 hb7)
          | (at_builtin
             refine wpList_append_lies _ rfl (.tmp 34) (.tmp 38) _ rfl w.heap.size 5 iu _ 1 1 Tryd.underlying22 hu0 hu1 hu2 hu3 rfl (by omega) _ (d.length + 1) _ rfl (Q7.out.alloc _)
               ⟨w7.heap.size, 0, none⟩ 1 1 [.int .u8 ((n : Int) % 256)] rfl rfl (World.news_of_block (cs := #[.int .u8 ((n : Int) % 256)]) (t := 5) (fr := (0, 0)) (heap_alloc_new w7 _)) (by simp [Value.oneCell'])
               (by omega) (by simp only [maxLen]; omega) (by omega) (by simp; omega) _ rfl ?_
             intro g8 cap8 w8 hown8 hgrow8 hat8 hltg8
             have hb8 : Below w.heap.size w w8 := (R7.out.alloc R7.out.size _).grown hgrow8 (by simp; omega) (fun x hx => (Q7.out.lt x hx).1)
             have Q8 := hide hown8
             have R8 := hide hb8
             clear hown8 hgrow8 hat8 hb8))
        go_roundw
        case rel =>
          refine ⟨k + 1, d ++ bytesR 65535 n, by omega, by go_num, by rw [HBR.out]; simp; omega, hide HSO.out, hide ?_, R8⟩
          rw [HBR.out, bV_append, List.length_append]
          have := Q8.out
          rw [List.append_assoc] at this
          exact this
        case measure => simp [intOf]; omega
    · have hkk : k = l.length := by omega
      subst hkk
      have HE := Lib.hid (ad_end HA.out)
      clear HA
      go_wp2
      go_ret2
      exact ⟨_, by rw [HE.out]; rfl, by rw [HE.out]; exact HO.out, HB.out⟩
set_option maxRecDepth 100000 in
set_option maxHeartbeats 8000000 in
theorem addr10_any (l : List (List UInt8)) (g c : Nat) (w : World) (hg : g < w.heap.size) (hc : ∀ j (h : j < l.length), w.cell? ⟨g, j, none⟩ = some (.string (strB l[j]))) (hn : l.length ≤ 10000) (hx : ∀ x ∈ l, x.length ≤ 10000) :
    Calls Tryd.prog 51 #[.slice (some ⟨g, 0, none⟩) l.length c, .int .i64 10, .int .i64 255] w fun e w' => ∃ v, e = .returned (.tuple #[v, .bool (addrF 10 255 l).isSome]) ∧ w'.ownsRow w.heap.size 5 1 v (adB (addrF 10 255 l)).length (bV (adB (addrF 10 255 l))) ∧ Below w.heap.size w w' := by
  obtain ⟨iu, hu0, hu1, hu2, hu3⟩ := info_parts u8_info
  have HC := hide hc
  have HX := hide hx
  clear hc hx
  go_enter Tryd.func51, Tryd.ntmps51
  go_wp2
  go_loopw [8, 9] (fun v i wr => ∃ (k : Nat) (d : List Int), k ≤ l.length ∧ i = .int .i64 k ∧ d.length ≤ 2 * k ∧ Hid (addrF 10 255 l = (addrF 10 255 (l.drop k)).map (d ++ ·)) ∧ Hid (wr.ownsRow w.heap.size 5 1 v d.length (bV d)) ∧ Hid (Below w.heap.size w wr)) (fun _ i _ => l.length - (intOf i).toNat)
  case atStart => exact ⟨0, [], Nat.zero_le _, rfl, Nat.le_refl _, hide (by rw [List.drop_zero]; cases addrF 10 255 l <;> simp), hide (by simpa [bV] using World.ownsRow_nil _ _ _ _), hide (Below.refl _ _)⟩
  case round =>
    obtain ⟨k, d, hk, rfl, hdl, HA, HO, HB⟩ := hrel
    have hbz := HB.out.size
    by_cases hlt : k < l.length
    · have hck := (HB.out.cell (p := ⟨g, k, none⟩) hg).trans (HC.out k hlt)
      have hxl := HX.out l[k] (List.getElem_mem hlt)
      have hnum := number_any l[k] 10 255 wr (by omega) (by omega) (by omega) (by omega)
      have hki : (0 : Int) ≤ (k : Int) := Int.natCast_nonneg _
      have hgr : g < wr.heap.size := by omega
      rcases hh : numR 10 255 l[k] with _ | n
      · have hnone := ad_none HA.out hlt hh
        rw [hh] at hnum
        obtain ⟨iv, hiv⟩ : ∃ iv : Int, iv = numV none := ⟨_, rfl⟩
        rw [← hiv] at hnum
        have hneg : ¬ 0 ≤ iv := by rw [hiv]; decide
        have hneg2 : iv < 0 := by omega
        have HNUM := hide hnum
        have HNO := Lib.hid hnone
        clear hnum hnone hh hiv hxl HA
        generalize strB l[k] = s at *
        go_wp2_with (go_at_call 52; refine HNUM.out.mono ?_; rintro e w6 ⟨rfl, rfl⟩)
        go_ret2
        exact ⟨_, by rw [HNO.out]; rfl, by rw [HNO.out]; exact World.ownsRow_nil _ _ _ _, HB.out⟩
      · have hle := numR_le 10 255 _ n hh
        have hsome := ad_some HA.out hlt hh
        have hbr : bytesR 255 n = [(n : Int) % 256] := rfl
        rw [hh] at hnum
        have hV0 : (0 : Int) ≤ (n : Int) := Int.natCast_nonneg _
        have hV1 : (n : Int) ≤ 255 := by omega
        have hand : bits .and .i64 (n : Int) 255 = (n : Int) % 256 := by
          rw [show (255 : Int) = ((255 : Nat) : Int) from rfl, i64_and_nat n 255 (by omega) (by omega), show (255 : Nat) = 2 ^ 8 - 1 from rfl, Nat.and_two_pow_sub_one_eq_mod]
          omega
        have hm0 : (0 : Int) ≤ (n : Int) % 256 := by omega
        have hm1 : (n : Int) % 256 < 256 := by omega
        have hnv : numV (some n) = (n : Int) := rfl
        rw [hnv] at hnum
        have HNUM := hide hnum
        have HSO := Lib.hid hsome
        have HBR := Lib.hid hbr
        clear hnum hsome hh hxl HA hle hbr hnv
        generalize strB l[k] = s at *
        go_wp2_with (first
          | (go_at_call 52; refine HNUM.out.mono ?_; rintro e w6 ⟨rfl, rfl⟩)
          | (at_builtin
             refine wpList_append_lies _ rfl (.tmp 34) (.tmp 38) _ rfl w.heap.size 5 iu _ 1 1 Tryd.underlying22 hu0 hu1 hu2 hu3 rfl (by omega) _ d.length _ rfl (HO.out.alloc _)
               ⟨wr.heap.size, 0, none⟩ 1 1 [.int .u8 ((n : Int) % 256)] rfl rfl (World.news_of_block (cs := #[.int .u8 ((n : Int) % 256)]) (t := 5) (fr := (0, 0)) (heap_alloc_new wr _)) (by simp [Value.oneCell'])
               (by omega) (by simp only [maxLen]; omega) (by omega) (by simp; omega) _ rfl ?_
             intro g8 cap8 w8 hown8 hgrow8 hat8 hltg8
             have hb8 : Below w.heap.size w w8 := (HB.out.alloc HB.out.size _).grown hgrow8 (by simp; omega) (fun x hx => (HO.out.lt x hx).1)
             have Q8 := hide hown8
             have R8 := hide hb8
             clear hown8 hgrow8 hat8 hb8))
        go_roundw
        case rel =>
          refine ⟨k + 1, d ++ bytesR 255 n, by omega, by go_num, by rw [HBR.out]; simp; omega, hide HSO.out, hide ?_, R8⟩
          rw [HBR.out, bV_append, List.length_append]
          exact Q8.out
        case measure => simp [intOf]; omega
    · have hkk : k = l.length := by omega
      subst hkk
      have HE := Lib.hid (ad_end HA.out)
      clear HA
      go_wp2
      go_ret2
      exact ⟨_, by rw [HE.out]; rfl, by rw [HE.out]; exact HO.out, HB.out⟩
end Go.Proofs.YtgegloplhlkafaaDoor
