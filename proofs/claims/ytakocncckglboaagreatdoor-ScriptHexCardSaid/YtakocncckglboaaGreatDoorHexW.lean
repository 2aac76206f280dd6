/- The walk of the law ScriptHex: it returns true, and leaves alone whatever lay there. -/
import Derived.Test.YtakocncckglboaaGreatDoorHexJ
import Derived.Test.YtakocncckglboaaGreatDoorHexQ
set_option autoImplicit false
namespace Go.Proofs.YtakocncckglboaaGreatDoor
open Go.RowKit

theorem alive_any (m : Int) (w : World) (hm : w.cell? ⟨0, 0, none⟩ = some (.int .i64 m)) : Calls Tryz.prog 4 #[] w fun e w' => e = .returned (.bool true) ∧ Below w.heap.size w w' := by
  have HR := hide (run_any m w hm)
  clear hm
  go_enter Tryz.func4, Tryz.ntmps4
  go_wp2_with (go_at_call 10; refine HR.out.mono ?_; rintro e w1 ⟨rfl, hb⟩)
  go_ret
  exact ⟨rfl, hb⟩
theorem byts_mv {w w' : World} {A : Option Addr} {l : List Int} (h : Byts w w.heap.size A l) (hb : Below w.heap.size w w') : Byts w' w'.heap.size A l := (h.below hb).more hb.size
theorem byts_mv2 {w w' : World} {n : Nat} {A : Option Addr} {l : List Int} (h : Byts w n A l) (hb : Below n w w') (hz : n ≤ w'.heap.size) : Byts w' w'.heap.size A l := (h.below hb).more hz
set_option maxRecDepth 100000 in
set_option maxHeartbeats 8000000 in
theorem scripthex_any (A : Option Addr) (c : Nat) (l : List Int) (s : List UInt8) (m : Int) (w : World) (h : Byts w w.heap.size A l) (hb : Bs l) (hl : l.length ≤ 140737488355328) (hs : s.length ≤ 9223372036854775807) (hm : w.cell? ⟨0, 0, none⟩ = some (.int .i64 m)) :
    Calls Tryz.prog 3 #[.slice A l.length c, .string (strB s)] w fun e w' => e = .returned (.bool true) ∧ Below w.heap.size w w' := by
  have hgm : 0 < w.heap.size := by
    rcases Nat.lt_or_ge 0 w.heap.size with h | h
    · exact h
    · unfold World.cell? at hm; rw [Array.getElem?_eq_none h] at hm; simp at hm
  have HAL := hide (fun W (hb : Below w.heap.size w W) => alive_any m W ((hb.cell (p := ⟨0, 0, none⟩) hgm).trans hm))
  have hsz := strB_size s
  by_cases hbig : 500 < l.length ∨ 500 < s.length
  · have HA := hide (HAL.out w (Below.refl _ _))
    obtain ⟨S, hS⟩ : ∃ S, S = strB s := ⟨_, rfl⟩
    rw [← hS] at hsz ⊢
    clear HAL hS h hm hgm
    rcases hbig with h1 | h1
    · have h1i : (500 : Int) < (l.length : Int) := by omega
      go_enter Tryz.func3, Tryz.ntmps3
      go_wp2_with (go_at_call 4; refine HA.out.mono ?_; rintro e w1 ⟨rfl, hb1⟩)
      go_ret
      exact ⟨rfl, hb1⟩
    · have h1i : (500 : Int) < (s.length : Int) := by omega
      by_cases h2 : 500 < l.length
      · have h2i : (500 : Int) < (l.length : Int) := by omega
        go_enter Tryz.func3, Tryz.ntmps3
        go_wp2_with (go_at_call 4; refine HA.out.mono ?_; rintro e w1 ⟨rfl, hb1⟩)
        go_ret
        exact ⟨rfl, hb1⟩
      · have h2i : ¬ (500 : Int) < (l.length : Int) := by omega
        go_enter Tryz.func3, Tryz.ntmps3
        go_wp2_with (go_at_call 4; refine HA.out.mono ?_; rintro e w1 ⟨rfl, hb1⟩)
        go_ret
        exact ⟨rfl, hb1⟩
  · have h1i : ¬ (500 : Int) < (l.length : Int) := by omega
    have h2i : ¬ (500 : Int) < (s.length : Int) := by omega
    have hhl : (hexL l).length ≤ 100000 := by rw [hexL_len]; omega
    obtain ⟨q1, q2⟩ := bytF_hex l hb
    have K1 := hide (hex_any A c l w h hb (by omega))
    have k2 := fun W => bytes_any (hexL l) W hhl
    rw [q1, q2] at k2
    have K3 := hide (fun W => bytes_any s W (by omega))
    have K4 := hide (fun W => rbytes_any s W (by omega))
    have K5 := hide (fun W (hW : Below w.heap.size w W) => rhex_any A c l W ((h.below hW).more hW.size) hb (by omega))
    have hy : ((bytF s).getD []).length ≤ 100000 := by
      unfold bytF
      split
      · simp
      · cases hp : pairF s with
        | none => simp
        | some t => have := (pairF_len _ s t (Nat.le_refl _) hp).1; simp only [Option.getD_some]; omega
    have KE := hide (fun W (d : List Int) A1 A2 c1 c2 (hd : d.length ≤ 140737488351232) (h1 : Byts W W.heap.size A1 d) (h2 : Byts W W.heap.size A2 d) => equalB_any A1 A2 c1 c2 d d W h1 h2 hd)
    simp only [decide_true] at KE
    have HBY := hide h
    have hts : ((strB (hexL l)).toList == (strB (hexL l)).toList) = true := by simp
    obtain ⟨S, hS⟩ : ∃ S, S = strB s := ⟨_, rfl⟩
    rw [← hS] at hsz K3 K4 ⊢
    obtain ⟨H, hH⟩ : ∃ H, H = strB (hexL l) := ⟨_, rfl⟩
    rw [← hH] at k2 K1 K5 hts
    have K2 := hide k2
    clear k2 hS hH h hb hm hgm hbig q1 q2 hhl
    generalize (bytF s).getD [] = y at *
    generalize (bytF s).isSome = q at *
    obtain ⟨ok, hok⟩ : ∃ ok, ok = decide (0 < l.length) := ⟨_, rfl⟩
    rw [← hok] at K2
    have hll : l.length ≤ 140737488351232 := by omega
    have hyl : y.length ≤ 140737488351232 := by omega
    have hlen : (ok = true ∧ 0 < l.length) ∨ (ok = false ∧ l.length = 0) := by
      by_cases h0 : 0 < l.length
      · exact .inl ⟨by rw [hok]; exact decide_eq_true h0, h0⟩
      · exact .inr ⟨by rw [hok]; exact decide_eq_false h0, by omega⟩
    clear hok
    have KEl := hide (fun W A1 A2 c1 c2 (h1 : Byts W W.heap.size A1 l) (h2 : Byts W W.heap.size A2 l) => KE.out W l A1 A2 c1 c2 hll h1 h2)
    have KEy := hide (fun W A1 A2 c1 c2 (h1 : Byts W W.heap.size A1 y) (h2 : Byts W W.heap.size A2 y) => KE.out W y A1 A2 c1 c2 hyl h1 h2)
    generalize l.length = n at *
    generalize y.length = ny at *
    rcases hlen with ⟨rfl, hpos⟩ | ⟨rfl, rfl⟩ <;> cases q
    all_goals
      go_enter Tryz.func3, Tryz.ntmps3
      go_wp2_with (first
        | (go_at_call 5; refine K1.out.mono ?_; rintro e w1 ⟨rfl, hb1⟩
           have B1 := hide hb1
           have hz1 := hb1.size
           clear hb1)
        | (go_at_call 6; (with_reducible refine (K2.out w1).mono ?_); rintro e w2 ⟨A2, c2, rfl, hy2, hb2⟩
           have Y2 := hide hy2
           have b2 := B1.out.trans (hb2.mono hz1)
           have B2 := hide b2
           have hz2 := b2.size
           clear hy2 hb2 b2)
        | (go_at_call 6; (with_reducible refine (K3.out w2).mono ?_); rintro e w3 ⟨A3, c3, rfl, hy3, hb3⟩
           have Y23 := hide (byts_mv Y2.out hb3)
           have Y3 := hide hy3
           have b3 := B2.out.trans (hb3.mono hz2)
           have B3 := hide b3
           have hz3 := b3.size
           clear hy3 hb3 b3)
        | (go_at_call 7; refine (K4.out w3).mono ?_; rintro e w4 ⟨A4, c4, rfl, hy4, hb4⟩
           have Y24 := hide (byts_mv Y23.out hb4)
           have Y34 := hide (byts_mv Y3.out hb4)
           have Y4 := hide hy4
           have b4 := B3.out.trans (hb4.mono hz3)
           have B4 := hide b4
           have hz4 := b4.size
           clear hy4 hb4 b4)
        | (go_at_call 4; refine (HAL.out w4 B4.out).mono ?_; rintro e w5 ⟨rfl, hb5⟩
           have Y25 := hide (byts_mv Y24.out hb5)
           have Y35 := hide (byts_mv Y34.out hb5)
           have Y45 := hide (byts_mv Y4.out hb5)
           have b5 := B4.out.trans (hb5.mono hz4)
           have B5 := hide b5
           have hz5 := b5.size
           clear hb5 b5)
        | (go_at_call 8; refine (K5.out w5 B5.out).mono ?_; rintro e w6 ⟨rfl, hb6⟩
           have Y26 := hide (byts_mv Y25.out hb6)
           have Y36 := hide (byts_mv Y35.out hb6)
           have Y46 := hide (byts_mv Y45.out hb6)
           have b6 := B5.out.trans (hb6.mono hz5)
           have B6 := hide b6
           have hz6 := b6.size
           clear hb6 b6)
        | (go_at_call 9; (with_reducible refine (KEl.out w6 A2 A c2 c Y26.out (byts_mv2 HBY.out B6.out hz6)).mono ?_); rintro e w7 ⟨rfl, hb7⟩
           have Y37 := hide (byts_mv Y36.out hb7)
           have Y47 := hide (byts_mv Y46.out hb7)
           have b7 := B6.out.trans (hb7.mono hz6)
           have B7 := hide b7
           have hz7 := b7.size
           clear hb7 b7)
        | (go_at_call 9; (with_reducible refine (KEy.out w7 A3 A4 c3 c4 Y37.out Y47.out).mono ?_); rintro e w8 ⟨rfl, hb8⟩
           have b8 := B7.out.trans (hb8.mono hz7)
           have B8 := hide b8
           clear hb8 b8))
      go_ret
      exact ⟨rfl, B8.out⟩
end Go.Proofs.YtakocncckglboaaGreatDoor
