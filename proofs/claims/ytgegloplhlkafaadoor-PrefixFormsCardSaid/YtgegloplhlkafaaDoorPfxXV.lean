/- strconv.ParseUint as prefix.parts calls it: the number of the plain law, and an error or none. -/
import Derived.Test.YtgegloplhlkafaaDoorPfxXU
set_option autoImplicit false
namespace Go.Proofs.YtgegloplhlkafaaDoor
open Go.RowKit Go.Sort Go.Shelf

theorem strB_size (x : List UInt8) : (strB x).size = x.length := by rw [Lib.size_eq]; rfl
theorem puP_any (x : List UInt8) (hl : x.length ≤ 1000000) (w : World) : Calls Tryd.prog 81 #[.string (strB x), .int .i64 16, .int .i64 16] w fun e w' => e = .returned (tupH (pu16 x)) ∧ Below w.heap.size w w' := by
  by_cases h0 : x = []
  · subst h0
    refine (AnyPu.internal_strconv_ParseUint_empty { Tryd.laysPu14 with } 16 16 w).mono fun e w' ⟨h1, h2⟩ => ⟨h1, ?_⟩
    subst h2; exact Below.refl _ _
  · have hne : (strB x).size ≠ 0 := by rw [strB_size]; exact fun h => h0 (List.length_eq_zero_iff.1 h)
    refine (puI_any (strB x) hne (by rw [strB_size]; exact hl) w).mono fun e w' ⟨h1, h2⟩ => ⟨?_, ?_⟩
    · rw [h1, pu16, if_neg h0]; rfl
    · rw [h2]; exact Lib.bytesWorld_below _ _ _
set_option maxHeartbeats 4000000 in
set_option maxRecDepth 100000 in
theorem num16_any (x : List UInt8) (w : World) (hl : x.length ≤ 1000000) (ht : TabsR w) :
    Calls Tryd.prog 66 #[.string (strB x), .int .i64 16, .int .i64 16] w fun e w' => Below w.heap.size w w' ∧ ∃ er, e = .returned (.tuple #[.int .u64 (v16 x), er]) := by
  have hI := puP_any x hl w
  have hsz := strB_size x
  have hv : v16 x = (pu16 x).1 := rfl
  have hle : (pu16 x).2 ≤ 2 := by
    unfold pu16; split
    · simp
    · exact (puH_le x 0 (by omega)).2
  rw [hv]
  have hT : ∀ W, Below w.heap.size w W → TabsR W := fun W hb => ht.below hb
  clear ht hv
  generalize hp : pu16 x = p at *
  obtain ⟨n, q⟩ := p
  rcases q with _ | _ | _ | q
  · have HI := hide hI
    clear hI hp
    generalize strB x = s at *
    go_enter Tryd.func66, Tryd.ntmps66
    go_wp2_with (go_at_call 81; refine HI.out.mono ?_; rintro e w1 ⟨rfl, hb⟩; simp only [tupH, errH])
    go_ret2
    exact ⟨hb, _, rfl⟩
  · have HI := hide hI
    have hS : ∀ W, Below w.heap.size w W → Calls Tryd.prog 64 #[.string ⟨#[80, 97, 114, 115, 101, 85, 105, 110, 116]⟩, .string (strB x), .int .i64 16, .int .i64 16, .iface 108 (.int .i64 1)] W fun e w' => (∃ v, e = .returned v) ∧ Below W.heap.size W w' := fun W hb => by
      obtain ⟨t, p, hs⟩ := (hT W hb).rng
      exact (AnyPu.strconv_toError_range { Tryd.laysPu14 with } ⟨#[80, 97, 114, 115, 101, 85, 105, 110, 116]⟩ (strB x) 16 16 _ W (by omega) hs (.inr ⟨_, _, rfl⟩)).mono fun e w' ⟨N, h1, _, _, h4⟩ => ⟨⟨_, h1⟩, h4⟩
    have HS := hide hS
    clear hI hp hS hT
    generalize strB x = s at *
    go_enter Tryd.func66, Tryd.ntmps66
    go_wp2_with (first
      | (go_at_call 81; refine HI.out.mono ?_; rintro e w1 ⟨rfl, hb⟩; simp only [tupH, errH])
      | (go_at_call 64; refine (HS.out _ hb).mono ?_; rintro e w2 ⟨⟨v, rfl⟩, hb2⟩))
    go_ret2
    exact ⟨hb.trans (hb2.mono hb.size), _, rfl⟩
  · have HI := hide hI
    have hS : ∀ W, Below w.heap.size w W → Calls Tryd.prog 64 #[.string ⟨#[80, 97, 114, 115, 101, 85, 105, 110, 116]⟩, .string (strB x), .int .i64 16, .int .i64 16, .iface 108 (.int .i64 2)] W fun e w' => (∃ v, e = .returned v) ∧ Below W.heap.size W w' := fun W hb => by
      obtain ⟨t, p, hs⟩ := (hT W hb).syn
      exact (AnyPu.strconv_toError_syntax { Tryd.laysPu14 with } ⟨#[80, 97, 114, 115, 101, 85, 105, 110, 116]⟩ (strB x) 16 16 _ W (by omega) hs (.inr ⟨_, _, rfl⟩)).mono fun e w' ⟨N, h1, _, _, h4⟩ => ⟨⟨_, h1⟩, h4⟩
    have HS := hide hS
    clear hI hp hS hT
    generalize strB x = s at *
    go_enter Tryd.func66, Tryd.ntmps66
    go_wp2_with (first
      | (go_at_call 81; refine HI.out.mono ?_; rintro e w1 ⟨rfl, hb⟩; simp only [tupH, errH])
      | (go_at_call 64; refine (HS.out _ hb).mono ?_; rintro e w2 ⟨⟨v, rfl⟩, hb2⟩))
    go_ret2
    exact ⟨hb.trans (hb2.mono hb.size), _, rfl⟩
  · simp only [] at hle; omega
theorem num10_any (x : List UInt8) (w : World) (hl : x.length ≤ 1000000) (ht : TabsR w) :
    Calls Tryd.prog 66 #[.string (strB x), .int .i64 10, .int .i64 8] w fun e w' => Below w.heap.size w w' ∧ ∃ er, e = .returned (.tuple #[.int .u64 (v10 x), er]) := by
  obtain ⟨t, p, hs⟩ := ht.syn
  obtain ⟨t', p', hr⟩ := ht.rng
  have hsz := strB_size x
  rcases hh : Lib.parseUintB 8 (strB x).data.toList with u | _ | _
  · have e : v10 x = u := by unfold v10; rw [show Lib.parseUintB 8 x = .ok u from hh]
    rw [e]
    refine (Any.strconv_ParseUint_10_at8_ok Tryd.laysPu14 (strB x) (by omega) u hh w).mono fun e w' ⟨h3, h4⟩ => ⟨?_, _, h3⟩
    rcases h4 with rfl | rfl
    · exact Below.refl _ _
    · exact Lib.bytesWorld_below _ _ _
  · have e : v10 x = 0 := by unfold v10; have hh' : Lib.parseUintB 8 x = _ := hh; rw [hh']
    rw [e]
    exact (Any.strconv_ParseUint_10_at8_syntax Tryd.laysPu14 (strB x) (by omega) hh _ w hs (.inr ⟨_, _, rfl⟩)).mono fun e w' ⟨N, h1, _, _, h4⟩ => ⟨h4, _, h1⟩
  · have e : v10 x = 255 := by unfold v10; rw [show Lib.parseUintB 8 x = .range from hh]
    rw [e]
    exact (Any.strconv_ParseUint_10_at8_range Tryd.laysPu14 (strB x) (by omega) hh _ w hr (.inr ⟨_, _, rfl⟩)).mono fun e w' ⟨N, h1, _, _, h4⟩ => ⟨h4, _, h1⟩
end Go.Proofs.YtgegloplhlkafaaDoor
