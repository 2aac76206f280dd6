/- What segment.Parse calls of the packages strings and strconv: IndexAny at "]}", Split and TrimPrefix at a space, ParseUint. -/
import Derived.Test.YtceolenmcpndaaaGreatDoorSegPA
import Derived.Test.YtceolenmcpndaaaGreatDoorShelfB
import Derived.Deep.LoopGhost
import Derived.WalkMore
import Derived.Laws.Runes
import Derived.Lib.OthersKept
import Derived.Laws.RangeAny
set_option autoImplicit false
namespace Go.Proofs.YtceolenmcpndaaaGreatDoor
open Go.RowKit Go.Sort Go.Shelf

set_option maxHeartbeats 4000000 in
set_option maxRecDepth 1000000 in
/-- A rune beyond ASCII is no bracket. -/
theorem rune_high (r : Int) (w : World) (h0 : 128 ≤ r) (h1 : r ≤ 2147483647) :
    Calls Tryz.prog 48 #[.string ⟨#[93, 125]⟩, .int .i32 r] w fun e w' => e = .returned (.int .i64 (-1)) ∧ Below w.heap.size w w' := by
  have HV := hide (fun w => Tryz.utf8_ValidRune r w)
  by_cases hr : r = 65533
  · subst hr
    go_enter Tryz.func48, Tryz.ntmps48
    go_wp2_with fail
    go_loopg [5, 6] 2 (fun g _ _ wx => ∃ i : Nat, i + g = 2 ∧ wx = w.iter ⟨#[93, 125]⟩ i)
    case atStart => exact ⟨0, by omega, rfl⟩
    case round =>
      obtain ⟨i, hig, rfl⟩ := hrel
      match gk, i, hig with
      | 0, 2, _ =>
        have hnx := run_next_end (P := Tryz.prog) w ⟨#[93, 125]⟩ 2
        go_wp2
        go_ret
        exact ⟨rfl, (Below.refl _ _).alloc (Nat.le_refl _) _⟩
      | 1, 1, _ =>
        have hnx := fun ty => run_next_ascii (P := Tryz.prog) w ⟨#[93, 125]⟩ 1 ty (by decide) (by decide)
        have e1 : ((⟨#[93, 125]⟩ : ByteArray)[1]'(by decide)).toNat = 125 := rfl
        simp only [e1] at hnx
        go_wp2
        go_roundg 0
        case measure => omega
        case rel => exact ⟨2, by omega, rfl⟩
      | 2, 0, _ =>
        have hnx := fun ty => run_next_ascii (P := Tryz.prog) w ⟨#[93, 125]⟩ 0 ty (by decide) (by decide)
        have e1 : ((⟨#[93, 125]⟩ : ByteArray)[0]'(by decide)).toNat = 93 := rfl
        simp only [e1] at hnx
        go_wp2
        go_roundg 1
        case measure => omega
        case rel => exact ⟨1, by omega, rfl⟩
  · have er : (r == 65533) = false := by simpa using hr
    cases hv : Lib.validRune r
    · rw [hv] at HV
      go_enter Tryz.func48, Tryz.ntmps48
      go_wp2_with (go_at_call 64; refine (HV.out _).mono ?_; rintro e w1 ⟨rfl, rfl⟩)
      go_ret
      exact ⟨rfl, Below.refl _ _⟩
    · rw [hv] at HV
      obtain ⟨f1, f2, f3⟩ := encode_facts r (by simp only [Lib.validRune, decide_eq_true_eq] at hv; simp only [Utf8.valid, Bool.or_eq_true, Bool.and_eq_true, decide_eq_true_eq]; omega) h0
      have hib : ∀ c w, Calls Tryz.prog 63 #[.string (ByteArray.extract ⟨#[93, 125]⟩ 2 2), .int .u8 c] w fun e w' => e = .returned (.int .i64 (-1)) ∧ w' = w := fun c w => by
        have := Tryz.strings_IndexByte (ByteArray.extract ⟨#[93, 125]⟩ 2 2) c w
        have e0 : (ByteArray.extract ⟨#[93, 125]⟩ 2 2).data.toList = [] := by decide
        rw [e0] at this
        exact this
      have HIB := hide hib
      clear hib
      obtain ⟨E, hE⟩ : ∃ E, Utf8.encode r = E := ⟨_, rfl⟩
      rw [hE] at f1 f2 f3
      have HF3 := Lib.hid f3
      clear f3 hv hr
      go_enter Tryz.func48, Tryz.ntmps48
      go_wp2_with (go_at_call 64; refine (HV.out _).mono ?_; rintro e w1 ⟨rfl, rfl⟩)
      go_step3
      by_cases hs2 : E.size = 2
      · have f4 : 128 ≤ (E[1]'(by omega)).toNat := by
          have := HF3.out (by omega)
          simpa only [hs2] using this
        have f5 : ((125 : Int) != ((E[1]'(by omega)).toNat : Int)) = true := by simp; omega
        have e1 : ((⟨#[93, 125]⟩ : ByteArray)[1]'(by decide)).toNat = 125 := rfl
        go_wp2_with fail
        go_loop [9, 10] (fun i f => i = .int .i64 1 ∧ f = .int .i64 0) (fun _ _ => 0)
        case atStart => exact ⟨by simp, rfl⟩
        case round =>
          obtain ⟨rfl, rfl⟩ := hrel
          go_wp2_with fail
          go_step3
          go_wp2_with fail
          go_region
          go_wp2_with fail
          go_region_with (go_at_call 63; refine (HIB.out _ _).mono ?_; rintro e w2 ⟨rfl, rfl⟩)
          all_goals
            go_wp2_with fail
            rw [Exit.noGoto_ret]
            go_wp2_with fail
            try rw [Exit.noGoto_ret]
            try go_wp2_with fail
            go_ret
            exact ⟨rfl, below_drewN (Below.refl _ _) 2⟩
      · have h3 : 3 ≤ E.size := by omega
        go_wp2_with fail
        go_loop [9, 10] (fun i f => i = .int .i64 ((E.size : Int) - 1) ∧ f = .int .i64 0) (fun _ _ => 0)
        case atStart => exact ⟨by simp, rfl⟩
        case round =>
          obtain ⟨rfl, rfl⟩ := hrel
          go_wp2_with fail
          go_ret
          exact ⟨rfl, Below.refl _ _⟩
/-- A rune beyond ASCII has no bytes of ASCII. -/
theorem decode_skip (s : ByteArray) (pos : Nat) (h : pos < s.size) (ha : 128 ≤ (s[pos]'h).toNat) : ∀ j, j < (Utf8.decode s pos).2 → ∀ b : UInt8, s.data.toList[pos + j]? = some b → 128 ≤ b.toNat := by
  have hget : ∀ k (b : UInt8), s.data.toList[pos + k]? = some b → (s.get! (pos + k)).toNat = b.toNat := fun k b hb => by
    obtain ⟨hk, hv⟩ := List.getElem?_eq_some_iff.1 hb
    have hk' : pos + k < s.size := by rw [Lib.size_eq]; exact hk
    have e : s.get! (pos + k) = s[pos + k]'hk' := by simp [ByteArray.get!, getElem!_pos, hk']; rfl
    rw [e, ← hv]; rfl
  have h0 : ¬ (s.get! (pos + 0)).toNat < 128 := by rw [get_at s pos h]; omega
  have key : ∀ j, j < (Utf8.decode s pos).2 → j = 0 ∨ (s.get! (pos + j)).toNat / 64 = 2 := by
    intro j hj
    by_cases e0 : j = 0
    · exact .inl e0
    · right
      simp only [Utf8.decode, h0, if_false] at hj
      split at hj
      · rename_i hc
        simp only [Bool.and_eq_true, beq_iff_eq, decide_eq_true_eq] at hc
        split at hj
        · have : j = 1 := by simp only at hj; omega
          subst this; exact hc.2.2
        · simp only at hj; omega
      · split at hj
        · rename_i hc
          simp only [Bool.and_eq_true, beq_iff_eq, decide_eq_true_eq] at hc
          split at hj
          · simp only at hj
            have : j = 1 ∨ j = 2 := by omega
            rcases this with rfl | rfl
            · exact hc.1.2.2
            · exact hc.2.2
          · simp only at hj; omega
        · split at hj
          · rename_i hc
            simp only [Bool.and_eq_true, beq_iff_eq, decide_eq_true_eq] at hc
            split at hj
            · simp only at hj
              have : j = 1 ∨ j = 2 ∨ j = 3 := by omega
              rcases this with rfl | rfl | rfl
              · exact hc.1.1.2.2
              · exact hc.1.2.2
              · exact hc.2.2
            · simp only at hj; omega
          · simp only at hj; omega
  intro j hj b hb
  rcases key j hj with rfl | hk
  · have := hget 0 b hb
    omega
  · have := hget j b hb
    omega
theorem no_high (b : UInt8) (h : 128 ≤ b.toNat) : ([93, 125] : List UInt8).contains b = false := by
  simp only [List.contains_cons, List.contains_nil, Bool.or_false, Bool.or_eq_false_iff, beq_eq_false_iff_ne]
  exact ⟨by rintro rfl; simp at h, by rintro rfl; simp at h⟩

theorem lt_of_iter {w : World} {k : Nat} {o : Obj} (h : w.heap[k]? = some o) : k < w.heap.size := (Array.getElem?_eq_some_iff.1 h).1
set_option maxHeartbeats 8000000 in
set_option maxRecDepth 1000000 in
theorem idx_short (s : ByteArray) (w : World) (h8 : s.size ≤ 8) :
    Calls Tryz.prog 34 #[.string s, .string ⟨#[93, 125]⟩] w fun e w' => e = .returned (.int .i64 (Lib.indexAny s.data.toList [93, 125])) ∧ Below w.heap.size w w' := by
  have h8z : decide ((8 : Int) < (s.size : Int)) = false := decide_eq_false (by omega)
  have HS := hide (fun w => Tryz.strings_shouldUseASCIISet (s.size : Int) w)
  rw [h8z] at HS
  clear h8z
  go_enter Tryz.func34, Tryz.ntmps34
  go_wp2_with (go_at_call 49; refine (HS.out _).mono ?_; rintro e w1 ⟨rfl, rfl⟩)
  have hB0 : Below w1.heap.size w1 (w1.iter s 0) := (Below.refl _ _).alloc (Nat.le_refl _) _
  have hI0 : (w1.iter s 0).heap[w1.heap.size]? = some (.stringIter s 0) := World.iter_heap w1 s 0
  go_loopg [9, 10] s.size (fun g _ _ wx => ∃ i : Nat, s.size ≤ i + g ∧ wx.heap[w1.heap.size]? = some (.stringIter s i) ∧ Hid (Lib.NoAny s.data.toList [93, 125] i) ∧ Below w1.heap.size w1 wx)
  case atStart => exact ⟨0, by omega, hI0, hide (Lib.NoAny.zero _ _), hB0⟩
  case round =>
    obtain ⟨i, hig, hit, hno, hbel⟩ := hrel
    by_cases hi : i < s.size
    · obtain ⟨x, hx⟩ : ∃ x : UInt8, s[i]'hi = x := ⟨_, rfl⟩
      have hxl : s.data.toList[i]? = some x := by rw [← hx]; exact Lib.data_getElem? s i hi
      have hgs : 1 ≤ gk := by omega
      obtain ⟨g, rfl⟩ : ∃ g, gk = g + 1 := ⟨gk - 1, by omega⟩
      clear hgs
      by_cases hx8 : x.toNat < 128
      · have hnx := fun ty => Lib.run_next_ascii_at (P := Tryz.prog) wr w1.heap.size s i ty hit hi (by rw [hx]; exact hx8)
        rw [hx] at hnx
        have hit2 := Lib.iterAt_heap wr w1.heap.size s i (i + 1) hit
        have hbel2 := Lib.below_iterAt hbel (Nat.le_refl _) s (i + 1)
        have hir := Tryz.strings_IndexRune_ascii ⟨#[93, 125]⟩ (x.toNat : Int) (wr.iterAt w1.heap.size s (i + 1)) (by omega) (by omega)
        have hback : ((x.toNat : Int)).toNat.toUInt8 = x := by simp
        rw [hback] at hir
        have hcon := Lib.contains_iff_indexByte [93, 125] x
        have HX := Lib.hid hxl
        have HI2 := Lib.hid hit2
        have HB2 := hide hbel2
        clear hit hx hxl hback hit2 hbel2 hbel hB0 hI0
        cases hin : ([93, 125] : List UInt8).contains x
        · rw [hin] at hcon
          have hlt : ¬ ((0 : Int) ≤ Lib.indexByte [93, 125] x) := of_decide_eq_false hcon.symm
          have HIN := Lib.hid hin
          have HIR := hide hir
          clear hcon hin hir
          go_wp2_with (go_at_call 48; refine HIR.out.mono ?_; rintro e w2 ⟨rfl, rfl⟩)
          go_roundg g
          case measure => omega
          case rel => exact ⟨i + 1, by omega, HI2.out, hide (hno.out.succ HX.out HIN.out), HB2.out⟩
        · rw [hin] at hcon
          have hge : (0 : Int) ≤ Lib.indexByte [93, 125] x := of_decide_eq_true hcon.symm
          have hres := Lib.indexAny_hit hno.out HX.out hin
          have HRES := Lib.hid hres
          have HIR := hide hir
          clear hcon hin hir hres
          go_wp2_with (go_at_call 48; refine HIR.out.mono ?_; rintro e w2 ⟨rfl, rfl⟩)
          go_ret
          exact ⟨by rw [HRES.out]; rfl, HB2.out⟩
      · have hnx := fun ty => Lib.run_next_any_at (P := Tryz.prog) wr w1.heap.size s i ty hit hi
        obtain ⟨d1, d2⟩ := decode_high s i hi (by rw [hx]; omega)
        have d3 := decode_le s i
        have dsk := decode_skip s i hi (by rw [hx]; omega)
        obtain ⟨n, hn⟩ : ∃ n, (Utf8.decode s i).2 = n := ⟨_, rfl⟩
        obtain ⟨r, hr⟩ : ∃ r, (Utf8.decode s i).1 = r := ⟨_, rfl⟩
        rw [hn] at d2 dsk
        rw [hr] at d1 d3
        simp only [hn, hr] at hnx
        have hno2 : Lib.NoAny s.data.toList [93, 125] (i + n) := fun j b hj hb => by
          rcases Nat.lt_or_ge j i with h | h
          · exact hno.out j b h hb
          · exact no_high b (dsk (j - i) (by omega) b (by rw [show i + (j - i) = j by omega]; exact hb))
        have hit2 := Lib.iterAt_heap wr w1.heap.size s i (i + n) hit
        have hbel2 := Lib.below_iterAt hbel (Nat.le_refl _) s (i + n)
        have hir := rune_high (r : Int) (wr.iterAt w1.heap.size s (i + n)) (by omega) (by omega)
        have HN2 := hide hno2
        have HI2 := Lib.hid hit2
        have HB2 := hide hbel2
        have HIR := hide hir
        clear hit hx hxl hit2 hbel2 hbel hB0 hI0 hno2 hir dsk hn hr hno
        go_wp2_with (go_at_call 48; refine HIR.out.mono ?_; rintro e w2 ⟨rfl, hb2⟩)
        go_roundg g
        case measure => omega
        case rel => exact ⟨i + n, by omega, (hb2.block _ (lt_of_iter HI2.out)).trans HI2.out, HN2, HB2.out.trans (hb2.mono HB2.out.size)⟩
    · have hnx := fun ty => Lib.run_next_end_at (P := Tryz.prog) wr w1.heap.size s i ty hit hi
      have hres : Lib.indexAny s.data.toList [93, 125] = -1 := Lib.indexAny_none (fun j b hj hb => hno.out j b (by rw [← Lib.size_eq] at hj; omega) hb)
      have HRES := Lib.hid hres
      have HB := hide hbel
      clear hno hres hbel
      go_wp2
      go_ret
      exact ⟨by rw [HRES.out]; rfl, HB.out⟩
end Go.Proofs.YtceolenmcpndaaaGreatDoor
