/- The reference's split and addr. -/
import Derived.Test.YtgegloplhlkafaaDoorPfxZC
set_option autoImplicit false
namespace Go.Proofs.YtgegloplhlkafaaDoor
open Go.RowKit Go.Sort Go.Shelf

theorem strB_extract (l : List UInt8) (i j : Nat) : (strB l).extract i j = strB ((l.take j).drop i) := by
  apply ByteArray.ext
  rw [ByteArray.data_extract]
  simp [strB, List.extract_toArray, List.extract_eq_take_drop, List.drop_take]
/-- The state of split: what is cut off, where the word begins, where the reading stands. -/
def SplS (b : UInt8) (s : List UInt8) (dn : List (List UInt8)) (f k : Nat) : Prop :=
  (k ≤ s.length ∧ f ≤ k ∧ cutB b s = dn ++ cutB b (s.drop f) ∧ (∀ c ∈ (s.take k).drop f, c ≠ b) ∧ dn.length ≤ k) ∨ (k = s.length + 1 ∧ dn = cutB b s)
theorem spl_split (s : List UInt8) (f k : Nat) (h : f ≤ k) (hk : k ≤ s.length) : s.drop f = (s.take k).drop f ++ s.drop k := by
  have e : (s.take k ++ s.drop k).drop f = (s.take k).drop f ++ (s.drop k).drop (f - (s.take k).length) := List.drop_append
  rw [List.take_append_drop] at e
  rw [e, List.length_take, Nat.min_eq_left hk, show f - k = 0 by omega, List.drop_zero]
theorem spl_end {b : UInt8} {s : List UInt8} {dn : List (List UInt8)} {f : Nat} (h : SplS b s dn f s.length) : dn ++ [(s.take s.length).drop f] = cutB b s := by
  rcases h with ⟨_, h1, h2, h3, _⟩ | ⟨h, _⟩
  · rw [h2, cutB_word b (s.drop f) (by rw [List.take_length] at h3; exact h3), List.take_length]
  · omega
theorem spl_cut {b : UInt8} {s : List UInt8} {dn : List (List UInt8)} {f k : Nat} (h : SplS b s dn f k) (hk : k < s.length) (hb : s[k] = b) : SplS b s (dn ++ [(s.take k).drop f]) (k + 1) (k + 1) := by
  rcases h with ⟨_, h1, h2, h3, h4⟩ | ⟨h, _⟩
  · refine .inl ⟨by omega, Nat.le_refl _, ?_, ?_, by simp; omega⟩
    · rw [h2, spl_split s f k h1 (by omega), List.drop_eq_getElem_cons hk, hb, cutB_app b _ _ h3, List.append_assoc]; rfl
    · intro c hc
      rw [List.drop_eq_nil_of_le (by rw [List.length_take]; omega)] at hc
      exact absurd hc (by simp)
  · omega
theorem spl_go {b : UInt8} {s : List UInt8} {dn : List (List UInt8)} {f k : Nat} (h : SplS b s dn f k) (hk : k < s.length) (hb : s[k] ≠ b) : SplS b s dn f (k + 1) := by
  rcases h with ⟨_, h1, h2, h3, h4⟩ | ⟨h, _⟩
  · refine .inl ⟨by omega, by omega, h2, ?_, by omega⟩
    intro c hc
    rw [List.take_succ_eq_append_getElem hk, List.drop_append, List.mem_append] at hc
    rcases hc with hc | hc
    · exact h3 c hc
    · have := List.mem_of_mem_drop hc
      rw [List.mem_singleton.1 this]; exact hb
  · omega
theorem spl_len {b : UInt8} {s : List UInt8} {dn : List (List UInt8)} {f k : Nat} (h : SplS b s dn f k) (hk : k ≤ s.length) : dn.length ≤ k ∧ f ≤ k := by
  rcases h with ⟨_, h1, _, _, h4⟩ | ⟨h, _⟩
  · exact ⟨h4, h1⟩
  · omega

set_option maxRecDepth 100000 in
set_option maxHeartbeats 8000000 in
theorem rsplit_any (s : List UInt8) (b : UInt8) (w : World) (hl : s.length ≤ 100000) :
    Calls Tryd.prog 50 #[.string (strB s), .int .u8 b.toNat] w fun e w' => ∃ v, e = .returned v ∧ w'.ownsRow w.heap.size 9 1 v (cutB b s).length (strV (cutB b s)) ∧ Below w.heap.size w w' := by
  obtain ⟨iu, hu0, hu1, hu2, hu3⟩ := info_parts str_info
  have hsz := strB_size s
  have hex : ∀ i j, (strB s).extract i j = strB ((s.take j).drop i) := strB_extract s
  have hb0 : (0 : Int) ≤ (b.toNat : Int) := Int.natCast_nonneg _
  have hb1 : (b.toNat : Int) < 256 := by have := b.toNat_lt; omega
  have hbe : ∀ c : UInt8, (c.toNat : Int) = (b.toNat : Int) ↔ c = b := fun c => ⟨fun h => UInt8.toNat_inj.1 (by omega), fun h => by rw [h]⟩
  obtain ⟨B, hB⟩ : ∃ B : Int, B = (b.toNat : Int) := ⟨_, rfl⟩
  obtain ⟨S, hS⟩ : ∃ S, S = strB s := ⟨_, rfl⟩
  have hat : ∀ (k : Nat) (h : k < S.size) (h2 : k < s.length), S[k]'h = s[k]'h2 := by subst hS; intro k h h2; rfl
  rw [← hS] at hsz hex ⊢
  rw [← hB] at hb0 hb1 ⊢
  simp only [← hB] at hbe
  have HBE := hide hbe
  have HEX := hide hex
  have HAT := hide hat
  have HSB := Lib.hid hS
  clear hS hB hbe hex hat
  go_enter Tryd.func50, Tryd.ntmps50
  go_wp2
  go_loopw [5, 6, 7] (fun ov fv iv wr => ∃ (dn : List (List UInt8)) (f k : Nat), fv = .int .i64 f ∧ iv = .int .i64 k ∧ k ≤ s.length + 1 ∧ Hid (SplS b s dn f k) ∧ Hid (wr.ownsRow w.heap.size 9 1 ov dn.length (strV dn)) ∧ Hid (Below w.heap.size w wr)) (fun _ _ i _ => s.length + 1 - (intOf i).toNat)
  case atStart => exact ⟨[], 0, 0, rfl, rfl, Nat.zero_le _, hide (.inl ⟨Nat.zero_le _, Nat.le_refl _, by simp, by simp, Nat.zero_le _⟩), hide (by simpa [strV] using World.ownsRow_nil _ _ _ _), hide (Below.refl _ _)⟩
  case round =>
    obtain ⟨dn, f, k, rfl, rfl, hk, HS, HO, HB⟩ := hrel
    have hk0 : (0 : Int) ≤ (k : Int) := Int.natCast_nonneg _
    have hf0 : (0 : Int) ≤ (f : Int) := Int.natCast_nonneg _
    have hbz := HB.out.size
    by_cases hle : k ≤ s.length
    · obtain ⟨hdl, hfk⟩ := spl_len HS.out hle
      have hki : (k : Int) ≤ (s.length : Int) := by omega
      have hfi : (f : Int) ≤ (k : Int) := by omega
      have hxt := HEX.out f k
      have hln : ∀ x : List UInt8, (dn ++ [x]).length = dn.length + 1 := fun x => by simp
      have hsv : ∀ x : List UInt8, strV (dn ++ [x]) = strV dn ++ [.string (strB x)] := fun x => by simp [strV]
      have HLN := hide hln
      have HSV := hide hsv
      clear hln hsv
      by_cases hend : k = s.length
      · subst hend
        have HE := Lib.hid (spl_end HS.out)
        have hke : ((s.length : Int) == (s.length : Int)) = true := by simp
        obtain ⟨X, hX⟩ : ∃ X, X = (s.take s.length).drop f := ⟨_, rfl⟩
        rw [← hX] at hxt
        have HX := Lib.hid hX
        obtain ⟨XB, hXB⟩ : ∃ XB, XB = strB X := ⟨_, rfl⟩
        rw [← hXB] at hxt
        have HXB := Lib.hid hXB
        clear hX hXB
        go_wp2_with (at_builtin
                     refine wpList_append_lies _ rfl (.tmp 25) (.tmp 30) _ rfl w.heap.size 9 iu _ 1 16 Tryd.underlying79 hu0 hu1 hu2 hu3 rfl (by omega) _ dn.length _ rfl (HO.out.alloc _)
                       ⟨wr.heap.size, 0, none⟩ 1 1 [.string XB] rfl rfl (World.news_of_block (cs := #[.string XB]) (t := 9) (fr := (0, 0)) (heap_alloc_new wr _)) (by simp [Value.oneCell'])
                       (by omega) (by simp only [maxLen]; omega) (by omega) (by have := HB.out.size; simp; omega) _ rfl ?_
                     intro g cap w7 hown7 hgrow hat7 hltg
                     have hb7 : Below w.heap.size w w7 := (HB.out.alloc HB.out.size _).grown hgrow (by have := HB.out.size; simp; omega) (fun x hx => (HO.out.lt x hx).1)
                     have Q1 := hide hown7
                     have Q3 := hide hb7
                     clear hown7 hgrow hat7 hb7)
        go_roundw
        case rel => exact ⟨dn ++ [X], _, s.length + 1, rfl, by go_num, by omega, hide (.inr ⟨rfl, by rw [HX.out, HE.out]⟩), hide (by rw [HLN.out, HSV.out, ← HXB.out]; exact Q1.out), Q3⟩
        case measure => simp [intOf]
      · have hlt : k < s.length := by omega
        have hki2 : (k : Int) < (s.length : Int) := by omega
        have hks : k < S.size := by omega
        have hne : ((k : Int) == (s.length : Int)) = false := by simp; omega
        have hak := HAT.out k hks hlt
        by_cases hcb : s[k] = b
        · have hci : (((s[k]).toNat : Int) == B) = true := by simpa using (HBE.out _).2 hcb
          have HN := hide (spl_cut HS.out hlt hcb)
          obtain ⟨X, hX⟩ : ∃ X, X = (s.take k).drop f := ⟨_, rfl⟩
          rw [← hX] at hxt HN
          obtain ⟨XB, hXB⟩ : ∃ XB, XB = strB X := ⟨_, rfl⟩
          rw [← hXB] at hxt
          have HXB := Lib.hid hXB
          clear hcb hX hend hXB
          go_wp2_with (at_builtin
                       refine wpList_append_lies _ rfl (.tmp 25) (.tmp 30) _ rfl w.heap.size 9 iu _ 1 16 Tryd.underlying79 hu0 hu1 hu2 hu3 rfl (by omega) _ dn.length _ rfl (HO.out.alloc _)
                         ⟨wr.heap.size, 0, none⟩ 1 1 [.string XB] rfl rfl (World.news_of_block (cs := #[.string XB]) (t := 9) (fr := (0, 0)) (heap_alloc_new wr _)) (by simp [Value.oneCell'])
                         (by omega) (by simp only [maxLen]; omega) (by omega) (by have := HB.out.size; simp; omega) _ rfl ?_
                       intro g cap w7 hown7 hgrow hat7 hltg
                       have hb7 : Below w.heap.size w w7 := (HB.out.alloc HB.out.size _).grown hgrow (by have := HB.out.size; simp; omega) (fun x hx => (HO.out.lt x hx).1)
                       have Q1 := hide hown7
                       have Q3 := hide hb7
                       clear hown7 hgrow hat7 hb7)
          go_roundw
          case rel => exact ⟨dn ++ [X], k + 1, k + 1, by go_num, by go_num, by omega, HN, hide (by rw [HLN.out, HSV.out, ← HXB.out]; exact Q1.out), Q3⟩
          case measure => simp [intOf]; omega
        · have hci : (((s[k]).toNat : Int) == B) = false := by simpa using fun h => hcb ((HBE.out _).1 h)
          have HN := hide (spl_go HS.out hlt hcb)
          clear hcb hxt hend
          go_wp2_with fail
          go_roundw
          case rel => exact ⟨dn, f, k + 1, rfl, by go_num, by omega, HN, HO, HB⟩
          case measure => simp [intOf]; omega
    · have hkk : k = s.length + 1 := by omega
      subst hkk
      have hd : dn = cutB b s := by rcases HS.out with ⟨h, _⟩ | ⟨_, h⟩; omega; exact h
      subst hd
      go_wp2
      go_ret
      exact ⟨_, rfl, HO.out, HB.out⟩
end Go.Proofs.YtgegloplhlkafaaDoor
