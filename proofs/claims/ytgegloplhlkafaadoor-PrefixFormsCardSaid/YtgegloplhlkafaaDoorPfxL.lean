/- Plain laws of addresses bit by bit: masks, equality, addresses made of bytes; no program in sight. -/
import Derived.Test.YtgegloplhlkafaaDoorPfxA
set_option autoImplicit false
namespace Go.Proofs.YtgegloplhlkafaaDoor
/-- Bit j (the first is the highest) of a byte, and bit i of an address. -/
def bit8 (x : Int) (j : Nat) : Int := x / 2 ^ (7 - j) % 2
def bitF (a : List Int) (i : Nat) : Int := bit8 (a.getD (i / 8) 0) (i % 8)
theorem bit8_bd (x : Int) (j : Nat) : 0 ≤ bit8 x j ∧ bit8 x j < 2 := by unfold bit8; omega
theorem bit8_mask (x : Int) (k j : Nat) (h0 : 0 ≤ x) (h1 : x < 256) (hk : k < 9) (hj : j < 8) : bit8 (x - x % 2 ^ (8 - k)) j = if j < k then bit8 x j else 0 := by
  obtain ⟨n, rfl⟩ := Int.eq_ofNat_of_zero_le h0
  have key : ∀ k : Fin 9, ∀ j : Fin 8, ∀ n : Fin 256, bit8 (((n.val : Nat) : Int) - ((n.val : Nat) : Int) % 2 ^ (8 - k.val)) j.val = if j.val < k.val then bit8 ((n.val : Nat) : Int) j.val else 0 := by decide +kernel
  exact key ⟨k, hk⟩ ⟨j, hj⟩ ⟨n, by omega⟩
theorem byte_ext (x y : Int) (hx : 0 ≤ x ∧ x < 256) (hy : 0 ≤ y ∧ y < 256) (h : ∀ j, j < 8 → bit8 x j = bit8 y j) : x = y := by
  have h0 := h 0 (by omega); have h1 := h 1 (by omega); have h2 := h 2 (by omega); have h3 := h 3 (by omega)
  have h4 := h 4 (by omega); have h5 := h 5 (by omega); have h6 := h 6 (by omega); have h7 := h 7 (by omega)
  simp only [bit8, Nat.sub_zero] at *

  omega
theorem bit8_zero (j : Nat) : bit8 0 j = 0 := by simp [bit8]
theorem mB_bit (len : Int) (j t : Nat) (x : Int) (hx : 0 ≤ x ∧ x < 256) (ht : t < 8) : bit8 (mB len j x) t = if ((8 * j + t : Nat) : Int) < len then bit8 x t else 0 := by
  unfold mB
  by_cases h1 : len ≤ 8 * j
  · rw [if_pos h1, bit8_zero, if_neg (by omega)]
  · rw [if_neg h1]
    by_cases h2 : len < 8 * j + 8
    · rw [if_pos h2]
      obtain ⟨k, hk⟩ : ∃ k : Nat, len = 8 * j + k := ⟨(len - 8 * j).toNat, by omega⟩
      subst hk
      rw [show (8 * (j : Int) + 8 - (8 * j + k)).toNat = 8 - k by omega, bit8_mask x k t hx.1 hx.2 (by omega) ht]
      by_cases h : t < k
      · rw [if_pos h, if_pos (by omega)]
      · rw [if_neg h, if_neg (by omega)]
    · rw [if_neg h2, if_pos (by omega)]
theorem mB_bd (len : Int) (j : Nat) (x : Int) (hx : 0 ≤ x ∧ x < 256) : 0 ≤ mB len j x ∧ mB len j x < 256 := by
  unfold mB
  split
  · omega
  · split
    · have h1 : (0 : Int) < 2 ^ (8 * (j : Int) + 8 - len).toNat := Int.pow_pos (by omega)
      have h2 := Int.emod_nonneg x (Int.ne_of_gt h1)
      have h3 : x % 2 ^ (8 * (j : Int) + 8 - len).toNat ≤ x := by
        have := Int.mul_ediv_add_emod x (2 ^ (8 * (j : Int) + 8 - len).toNat)
        have h4 : 0 ≤ 2 ^ (8 * (j : Int) + 8 - len).toNat * (x / 2 ^ (8 * (j : Int) + 8 - len).toNat) := Int.mul_nonneg (by omega) (Int.ediv_nonneg hx.1 (by omega))
        omega
      omega
    · exact hx
theorem mTo_get (len : Int) (k i : Nat) (a : List Int) (hi : i < a.length) : (mTo len k a).getD i 0 = if i < k then mB len i a[i] else a[i] := by
  rw [List.getD_eq_getElem?_getD, List.getElem?_eq_getElem (by rw [mTo_length]; exact hi)]
  simp [mTo]
theorem getD_get (a : List Int) (i : Nat) (h : i < a.length) : a.getD i 0 = a[i] := by
  rw [List.getD_eq_getElem?_getD, List.getElem?_eq_getElem h]; rfl
theorem mTo_bs (len : Int) (k : Nat) (a : List Int) (h : Bs a) : Bs (mTo len k a) := by
  intro x hx
  obtain ⟨i, hi, rfl⟩ := List.getElem_of_mem hx
  have hia : i < a.length := by rw [mTo_length] at hi; exact hi
  rw [← getD_get _ _ hi, mTo_get len k i a hia]
  split
  · exact mB_bd len i _ (h.get hia)
  · exact h.get hia
theorem mTo_bit (len : Int) (a : List Int) (ha : a.length = 16) (hb : Bs a) (i : Nat) (hi : i < 128) : bitF (mTo len 16 a) i = if (i : Int) < len then bitF a i else 0 := by
  unfold bitF
  have h8 : i / 8 < a.length := by omega
  rw [mTo_get len 16 (i / 8) a h8, if_pos (by omega), getD_get a _ h8, mB_bit len (i / 8) (i % 8) _ (hb.get h8) (by omega)]
  have e : 8 * (i / 8) + i % 8 = i := by omega
  rw [e]
theorem addr_ext (a b : List Int) (ha : a.length = b.length) (hba : Bs a) (hbb : Bs b) (h : ∀ i, i < 8 * a.length → bitF a i = bitF b i) : a = b := by
  apply List.ext_getElem ha
  intro j h1 h2
  refine byte_ext _ _ (hba.get h1) (hbb.get h2) fun t ht => ?_
  have := h (8 * j + t) (by omega)
  unfold bitF at this
  rw [show (8 * j + t) / 8 = j by omega, show (8 * j + t) % 8 = t by omega, getD_get a j h1, getD_get b j h2] at this
  exact this
/-- A prefix is valid: no bit from its Len on. -/
theorem mTo_same_iff (len : Int) (a : List Int) (ha : a.length = 16) (hb : Bs a) : mTo len 16 a = a ↔ ∀ i : Nat, i < 128 → len ≤ (i : Int) → bitF a i = 0 := by
  constructor
  · intro h i hi hl
    have := mTo_bit len a ha hb i hi
    rw [h, if_neg (by omega)] at this
    exact this
  · intro h
    refine addr_ext _ _ (mTo_length _ _ _) (mTo_bs _ _ _ hb) hb fun i hi => ?_
    rw [mTo_length, ha] at hi
    rw [mTo_bit len a ha hb i hi]
    split
    · rfl
    · exact (h i hi (by omega)).symm
theorem mTo_eq_iff (len : Int) (a b : List Int) (ha : a.length = 16) (hb : b.length = 16) (hba : Bs a) (hbb : Bs b) (hv : ∀ i : Nat, i < 128 → len ≤ (i : Int) → bitF a i = 0) :
    mTo len 16 b = a ↔ ∀ i : Nat, i < 128 → (i : Int) < len → bitF a i = bitF b i := by
  constructor
  · intro h i hi hl
    have := mTo_bit len b hb hbb i hi
    rw [h, if_pos hl] at this
    exact this
  · intro h
    refine addr_ext _ _ (by rw [mTo_length, ha, hb]) (mTo_bs _ _ _ hbb) hba fun i hi => ?_
    rw [mTo_length, hb] at hi
    rw [mTo_bit len b hb hbb i hi]
    split
    · rename_i hl; exact (h i hi hl).symm
    · exact (hv i hi (by omega)).symm
theorem mTo_idem (len : Int) (a : List Int) (ha : a.length = 16) (hb : Bs a) : mTo len 16 (mTo len 16 a) = mTo len 16 a := by
  rw [mTo_same_iff len _ (by rw [mTo_length, ha]) (mTo_bs _ _ _ hb)]
  intro i hi hl
  rw [mTo_bit len a ha hb i hi, if_neg (by omega)]
/-- An address of given bytes, zero behind them. -/
def padA (d : List Int) : List Int := d ++ List.replicate (16 - d.length) 0
theorem padA_len (d : List Int) (h : d.length ≤ 16) : (padA d).length = 16 := by simp [padA]; omega
theorem padA_bs (d : List Int) (h : Bs d) : Bs (padA d) := by
  intro x hx
  rcases List.mem_append.1 hx with hx | hx
  · exact h x hx
  · have := List.eq_of_mem_replicate hx; omega
theorem padA_get (d : List Int) (j : Nat) : (padA d).getD j 0 = d.getD j 0 := by
  simp only [padA, List.getD_eq_getElem?_getD]
  rcases Nat.lt_or_ge j d.length with h | h
  · rw [List.getElem?_append_left h]
  · rw [List.getElem?_append_right h, List.getElem?_replicate, List.getElem?_eq_none h]
    split <;> rfl
theorem padA_bit (d : List Int) (i : Nat) : bitF (padA d) i = bitF d i := by unfold bitF; rw [padA_get]
theorem bitF_far (d : List Int) (i : Nat) (h : 8 * d.length ≤ i) : bitF d i = 0 := by
  unfold bitF
  rw [List.getD_eq_getElem?_getD, List.getElem?_eq_none (by omega)]
  simp [bit8]
theorem bit8_put (x : Int) (j t : Nat) (h0 : 0 ≤ x) (h1 : x < 256) (hj : j < 8) (ht : t < 8) (hb : bit8 x j = 0) : 0 ≤ x + 2 ^ (7 - j) ∧ x + 2 ^ (7 - j) < 256 ∧ bit8 (x + 2 ^ (7 - j)) t = if t = j then 1 else bit8 x t := by
  obtain ⟨n, rfl⟩ := Int.eq_ofNat_of_zero_le h0
  have key : ∀ j : Fin 8, ∀ t : Fin 8, ∀ n : Fin 256, bit8 ((n.val : Nat) : Int) j.val = 0 → 0 ≤ ((n.val : Nat) : Int) + 2 ^ (7 - j.val) ∧ ((n.val : Nat) : Int) + 2 ^ (7 - j.val) < 256 ∧ bit8 (((n.val : Nat) : Int) + 2 ^ (7 - j.val)) t.val = if t.val = j.val then 1 else bit8 ((n.val : Nat) : Int) t.val := by decide +kernel
  exact key ⟨j, hj⟩ ⟨t, ht⟩ ⟨n, by omega⟩ hb
theorem getD_set (a : List Int) (i j : Nat) (v : Int) (hi : i < a.length) : (a.set i v).getD j 0 = if i = j then v else a.getD j 0 := by
  simp only [List.getD_eq_getElem?_getD, List.getElem?_set]
  split
  · rename_i h; subst h; simp
  · rfl
theorem mTo_step (i : Nat) (a : List Int) (ha : a.length = 16) (hb : Bs a) (hi : i < 128) :
    mTo ((i + 1 : Nat) : Int) 16 a = if bitF a i = 1 then (mTo i 16 a).set (i / 8) ((mTo i 16 a).getD (i / 8) 0 + 2 ^ (7 - i % 8)) else mTo i 16 a := by
  have hbd := bit8_bd (a.getD (i / 8) 0) (i % 8)
  have hl := mTo_length i 16 a
  have hmb := mTo_bs i 16 a hb
  have h8 : i / 8 < (mTo i 16 a).length := by omega
  have hx := hmb.get h8
  rw [← getD_get _ _ h8] at hx
  have hz : bit8 ((mTo i 16 a).getD (i / 8) 0) (i % 8) = 0 := by
    have := mTo_bit i a ha hb i hi
    rw [if_neg (by omega)] at this
    exact this
  by_cases h1 : bitF a i = 1
  · rw [if_pos h1]
    refine addr_ext _ _ (by rw [List.length_set, mTo_length, mTo_length]) (mTo_bs _ _ _ hb) ?_ fun t ht => ?_
    · intro y hy
      rcases List.mem_or_eq_of_mem_set hy with hy | hy
      · exact hmb y hy
      · have := bit8_put _ (i % 8) 0 hx.1 hx.2 (by omega) (by omega) hz; omega
    · rw [mTo_length, ha] at ht
      rw [mTo_bit _ a ha hb t ht]
      unfold bitF
      rw [getD_set _ _ _ _ h8]
      by_cases he : i / 8 = t / 8
      · rw [if_pos he, (bit8_put _ (i % 8) (t % 8) hx.1 hx.2 (by omega) (by omega) hz).2.2]
        by_cases ht2 : t % 8 = i % 8
        · have : t = i := by omega
          subst this
          rw [if_pos rfl, if_pos (by omega)]; exact h1
        · rw [if_neg ht2]
          have := mTo_bit i a ha hb t ht
          unfold bitF at this
          rw [← he] at this ⊢
          rw [this]
          have : t ≠ i := fun e => ht2 (by rw [e])
          by_cases hlt : (t : Int) < i
          · rw [if_pos hlt, if_pos (by omega)]
          · rw [if_neg hlt, if_neg (by omega)]
      · rw [if_neg he]
        have := mTo_bit i a ha hb t ht
        unfold bitF at this
        rw [this]
        have : t ≠ i := fun e => he (by rw [e])
        by_cases hlt : (t : Int) < i
        · rw [if_pos hlt, if_pos (by omega)]
        · rw [if_neg hlt, if_neg (by omega)]
  · rw [if_neg h1]
    have h0 : bitF a i = 0 := by unfold bitF at *; omega
    refine addr_ext _ _ (by rw [mTo_length, mTo_length]) (mTo_bs _ _ _ hb) hmb fun t ht => ?_
    rw [mTo_length, ha] at ht
    rw [mTo_bit _ a ha hb t ht, mTo_bit _ a ha hb t ht]
    by_cases e : t = i
    · subst e; rw [if_pos (by omega), if_neg (by omega)]; exact h0
    · by_cases hlt : (t : Int) < i
      · rw [if_pos hlt, if_pos (by omega)]
      · rw [if_neg hlt, if_neg (by omega)]
theorem mTo_zeroA (a : List Int) (ha : a.length = 16) (hb : Bs a) : mTo 0 16 a = List.replicate 16 0 := by
  refine addr_ext _ _ (by rw [mTo_length, ha]; rfl) (mTo_bs _ _ _ hb) (fun x hx => by have := List.eq_of_mem_replicate hx; omega) fun t ht => ?_
  rw [mTo_length, ha] at ht
  rw [mTo_bit _ a ha hb t ht, if_neg (by omega)]
  unfold bitF
  rw [List.getD_eq_getElem?_getD, List.getElem?_replicate]
  split <;> simp [bit8]
theorem mTo_min (len : Int) (d : List Int) (hd : d.length ≤ 16) (hb : Bs d) (m : Int) (hm : m = len ∨ m = 8 * d.length ∧ m ≤ len) : mTo m 16 (padA d) = mTo len 16 (padA d) := by
  rcases hm with rfl | ⟨hm, hle⟩
  · rfl
  · refine addr_ext _ _ (by rw [mTo_length, mTo_length]) (mTo_bs _ _ _ (padA_bs d hb)) (mTo_bs _ _ _ (padA_bs d hb)) fun t ht => ?_
    rw [mTo_length, padA_len d hd] at ht
    rw [mTo_bit _ _ (padA_len d hd) (padA_bs d hb) t ht, mTo_bit _ _ (padA_len d hd) (padA_bs d hb) t ht]
    by_cases h : (t : Int) < m
    · rw [if_pos h, if_pos (by omega)]
    · rw [if_neg h]
      split
      · rw [padA_bit, bitF_far d t (by omega)]
      · rfl
/-- The first bytes of an address that is zero behind them, made anew. -/
theorem padA_take (a : List Int) (n : Nat) (ha : a.length = 16) (hn : n ≤ 16) (hb : Bs a) (hz : ∀ i : Nat, i < 128 → 8 * n ≤ i → bitF a i = 0) : padA (a.take n) = a := by
  have hl : (a.take n).length = n := by rw [List.length_take]; omega
  have hbt : Bs (a.take n) := fun x hx => hb x (List.mem_of_mem_take hx)
  refine addr_ext _ _ (by rw [padA_len _ (by omega), ha]) (padA_bs _ hbt) hb fun t ht => ?_
  rw [padA_len _ (by omega)] at ht
  rw [padA_bit]
  by_cases h : t < 8 * n
  · unfold bitF
    rw [List.getD_eq_getElem?_getD, List.getElem?_take_of_lt (by omega), List.getD_eq_getElem?_getD]
  · rw [bitF_far _ t (by omega), hz t ht (by omega)]
end Go.Proofs.YtgegloplhlkafaaDoor
