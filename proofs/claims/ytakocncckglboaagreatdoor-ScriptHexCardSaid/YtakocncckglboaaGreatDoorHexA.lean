/- Bytes and hexadecimal digits: plain laws; no program in sight. -/
import Derived.Test.YtakocncckglboaaGreatDoorBase
set_option autoImplicit false
namespace Go.Proofs.YtakocncckglboaaGreatDoor
open Go.RowKit

def hx (d : Nat) : UInt8 := if d < 10 then UInt8.ofNat (48 + d) else UInt8.ofNat (87 + d)
/-- The value of a digit, or 16. -/
def nib (c : UInt8) : Nat := if 48 ≤ c.toNat ∧ c.toNat ≤ 57 then c.toNat - 48 else if 97 ≤ c.toNat ∧ c.toNat ≤ 102 then c.toNat - 87 else 16
theorem nib_hx (d : Nat) (h : d < 16) : nib (hx d) = d := by
  have key : ∀ d : Fin 16, nib (hx d.1) = d.1 := by decide
  exact key ⟨d, h⟩
theorem nib_le (c : UInt8) : nib c ≤ 16 := by unfold nib; split <;> (try split) <;> omega
def hexL (l : List Int) : List UInt8 := l.flatMap fun x => [hx (x.toNat / 16), hx (x.toNat % 16)]
def pairF : List UInt8 → Option (List Int)
  | [] => some []
  | [_] => none
  | a :: b :: r => if nib a < 16 ∧ nib b < 16 then (pairF r).map (((16 * nib a + nib b : Nat) : Int) :: ·) else none
def bytF (s : List UInt8) : Option (List Int) := if s = [] then none else pairF s
theorem hexL_len (l : List Int) : (hexL l).length = 2 * l.length := by
  induction l with
  | nil => rfl
  | cons x r ih => simp only [hexL, List.flatMap_cons, List.length_append, List.length_cons, List.length_nil] at ih ⊢; omega
theorem pairF_hex (l : List Int) (h : ∀ x ∈ l, 0 ≤ x ∧ x < 256) : pairF (hexL l) = some l := by
  induction l with
  | nil => rfl
  | cons x r ih =>
    have hx0 := h x (by simp)
    have e : hexL (x :: r) = hx (x.toNat / 16) :: hx (x.toNat % 16) :: hexL r := by simp [hexL]
    rw [e, pairF, nib_hx _ (by omega), nib_hx _ (by omega), if_pos ⟨by omega, by omega⟩, ih fun y hy => h y (by simp [hy])]
    simp only [Option.map_some, Option.some.injEq, List.cons.injEq, and_true]
    omega
theorem bytF_hex (l : List Int) (h : ∀ x ∈ l, 0 ≤ x ∧ x < 256) : (bytF (hexL l)).getD [] = l ∧ (bytF (hexL l)).isSome = decide (0 < l.length) := by
  unfold bytF
  cases l with
  | nil => exact ⟨rfl, rfl⟩
  | cons x r =>
    rw [if_neg (by simp [hexL]), pairF_hex _ h]
    exact ⟨rfl, by simp⟩
theorem pairF_len : ∀ (n : Nat) (s : List UInt8) (l : List Int), s.length ≤ n → pairF s = some l → s.length = 2 * l.length ∧ ∀ x ∈ l, 0 ≤ x ∧ x < 256 := by
  intro n
  induction n with
  | zero => intro s l hs h; have : s = [] := List.length_eq_zero_iff.1 (by omega); subst this; simp [pairF] at h; subst h; simp
  | succ n ih =>
    intro s l hs h
    match s with
    | [] => simp [pairF] at h; subst h; simp
    | [a] => cases h
    | a :: b :: r =>
      rw [pairF] at h
      split at h
      · rename_i hab
        obtain ⟨t, ht, rfl⟩ := Option.map_eq_some_iff.1 h
        obtain ⟨h1, h2⟩ := ih r t (by simp at hs; omega) ht
        refine ⟨by simp only [List.length_cons]; omega, fun x hx => ?_⟩
        rcases List.mem_cons.1 hx with rfl | hx
        · omega
        · exact h2 x hx
      · cases h
/-- The digit at a place. -/
def vA (s : List UInt8) (k : Nat) : Nat := nib (s.getD k 0)
theorem vA_get (s : List UInt8) (k : Nat) (h : k < s.length) : vA s k = nib s[k] := by
  unfold vA; rw [List.getD_eq_getElem?_getD, List.getElem?_eq_getElem h]; rfl
theorem vA_tail (a b : UInt8) (r : List UInt8) (k : Nat) : vA (a :: b :: r) (k + 2) = vA r k := by simp [vA]
theorem pairF_all : ∀ (n : Nat) (s : List UInt8), s.length = 2 * n → (∀ k, k < s.length → vA s k < 16) → pairF s = some ((List.range n).map fun j => ((16 * vA s (2 * j) + vA s (2 * j + 1) : Nat) : Int)) := by
  intro n
  induction n with
  | zero => intro s hs _; have : s = [] := List.length_eq_zero_iff.1 (by omega); subst this; rfl
  | succ n ih =>
    intro s hs h
    match s, hs with
    | a :: b :: r, hs =>
      have h0 := h 0 (by simp)
      have h1 := h 1 (by simp)
      have e0 : vA (a :: b :: r) 0 = nib a := rfl
      have e1 : vA (a :: b :: r) 1 = nib b := rfl
      rw [e0] at h0
      rw [e1] at h1
      rw [pairF, if_pos ⟨h0, h1⟩, ih r (by simp at hs; omega) fun k hk => by rw [← vA_tail a b r k]; exact h (k + 2) (by simp; omega)]
      rw [List.range_succ_eq_map, List.map_cons, List.map_map, Option.map_some]
      congr 1
theorem pairF_bad : ∀ (n : Nat) (s : List UInt8), s.length ≤ n → (s.length % 2 = 1 ∨ ∃ k, k < s.length ∧ 16 ≤ vA s k) → pairF s = none := by
  intro n
  induction n with
  | zero => intro s hs h; rcases h with h | ⟨k, h, _⟩ <;> omega
  | succ n ih =>
    intro s hs h
    match s with
    | [] => rcases h with h | ⟨k, h, _⟩ <;> simp at h
    | [a] => rfl
    | a :: b :: r =>
      rw [pairF]
      split
      · rename_i hab
        rw [ih r (by simp at hs; omega)]
        · rfl
        · rcases h with h | ⟨k, hk, h16⟩
          · left; simp at h; omega
          · right
            match k with
            | 0 => have e : vA (a :: b :: r) 0 = nib a := rfl
                   omega
            | 1 => have e : vA (a :: b :: r) 1 = nib b := rfl
                   omega
            | k + 2 => exact ⟨k, by simp at hk; omega, by rw [vA_tail] at h16; exact h16⟩
      · rfl
/-- What the program has written when it stands at place i. -/
def outF (s : List UInt8) (i : Nat) : List Int := (List.range (s.length / 2)).map fun j => ((if 2 * j + 1 < i then 16 * vA s (2 * j) + vA s (2 * j + 1) else if 2 * j < i then vA s (2 * j) else 0 : Nat) : Int)
theorem outF_len (s : List UInt8) (i : Nat) : (outF s i).length = s.length / 2 := by simp [outF]
theorem outF_zero (s : List UInt8) : outF s 0 = List.replicate (s.length / 2) 0 := by
  apply List.ext_getElem
  · simp [outF]
  · intro i h1 h2; simp [outF]
theorem outF_get (s : List UInt8) (i j : Nat) (h : j < (outF s i).length) : (outF s i)[j] = ((if 2 * j + 1 < i then 16 * vA s (2 * j) + vA s (2 * j + 1) else if 2 * j < i then vA s (2 * j) else 0 : Nat) : Int) := by simp [outF]
theorem outF_set (s : List UInt8) (i : Nat) : outF s (i + 1) = (outF s i).set (i / 2) (if i % 2 = 0 then (vA s i : Int) else ((16 * vA s (i - 1) + vA s i : Nat) : Int)) := by
  apply List.ext_getElem
  · simp [outF]
  · intro j h1 h2
    rw [List.getElem_set, outF_get]
    by_cases e : i / 2 = j
    · rw [if_pos e]
      by_cases h0 : i % 2 = 0
      · rw [if_pos h0, if_neg (by omega), if_pos (by omega), show 2 * j = i by omega]
      · rw [if_neg h0, if_pos (by omega), show 2 * j + 1 = i by omega, show 2 * j = i - 1 by omega]
    · rw [if_neg e, outF_get]
      by_cases h3 : 2 * j + 1 < i
      · rw [if_pos h3, if_pos (by omega)]
      · rw [if_neg h3, if_neg (by omega)]
        by_cases h4 : 2 * j < i
        · omega
        · rw [if_neg h4, if_neg (by omega)]
theorem outF_end (s : List UInt8) (h0 : s.length % 2 = 0) (h : ∀ k, k < s.length → vA s k < 16) : pairF s = some (outF s s.length) := by
  rw [pairF_all (s.length / 2) s (by omega) h]
  unfold outF
  congr 1
  apply List.map_congr_left
  intro j hj
  have := List.mem_range.1 hj
  rw [if_pos (by omega)]
end Go.Proofs.YtakocncckglboaaGreatDoor
