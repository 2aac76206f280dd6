/- Numerals in a base up to 16: plain laws; no program in sight. -/
import Derived.Test.YtgegloplhlkafaaDoorPfxT
set_option autoImplicit false
namespace Go.Proofs.YtgegloplhlkafaaDoor

def hx (d : Nat) : UInt8 := if d < 10 then UInt8.ofNat (48 + d) else UInt8.ofNat (87 + d)
def digL (b x : Nat) : List UInt8 := if _h : x < b ∨ b < 2 then [hx x] else digL b (x / b) ++ [hx (x % b)]
termination_by x
decreasing_by exact Nat.div_lt_self (by omega) (by omega)
theorem digL_one (b x : Nat) (h : x < b) : digL b x = [hx x] := by rw [digL, dif_pos (.inl h)]
theorem digL_more (b x : Nat) (hb : 2 ≤ b) (h : b ≤ x) : digL b x = digL b (x / b) ++ [hx (x % b)] := by rw [digL, dif_neg (by omega)]
theorem dec_dig (x : Nat) : Lib.decDigits x = digL 10 x := by
  induction x using Nat.strongRecOn with
  | ind x ih =>
    have h10 : ∀ d, d < 10 → UInt8.ofNat (48 + d) = hx d := fun d h => by unfold hx; rw [if_pos h]
    by_cases h : x < 10
    · rw [Lib.decDigits_one h, digL_one 10 x h, ← h10 x h]
    · rw [Lib.decDigits, dif_neg h, digL_more 10 x (by omega) (by omega), ih (x / 10) (by omega), ← h10 (x % 10) (by omega)]
theorem digL_ne (b x : Nat) : digL b x ≠ [] := by rw [digL]; split <;> simp
/-- A numeral has at most k digits below b ^ k. -/
theorem digL_len (b : Nat) (hb : 2 ≤ b) : ∀ (k x : Nat), x < b ^ (k + 1) → (digL b x).length ≤ k + 1 := by
  intro k
  induction k with
  | zero => intro x h; rw [digL_one b x (by simpa using h)]; simp
  | succ k ih =>
    intro x h
    by_cases hx : x < b
    · rw [digL_one b x hx]; simp
    · rw [digL_more b x hb (by omega)]
      have : x / b < b ^ (k + 1) := by rw [Nat.div_lt_iff_lt_mul (by omega)]; rwa [Nat.pow_succ] at h
      have := ih (x / b) this
      simp; omega
theorem digL_mem (b : Nat) (hb : 2 ≤ b) (hb2 : b ≤ 16) : ∀ (x : Nat), ∀ c ∈ digL b x, ∃ d, d < b ∧ c = hx d := by
  intro x
  induction x using Nat.strongRecOn with
  | ind x ih =>
    intro c hc
    by_cases h : x < b
    · rw [digL_one b x h] at hc
      exact ⟨x, h, by simpa using hc⟩
    · rw [digL_more b x hb (by omega), List.mem_append] at hc
      rcases hc with hc | hc
      · exact ih (x / b) (Nat.div_lt_self (by omega) (by omega)) c hc
      · exact ⟨x % b, Nat.mod_lt _ (by omega), by simpa using hc⟩

/-- The reference's digit, and number. -/
def valC (c : UInt8) : Nat := if 48 ≤ c.toNat ∧ c.toNat ≤ 57 then c.toNat - 48 else if 97 ≤ c.toNat ∧ c.toNat ≤ 102 then c.toNat - 87 else 99
theorem valC_hx (d : Nat) (h : d < 16) : valC (hx d) = d := by
  have key : ∀ d : Fin 16, valC (hx d.1) = d.1 := by decide
  exact key ⟨d, h⟩
def numK (b top : Nat) : Bool → Nat → List UInt8 → Option Nat
  | _, acc, [] => some acc
  | first, acc, c :: r => if b ≤ valC c then none else if top < acc * b + valC c ∨ (first = false ∧ acc * b + valC c < b) then none else numK b top false (acc * b + valC c) r
def numR (b top : Nat) (s : List UInt8) : Option Nat := if s = [] then none else numK b top true 0 s
theorem numK_append (b top : Nat) (r : List UInt8) : ∀ (l : List UInt8) (first : Bool) (acc : Nat), numK b top first acc (l ++ r) = (numK b top first acc l).bind fun n => numK b top (first && l.isEmpty) n r := by
  intro l
  induction l with
  | nil => intro first acc; simp [numK]
  | cons c t ih =>
    intro first acc
    rw [List.cons_append, numK, numK]
    split
    · rfl
    · split
      · rfl
      · rw [ih]; simp
theorem numK_dig (b top : Nat) (hb : 2 ≤ b) (hb2 : b ≤ 16) : ∀ x, x ≤ top → numK b top true 0 (digL b x) = some x := by
  intro x
  induction x using Nat.strongRecOn with
  | ind x ih =>
    intro hx
    by_cases h : x < b
    · rw [digL_one b x h]
      simp only [numK, valC_hx x (by omega)]
      rw [if_neg (by omega), if_neg (by simp; omega)]; simp
    · have hlt : x / b < x := Nat.div_lt_self (by omega) (by omega)
      have hm : x % b < b := Nat.mod_lt _ (by omega)
      have hdm : x / b * b + x % b = x := by rw [Nat.mul_comm]; exact Nat.div_add_mod x b
      rw [digL_more b x hb (by omega), numK_append, ih (x / b) hlt (by omega)]
      have he : (digL b (x / b)).isEmpty = false := by simpa using digL_ne b (x / b)
      simp only [Option.bind_some, he, Bool.and_false, numK, valC_hx (x % b) (by omega)]
      rw [if_neg (by omega), hdm, if_neg (by simp; omega)]
theorem numR_dig (b top : Nat) (hb : 2 ≤ b) (hb2 : b ≤ 16) (x : Nat) (h : x ≤ top) : numR b top (digL b x) = some x := by
  unfold numR
  rw [if_neg (digL_ne b x), numK_dig b top hb hb2 x h]
theorem numK_le (b top : Nat) : ∀ (l : List UInt8) (first : Bool) (acc n : Nat), acc ≤ top → numK b top first acc l = some n → n ≤ top := by
  intro l
  induction l with
  | nil => intro first acc n h e; simp [numK] at e; omega
  | cons c t ih =>
    intro first acc n h e
    rw [numK] at e
    split at e
    · cases e
    · split at e
      · cases e
      · exact ih _ _ _ (by omega) e
theorem numR_le (b top : Nat) (s : List UInt8) (n : Nat) (h : numR b top s = some n) : n ≤ top := by
  unfold numR at h
  split at h
  · cases h
  · exact numK_le b top s true 0 n (Nat.zero_le _) h

/-- The library's reading in base 16 at 16 bits: the number, and 0, 1 (range) or 2 (no numeral). -/
def hexD (c : UInt8) : Option Nat := if 48 ≤ c.toNat ∧ c.toNat ≤ 57 then some (c.toNat - 48) else if 97 ≤ c.toNat ∧ c.toNat ≤ 102 then some (c.toNat - 87) else if 65 ≤ c.toNat ∧ c.toNat ≤ 70 then some (c.toNat - 55) else none
theorem hexD_lt (c : UInt8) (d : Nat) (h : hexD c = some d) : d < 16 := by
  unfold hexD at h
  split at h
  · injection h with h; omega
  · split at h
    · injection h with h; omega
    · split at h
      · injection h with h; omega
      · cases h
theorem hexD_hx (d : Nat) (h : d < 16) : hexD (hx d) = some d := by
  have key : ∀ d : Fin 16, hexD (hx d.1) = some d.1 := by decide
  exact key ⟨d, h⟩
def puH : Nat → List UInt8 → Nat × Nat
  | acc, [] => (acc, 0)
  | acc, c :: r => match hexD c with
    | none => (0, 2)
    | some d => if 65535 < acc * 16 + d then (65535, 1) else puH (acc * 16 + d) r
theorem puH_append (r : List UInt8) : ∀ (l : List UInt8) (acc : Nat), (puH acc l).2 = 0 → puH acc (l ++ r) = puH (puH acc l).1 r := by
  intro l
  induction l with
  | nil => intro acc _; rfl
  | cons c t ih =>
    intro acc h
    rw [List.cons_append]
    simp only [puH] at h ⊢
    cases hc : hexD c with
    | none => rw [hc] at h; cases h
    | some d =>
      rw [hc] at h
      simp only [] at h ⊢
      split
      · rename_i h2; rw [if_pos h2] at h; cases h
      · rename_i h2; rw [if_neg h2] at h; exact ih _ h
theorem puH_dig : ∀ x, x ≤ 65535 → puH 0 (digL 16 x) = (x, 0) := by
  intro x
  induction x using Nat.strongRecOn with
  | ind x ih =>
    intro hx
    by_cases h : x < 16
    · rw [digL_one 16 x h]
      simp only [puH, hexD_hx x h]
      rw [if_neg (by omega)]; simp
    · have hi := ih (x / 16) (by omega) (by omega)
      rw [digL_more 16 x (by omega) (by omega), puH_append _ _ _ (by rw [hi]), hi]
      simp only [puH, hexD_hx (x % 16) (by omega)]
      rw [if_neg (by omega), show x / 16 * 16 + x % 16 = x by omega]
theorem puH_le : ∀ (l : List UInt8) (acc : Nat), acc ≤ 65535 → (puH acc l).1 ≤ 65535 ∧ (puH acc l).2 ≤ 2 := by
  intro l
  induction l with
  | nil => intro acc h; exact ⟨h, Nat.zero_le _⟩
  | cons c t ih =>
    intro acc h
    simp only [puH]
    cases hexD c with
    | none => exact ⟨Nat.zero_le _, Nat.le_refl _⟩
    | some d =>
      simp only []
      split
      · exact ⟨Nat.le_refl _, by simp⟩
      · exact ih _ (by omega)
end Go.Proofs.YtgegloplhlkafaaDoor
