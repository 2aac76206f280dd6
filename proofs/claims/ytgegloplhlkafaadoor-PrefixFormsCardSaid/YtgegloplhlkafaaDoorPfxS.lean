/- Plain laws of the texts of prefixes: cutting, numerals, the readings of a text that is one; no program in sight. -/
import Derived.Test.YtgegloplhlkafaaDoorPfxU
import Derived.Lib.SplitLaws
import Derived.Lib.ParseIntB
import Derived.Lib.IndexMore
import Derived.Lib.AtoiAllCases
set_option autoImplicit false
namespace Go.Proofs.YtgegloplhlkafaaDoor

/-- Cutting at a byte. -/
def cutB (b : UInt8) : List UInt8 → List (List UInt8)
  | [] => [[]]
  | c :: r => if c = b then [] :: cutB b r else (match cutB b r with | [] => [[c]] | x :: t => (c :: x) :: t)
theorem cutB_ne (b : UInt8) (l : List UInt8) : cutB b l ≠ [] := by
  cases l with
  | nil => simp [cutB]
  | cons c r => rw [cutB]; split
                · simp
                · split <;> simp
theorem cutB_len (b : UInt8) (l : List UInt8) : (cutB b l).length ≤ l.length + 1 := by
  induction l with
  | nil => simp [cutB]
  | cons c r ih =>
    rw [cutB]; split
    · simp; omega
    · split
      · simp
      · rename_i x t e; rw [e] at ih; simp at ih ⊢; omega
theorem cutB_piece (b : UInt8) (l : List UInt8) : ∀ x ∈ cutB b l, x.length ≤ l.length := by
  induction l with
  | nil => intro x hx; simp [cutB] at hx; subst hx; exact Nat.le_refl _
  | cons c r ih =>
    intro x hx
    rw [cutB] at hx
    split at hx
    · rcases List.mem_cons.1 hx with rfl | hx
      · simp
      · have := ih x hx; simp; omega
    · split at hx
      · have : x = [c] := by simpa using hx
        subst this; simp
      · rename_i y t e
        rw [e] at ih
        rcases List.mem_cons.1 hx with rfl | hx
        · have := ih y (by simp); simp; omega
        · have := ih x (by simp [hx]); simp; omega
theorem cutB_word (b : UInt8) (w : List UInt8) (hw : ∀ c ∈ w, c ≠ b) : cutB b w = [w] := by
  induction w with
  | nil => rfl
  | cons c r ih => rw [cutB, if_neg (hw c (by simp)), ih (fun x hx => hw x (by simp [hx]))]
theorem cutB_app (b : UInt8) (w r : List UInt8) (hw : ∀ c ∈ w, c ≠ b) : cutB b (w ++ b :: r) = w :: cutB b r := by
  induction w with
  | nil => rw [List.nil_append, cutB, if_pos rfl]
  | cons c t ih => rw [List.cons_append, cutB, if_neg (hw c (by simp)), ih (fun x hx => hw x (by simp [hx]))]
theorem cutB_join (b : UInt8) : ∀ (x : List UInt8) (r : List (List UInt8)), (∀ w ∈ x :: r, ∀ c ∈ w, c ≠ b) → cutB b (Lib.join (x :: r) [b]) = x :: r := by
  intro x r
  induction r generalizing x with
  | nil => intro h; rw [Lib.join_one]; exact cutB_word b x (h x (by simp))
  | cons y r ih =>
    intro h
    have e : Lib.join (x :: y :: r) [b] = x ++ b :: Lib.join (y :: r) [b] := by rw [Lib.join_cons, Lib.join_cons]; simp [Lib.joinTail]
    rw [e, cutB_app b x _ (h x (by simp)), ih y (fun w hw => h w (by simp [List.mem_cons.1 hw]))]
theorem byte_first (b : UInt8) (w r : List UInt8) (h : b ∉ w) : Lib.indexByte (w ++ b :: r) b = w.length := by
  induction w with
  | nil => simp [Lib.indexByte]
  | cons c t ih =>
    have hc : (c == b) = false := by rw [beq_eq_false_iff_ne]; rintro rfl; simp at h
    have ht : b ∉ t := fun e => h (by simp [e])
    rw [List.cons_append, Lib.indexByte, hc, ih ht]
    have : ((t.length : Int) == -1) = false := by rw [beq_eq_false_iff_ne]; omega
    rw [this]; simp
theorem byte_none (b : UInt8) (w : List UInt8) (h : b ∉ w) : Lib.indexByte w b = -1 := by
  induction w with
  | nil => simp [Lib.indexByte]
  | cons c t ih =>
    have hc : (c == b) = false := by rw [beq_eq_false_iff_ne]; rintro rfl; simp at h
    have ht : b ∉ t := fun e => h (by simp [e])
    rw [Lib.indexByte, hc, ih ht]; simp
/-- Cutting at a byte, as strings.Split does it. -/
theorem splitK_cut (b : UInt8) : ∀ (n : Nat) (l : List UInt8), l.length ≤ n → Lib.splitK [b] 0 (l.count b) l = cutB b l := by
  intro n
  induction n with
  | zero =>
    intro l h
    have : l = [] := List.length_eq_zero_iff.1 (by omega)
    subst this; rfl
  | succ n ih =>
    intro l h
    by_cases hm : b ∈ l
    · obtain ⟨w, r, rfl, hw⟩ := List.eq_append_cons_of_mem hm
      have hc : (w ++ b :: r).count b = r.count b + 1 := by rw [List.count_append, List.count_eq_zero.2 hw, List.count_cons_self]; omega
      have hi : Lib.index (w ++ b :: r) [b] = w.length := by rw [Lib.index_one]; exact byte_first b w r hw
      rw [hc, Lib.splitK, hi]
      have : ((w.length : Int) == -1) = false := by rw [beq_eq_false_iff_ne]; omega
      rw [this, cutB_app b w r (fun c hc e => hw (e ▸ hc))]
      simp only [Int.toNat_natCast, Nat.add_zero, List.length_singleton, Bool.false_eq_true, if_false]
      rw [List.take_left' rfl, List.drop_append, List.drop_eq_nil_of_le (by omega), show w.length + 1 - w.length = 1 by omega]
      rw [List.nil_append, List.drop_succ_cons, List.drop_zero, ih r (by simp at h; omega)]
    · rw [List.count_eq_zero.2 hm, Lib.splitK, cutB_word b l (fun c hc e => hm (e ▸ hc))]
theorem split_cut (b : UInt8) (l : List UInt8) : Lib.splitK [b] 0 (Lib.count l [b]) l = cutB b l := by
  rw [Lib.count_one]; exact splitK_cut b _ l (Nat.le_refl _)

/-- What strconv reads of decimal numerals. -/
theorem hx_dec (d : Nat) (h : d < 10) : (hx d).toNat = 48 + d := by
  have key : ∀ d : Fin 10, (hx d.1).toNat = 48 + d.1 := by decide
  exact key ⟨d, h⟩
theorem pu10_append (r : List UInt8) : ∀ (l : List UInt8) (acc u : Nat), Lib.parseUint10 acc l = .ok u → Lib.parseUint10 acc (l ++ r) = Lib.parseUint10 u r := by
  intro l
  induction l with
  | nil => intro acc u h; rw [Lib.parseUint10] at h; injection h with h; subst h; rfl
  | cons c t ih =>
    intro acc u h
    rw [List.cons_append, Lib.parseUint10]
    rw [Lib.parseUint10] at h
    split at h
    · rename_i h1
      rw [if_pos h1]
      split at h
      · cases h
      · rename_i h2
        rw [if_neg h2]
        split at h
        · cases h
        · rename_i h3
          rw [if_neg h3]
          exact ih _ _ h
    · cases h
theorem pu10_dig : ∀ x, x ≤ 1000000 → Lib.parseUint10 0 (digL 10 x) = .ok x := by
  intro x
  induction x using Nat.strongRecOn with
  | ind x ih =>
    intro hx'
    by_cases h : x < 10
    · have hd := hx_dec x h
      rw [digL_one 10 x h, Lib.parseUint10, if_pos (by omega), if_neg (by omega), if_neg (by omega), Lib.parseUint10, hd]
      congr 1; omega
    · have hi := ih (x / 10) (by omega) (by omega)
      have hd := hx_dec (x % 10) (by omega)
      rw [digL_more 10 x (by omega) (by omega), pu10_append _ _ _ _ hi, Lib.parseUint10, if_pos (by omega), if_neg (by omega), if_neg (by omega), Lib.parseUint10, hd]
      congr 1; omega
theorem atoi_dig (x : Nat) (h : x ≤ 1000000) : Lib.atoiAll (digL 10 x) = .ok (x : Int) := by
  have hp : Lib.parseMag (digL 10 x) = .ok x := by unfold Lib.parseMag; rw [if_neg (digL_ne 10 x), pu10_dig x h]
  cases hc : digL 10 x with
  | nil => exact absurd hc (digL_ne 10 x)
  | cons c r =>
    obtain ⟨d, hd, rfl⟩ := digL_mem 10 (by omega) (by omega) x c (by rw [hc]; simp)
    have hd := hx_dec d hd
    rw [Lib.atoiAll_plain _ _ (by omega) (by omega), ← hc, hp]
    simp only [Lib.signless]
    rw [if_neg (by omega)]
theorem puM_append (M : Nat) (r : List UInt8) : ∀ (l : List UInt8) (acc u : Nat), Lib.parseUintM M acc l = .ok u → Lib.parseUintM M acc (l ++ r) = Lib.parseUintM M u r := by
  intro l
  induction l with
  | nil => intro acc u h; rw [Lib.parseUintM] at h; injection h with h; subst h; rfl
  | cons c t ih =>
    intro acc u h
    rw [List.cons_append, Lib.parseUintM]
    rw [Lib.parseUintM] at h
    split at h
    · rename_i h1
      rw [if_pos h1]
      split at h
      · cases h
      · rename_i h2
        rw [if_neg h2]
        split at h
        · cases h
        · rename_i h3
          rw [if_neg h3]
          exact ih _ _ h
    · cases h
theorem puM_dig : ∀ x, x ≤ 255 → Lib.parseUintM 255 0 (digL 10 x) = .ok x := by
  intro x
  induction x using Nat.strongRecOn with
  | ind x ih =>
    intro hx'
    by_cases h : x < 10
    · have hd := hx_dec x h
      rw [digL_one 10 x h, Lib.parseUintM, if_pos (by omega), if_neg (by omega), if_neg (by omega), Lib.parseUintM, hd]
      congr 1; omega
    · have hi := ih (x / 10) (by omega) (by omega)
      have hd := hx_dec (x % 10) (by omega)
      rw [digL_more 10 x (by omega) (by omega), puM_append _ _ _ _ _ hi, Lib.parseUintM, if_pos (by omega), if_neg (by omega), if_neg (by omega), Lib.parseUintM, hd]
      congr 1; omega
/-- The value that strconv.ParseUint gives, whatever the error: in base 10 at 8 bits, in base 16 at 16 bits. -/
def v10 (s : List UInt8) : Nat := match Lib.parseUintB 8 s with
  | .ok u => u
  | .range => 255
  | _ => 0
def pu16 (s : List UInt8) : Nat × Nat := if s = [] then (0, 2) else puH 0 s
def v16 (s : List UInt8) : Nat := (pu16 s).1
theorem v10_dig (x : Nat) (h : x ≤ 255) : v10 (digL 10 x) = x := by
  unfold v10 Lib.parseUintB
  rw [if_neg (digL_ne 10 x), show 2 ^ 8 - 1 = 255 from rfl, puM_dig x h]
theorem v16_dig (x : Nat) (h : x ≤ 65535) : v16 (digL 16 x) = x := by
  unfold v16 pu16
  rw [if_neg (digL_ne 16 x), puH_dig x h]
theorem v16_le (s : List UInt8) : v16 s ≤ 65535 := by
  unfold v16 pu16
  split
  · simp
  · exact (puH_le s 0 (by omega)).1
end Go.Proofs.YtgegloplhlkafaaDoor
