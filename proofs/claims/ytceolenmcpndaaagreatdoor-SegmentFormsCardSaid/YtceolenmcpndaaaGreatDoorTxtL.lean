/- Plain laws of the texts of paths: numerals, words, the reading of a text that is one; no program in sight. -/
import Derived.Test.YtceolenmcpndaaaGreatDoorTxt
set_option autoImplicit false
namespace Go.Proofs.YtceolenmcpndaaaGreatDoor
/-- The value of digits, and a numeral as a number. -/
def valD (l : List UInt8) : Nat := l.foldl (fun n c => n * 10 + (c.toNat - 48)) 0
def digB (c : UInt8) : Bool := decide (48 ≤ c.toNat ∧ c.toNat ≤ 57)
theorem valD_snoc (l : List UInt8) (c : UInt8) : valD (l ++ [c]) = valD l * 10 + (c.toNat - 48) := by simp [valD]
theorem dig_nat (d : Nat) (h : d < 10) : (UInt8.ofNat (48 + d)).toNat = 48 + d := by
  rw [UInt8.toNat_ofNat']; omega
theorem dec_val (u : Nat) : valD (Lib.decDigits u) = u := by
  induction u using Nat.strongRecOn with
  | _ u ih =>
    by_cases h : u < 10
    · rw [Lib.decDigits_one h]; simp [valD]; omega
    · rw [Lib.decDigits, dif_neg h, valD_snoc, ih (u / 10) (by omega), dig_nat _ (by omega)]; omega
theorem dec_dig (u : Nat) : ∀ c ∈ Lib.decDigits u, digB c = true := by
  induction u using Nat.strongRecOn with
  | _ u ih =>
    intro c hc
    by_cases h : u < 10
    · rw [Lib.decDigits_one h] at hc
      have : c = UInt8.ofNat (48 + u) := by simpa using hc
      rw [this, digB, dig_nat _ h]; simp; omega
    · rw [Lib.decDigits, dif_neg h, List.mem_append] at hc
      rcases hc with hc | hc
      · exact ih _ (by omega) c hc
      · have : c = UInt8.ofNat (48 + u % 10) := by simpa using hc
        rw [this, digB, dig_nat _ (by omega)]; simp; omega
theorem dec_ne (u : Nat) : Lib.decDigits u ≠ [] := by
  intro h
  have := Lib.decDigits_length u
  rw [h] at this
  have := Lib.nDigits_pos u
  simp at *
  omega
theorem digB_ne {c : UInt8} (h : digB c = true) : c ≠ 32 ∧ c ≠ 93 ∧ c ≠ 125 ∧ c ≠ 91 ∧ c ≠ 123 := by
  simp only [digB, decide_eq_true_eq] at h
  refine ⟨?_, ?_, ?_, ?_, ?_⟩ <;> (rintro rfl; simp at h)
/-- Cutting at a byte. -/
def cutB (b : UInt8) : List UInt8 → List (List UInt8)
  | [] => [[]]
  | c :: r => if c = b then [] :: cutB b r else (match cutB b r with | [] => [[c]] | x :: t => (c :: x) :: t)
theorem cutB_ne (b : UInt8) (l : List UInt8) : cutB b l ≠ [] := by
  cases l with
  | nil => simp [cutB]
  | cons c r => rw [cutB]; split
                · simp
                · split <;> simp
theorem cutB_word (b : UInt8) (w : List UInt8) (hw : ∀ c ∈ w, c ≠ b) : cutB b w = [w] := by
  induction w with
  | nil => rfl
  | cons c r ih => rw [cutB, if_neg (hw c (by simp)), ih (fun x hx => hw x (by simp [hx]))]
theorem cutB_app (b : UInt8) (w r : List UInt8) (hw : ∀ c ∈ w, c ≠ b) : cutB b (w ++ b :: r) = w :: cutB b r := by
  induction w with
  | nil => rw [List.nil_append, cutB, if_pos rfl]
  | cons c t ih => rw [List.cons_append, cutB, if_neg (hw c (by simp)), ih (fun x hx => hw x (by simp [hx]))]
theorem cutB_join (b : UInt8) : ∀ (x : List UInt8) (r : List (List UInt8)), (∀ w ∈ x :: r, ∀ c ∈ w, c ≠ b) → cutB b (Lib.join (x :: r) [b]) = x :: r := by
  intro x r
  induction r generalizing x with
  | nil => intro h; rw [Lib.join_one]; exact cutB_word b x (h x (by simp))
  | cons y r ih =>
    intro h
    have e : Lib.join (x :: y :: r) [b] = x ++ b :: Lib.join (y :: r) [b] := by rw [Lib.join_cons, Lib.join_cons]; simp [Lib.joinTail]
    rw [e, cutB_app b x _ (h x (by simp)), ih y (fun w hw => h w (by simp [List.mem_cons.1 hw]))]
/-- A word as a number of 32 bits. -/
def wordN (w : List UInt8) : Option Int := if w ≠ [] ∧ w.all digB = true ∧ valD w < 4294967296 then some (valD w) else none
theorem wordN_num (x : Int) (h0 : 0 ≤ x) (h1 : x < 4294967296) : wordN (numL x) = some x := by
  unfold wordN numL
  rw [dec_val, if_pos ⟨dec_ne _, List.all_eq_true.2 (dec_dig _), by omega⟩]
  congr 1; omega
def wordsN (l : List (List UInt8)) : Option (List Int) := l.mapM wordN
theorem wordsN_num (l : List Int) (h : Us l) : wordsN (l.map numL) = some l := by
  induction l with
  | nil => rfl
  | cons x r ih =>
    have hx := h x (by simp)
    have := ih (fun y hy => h y (by simp [hy]))
    simp only [wordsN] at this ⊢
    rw [List.map_cons, List.mapM_cons, wordN_num x hx.1 hx.2, this]; rfl
def clB (c : UInt8) : Bool := c == 93 || c == 125
def kindB (c : UInt8) : Int := if c = 123 then 1 else if c = 91 then 2 else 0
def trimS (l : List UInt8) : List UInt8 := match l with | 32 :: r => r | l => l
theorem trimS_len (l : List UInt8) : (trimS l).length ≤ l.length := by
  unfold trimS; split <;> simp
/-- The reading of a text, without the question at its end. -/
def parseT : Nat → List UInt8 → Option (List Sg)
  | _, [] => some []
  | 0, _ => none
  | f + 1, c :: r =>
    if kindB c = 0 then none else
    match r.findIdx? clB with
    | none => none
    | some i => match wordsN (cutB 32 (r.take i)) with
      | none => none
      | some ns => (parseT f (trimS (r.drop (i + 1)))).map ((kindB c, ns) :: ·)
theorem join_sp (l : List Int) (hl : l ≠ []) : ∀ c ∈ Lib.join (l.map numL) [32], clB c = false := by
  cases l with
  | nil => exact absurd rfl hl
  | cons x r =>
    rw [List.map_cons, Lib.join_cons]
    intro c hc
    have hd : ∀ (y : Int), c ∈ numL y → clB c = false := fun y hy => by
      obtain ⟨_, a, b, _⟩ := digB_ne (dec_dig _ c hy)
      simp [clB, a, b]
    rcases List.mem_append.1 hc with hc | hc
    · exact hd x hc
    · simp only [Lib.joinTail, List.mem_flatten, List.mem_map] at hc
      obtain ⟨w, ⟨v, ⟨y, _, rfl⟩, rfl⟩, hc⟩ := hc
      rcases List.mem_append.1 hc with hc | hc
      · have : c = 32 := by simpa using hc
        subst this; rfl
      · exact hd y hc
theorem findIdx_first (w r : List UInt8) (c : UInt8) (hw : ∀ x ∈ w, clB x = false) (hc : clB c = true) : (w ++ c :: r).findIdx? clB = some w.length := by
  induction w with
  | nil => simp [List.findIdx?_cons, hc]
  | cons x t ih =>
    rw [List.cons_append, List.findIdx?_cons, hw x (by simp), ih (fun y hy => hw y (by simp [hy]))]
    simp
theorem parseT_text : ∀ (l : List Sg) (f : Nat), (∀ s ∈ l, (s.1 = 1 ∨ s.1 = 2) ∧ s.2 ≠ [] ∧ Us s.2) → l.length ≤ f → parseT f (Lib.join (l.map segT) [32]) = some l := by
  intro l
  induction l with
  | nil => intro f _ _; cases f <;> rfl
  | cons s r ih =>
    intro f h hf
    cases f with
    | zero => simp at hf
    | succ f =>
      obtain ⟨hk, hn, hu⟩ := h s (by simp)
      obtain ⟨o, c, ho, hc, hkb, hcl⟩ : ∃ o c, brO s.1 = [o] ∧ brC s.1 = [c] ∧ kindB o = s.1 ∧ clB c = true := by
        rcases hk with e | e <;> rw [e]
        · exact ⟨123, 125, rfl, rfl, by decide, by decide⟩
        · exact ⟨91, 93, rfl, rfl, by decide, by decide⟩
      obtain ⟨tl, htl, htr⟩ : ∃ tl, Lib.join ((s :: r).map segT) [32] = o :: (Lib.join (s.2.map numL) [32] ++ c :: tl) ∧ trimS tl = Lib.join (r.map segT) [32] := by
        cases r with
        | nil =>
          refine ⟨[], ?_, rfl⟩
          rw [List.map_cons, List.map_nil, Lib.join_one, segT, ho, hc]; simp
        | cons t u =>
          refine ⟨32 :: Lib.join ((t :: u).map segT) [32], ?_, rfl⟩
          rw [List.map_cons, Lib.join_cons, segT, ho, hc, List.map_cons, Lib.join_cons]
          simp [Lib.joinTail]
      rw [htl, parseT, hkb, if_neg (by omega), findIdx_first _ _ _ (join_sp s.2 hn) hcl]
      simp only []
      rw [List.take_left' rfl]
      obtain ⟨x, y, hxy⟩ : ∃ x y, s.2 = x :: y := by cases hs : s.2 with
        | nil => exact absurd hs hn
        | cons x y => exact ⟨x, y, rfl⟩
      have hcut : cutB 32 (Lib.join (s.2.map numL) [32]) = s.2.map numL := by
        rw [hxy, List.map_cons]
        refine cutB_join 32 _ _ fun w hw d hd => ?_
        rw [← List.map_cons (f := numL)] at hw
        obtain ⟨z, _, rfl⟩ := List.mem_map.1 hw
        exact (digB_ne (dec_dig _ d hd)).1
      rw [hcut, wordsN_num s.2 hu]
      simp only []
      have hd : (Lib.join (s.2.map numL) [32] ++ c :: tl).drop ((Lib.join (s.2.map numL) [32]).length + 1) = tl := by
        rw [List.drop_append, List.drop_eq_nil_of_le (by omega), show (Lib.join (s.2.map numL) [32]).length + 1 - (Lib.join (s.2.map numL) [32]).length = 1 by omega]
        simp
      rw [hd, htr, ih f (fun z hz => h z (by simp [hz])) (by simpa using hf)]
      rfl
theorem text_inj (a b : List Sg) (ha : ∀ s ∈ a, (s.1 = 1 ∨ s.1 = 2) ∧ s.2 ≠ [] ∧ Us s.2) (hb : ∀ s ∈ b, (s.1 = 1 ∨ s.1 = 2) ∧ s.2 ≠ [] ∧ Us s.2) (h : Lib.join (a.map segT) [32] = Lib.join (b.map segT) [32]) : a = b := by
  have h1 := parseT_text a (a.length + b.length) ha (by omega)
  have h2 := parseT_text b (a.length + b.length) hb (by omega)
  rw [h, h2] at h1
  injection h1 with h1
  exact h1.symm
end Go.Proofs.YtceolenmcpndaaaGreatDoor
