/- Plain laws of the beginnings of paths and of the path that two paths stand for: lengths, whole paths, nothing at 0. -/
import Derived.Test.YtceolenmcpndaaaDoorHead
set_option autoImplicit false
namespace Go.Proofs.YtceolenmcpndaaaDoor
theorem lenF_cons (s : Sg) (r : List Sg) : lenF (s :: r) = segLen s + lenF r := by
  have key : ∀ (l : List Sg) (a : Int), l.foldl (fun n s => n + segLen s) a = a + l.foldl (fun n s => n + segLen s) 0 := by
    intro l
    induction l with
    | nil => intro a; simp
    | cons x r ih => intro a; simp only [List.foldl_cons]; rw [ih (a + segLen x), ih (0 + segLen x)]; omega
  unfold lenF
  rw [List.foldl_cons, key r (0 + segLen s)]
  omega
theorem lenF_nil : lenF [] = 0 := rfl
theorem lenF_append (a b : List Sg) : lenF (a ++ b) = lenF a + lenF b := by
  induction a with
  | nil => simp [lenF_nil]
  | cons x r ih => rw [List.cons_append, lenF_cons, lenF_cons, ih]; omega
theorem lenF_nn (l : List Sg) : 0 ≤ lenF l := by
  induction l with
  | nil => simp [lenF_nil]
  | cons x r ih => rw [lenF_cons]; have := segLen_nn x; omega
theorem headF_le (l : List Sg) : ∀ n : Int, lenF (headF n l) ≤ max n 0 := by
  induction l with
  | nil => intro n; simp [headF, lenF_nil]; omega
  | cons s r ih =>
    intro n
    rw [headF]
    have h0 := segLen_nn s
    by_cases h : segLen s ≤ n
    · rw [if_pos h, lenF_cons]
      have := ih (n - segLen s)
      omega
    · rw [if_neg h]
      by_cases h2 : 0 < n ∧ s.1 = 2
      · rw [if_pos h2, lenF_cons, lenF_nil]
        have : segLen (2, s.2.take n.toNat) = ((s.2.take n.toNat).length : Int) := by simp [segLen]
        rw [this, List.length_take]
        omega
      · rw [if_neg h2, lenF_nil]; omega
theorem headF_seq (l : List Sg) (hk : ∀ s ∈ l, s.1 = 2) : ∀ n : Int, lenF (headF n l) = max (min n (lenF l)) 0 := by
  induction l with
  | nil => intro n; simp [headF, lenF_nil]; omega
  | cons s r ih =>
    intro n
    rw [headF]
    have h0 := segLen_nn s
    have h1 := lenF_nn r
    have hs2 := hk s (by simp)
    have hsl : segLen s = s.2.length := by simp [segLen, hs2]
    rw [lenF_cons]
    by_cases h : segLen s ≤ n
    · rw [if_pos h, lenF_cons, ih (fun x hx => hk x (by simp [hx]))]
      omega
    · rw [if_neg h]
      by_cases h2 : 0 < n
      · rw [if_pos ⟨h2, hs2⟩, lenF_cons, lenF_nil]
        have : segLen (2, s.2.take n.toNat) = ((s.2.take n.toNat).length : Int) := by simp [segLen]
        rw [this, List.length_take]
        omega
      · rw [if_neg (fun e => h2 e.1), lenF_nil]; omega
theorem headF_all (l : List Sg) : headF (lenF l) l = l := by
  have : ∀ n, lenF l ≤ n → headF n l = l := by
    induction l with
    | nil => intro n _; rfl
    | cons s r ih =>
      intro n h
      rw [lenF_cons] at h
      have := lenF_nn r
      rw [headF, if_pos (by omega), ih _ (by omega)]
  exact this _ (Int.le_refl _)
theorem headF_zero (l : List Sg) (h : ∀ s ∈ l, 1 ≤ segLen s) : headF 0 l = [] := by
  cases l with
  | nil => rfl
  | cons s r => have := h s (by simp); rw [headF, if_neg (by omega), if_neg (by omega)]
theorem headF_mem (M : Nat) (l : List Sg) (h : ∀ s ∈ l, s.2.length ≤ M) : ∀ n, ∀ s ∈ headF n l, s.2.length ≤ M := by
  induction l with
  | nil => intro n s hs; simp [headF] at hs
  | cons x r ih =>
    intro n s hs
    rw [headF] at hs
    split at hs
    · rcases List.mem_cons.1 hs with rfl | hs
      · exact h _ (by simp)
      · exact ih (fun y hy => h y (by simp [hy])) _ s hs
    · split at hs
      · have : s = (2, x.2.take n.toNat) := by simpa using hs
        subst this
        have := h x (by simp)
        simp only [List.length_take]
        omega
      · simp at hs
theorem headF_us (P : Int → Prop) (l : List Sg) (h : ∀ s ∈ l, ∀ x ∈ s.2, P x) : ∀ n, ∀ s ∈ headF n l, ∀ x ∈ s.2, P x := by
  induction l with
  | nil => intro n s hs; simp [headF] at hs
  | cons x r ih =>
    intro n s hs
    rw [headF] at hs
    split at hs
    · rcases List.mem_cons.1 hs with rfl | hs
      · exact h _ (by simp)
      · exact ih (fun y hy => h y (by simp [hy])) _ s hs
    · split at hs
      · have : s = (2, x.2.take n.toNat) := by simpa using hs
        subst this
        intro y hy
        exact h x (by simp) y (List.mem_of_mem_take hy)
      · simp at hs
theorem headF_length (l : List Sg) : ∀ n, (headF n l).length ≤ l.length := by
  induction l with
  | nil => intro n; simp [headF]
  | cons x r ih =>
    intro n
    rw [headF]
    split
    · have := ih (n - segLen x); simp; omega
    · split <;> simp
/-- The path that two paths stand for. -/
def pathsF (a b : List Sg) : List Sg := if lenF a - lenF b < 0 then a else headF (lenF a - lenF b) a ++ b
theorem pathsF_le (a b : List Sg) : lenF (pathsF a b) ≤ lenF a := by
  unfold pathsF
  split
  · exact Int.le_refl _
  · have := headF_le a (lenF a - lenF b)
    rw [lenF_append]; omega
theorem pathsF_self (a : List Sg) (h : ∀ s ∈ a, 1 ≤ segLen s) : pathsF a a = a := by
  unfold pathsF
  rw [if_neg (by omega), Int.sub_self, headF_zero a h]; rfl
theorem pathsF_same (a b : List Sg) (h : ∀ s ∈ a, 1 ≤ segLen s) (hl : lenF a = lenF b) : pathsF a b = b := by
  unfold pathsF
  rw [if_neg (by omega), hl, Int.sub_self, headF_zero a h]; rfl
end Go.Proofs.YtceolenmcpndaaaDoor
