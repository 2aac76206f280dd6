/- Plain laws of the order of prefixes; no program in sight. -/
import Derived.Test.YtgegloplhlkafaaDoorPfxA
set_option autoImplicit false
namespace Go.Proofs.YtgegloplhlkafaaDoor
/-- Comparing numbers, lists, prefixes. -/
def cmpI (x y : Int) : Int := if x < y then -1 else if y < x then 1 else 0
def lexC : List Int → List Int → Int
  | [], [] => 0
  | [], _ :: _ => -1
  | _ :: _, [] => 1
  | x :: a, y :: b => if x = y then lexC a b else cmpI x y
def orF (x y : Int) : Int := if x ≠ 0 then x else y
def cmpP (p q : Int × Int × List Int) : Int := orF (cmpI p.1 q.1) (orF (lexC p.2.2 q.2.2) (cmpI p.2.1 q.2.1))
theorem cmpI_neg (x y : Int) : cmpI y x = - cmpI x y := by unfold cmpI; split <;> split <;> omega
theorem cmpI_zero (x y : Int) : cmpI x y = 0 ↔ x = y := by unfold cmpI; split <;> (try split) <;> omega
theorem lexC_neg : ∀ a b, lexC b a = - lexC a b := by
  intro a
  induction a with
  | nil => intro b; cases b <;> rfl
  | cons x r ih =>
    intro b
    cases b with
    | nil => rfl
    | cons y t =>
      simp only [lexC]
      by_cases h : x = y
      · rw [if_pos h, if_pos h.symm, ih]
      · rw [if_neg h, if_neg (fun e => h e.symm), cmpI_neg]
theorem lexC_zero : ∀ a b, lexC a b = 0 ↔ a = b := by
  intro a
  induction a with
  | nil => intro b; cases b <;> simp [lexC]
  | cons x r ih =>
    intro b
    cases b with
    | nil => simp [lexC]
    | cons y t =>
      simp only [lexC]
      by_cases h : x = y
      · rw [if_pos h, ih]; simp [h]
      · rw [if_neg h, cmpI_zero]; simp [h]
theorem orF_zero (x y : Int) : orF x y = 0 ↔ x = 0 ∧ y = 0 := by unfold orF; split <;> simp_all
theorem orF_neg (x y : Int) : orF (-x) (-y) = - orF x y := by unfold orF; split <;> split <;> omega
theorem cmpP_neg (p q : Int × Int × List Int) : cmpP q p = - cmpP p q := by
  unfold cmpP
  rw [cmpI_neg p.1, lexC_neg p.2.2, cmpI_neg p.2.1, orF_neg, orF_neg]
theorem cmpP_zero (p q : Int × Int × List Int) : cmpP p q = 0 ↔ p = q := by
  unfold cmpP
  rw [orF_zero, orF_zero, cmpI_zero, lexC_zero, cmpI_zero]
  obtain ⟨a, b, c⟩ := p
  obtain ⟨d, e, f⟩ := q
  simp only [Prod.mk.injEq]
  constructor
  · rintro ⟨h1, h2, h3⟩; exact ⟨h1, h3, h2⟩
  · rintro ⟨h1, h2, h3⟩; exact ⟨h1, h3, h2⟩
theorem cmpI_trans (x y z : Int) (h1 : cmpI x y ≤ 0) (h2 : cmpI y z ≤ 0) : cmpI x z ≤ 0 ∧ (cmpI x z = 0 → cmpI x y = 0 ∧ cmpI y z = 0) := by
  unfold cmpI at *; split at h1 <;> split at h2 <;> split <;> (try split) <;> (try split) <;> (try split at h1) <;> (try split at h2) <;> omega
theorem lexC_trans : ∀ a b c, lexC a b ≤ 0 → lexC b c ≤ 0 → lexC a c ≤ 0 ∧ (lexC a c = 0 → lexC a b = 0 ∧ lexC b c = 0) := by
  intro a
  induction a with
  | nil =>
    intro b c h1 h2
    cases b <;> cases c <;> simp [lexC] at *
  | cons x r ih =>
    intro b c h1 h2
    cases b with
    | nil => simp [lexC] at h1
    | cons y t =>
      cases c with
      | nil => simp [lexC] at h2
      | cons z u =>
        simp only [lexC] at h1 h2 ⊢
        by_cases e1 : x = y
        · subst e1
          rw [if_pos rfl] at h1 ⊢
          by_cases e2 : x = z
          · subst e2
            rw [if_pos rfl] at h2 ⊢
            rw [if_pos rfl]; exact ih t u h1 h2
          · rw [if_neg e2] at h2 ⊢
            exact ⟨h2, fun h => absurd ((cmpI_zero _ _).1 h) e2⟩
        · rw [if_neg e1] at h1 ⊢
          have hxy : x < y := by
            have : cmpI x y ≠ 0 := fun h => e1 ((cmpI_zero x y).1 h)
            unfold cmpI at h1 this; split at h1
            · assumption
            · split at h1 <;> simp_all
          have hyz : y ≤ z := by
            by_cases e2 : y = z
            · omega
            · rw [if_neg e2] at h2; unfold cmpI at h2; split at h2
              · omega
              · split at h2 <;> omega
          rw [if_neg (by omega)]
          have : cmpI x z = -1 := by unfold cmpI; rw [if_pos (by omega)]
          rw [this]; exact ⟨by omega, fun h => by omega⟩
theorem orF_trans (a b c a' b' c' : Int) (ha : a ≤ 0 → b ≤ 0 → c ≤ 0 ∧ (c = 0 → a = 0 ∧ b = 0)) (ha' : a = 0 → b = 0 → a' ≤ 0 → b' ≤ 0 → c' ≤ 0 ∧ (c' = 0 → a' = 0 ∧ b' = 0)) (hz : a = 0 → b = 0 → c = 0) :
    orF a a' ≤ 0 → orF b b' ≤ 0 → orF c c' ≤ 0 ∧ (orF c c' = 0 → orF a a' = 0 ∧ orF b b' = 0) := by
  intro h1 h2
  unfold orF at *
  by_cases a0 : a = 0
  · by_cases b0 : b = 0
    · have c0 := hz a0 b0
      simp only [a0, b0, c0, ne_eq, not_true_eq_false, if_false] at h1 h2 ⊢
      exact ha' a0 b0 h1 h2
    · rw [if_pos b0] at h2
      have := ha (by omega) h2
      have c0 : c ≠ 0 := fun h => b0 (this.2 h).2
      rw [if_pos c0, if_pos b0]
      exact ⟨this.1, fun h => absurd h c0⟩
  · rw [if_pos a0] at h1
    have hb : b ≤ 0 := by by_cases b0 : b = 0
                          · omega
                          · rw [if_pos b0] at h2; exact h2
    have := ha h1 hb
    have c0 : c ≠ 0 := fun h => a0 (this.2 h).1
    rw [if_pos c0, if_pos a0]
    exact ⟨this.1, fun h => absurd h c0⟩
theorem cmpP_trans (p q r : Int × Int × List Int) (h1 : cmpP p q ≤ 0) (h2 : cmpP q r ≤ 0) : cmpP p r ≤ 0 := by
  unfold cmpP at *
  refine (orF_trans _ _ _ _ _ _ (cmpI_trans _ _ _) (fun _ _ => orF_trans _ _ _ _ _ _ (lexC_trans _ _ _) (fun _ _ => cmpI_trans _ _ _) ?_) ?_ h1 h2).1
  · intro a b; rw [lexC_zero] at *; rw [a, b]
  · intro a b; rw [cmpI_zero] at *; rw [a, b]
end Go.Proofs.YtgegloplhlkafaaDoor
