/- A path in memory of the call's own (where the seat has not the texts of merge). -/
import Derived.Test.YtceolenmcpndaaaGreatDoorSegC
set_option autoImplicit false
namespace Go.Proofs.YtceolenmcpndaaaGreatDoor
open Go.RowKit

theorem SegsO.append {w : World} {lo : Nat} {vs vs2 : List Value} {l l2 : List Sg} (h : SegsO w lo vs l) (h2 : SegsO w lo vs2 l2) : SegsO w lo (vs ++ vs2) (l ++ l2) := by
  have e1 := h.1
  have e2 := h2.1
  refine ⟨by simp; omega, fun i s hs => ?_⟩
  rcases Nat.lt_or_ge i l.length with hi | hi
  · rw [List.getElem?_append_left hi] at hs
    obtain ⟨v0, v1, a, b, c⟩ := h.2 i s hs
    exact ⟨v0, v1, by rw [List.getElem?_append_left (by omega)]; exact a, by rw [List.getElem?_append_left (by omega)]; exact b, c⟩
  · rw [List.getElem?_append_right hi] at hs
    obtain ⟨v0, v1, a, b, c⟩ := h2.2 _ s hs
    refine ⟨v0, v1, ?_, ?_, c⟩
    · rw [List.getElem?_append_right (by omega), show i * 2 - vs.length = (i - l.length) * 2 by omega]; exact a
    · rw [List.getElem?_append_right (by omega), show i * 2 + 1 - vs.length = (i - l.length) * 2 + 1 by omega]; exact b
theorem SegsO.one {w : World} {lo : Nat} {vs : List Value} {l : List Sg} (h : SegsO w lo vs l) : ∀ u ∈ vs, u.oneCell' = true := by
  intro u hu
  obtain ⟨i, hi, rfl⟩ := List.getElem_of_mem hu
  have e := h.1
  have hi2 : i / 2 < l.length := by omega
  obtain ⟨v0, v1, a, b, e0, e1⟩ := h.2 (i / 2) _ (List.getElem?_eq_getElem hi2)
  obtain ⟨A, c, e2, _⟩ := slice_of_own e1
  rcases Nat.mod_two_eq_zero_or_one i with hp | hp
  · rw [show i / 2 * 2 = i by omega] at a
    rw [(List.getElem?_eq_some_iff.1 a).2, e0]; rfl
  · rw [show i / 2 * 2 + 1 = i by omega] at b
    rw [(List.getElem?_eq_some_iff.1 b).2, e2]; rfl
/-- A result that is a path in memory of the call's own. -/
def OwnP (lo : Nat) (l : List Sg) (v : Value) (w : World) : Prop := ∃ A c vs, v = .slice A l.length c ∧ l.length ≤ c ∧ c ≤ maxLen ∧ w.ownsRow lo 40 2 (.slice A l.length c) l.length vs ∧ SegsO w lo vs l
theorem OwnP.keep {lo : Nat} {l : List Sg} {v : Value} {w w' : World} (h : OwnP lo l v w) (hb : Below w.heap.size w w') : OwnP lo l v w' := by
  obtain ⟨A, c, vs, e, h1, h2, h3, h4⟩ := h
  exact ⟨A, c, vs, e, h1, h2, own_keep h3 fun b hb' => hb.block b (h3.lt b hb').2, h4.keep fun b _ hb' => hb.block b hb'⟩
theorem OwnP.more {lo lo' : Nat} {l : List Sg} {v : Value} {w : World} (h : OwnP lo l v w) (hl : lo' ≤ lo) : OwnP lo' l v w := by
  obtain ⟨A, c, vs, e, h1, h2, h3, h4⟩ := h
  exact ⟨A, c, vs, e, h1, h2, own_base h3 hl, h4.more hl⟩
theorem OwnP.path {lo : Nat} {l : List Sg} {v : Value} {w : World} (h : OwnP lo l v w) : ∃ A c, v = .slice A l.length c ∧ l.length ≤ c ∧ c ≤ maxLen ∧ Path w w.heap.size A l := by
  obtain ⟨A, c, vs, e, h1, h2, h3, h4⟩ := h
  exact ⟨A, c, e, h1, h2, h4.path h3 rfl⟩
theorem OwnP.of {lo : Nat} {l : List Sg} {A : Option Addr} {c : Nat} {vs : List Value} {w : World} (h3 : w.ownsRow lo 40 2 (.slice A l.length c) l.length vs) (h4 : SegsO w lo vs l) : OwnP lo l (.slice A l.length c) w := by
  obtain ⟨A', c', e, h1, h2⟩ := slice_of_own h3
  injection e with e1 e2 e3
  subst e3
  exact ⟨A, c, vs, rfl, h1, h2, h3, h4⟩
end Go.Proofs.YtceolenmcpndaaaGreatDoor
