/- Plain laws of the reading of a path, a segment at a time; no program in sight. -/
import Derived.Test.YtceolenmcpndaaaGreatDoorSegBL
import Derived.Test.YtceolenmcpndaaaGreatDoorSegV
set_option autoImplicit false
namespace Go.Proofs.YtceolenmcpndaaaGreatDoor

def restB (k : Nat) (b : List Int) : List Int := b.drop (2 + (b.getD 1 0).toNat * k)
def rdF (k : Nat) (b : List Int) : Option (List Sg) := readF k b.length b
theorem readF_same (k : Nat) : ∀ (f g : Nat) (b : List Int), b.length ≤ f → b.length ≤ g → readF k f b = readF k g b := by
  intro f
  induction f with
  | zero =>
    intro g b hf _
    have : b = [] := List.length_eq_zero_iff.1 (by omega)
    subst this
    cases g <;> simp [readF]
  | succ f ih =>
    intro g b hf hg
    cases g with
    | zero =>
      have : b = [] := List.length_eq_zero_iff.1 (by omega)
      subst this
      simp [readF]
    | succ g =>
      rw [readF, readF]
      by_cases hb : b = []
      · rw [if_pos hb, if_pos hb]
      · rw [if_neg hb, if_neg hb]
        have hl : 0 < b.length := List.length_pos_iff.2 hb
        rw [ih g _ (by rw [List.length_drop]; omega) (by rw [List.length_drop]; omega)]
theorem rdF_nil (k : Nat) : rdF k [] = some [] := rfl
theorem rdF_no (k : Nat) (b : List Int) (hb : b ≠ []) (h : headOk k b = false) : rdF k b = none := by
  unfold rdF
  match b, hb with
  | x :: r, hb => rw [List.length_cons, readF, if_neg hb, if_neg (by rw [h]; decide)]
theorem rdF_yes (k : Nat) (b : List Int) (h : headOk k b = true) : rdF k b = (rdF k (restB k b)).map (headS k b :: ·) := by
  have hb : b ≠ [] := by rintro rfl; simp [headOk] at h
  unfold rdF
  match b, hb with
  | x :: r, hb =>
    rw [List.length_cons, readF, if_neg hb, if_pos h]
    have e := readF_same k r.length (restB k (x :: r)).length (restB k (x :: r)) (by simp only [restB, List.length_drop, List.length_cons]; omega) (Nat.le_refl _)
    rw [← e]
    rfl
theorem rd_step {k : Nat} {b b' : List Int} {l : List Sg} (h : rdF k b = (rdF k b').map (l ++ ·)) (hok : headOk k b' = true) : rdF k b = (rdF k (restB k b')).map ((l ++ [headS k b']) ++ ·) := by
  rw [h, rdF_yes k b' hok, Option.map_map]
  congr 1
  funext x
  simp
theorem rd_fail {k : Nat} {b b' : List Int} {l : List Sg} (h : rdF k b = (rdF k b').map (l ++ ·)) (hb : b' ≠ []) (hok : headOk k b' = false) : rdF k b = none := by
  rw [h, rdF_no k b' hb hok]; rfl
theorem rd_end {k : Nat} {b : List Int} {l : List Sg} (h : rdF k b = (rdF k []).map (l ++ ·)) : rdF k b = some l := by
  rw [h, rdF_nil]; simp
theorem rd_start (k : Nat) (b : List Int) : rdF k b = (rdF k b).map (([] : List Sg) ++ ·) := by
  cases rdF k b <;> simp
theorem restB_len (k : Nat) (b : List Int) (h : headOk k b = true) : (restB k b).length < b.length := by
  match b, h with
  | K :: n :: r, h => simp only [restB, List.length_drop, List.length_cons]; omega

theorem readN_us (k n : Nat) (hk : k ≤ 4) : ∀ b, Bs b → Us (readN k n b) := by
  induction n with
  | zero => intro b _ x hx; simp [readN] at hx
  | succ n ih =>
    intro b hb x hx
    rw [readN, List.mem_cons] at hx
    rcases hx with rfl | hx
    · have h1 := (bigI_bd (b.take k) (hb.take k)).1
      have h2 := bigI_lt (b.take k) (hb.take k) 4 (by rw [List.length_take]; omega)
      exact ⟨h1, by simpa using h2⟩
    · exact ih _ (hb.drop k) x hx
theorem readN_small (n : Nat) : ∀ b, Bs b → ∀ x ∈ readN 2 n b, x ≤ 65535 := by
  induction n with
  | zero => intro b _ x hx; simp [readN] at hx
  | succ n ih =>
    intro b hb x hx
    rw [readN, List.mem_cons] at hx
    rcases hx with rfl | hx
    · have h2 := bigI_lt (b.take 2) (hb.take 2) 2 (by rw [List.length_take]; omega)
      have : (256 : Int) ^ 2 = 65536 := by decide
      omega
    · exact ih _ (hb.drop 2) x hx
/-- Whether a segment that was read is right. -/
theorem right_read (k : Nat) (hk : k = 2 ∨ k = 4) (K n : Int) (r : List Int) (hn : 0 ≤ n ∧ n < 256) (hb : Bs r) (hl : n.toNat * k ≤ r.length) :
    rightF k (K, readN k n.toNat r) = headOk k (K :: n :: r) := by
  have hs : smallF (k : Int) (readN k n.toNat r) = true := by
    rcases hk with rfl | rfl
    · simp only [smallF, Bool.or_eq_true]
      right
      rw [List.all_eq_true]
      intro x hx
      exact decide_eq_true (readN_small _ _ hb x hx)
    · rfl
  simp only [rightF, hs, Bool.and_true, shapeF, headOk, readN_len]
  refine decide_eq_decide.2 ?_
  constructor
  · rintro ⟨h1, h2, h3⟩; exact ⟨h1, by omega, hl⟩
  · rintro ⟨h1, h2, h3⟩; exact ⟨h1, by omega, by omega⟩
theorem right_bad (width : Int) (K n : Int) (k : Nat) (r : List Int) (hn : n ≤ 0) : rightF width (K, readN k n.toNat r) = false := by
  have : n.toNat = 0 := by omega
  simp [rightF, shapeF, readN_len, this]
theorem rdF_valid (k : Nat) (hk : k = 2 ∨ k = 4) : ∀ (m : Nat) (b : List Int) (l : List Sg), b.length ≤ m → Bs b → rdF k b = some l → validF k l = true := by
  intro m
  induction m with
  | zero =>
    intro b l hm _ h
    have : b = [] := List.length_eq_zero_iff.1 (by omega)
    subst this
    rw [rdF_nil] at h; injection h with h; subst h
    rcases hk with rfl | rfl <;> rfl
  | succ m ih =>
    intro b l hm hb h
    by_cases e : b = []
    · subst e; exact ih [] l (by simp) hb h
    · cases hok : headOk k b
      · rw [rdF_no k b e hok] at h; cases h
      · rw [rdF_yes k b hok] at h
        obtain ⟨r, hr, rfl⟩ := Option.map_eq_some_iff.1 h
        have := ih (restB k b) _ (by have := restB_len k b hok; omega) (hb.drop _) hr
        simp only [validF, Bool.and_eq_true, List.all_cons] at this ⊢
        refine ⟨⟨?_, this.1⟩, this.2⟩
        match b, hok with
        | K :: n :: t, hok =>
          have hn := hb n (by simp)
          have hl : n.toNat * k ≤ t.length := by simp only [headOk, decide_eq_true_eq] at hok; exact hok.2.2
          have := right_read k hk K n t hn (fun x hx => hb x (by simp [hx])) hl
          rw [hok] at this
          exact this
end Go.Proofs.YtceolenmcpndaaaGreatDoor
