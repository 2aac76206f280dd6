/- Plain laws of the forms of paths as bytes: big-endian numbers, the form of a path, its reading; no program in sight. -/
import Derived.Test.YtceolenmcpndaaaGreatDoorSeg
set_option autoImplicit false
namespace Go.Proofs.YtceolenmcpndaaaGreatDoor
def beL : Nat → Int → List Int
  | 0, _ => []
  | k + 1, x => beL k (x / 256) ++ [x % 256]
theorem beL_len (k : Nat) : ∀ x, (beL k x).length = k := by
  induction k with
  | zero => intro x; rfl
  | succ k ih => intro x; simp [beL, ih]
theorem beL_bs (k : Nat) : ∀ x, Bs (beL k x) := by
  induction k with
  | zero => intro x y hy; simp [beL] at hy
  | succ k ih =>
    intro x y hy
    rw [beL, List.mem_append] at hy
    rcases hy with hy | hy
    · exact ih _ y hy
    · have : y = x % 256 := by simpa using hy
      omega
theorem beL_big (k : Nat) : ∀ x : Int, 0 ≤ x → x < 256 ^ k → bigI (beL k x) = x := by
  induction k with
  | zero => intro x h0 h1; have : x = 0 := by simp at h1; omega
            subst this; rfl
  | succ k ih =>
    intro x h0 h1
    rw [Int.pow_succ] at h1
    rw [beL, bigI_snoc, ih (x / 256) (by omega) (by omega)]
    omega
theorem bigI_beL (k : Nat) : ∀ l : List Int, l.length = k → Bs l → beL k (bigI l) = l := by
  induction k with
  | zero => intro l h _; have : l = [] := List.length_eq_zero_iff.1 h
            subst this; rfl
  | succ k ih =>
    intro l h hb
    rcases List.eq_nil_or_concat l with e | ⟨m, y, e⟩
    · subst e; simp at h
    · rw [List.concat_eq_append] at e
      subst e
      have hm : m.length = k := by simpa using h
      have hy := hb y (by simp)
      have hbm : Bs m := fun x hx => hb x (by simp [hx])
      rw [bigI_snoc, beL, show (bigI m * 256 + y) / 256 = bigI m by omega, show (bigI m * 256 + y) % 256 = y by omega, ih m hm hbm]

/-- The form of numbers, of a segment, of a path, at a width. -/
def numsB (k : Nat) (l : List Int) : List Int := l.flatMap (beL k)
def segB (k : Nat) (s : Sg) : List Int := s.1 :: (s.2.length : Int) :: numsB k s.2
def pathB (k : Nat) (l : List Sg) : List Int := l.flatMap (segB k)
theorem numsB_len (k : Nat) (l : List Int) : (numsB k l).length = l.length * k := by
  induction l with
  | nil => simp [numsB]
  | cons x r ih => simp only [numsB, List.flatMap_cons, List.length_append, beL_len, List.length_cons] at ih ⊢; rw [ih, Nat.succ_mul]; omega
theorem numsB_cons (k : Nat) (x : Int) (r : List Int) : numsB k (x :: r) = beL k x ++ numsB k r := by simp [numsB]
theorem segB_len (k : Nat) (s : Sg) : (segB k s).length = 2 + s.2.length * k := by simp [segB, numsB_len]; omega
theorem pathB_cons (k : Nat) (s : Sg) (r : List Sg) : pathB k (s :: r) = segB k s ++ pathB k r := by simp [pathB]
theorem pathB_nil (k : Nat) : pathB k [] = [] := rfl
theorem pathB_snoc (k : Nat) (r : List Sg) (s : Sg) : pathB k (r ++ [s]) = pathB k r ++ segB k s := by simp [pathB]
theorem numsB_snoc (k : Nat) (r : List Int) (x : Int) : numsB k (r ++ [x]) = numsB k r ++ beL k x := by simp [numsB]
theorem numsB_inj (k : Nat) : ∀ a b : List Int, (∀ x ∈ a, 0 ≤ x ∧ x < 256 ^ k) → (∀ x ∈ b, 0 ≤ x ∧ x < 256 ^ k) → ∀ p q, a.length = b.length → numsB k a ++ p = numsB k b ++ q → a = b ∧ p = q := by
  intro a
  induction a with
  | nil =>
    intro b _ _ p q hl h
    have : b = [] := List.length_eq_zero_iff.1 hl.symm
    subst this
    exact ⟨rfl, by simpa [numsB] using h⟩
  | cons x r ih =>
    intro b ha hb p q hl h
    cases b with
    | nil => simp at hl
    | cons y t =>
      rw [numsB_cons, numsB_cons, List.append_assoc, List.append_assoc] at h
      obtain ⟨e1, e2⟩ := List.append_inj h (by rw [beL_len, beL_len])
      have hx := ha x (by simp)
      have hy := hb y (by simp)
      have exy : x = y := by rw [← beL_big k x hx.1 hx.2, ← beL_big k y hy.1 hy.2, e1]
      obtain ⟨e3, e4⟩ := ih t (fun z hz => ha z (by simp [hz])) (fun z hz => hb z (by simp [hz])) p q (by simpa using hl) e2
      exact ⟨by rw [exy, e3], e4⟩
theorem pathB_inj (k : Nat) : ∀ a b : List Sg, (∀ s ∈ a, ∀ x ∈ s.2, 0 ≤ x ∧ x < 256 ^ k) → (∀ s ∈ b, ∀ x ∈ s.2, 0 ≤ x ∧ x < 256 ^ k) → pathB k a = pathB k b → a = b := by
  intro a
  induction a with
  | nil =>
    intro b _ _ h
    cases b with
    | nil => rfl
    | cons t r => rw [pathB_cons, pathB_nil] at h; simp [segB] at h
  | cons s r ih =>
    intro b ha hb h
    cases b with
    | nil => rw [pathB_cons, pathB_nil] at h; simp [segB] at h
    | cons t u =>
      rw [pathB_cons, pathB_cons] at h
      simp only [segB, List.cons_append, List.cons.injEq] at h
      obtain ⟨h1, h2, h3⟩ := h
      obtain ⟨h4, h5⟩ := numsB_inj k s.2 t.2 (ha s (by simp)) (hb t (by simp)) _ _ (by omega) h3
      have h6 := ih u (fun z hz => ha z (by simp [hz])) (fun z hz => hb z (by simp [hz])) h5
      rw [h6, show s = t from Prod.ext h1 h4]

/-- The reading of numbers and of a path. -/
def readN (k : Nat) : Nat → List Int → List Int
  | 0, _ => []
  | n + 1, b => bigI (b.take k) :: readN k n (b.drop k)
theorem readN_len (k n : Nat) : ∀ b, (readN k n b).length = n := by
  induction n with
  | zero => intro b; rfl
  | succ n ih => intro b; simp [readN, ih]
theorem readN_snoc (k n : Nat) : ∀ b, readN k (n + 1) b = readN k n b ++ [bigI ((b.drop (n * k)).take k)] := by
  induction n with
  | zero => intro b; simp [readN]
  | succ n ih =>
    intro b
    rw [readN, ih, List.drop_drop, show k + n * k = (n + 1) * k by rw [Nat.succ_mul]; omega]
    rfl
theorem numsB_readN (k n : Nat) : ∀ b, Bs b → n * k ≤ b.length → numsB k (readN k n b) = b.take (n * k) := by
  induction n with
  | zero => intro b _ _; simp [readN, numsB]
  | succ n ih =>
    intro b hb hl
    rw [Nat.succ_mul] at hl
    rw [readN, numsB_cons, bigI_beL k _ (by rw [List.length_take]; omega) (hb.take k), ih _ (hb.drop k) (by rw [List.length_drop]; omega)]
    rw [show (n + 1) * k = k + n * k by rw [Nat.succ_mul]; omega, List.take_add]
theorem readN_numsB (k : Nat) : ∀ (l : List Int) (p : List Int), (∀ x ∈ l, 0 ≤ x ∧ x < 256 ^ k) → readN k l.length (numsB k l ++ p) = l := by
  intro l
  induction l with
  | nil => intro p _; rfl
  | cons x r ih =>
    intro p h
    have hx := h x (by simp)
    rw [List.length_cons, readN, numsB_cons, List.append_assoc]
    rw [List.take_left' (beL_len k x), List.drop_left' (beL_len k x), beL_big k x hx.1 hx.2, ih p (fun z hz => h z (by simp [hz]))]
def headOk (k : Nat) (b : List Int) : Bool :=
  match b with
  | K :: n :: r => decide ((K = 1 ∨ K = 2) ∧ 1 ≤ n ∧ n.toNat * k ≤ r.length)
  | _ => false
def headS (k : Nat) (b : List Int) : Sg := (b.headD 0, readN k (b.getD 1 0).toNat (b.drop 2))
def readF (k : Nat) : Nat → List Int → Option (List Sg)
  | 0, b => if b = [] then some [] else none
  | f + 1, b => if b = [] then some [] else if headOk k b = true then (readF k f (b.drop (2 + (b.getD 1 0).toNat * k))).map (headS k b :: ·) else none
theorem readF_bytes (k : Nat) : ∀ (f : Nat) (b : List Int) (l : List Sg), Bs b → readF k f b = some l → pathB k l = b := by
  intro f
  induction f with
  | zero =>
    intro b l _ h
    rw [readF] at h
    split at h
    · rename_i e; subst e; injection h with h; subst h; rfl
    · cases h
  | succ f ih =>
    intro b l hb h
    rw [readF] at h
    split at h
    · rename_i e; subst e; injection h with h; subst h; rfl
    · split at h
      · rename_i hok
        obtain ⟨r, hr, rfl⟩ := Option.map_eq_some_iff.1 h
        have := ih _ _ (hb.drop _) hr
        rw [pathB_cons, this]
        match b, hok with
        | K :: n :: t, hok =>
          simp only [headOk, decide_eq_true_eq] at hok
          have hn := hb n (by simp)
          simp only [headS, segB, List.headD_cons, List.getD_cons_succ, List.getD_cons_zero, List.drop_succ_cons, List.drop_zero, readN_len]
          rw [numsB_readN k _ t (fun x hx => hb x (by simp [hx])) hok.2.2]
          rw [show 2 + n.toNat * k = (n.toNat * k) + 1 + 1 by omega]
          simp only [List.drop_succ_cons, List.cons_append, List.take_append_drop]
          rw [show ((n.toNat : Nat) : Int) = n by omega]
      · cases h
theorem readF_path (k : Nat) : ∀ (l : List Sg) (f : Nat), (pathB k l).length ≤ f → (∀ s ∈ l, (s.1 = 1 ∨ s.1 = 2) ∧ 1 ≤ s.2.length ∧ ∀ x ∈ s.2, 0 ≤ x ∧ x < 256 ^ k) → readF k f (pathB k l) = some l := by
  intro l
  induction l with
  | nil => intro f _ _; cases f <;> simp [readF, pathB_nil]
  | cons s r ih =>
    intro f hf h
    rw [pathB_cons] at hf ⊢
    have hs := h s (by simp)
    cases f with
    | zero => simp [segB] at hf
    | succ f =>
      rw [readF, if_neg (by simp [segB])]
      have hok : headOk k (segB k s ++ pathB k r) = true := by
        simp only [segB, List.cons_append, headOk, decide_eq_true_eq]
        refine ⟨hs.1, by omega, ?_⟩
        rw [List.length_append, numsB_len]; simp
      rw [if_pos hok]
      have hd : (segB k s ++ pathB k r).drop (2 + ((segB k s ++ pathB k r).getD 1 0).toNat * k) = pathB k r := by
        simp only [segB, List.cons_append, List.getD_cons_succ, List.getD_cons_zero, Int.toNat_natCast]
        rw [show 2 + s.2.length * k = (s.2.length * k) + 1 + 1 by omega]
        simp only [List.drop_succ_cons]
        exact List.drop_left' (numsB_len k s.2)
      have hfr : (pathB k r).length ≤ f := by
        rw [List.length_append, segB_len] at hf; omega
      rw [hd, ih f hfr (fun z hz => h z (by simp [hz]))]
      have hh : headS k (segB k s ++ pathB k r) = s := by
        simp only [headS, segB, List.cons_append, List.headD_cons, List.getD_cons_succ, List.getD_cons_zero, Int.toNat_natCast, List.drop_succ_cons, List.drop_zero]
        rw [readN_numsB k s.2 _ hs.2.2]
      rw [hh]; rfl
end Go.Proofs.YtceolenmcpndaaaGreatDoor
