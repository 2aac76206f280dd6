/- Plain laws of the readings of the texts of paths, of the program and of the reference; no program in sight. -/
import Derived.Test.YtceolenmcpndaaaGreatDoorTxtL
import Derived.Lib.SplitLaws
import Derived.Lib.ParseIntB
import Derived.Lib.IndexAny
set_option autoImplicit false
namespace Go.Proofs.YtceolenmcpndaaaGreatDoor
open Go.RowKit

theorem byte_first (b : UInt8) (w r : List UInt8) (h : b ∉ w) : Lib.indexByte (w ++ b :: r) b = w.length := by
  induction w with
  | nil => simp [Lib.indexByte]
  | cons c t ih =>
    have hc : (c == b) = false := by rw [beq_eq_false_iff_ne]; rintro rfl; simp at h
    have ht : b ∉ t := fun e => h (by simp [e])
    rw [List.cons_append, Lib.indexByte, hc, ih ht]
    have : ((t.length : Int) == -1) = false := by rw [beq_eq_false_iff_ne]; omega
    rw [this]; simp
/-- Cutting at a byte, as strings.Split does it. -/
theorem splitK_cut (b : UInt8) : ∀ (n : Nat) (l : List UInt8), l.length ≤ n → Lib.splitK [b] 0 (l.count b) l = cutB b l := by
  intro n
  induction n with
  | zero =>
    intro l h
    have : l = [] := List.length_eq_zero_iff.1 (by omega)
    subst this; rfl
  | succ n ih =>
    intro l h
    by_cases hm : b ∈ l
    · obtain ⟨w, r, rfl, hw⟩ := List.eq_append_cons_of_mem hm
      have hc : (w ++ b :: r).count b = r.count b + 1 := by rw [List.count_append, List.count_eq_zero.2 hw, List.count_cons_self]; omega
      have hi : Lib.index (w ++ b :: r) [b] = w.length := by rw [Lib.index_one]; exact byte_first b w r hw
      rw [hc, Lib.splitK, hi]
      have : ((w.length : Int) == -1) = false := by rw [beq_eq_false_iff_ne]; omega
      rw [this, cutB_app b w r (fun c hc e => hw (e ▸ hc))]
      simp only [Int.toNat_natCast, Nat.add_zero, List.length_singleton, Bool.false_eq_true, if_false]
      rw [List.take_left' rfl, List.drop_append, List.drop_eq_nil_of_le (by omega), show w.length + 1 - w.length = 1 by omega]
      rw [List.nil_append, List.drop_succ_cons, List.drop_zero, ih r (by simp at h; omega)]
    · rw [List.count_eq_zero.2 hm, Lib.splitK, cutB_word b l (fun c hc e => hm (e ▸ hc))]
theorem split_cut (b : UInt8) (l : List UInt8) : Lib.splitK [b] 0 (Lib.count l [b]) l = cutB b l := by
  rw [Lib.count_one]; exact splitK_cut b _ l (Nat.le_refl _)
def valA (acc : Nat) (l : List UInt8) : Nat := l.foldl (fun n c => n * 10 + (c.toNat - 48)) acc
theorem valA_ge (l : List UInt8) : ∀ acc, acc ≤ valA acc l := by
  induction l with
  | nil => intro acc; exact Nat.le_refl _
  | cons c r ih =>
    intro acc
    have h1 := ih (acc * 10 + (c.toNat - 48))
    have h2 : valA acc (c :: r) = valA (acc * 10 + (c.toNat - 48)) r := rfl
    rw [h2]
    exact Nat.le_trans (by omega) h1
theorem uintM_ok (M : Nat) (hM : M ≤ 4294967295) : ∀ (l : List UInt8) (acc : Nat), acc ≤ M → l.all digB = true → valA acc l ≤ M → Lib.parseUintM M acc l = .ok (valA acc l) := by
  intro l
  induction l with
  | nil => intro acc _ _ _; rfl
  | cons c r ih =>
    intro acc ha hd hv
    rw [List.all_cons, Bool.and_eq_true] at hd
    have hc := hd.1
    simp only [digB, decide_eq_true_eq] at hc
    have hv' : valA (acc * 10 + (c.toNat - 48)) r ≤ M := hv
    have hge := valA_ge r (acc * 10 + (c.toNat - 48))
    rw [Lib.parseUintM, if_pos hc, if_neg (by omega), if_neg (by omega), ih _ (by omega) hd.2 hv']
    rfl
theorem uintM_back (M : Nat) : ∀ (l : List UInt8) (acc u : Nat), acc ≤ M → Lib.parseUintM M acc l = .ok u → l.all digB = true ∧ valA acc l = u ∧ u ≤ M := by
  intro l
  induction l with
  | nil => intro acc u ha h; rw [Lib.parseUintM] at h; injection h with h; exact ⟨rfl, h, by omega⟩
  | cons c r ih =>
    intro acc u ha h
    rw [Lib.parseUintM] at h
    split at h
    · rename_i hc
      split at h
      · cases h
      · split at h
        · cases h
        · obtain ⟨h1, h2, h3⟩ := ih _ u (by omega) h
          exact ⟨by rw [List.all_cons, h1]; simp [digB, hc], h2, h3⟩
    · cases h
/-- A word as strconv.ParseUint reads it. -/
theorem word_ok (w : List UInt8) (u : Nat) (h : Lib.parseUintB 32 w = .ok u) : wordN w = some (u : Int) ∧ u < 4294967296 := by
  unfold Lib.parseUintB at h
  split at h
  · cases h
  · rename_i hw
    obtain ⟨h1, h2, h3⟩ := uintM_back _ w 0 u (by decide) h
    have h3' : u ≤ 4294967295 := h3
    refine ⟨?_, by omega⟩
    unfold wordN
    have e : valD w = u := h2
    rw [e, if_pos ⟨hw, h1, by omega⟩]
theorem word_no (w : List UInt8) (h : ∀ u, Lib.parseUintB 32 w ≠ .ok u) : wordN w = none := by
  unfold wordN
  split
  · rename_i hw
    refine absurd ?_ (h (valD w))
    unfold Lib.parseUintB
    rw [if_neg hw.1]
    exact uintM_ok _ (by decide) w 0 (by decide) hw.2.1 (by have := hw.2.2; show valD w ≤ 4294967295; omega)
  · rfl
theorem any_close (l : List UInt8) : Lib.indexAny l [93, 125] = match l.findIdx? clB with | some i => (i : Int) | none => -1 := by
  induction l with
  | nil => rfl
  | cons c r ih =>
    have hcc : ([93, 125] : List UInt8).contains c = clB c := by
      simp only [clB, List.contains_cons, List.contains_nil, Bool.or_false]
    rw [Lib.indexAny, hcc, List.findIdx?_cons]
    cases hc : clB c
    · simp only [Bool.false_eq_true, if_false]
      rw [ih]
      cases r.findIdx? clB with
      | none => rfl
      | some i =>
        have : ((i : Int) == -1) = false := by rw [beq_eq_false_iff_ne]; omega
        simp [this]
    · rfl
theorem parseT_same : ∀ (f g : Nat) (b : List UInt8), b.length ≤ f → b.length ≤ g → parseT f b = parseT g b := by
  intro f
  induction f with
  | zero =>
    intro g b hf _
    have : b = [] := List.length_eq_zero_iff.1 (by omega)
    subst this
    cases g <;> rfl
  | succ f ih =>
    intro g b hf hg
    cases b with
    | nil => cases g <;> rfl
    | cons c r =>
      cases g with
      | zero => simp at hg
      | succ g =>
        have e : ∀ i, parseT f (trimS (r.drop i)) = parseT g (trimS (r.drop i)) := fun i => by
          have := trimS_len (r.drop i)
          simp only [List.length_drop, List.length_cons] at this hf hg
          exact ih g _ (by omega) (by omega)
        simp only [parseT, e]
def parseL (s : List UInt8) : Option (List Sg) := parseT s.length s
theorem parseL_nil : parseL [] = some [] := rfl
theorem parseL_cons (c : UInt8) (r : List UInt8) : parseL (c :: r) = if kindB c = 0 then none else
    match r.findIdx? clB with
    | none => none
    | some i => match wordsN (cutB 32 (r.take i)) with
      | none => none
      | some ns => (parseL (trimS (r.drop (i + 1)))).map ((kindB c, ns) :: ·) := by
  have e : ∀ i, parseT r.length (trimS (r.drop i)) = parseL (trimS (r.drop i)) := fun i => by
    have := trimS_len (r.drop i)
    simp only [List.length_drop] at this
    exact parseT_same _ _ _ (by omega) (Nat.le_refl _)
  unfold parseL
  rw [List.length_cons, parseT]
  simp only [e]
  rfl
/-- What the program's Parse returns. -/
def parP (s : List UInt8) : Option (List Sg) := match parseL s with
  | some l => if textF l = s then some l else none
  | none => none
theorem text_nil : textF [] = [] := by
  unfold textF; split
  · rfl
  · rfl
theorem valid_nil : validF 4 [] = true := rfl
theorem parP_some (s : List UInt8) (l : List Sg) (h : parP s = some l) : validF 4 l = true ∧ textF l = s := by
  unfold parP at h
  cases hp : parseL s with
  | none => rw [hp] at h; cases h
  | some p =>
    rw [hp] at h
    simp only [] at h
    split at h
    · rename_i ht
      injection h with h
      subst h
      refine ⟨?_, ht⟩
      cases hv : validF 4 p with
      | true => rfl
      | false =>
        have e : textF p = [] := by unfold textF; rw [hv]; rfl
        rw [e] at ht
        subst ht
        rw [parseL_nil] at hp
        injection hp with hp
        subst hp
        cases hv
    · cases h
theorem join_len (xs : List (List UInt8)) (h : ∀ x ∈ xs, 1 ≤ x.length) : xs.length ≤ (Lib.join xs [32]).length := by
  cases xs with
  | nil => simp
  | cons x r =>
    rw [Lib.join_cons]
    have key : ∀ r : List (List UInt8), r.length ≤ (Lib.joinTail [32] r).length := by
      intro r
      induction r with
      | nil => simp
      | cons y t ih =>
        simp only [Lib.joinTail, List.map_cons, List.flatten_cons, List.length_append, List.length_cons] at ih ⊢
        omega
    have := key r
    have := h x (by simp)
    simp only [List.length_cons, List.length_append]
    omega
/-- The program reads each text of a path as this path. -/
theorem parseL_text (l : List Sg) (hv : validF 4 l = true) (hu : ∀ s ∈ l, Us s.2) : parseL (textF l) = some l := by
  have hsh : ∀ s ∈ l, (s.1 = 1 ∨ s.1 = 2) ∧ s.2 ≠ [] ∧ Us s.2 := fun s hs => by
    simp only [validF, Bool.and_eq_true, List.all_eq_true] at hv
    have := hv.1 s hs
    simp only [rightF, Bool.and_eq_true, shapeF, decide_eq_true_eq] at this
    exact ⟨this.1.1, fun e => by rw [e] at this; simp at this, hu s hs⟩
  have e : textF l = Lib.join (l.map segT) [32] := by unfold textF; rw [if_pos hv]
  rw [e]
  have hlen : l.length ≤ (Lib.join (l.map segT) [32]).length := by
    have := join_len (l.map segT) (fun x hx => by
      obtain ⟨s, hs, rfl⟩ := List.mem_map.1 hx
      have : (brO s.1).length = 1 := by unfold brO; split <;> rfl
      simp only [segT, List.length_append]; omega)
    rwa [List.length_map] at this
  exact parseT_text l _ hsh hlen
theorem parP_text (l : List Sg) (hv : validF 4 l = true) (hu : ∀ s ∈ l, Us s.2) : parP (textF l) = some l := by
  unfold parP
  rw [parseL_text l hv hu]
  simp

/-- The reference's reading: digits and brackets. -/
def addL (out : List Sg) (n : Int) : List Sg := match out.getLast? with
  | some s => out.dropLast ++ [(s.1, s.2 ++ [n])]
  | none => out
def scanR : List UInt8 → List Sg → Int → Option (List Sg)
  | [], out, _ => some out
  | c :: r, out, n =>
    if c = 91 ∨ c = 123 then scanR r (out ++ [(if c = 123 then 1 else 2, [])]) n
    else if digB c = true then scanR r out (min (max n 0 * 10 + ((c.toNat : Int) - 48)) 1099511627776)
    else if 0 ≤ n ∧ out ≠ [] then (if 4294967295 < n then none else scanR r (addL out n) (-1))
    else scanR r out (-1)
def refP (s : List UInt8) : Option (List Sg) := match scanR s [] (-1) with
  | some l => if validF 4 l = true ∧ textF l = s then some l else none
  | none => none
theorem addL_snoc (o : List Sg) (s : Sg) (n : Int) : addL (o ++ [s]) n = o ++ [(s.1, s.2 ++ [n])] := by
  simp [addL]
theorem scan_digs (w : List UInt8) (r : List UInt8) (out : List Sg) : ∀ (n : Nat), w.all digB = true → valA n w ≤ 4294967296 → scanR (w ++ r) out n = scanR r out (valA n w : Nat) := by
  induction w with
  | nil => intro n _ _; rfl
  | cons c t ih =>
    intro n hd hv
    rw [List.all_cons, Bool.and_eq_true] at hd
    have hc := hd.1
    obtain ⟨_, _, _, a1, a2⟩ := digB_ne hc
    have hb := hc
    simp only [digB, decide_eq_true_eq] at hb
    have hge := valA_ge t (n * 10 + (c.toNat - 48))
    have hv' : valA (n * 10 + (c.toNat - 48)) t ≤ 4294967296 := hv
    rw [List.cons_append, scanR, if_neg (by simp [a1, a2]), if_pos hc]
    have e : min (max (n : Int) 0 * 10 + ((c.toNat : Int) - 48)) 1099511627776 = ((n * 10 + (c.toNat - 48) : Nat) : Int) := by omega
    rw [e, ih _ hd.2 hv']
    rfl
theorem scan_num (x : Int) (h0 : 0 ≤ x) (h1 : x < 4294967296) (r : List UInt8) (out : List Sg) : scanR (numL x ++ r) out (-1) = scanR r out x := by
  have hd : (numL x).all digB = true := List.all_eq_true.2 (dec_dig _)
  have hne : numL x ≠ [] := dec_ne _
  have hv : valA 0 (numL x) = x.toNat := dec_val x.toNat
  cases hw : numL x with
  | nil => exact absurd hw hne
  | cons c t =>
    rw [hw] at hd hv
    rw [List.all_cons, Bool.and_eq_true] at hd
    have hc := hd.1
    obtain ⟨_, _, _, a1, a2⟩ := digB_ne hc
    have hb := hc
    simp only [digB, decide_eq_true_eq] at hb
    have hv' : valA (c.toNat - 48) t = x.toNat := by have : valA 0 (c :: t) = valA (0 * 10 + (c.toNat - 48)) t := rfl; rw [this, Nat.zero_mul, Nat.zero_add] at hv; exact hv
    rw [List.cons_append, scanR, if_neg (by simp [a1, a2]), if_pos hc]
    have e : min (max (-1 : Int) 0 * 10 + ((c.toNat : Int) - 48)) 1099511627776 = ((c.toNat - 48 : Nat) : Int) := by omega
    rw [e, scan_digs t r out _ hd.2 (by omega), hv']
    congr 1; omega
theorem scan_sep (c : UInt8) (hc : c = 32 ∨ c = 93 ∨ c = 125) (r : List UInt8) (o : List Sg) (s : Sg) (x : Int) (h0 : 0 ≤ x) (h1 : x < 4294967296) : scanR (c :: r) (o ++ [s]) x = scanR r (o ++ [(s.1, s.2 ++ [x])]) (-1) := by
  have hd : digB c = false := by rcases hc with rfl | rfl | rfl <;> decide
  have hb : ¬ (c = 91 ∨ c = 123) := by rcases hc with rfl | rfl | rfl <;> decide
  rw [scanR, if_neg hb, hd, if_neg (by decide), if_pos ⟨h0, by simp⟩, if_neg (by omega), addL_snoc]
theorem scan_nums (cl : UInt8) (hcl : cl = 93 ∨ cl = 125) (r : List UInt8) (o : List Sg) (k : Int) : ∀ (l : List Int) (zs : List Int), l ≠ [] → Us l → scanR (Lib.join (l.map numL) [32] ++ cl :: r) (o ++ [(k, zs)]) (-1) = scanR r (o ++ [(k, zs ++ l)]) (-1) := by
  intro l
  induction l with
  | nil => intro zs h; exact absurd rfl h
  | cons x t ih =>
    intro zs _ hu
    have hx := hu x (by simp)
    cases t with
    | nil =>
      rw [List.map_cons, List.map_nil, Lib.join_one, scan_num x hx.1 hx.2, scan_sep cl (.inr hcl) r o (k, zs) x hx.1 hx.2]
    | cons y t =>
      have e : Lib.join ((x :: y :: t).map numL) [32] = numL x ++ 32 :: Lib.join ((y :: t).map numL) [32] := by
        rw [List.map_cons, Lib.join_cons, List.map_cons, Lib.join_cons]; simp [Lib.joinTail]
      rw [e, List.append_assoc, scan_num x hx.1 hx.2, List.cons_append, scan_sep 32 (.inl rfl) _ o (k, zs) x hx.1 hx.2, ih _ (by simp) (fun z hz => hu z (by simp [List.mem_cons.1 hz]))]
      simp
theorem scan_text : ∀ (l : List Sg) (o : List Sg), (∀ s ∈ l, (s.1 = 1 ∨ s.1 = 2) ∧ s.2 ≠ [] ∧ Us s.2) → scanR (Lib.join (l.map segT) [32]) o (-1) = some (o ++ l) := by
  intro l
  induction l with
  | nil => intro o _; simp [Lib.join_nil, scanR]
  | cons s t ih =>
    intro o h
    obtain ⟨hk, hn, hu⟩ := h s (by simp)
    obtain ⟨op, c, ho, hc, hop, hcl, hkk⟩ : ∃ op c, brO s.1 = [op] ∧ brC s.1 = [c] ∧ (op = 91 ∨ op = 123) ∧ (c = 93 ∨ c = 125) ∧ (if op = 123 then (1 : Int) else 2) = s.1 := by
      rcases hk with e | e <;> rw [e]
      · exact ⟨123, 125, rfl, rfl, .inr rfl, .inr rfl, rfl⟩
      · exact ⟨91, 93, rfl, rfl, .inl rfl, .inl rfl, rfl⟩
    have key : ∀ tl, scanR (op :: (Lib.join (s.2.map numL) [32] ++ c :: tl)) o (-1) = scanR tl (o ++ [s]) (-1) := fun tl => by
      rw [scanR, if_pos hop, hkk, scan_nums c hcl tl o s.1 s.2 [] hn hu]
      rfl
    cases t with
    | nil =>
      have e : Lib.join ([s].map segT) [32] = op :: (Lib.join (s.2.map numL) [32] ++ c :: []) := by
        rw [List.map_cons, List.map_nil, Lib.join_one, segT, ho, hc]; simp
      rw [e, key]; rfl
    | cons y u =>
      have e : Lib.join ((s :: y :: u).map segT) [32] = op :: (Lib.join (s.2.map numL) [32] ++ c :: (32 :: Lib.join ((y :: u).map segT) [32])) := by
        rw [List.map_cons, Lib.join_cons, segT, ho, hc, List.map_cons, Lib.join_cons]; simp [Lib.joinTail]
      have e2 : scanR (32 :: Lib.join ((y :: u).map segT) [32]) (o ++ [s]) (-1) = scanR (Lib.join ((y :: u).map segT) [32]) (o ++ [s]) (-1) := by
        rw [scanR, if_neg (by decide), if_neg (by decide), if_neg (by omega)]
      rw [e, key, e2, ih _ (fun z hz => h z (by simp [List.mem_cons.1 hz]))]
      simp
theorem refP_text (l : List Sg) (hv : validF 4 l = true) (hu : ∀ s ∈ l, Us s.2) : refP (textF l) = some l := by
  have hsh : ∀ s ∈ l, (s.1 = 1 ∨ s.1 = 2) ∧ s.2 ≠ [] ∧ Us s.2 := fun s hs => by
    have := hv
    simp only [validF, Bool.and_eq_true, List.all_eq_true] at this
    have := this.1 s hs
    simp only [rightF, Bool.and_eq_true, shapeF, decide_eq_true_eq] at this
    exact ⟨this.1.1, fun e => by rw [e] at this; simp at this, hu s hs⟩
  have e : textF l = Lib.join (l.map segT) [32] := by unfold textF; rw [if_pos hv]
  unfold refP
  rw [e, scan_text l [] hsh, List.nil_append]
  simp only []
  rw [if_pos ⟨hv, e⟩]
theorem refP_some (s : List UInt8) (l : List Sg) (h : refP s = some l) : validF 4 l = true ∧ textF l = s := by
  unfold refP at h
  cases hp : scanR s [] (-1) with
  | none => rw [hp] at h; cases h
  | some p =>
    rw [hp] at h
    simp only [] at h
    split at h
    · rename_i hv
      injection h with h
      subst h
      exact hv
    · cases h
theorem wordN_us (w : List UInt8) (x : Int) (h : wordN w = some x) : 0 ≤ x ∧ x < 4294967296 := by
  unfold wordN at h
  split at h
  · rename_i hw
    injection h with h
    omega
  · cases h
theorem wordsN_nil : wordsN [] = some [] := rfl
theorem wordsN_cons (w : List UInt8) (r : List (List UInt8)) : wordsN (w :: r) = (wordN w).bind fun x => (wordsN r).map (x :: ·) := by
  simp only [wordsN, List.mapM_cons]
  cases wordN w with
  | none => rfl
  | some x => cases r.mapM wordN <;> rfl
theorem wordsN_us : ∀ (ws : List (List UInt8)) (ns : List Int), wordsN ws = some ns → ns.length = ws.length ∧ Us ns := by
  intro ws
  induction ws with
  | nil => intro ns h; rw [wordsN_nil] at h; injection h with h; subst h; exact ⟨rfl, fun x hx => by cases hx⟩
  | cons w r ih =>
    intro ns h
    rw [wordsN_cons] at h
    cases hw : wordN w with
    | none => rw [hw] at h; cases h
    | some x =>
      rw [hw] at h
      obtain ⟨ms, hm, rfl⟩ := Option.map_eq_some_iff.1 h
      obtain ⟨h1, h2⟩ := ih ms hm
      exact ⟨by simp [h1], fun y hy => by
        rcases List.mem_cons.1 hy with rfl | hy
        · exact wordN_us w _ hw
        · exact h2 y hy⟩
theorem cutB_len (b : UInt8) (l : List UInt8) : (cutB b l).length ≤ l.length + 1 := by
  induction l with
  | nil => simp [cutB]
  | cons c r ih =>
    rw [cutB]
    split
    · simp; omega
    · split
      · simp
      · rename_i x t e
        rw [e] at ih
        simp at ih ⊢; omega
theorem parseL_us : ∀ (m : Nat) (s : List UInt8) (l : List Sg), s.length ≤ m → parseL s = some l → l.length ≤ s.length ∧ ∀ t ∈ l, t.2.length ≤ s.length ∧ Us t.2 := by
  intro m
  induction m with
  | zero =>
    intro s l hm h
    have : s = [] := List.length_eq_zero_iff.1 (by omega)
    subst this
    rw [parseL_nil] at h; injection h with h; subst h
    exact ⟨Nat.le_refl _, fun t ht => by cases ht⟩
  | succ m ih =>
    intro s l hm h
    cases s with
    | nil => exact ih [] l (by simp) h
    | cons c r =>
      rw [parseL_cons] at h
      split at h
      · cases h
      · split at h
        · cases h
        · rename_i i hi
          split at h
          · cases h
          · rename_i ns hns
            obtain ⟨p, hp, rfl⟩ := Option.map_eq_some_iff.1 h
            have hl := trimS_len (r.drop (i + 1))
            simp only [List.length_drop, List.length_cons] at hl hm
            obtain ⟨h1, h2⟩ := ih _ p (by omega) hp
            obtain ⟨h3, h4⟩ := wordsN_us _ _ hns
            have h5 := cutB_len 32 (r.take i)
            have h6 : (r.take i).length ≤ r.length := by rw [List.length_take]; omega
            refine ⟨by simp only [List.length_cons]; omega, fun t ht => ?_⟩
            rcases List.mem_cons.1 ht with rfl | ht
            · exact ⟨by simp only [List.length_cons]; omega, h4⟩
            · exact ⟨by have := (h2 t ht).1; simp only [List.length_cons]; omega, (h2 t ht).2⟩
theorem addL_us (out : List Sg) (n : Int) (h : ∀ s ∈ out, Us s.2) (h0 : 0 ≤ n) (h1 : n ≤ 4294967295) : ∀ s ∈ addL out n, Us s.2 := by
  rcases List.eq_nil_or_concat out with e | ⟨o, s, e⟩
  · subst e; exact h
  · rw [List.concat_eq_append] at e
    subst e
    rw [addL_snoc]
    intro t ht
    rcases List.mem_append.1 ht with ht | ht
    · exact h t (by simp [ht])
    · have e : t = (s.1, s.2 ++ [n]) := by simpa using ht
      subst e
      intro x hx
      rcases List.mem_append.1 hx with hx | hx
      · exact h s (by simp) x hx
      · have : x = n := by simpa using hx
        omega
theorem scan_us : ∀ (s : List UInt8) (out : List Sg) (n : Int) (l : List Sg), (∀ t ∈ out, Us t.2) → scanR s out n = some l → ∀ t ∈ l, Us t.2 := by
  intro s
  induction s with
  | nil => intro out n l h he; rw [scanR] at he; injection he with he; subst he; exact h
  | cons c r ih =>
    intro out n l h he
    rw [scanR] at he
    split at he
    · refine ih _ _ l ?_ he
      intro t ht
      rcases List.mem_append.1 ht with ht | ht
      · exact h t ht
      · have e : t = (if c = 123 then 1 else 2, []) := by simpa using ht
        subst e
        intro x hx; cases hx
    · split at he
      · exact ih _ _ l h he
      · split at he
        · split at he
          · cases he
          · rename_i hn hm
            exact ih _ _ l (addL_us out n h hn.1 (by omega)) he
        · exact ih _ _ l h he
/-- Both readings are one. -/
theorem par_ref (s : List UInt8) : parP s = refP s := by
  cases hp : parP s with
  | some l =>
    obtain ⟨hv, ht⟩ := parP_some s l hp
    have hu : ∀ t ∈ l, Us t.2 := by
      unfold parP at hp
      cases hq : parseL s with
      | none => rw [hq] at hp; cases hp
      | some p =>
        rw [hq] at hp
        simp only [] at hp
        split at hp
        · injection hp with hp
          subst hp
          exact fun t h => ((parseL_us _ s p (Nat.le_refl _) hq).2 t h).2
        · cases hp
    rw [← ht, refP_text l hv hu]
  | none =>
    cases hr : refP s with
    | none => rfl
    | some l =>
      obtain ⟨hv, ht⟩ := refP_some s l hr
      have hu : ∀ t ∈ l, Us t.2 := by
        unfold refP at hr
        cases hq : scanR s [] (-1) with
        | none => rw [hq] at hr; cases hr
        | some p =>
          rw [hq] at hr
          simp only [] at hr
          split at hr
          · injection hr with hr
            subst hr
            exact scan_us s [] (-1) p (fun t h => by cases h) hq
          · cases hr
      rw [← ht, parP_text l hv hu] at hp
      cases hp
end Go.Proofs.YtceolenmcpndaaaGreatDoor
