/- Plain laws: the text of a prefix, and the two readings of a text; each reads the text of a valid prefix as this prefix; no program in sight. -/
import Derived.Test.YtgegloplhlkafaaDoorPfxS
set_option autoImplicit false
namespace Go.Proofs.YtgegloplhlkafaaDoor

def grpN (a : List Int) (i : Nat) : Nat := (a.getD (2 * i) 0 * 256 + a.getD (2 * i + 1) 0).toNat
def grpL (a : List Int) : List (List UInt8) := (List.range 8).map fun i => digL 16 (grpN a i)
def text6 (len : Int) (a : List Int) : List UInt8 := Lib.join (grpL a) [58] ++ [47] ++ numL len
def vT (p : Int × Int × List Int) : Bool := vF p.1 p.2.1 p.2.2
def textP (p : Int × Int × List Int) : List UInt8 := if vT p = true then (if p.1 = 1 then text4 p.2.1 p.2.2 else text6 p.2.1 p.2.2) else []
/-- The program's reading. -/
def parts10 (l : List (List UInt8)) : List Int := l.map fun s => (v10 s : Int)
def parts16 (l : List (List UInt8)) : List Int := l.flatMap fun s => [(v16 s : Int) / 256, (v16 s : Int) % 256]
def guessA (n : Int) (s : List UInt8) : Int × Int × List Int := if 0 ≤ Lib.indexByte s 58 then mkP 2 n (parts16 (cutB 58 s)) else mkP 1 n (parts10 (cutB 46 s))
def guessP (s : List UInt8) : Option (Int × Int × List Int) := match Lib.atoiAll (Lib.cut s [47]).2.1 with
  | .ok n => some (guessA n (Lib.cut s [47]).1)
  | _ => none
def keepP (s : List UInt8) : Option (Int × Int × List Int) → Option (Int × Int × List Int)
  | some p => if vT p = true ∧ textP p = s then some p else none
  | none => none
def parP (s : List UInt8) : Option (Int × Int × List Int) := keepP s (guessP s)
/-- The reference's reading. -/
def bytesR (top n : Nat) : List Int := if 255 < top then [(n : Int) / 256, (n : Int) % 256] else [(n : Int) % 256]
def addrF (b top : Nat) : List (List UInt8) → Option (List Int)
  | [] => some []
  | s :: r => match numR b top s with
    | none => none
    | some n => (addrF b top r).map (bytesR top n ++ ·)
def famR (l0 : List UInt8) : Int := if (cutB 58 l0).length = 8 then 2 else 1
def bsR (l0 : List UInt8) : Option (List Int) := if (cutB 58 l0).length = 8 then addrF 16 65535 (cutB 58 l0) else addrF 10 255 (cutB 46 l0)
def guessR (s : List UInt8) : Option (Int × Int × List Int) := match cutB 47 s with
  | [l0, l1] => match bsR l0 with
    | some b => match numR 10 128 l1 with
      | some n => if famR l0 = 1 ∧ b.length ≠ 4 then none else some (mkP (famR l0) n b)
      | none => none
    | none => none
  | _ => none
def parR (s : List UInt8) : Option (Int × Int × List Int) := keepP s (guessR s)

/-- A whole and valid prefix. -/
def WP (p : Int × Int × List Int) : Prop := p.2.2.length = 16 ∧ Bs p.2.2 ∧ vT p = true
theorem hx_ne (d : Nat) (h : d < 16) : hx d ≠ 46 ∧ hx d ≠ 47 ∧ hx d ≠ 58 := by
  have key : ∀ d : Fin 16, hx d.1 ≠ 46 ∧ hx d.1 ≠ 47 ∧ hx d.1 ≠ 58 := by decide
  exact key ⟨d, h⟩
theorem dig_ne (b x : Nat) (hb : 2 ≤ b) (hb2 : b ≤ 16) : ∀ c ∈ digL b x, c ≠ 46 ∧ c ≠ 47 ∧ c ≠ 58 := by
  intro c hc
  obtain ⟨d, hd, rfl⟩ := digL_mem b hb hb2 x c hc
  exact hx_ne d (by omega)
theorem join_mem (sep : UInt8) : ∀ (xs : List (List UInt8)), ∀ c ∈ Lib.join xs [sep], c = sep ∨ ∃ x ∈ xs, c ∈ x := by
  intro xs c hc
  cases xs with
  | nil => simp [Lib.join_nil] at hc
  | cons x r =>
    rw [Lib.join_cons, List.mem_append] at hc
    rcases hc with hc | hc
    · exact .inr ⟨x, by simp, hc⟩
    · unfold Lib.joinTail at hc
      simp only [List.mem_flatten, List.mem_map] at hc
      obtain ⟨l, ⟨y, hy, rfl⟩, hc⟩ := hc
      rw [List.mem_append] at hc
      rcases hc with hc | hc
      · exact .inl (by simpa using hc)
      · exact .inr ⟨y, by simp [hy], hc⟩
theorem numL_dig (x : Int) : numL x = digL 10 x.toNat := by unfold numL; exact dec_dig _
theorem list16 (a : List Int) (h : a.length = 16) : (List.range 8).flatMap (fun i => [a.getD (2 * i) 0, a.getD (2 * i + 1) 0]) = a := by
  match a, h with
  | [x0, x1, x2, x3, x4, x5, x6, x7, x8, x9, x10, x11, x12, x13, x14, x15], _ => rfl
theorem flat_congr {α β : Type} (f g : α → List β) : ∀ (l : List α), (∀ x ∈ l, f x = g x) → l.flatMap f = l.flatMap g := by
  intro l
  induction l with
  | nil => intro _; rfl
  | cons x r ih => intro h; rw [List.flatMap_cons, List.flatMap_cons, h x (by simp), ih fun y hy => h y (by simp [hy])]
theorem grp_bd (a : List Int) (hb : Bs a) (i : Nat) : 0 ≤ a.getD (2 * i) 0 ∧ a.getD (2 * i) 0 < 256 ∧ 0 ≤ a.getD (2 * i + 1) 0 ∧ a.getD (2 * i + 1) 0 < 256 := by
  have key : ∀ j, 0 ≤ a.getD j 0 ∧ a.getD j 0 < 256 := fun j => by
    rcases Nat.lt_or_ge j a.length with h | h
    · rw [getD_get a j h]; exact hb _ (List.getElem_mem h)
    · rw [List.getD_eq_getElem?_getD, List.getElem?_eq_none h]; simp
  exact ⟨(key _).1, (key _).2, (key _).1, (key _).2⟩
theorem grpN_le (a : List Int) (hb : Bs a) (i : Nat) : grpN a i ≤ 65535 := by
  have := grp_bd a hb i
  unfold grpN; omega
theorem parts16_grp (a : List Int) (ha : a.length = 16) (hb : Bs a) : parts16 (grpL a) = a := by
  have e : parts16 (grpL a) = (List.range 8).flatMap fun i => [a.getD (2 * i) 0, a.getD (2 * i + 1) 0] := by
    unfold parts16 grpL
    rw [List.flatMap_map]
    refine flat_congr _ _ _ fun i _ => ?_
    have h := grp_bd a hb i
    rw [v16_dig _ (grpN_le a hb i)]
    unfold grpN
    congr 1
    · omega
    · congr 1; omega
  rw [e, list16 a ha]
theorem parts10_nums (a : List Int) (hb : Bs a) : parts10 (a.map numL) = a := by
  unfold parts10
  rw [List.map_map]
  refine (List.map_congr_left fun x hx => ?_).trans (List.map_id a)
  have := hb x hx
  simp only [Function.comp_apply, numL_dig, id]
  rw [v10_dig _ (by omega)]; omega
theorem addrF_grp (l : List Nat) (h : ∀ n ∈ l, n ≤ 65535) : addrF 16 65535 (l.map (digL 16)) = some (l.flatMap (bytesR 65535)) := by
  induction l with
  | nil => rfl
  | cons n r ih =>
    rw [List.map_cons, addrF, numR_dig 16 65535 (by omega) (by omega) n (h n (by simp)), ih fun m hm => h m (by simp [hm])]
    rfl
theorem addrF_nums (a : List Int) (hb : Bs a) : addrF 10 255 (a.map numL) = some a := by
  induction a with
  | nil => rfl
  | cons x r ih =>
    have hx := hb x (by simp)
    rw [List.map_cons, addrF, numL_dig, numR_dig 10 255 (by omega) (by omega) x.toNat (by omega), ih fun y hy => hb y (by simp [hy])]
    simp only [Option.map_some, bytesR]
    rw [if_neg (by omega)]
    simp only [List.cons_append, List.nil_append]
    congr 2
    omega
theorem addrF_bs (b top : Nat) (ht : top ≤ 65535) : ∀ (l : List (List UInt8)) (d : List Int), addrF b top l = some d → Bs d ∧ d.length ≤ 2 * l.length := by
  intro l
  induction l with
  | nil =>
    intro d h
    rw [addrF] at h
    injection h with h
    subst h
    exact ⟨fun x hx => absurd hx (by simp), by simp⟩
  | cons s r ih =>
    intro d h
    rw [addrF] at h
    cases hn : numR b top s with
    | none => rw [hn] at h; cases h
    | some n =>
      rw [hn] at h
      obtain ⟨t, h1, rfl⟩ := Option.map_eq_some_iff.1 h
      obtain ⟨h2, h3⟩ := ih t h1
      have hle := numR_le b top s n hn
      constructor
      · intro x hx
        rcases List.mem_append.1 hx with hx | hx
        · unfold bytesR at hx
          split at hx
          · rcases List.mem_cons.1 hx with rfl | hx
            · omega
            · have : x = (n : Int) % 256 := by simpa using hx
              omega
          · have : x = (n : Int) % 256 := by simpa using hx
            omega
        · exact h2 x hx
      · have : (bytesR top n).length ≤ 2 := by unfold bytesR; split <;> simp
        simp only [List.length_append, List.length_cons]; omega
theorem parts10_bs (l : List (List UInt8)) : Bs (parts10 l) := by
  intro x hx
  unfold parts10 at hx
  obtain ⟨s, _, rfl⟩ := List.mem_map.1 hx
  have key : v10 s ≤ 255 := by
    unfold v10
    cases h : Lib.parseUintB 8 s with
    | ok u =>
      simp only []
      unfold Lib.parseUintB at h
      split at h
      · cases h
      · have key2 : ∀ (l : List UInt8) (acc u : Nat), acc ≤ 255 → Lib.parseUintM 255 acc l = .ok u → u ≤ 255 := by
          intro l
          induction l with
          | nil => intro acc u ha h; rw [Lib.parseUintM] at h; injection h with h; omega
          | cons c r ih =>
            intro acc u ha h
            rw [Lib.parseUintM] at h
            split at h
            · split at h
              · cases h
              · split at h
                · cases h
                · exact ih _ u (by omega) h
            · cases h
        exact key2 s 0 u (by omega) h
    | _ => simp
  omega
theorem parts16_bs (l : List (List UInt8)) : Bs (parts16 l) := by
  intro x hx
  unfold parts16 at hx
  obtain ⟨s, _, hx⟩ := List.mem_flatMap.1 hx
  have := v16_le s
  rcases List.mem_cons.1 hx with rfl | hx
  · omega
  · have : x = (v16 s : Int) % 256 := by simpa using hx
    omega
theorem mkP_wf (fam n : Int) (d : List Int) (hb : Bs d) : (mkP fam n d).2.2.length = 16 ∧ Bs (mkP fam n d).2.2 := by
  unfold mkP
  split
  · rename_i h
    unfold mkOk at h
    rw [Bool.and_eq_true, decide_eq_true_eq] at h
    have hr := ranged_bd h.1
    have h2 : d.length ≤ 16 := by omega
    exact ⟨by rw [mTo_length, padA_len d h2], mTo_bs _ _ _ (padA_bs d hb)⟩
  · exact ⟨rfl, fun x hx => by have : x = 0 := by simpa [zeroA] using hx
                               omega⟩
theorem keep_some {s : List UInt8} {o : Option (Int × Int × List Int)} {p : Int × Int × List Int} (h : keepP s o = some p) : o = some p ∧ vT p = true ∧ textP p = s := by
  cases o with
  | none => cases h
  | some q =>
    simp only [keepP] at h
    split at h
    · rename_i hq; injection h with h; subst h; exact ⟨rfl, hq⟩
    · cases h
theorem guessP_wf (s : List UInt8) (p : Int × Int × List Int) (h : guessP s = some p) : p.2.2.length = 16 ∧ Bs p.2.2 := by
  unfold guessP at h
  split at h
  · injection h with h
    subst h
    unfold guessA
    split
    · exact mkP_wf _ _ _ (parts16_bs _)
    · exact mkP_wf _ _ _ (parts10_bs _)
  · cases h
theorem bsR_bs (l0 : List UInt8) (b : List Int) (h : bsR l0 = some b) : Bs b ∧ b.length ≤ 2 * (l0.length + 1) := by
  unfold bsR at h
  split at h
  · have := addrF_bs _ _ (by omega) _ _ h
    have h2 := cutB_len 58 l0
    exact ⟨this.1, by omega⟩
  · have := addrF_bs _ _ (by omega) _ _ h
    have h2 := cutB_len 46 l0
    exact ⟨this.1, by omega⟩
theorem guessR_wf (s : List UInt8) (p : Int × Int × List Int) (h : guessR s = some p) : p.2.2.length = 16 ∧ Bs p.2.2 := by
  unfold guessR at h
  split at h
  · split at h
    · rename_i b hb
      split at h
      · split at h
        · cases h
        · injection h with h
          subst h
          exact mkP_wf _ _ _ (bsR_bs _ _ hb).1
      · cases h
    · cases h
  · cases h
theorem parP_sound (s : List UInt8) (p : Int × Int × List Int) (h : parP s = some p) : WP p ∧ textP p = s := by
  obtain ⟨h1, h2, h3⟩ := keep_some h
  have := guessP_wf s p h1
  exact ⟨⟨this.1, this.2, h2⟩, h3⟩
theorem parR_sound (s : List UInt8) (p : Int × Int × List Int) (h : parR s = some p) : WP p ∧ textP p = s := by
  obtain ⟨h1, h2, h3⟩ := keep_some h
  have := guessR_wf s p h1
  exact ⟨⟨this.1, this.2, h2⟩, h3⟩
/-- The parts of the text of a valid prefix. -/
theorem text_parts (p : Int × Int × List Int) (h : WP p) : ∃ J, textP p = J ++ 47 :: numL p.2.1 ∧ (47 : UInt8) ∉ J ∧ (p.1 = 1 ∨ p.1 = 2) ∧ 0 ≤ p.2.1 ∧ p.2.1 ≤ 128 ∧
    (p.1 = 1 → J = Lib.join ((p.2.2.take 4).map numL) [46] ∧ (58 : UInt8) ∉ J ∧ p.2.1 ≤ 32) ∧ (p.1 = 2 → J = Lib.join (grpL p.2.2) [58]) := by
  obtain ⟨fam, len, a⟩ := p
  obtain ⟨ha, hb, hv⟩ := h
  simp only [] at ha hb
  have hv' : vF fam len a = true := hv
  have hr : rangedF fam len = true := by unfold vF at hv'; rw [Bool.and_eq_true] at hv'; exact hv'.1
  obtain ⟨hf, h0, hw, h1, _, _⟩ := ranged_bd hr
  rcases hf with rfl | rfl
  · have e : textP (1, len, a) = text4 len a := by unfold textP; rw [if_pos hv, if_pos rfl]
    have hmem : ∀ c ∈ Lib.join ((a.take 4).map numL) [46], c ≠ 47 ∧ c ≠ 58 := fun c hc => by
      rcases join_mem 46 _ c hc with rfl | ⟨x, hx, hc⟩
      · decide
      · obtain ⟨y, _, rfl⟩ := List.mem_map.1 hx
        rw [numL_dig] at hc
        exact (dig_ne 10 _ (by omega) (by omega) c hc).2
    refine ⟨Lib.join ((a.take 4).map numL) [46], by rw [e, text4]; simp, fun hm => (hmem _ hm).1 rfl, .inl rfl, h0, h1, fun _ => ⟨rfl, fun hm => (hmem _ hm).2 rfl, ?_⟩, fun h => absurd h (by show ¬ (1 : Int) = 2; omega)⟩
    have : widthF 1 = 4 := rfl
    simp only [] ; omega
  · have e : textP (2, len, a) = text6 len a := by unfold textP; rw [if_pos hv, if_neg (by show ¬ (2 : Int) = 1; omega)]
    have hmem : ∀ c ∈ Lib.join (grpL a) [58], c ≠ 47 := fun c hc => by
      rcases join_mem 58 _ c hc with rfl | ⟨x, hx, hc⟩
      · decide
      · unfold grpL at hx
        obtain ⟨y, _, rfl⟩ := List.mem_map.1 hx
        exact (dig_ne 16 _ (by omega) (by omega) c hc).2.1
    exact ⟨Lib.join (grpL a) [58], by rw [e, text6]; simp, fun hm => (hmem _ hm) rfl, .inr rfl, h0, h1, fun h => absurd h (by show ¬ (2 : Int) = 1; omega), fun _ => rfl⟩
theorem cut_slash (J L : List UInt8) (h : (47 : UInt8) ∉ J) : Lib.cut (J ++ 47 :: L) [47] = (J, L, true) := by
  have hi : Lib.index (J ++ 47 :: L) [47] = J.length := by rw [Lib.index_one]; exact byte_first 47 J L h
  unfold Lib.cut
  rw [hi, if_pos (by omega)]
  simp only [Int.toNat_natCast, List.length_singleton]
  rw [List.take_left' rfl, List.drop_append, List.drop_eq_nil_of_le (by omega), show J.length + 1 - J.length = 1 by omega]
  simp
theorem cutB_grp (a : List Int) : cutB 58 (Lib.join (grpL a) [58]) = grpL a := by
  have e : grpL a = digL 16 (grpN a 0) :: (((List.range 8).drop 1).map fun i => digL 16 (grpN a i)) := rfl
  rw [e, cutB_join]
  intro w hw
  rw [← e] at hw
  obtain ⟨i, _, rfl⟩ := List.mem_map.1 hw
  exact fun c hc => (dig_ne 16 _ (by omega) (by omega) c hc).2.2
theorem cutB_nums (x : Int) (r : List Int) : cutB 46 (Lib.join ((x :: r).map numL) [46]) = (x :: r).map numL := by
  rw [List.map_cons, cutB_join]
  intro w hw
  rw [← List.map_cons] at hw
  obtain ⟨y, _, rfl⟩ := List.mem_map.1 hw
  rw [numL_dig]
  exact fun c hc => (dig_ne 10 _ (by omega) (by omega) c hc).1
theorem grp_colon (a : List Int) : 0 ≤ Lib.indexByte (Lib.join (grpL a) [58]) 58 := by
  have e : grpL a = digL 16 (grpN a 0) :: digL 16 (grpN a 1) :: (((List.range 8).drop 2).map fun i => digL 16 (grpN a i)) := rfl
  have e2 : Lib.join (grpL a) [58] = digL 16 (grpN a 0) ++ 58 :: Lib.join (digL 16 (grpN a 1) :: (((List.range 8).drop 2).map fun i => digL 16 (grpN a i))) [58] := by
    rw [e, Lib.join_cons, Lib.join_cons]; simp [Lib.joinTail]
  rw [e2, byte_first 58 _ _ fun hm => (dig_ne 16 _ (by omega) (by omega) _ hm).2.2 rfl]
  omega
theorem take4 (a : List Int) (ha : a.length = 16) : ∃ x r, a.take 4 = x :: r ∧ (a.take 4).length = 4 := by
  match a, ha with
  | x :: r, ha => exact ⟨x, r.take 3, rfl, by simp at ha ⊢; omega⟩
theorem mkP_self (fam len : Int) (a : List Int) (d : List Int) (hv : vF fam len a = true) (hd : (d.length : Int) ≤ widthF fam) (hp : padA d = a) : mkP fam len d = (fam, len, a) := by
  have hv' := hv
  unfold vF at hv'
  rw [Bool.and_eq_true, decide_eq_true_eq] at hv'
  unfold mkP mkOk
  rw [if_pos (by rw [Bool.and_eq_true, decide_eq_true_eq]; exact ⟨hv'.1, hd⟩), hp, hv'.2]
theorem pad4 (len : Int) (a : List Int) (ha : a.length = 16) (hb : Bs a) (hl : len ≤ 32) (hv : vF 1 len a = true) : padA (a.take 4) = a := by
  unfold vF at hv
  rw [Bool.and_eq_true, decide_eq_true_eq] at hv
  have hz := (mTo_same_iff len a ha hb).1 hv.2
  exact padA_take a 4 ha (by omega) hb fun i hi h => hz i hi (by omega)
theorem pad16 (a : List Int) (ha : a.length = 16) : padA a = a := by unfold padA; rw [ha]; simp
theorem guessP_text (p : Int × Int × List Int) (h : WP p) : guessP (textP p) = some p := by
  obtain ⟨J, e, h47, hf, h0, h1, h4, h6⟩ := text_parts p h
  obtain ⟨fam, len, a⟩ := p
  obtain ⟨ha, hb, hv⟩ := h
  simp only [] at *
  rw [e]
  unfold guessP
  rw [cut_slash J _ h47]
  simp only [numL_dig]
  rw [atoi_dig _ (by omega)]
  simp only []
  rw [show ((len.toNat : Nat) : Int) = len by omega]
  congr 1
  unfold guessA
  rcases hf with rfl | rfl
  · obtain ⟨hJ, h58, hl⟩ := h4 rfl
    rw [byte_none 58 J h58, if_neg (by omega), hJ]
    obtain ⟨x, r, hx, hx4⟩ := take4 a ha
    have hb4 : Bs (a.take 4) := fun y hy => hb y (List.mem_of_mem_take hy)
    have hc : cutB 46 (Lib.join ((a.take 4).map numL) [46]) = (a.take 4).map numL := by rw [hx]; exact cutB_nums x r
    rw [hc, parts10_nums _ hb4]
    exact mkP_self 1 len a _ hv (by rw [hx4]; exact Int.le_refl _) (pad4 len a ha hb hl hv)
  · rw [h6 rfl, if_pos (grp_colon a), cutB_grp, parts16_grp a ha hb]
    exact mkP_self 2 len a _ hv (by rw [ha]; exact Int.le_refl _) (pad16 a ha)
theorem guessR_text (p : Int × Int × List Int) (h : WP p) : guessR (textP p) = some p := by
  obtain ⟨J, e, h47, hf, h0, h1, h4, h6⟩ := text_parts p h
  obtain ⟨fam, len, a⟩ := p
  obtain ⟨ha, hb, hv⟩ := h
  simp only [] at *
  have hcut : cutB 47 (textP (fam, len, a)) = [J, numL len] := by
    rw [e, cutB_app 47 J _ (fun c hc e => h47 (e ▸ hc)), cutB_word 47 (numL len) (fun c hc => by rw [numL_dig] at hc; exact (dig_ne 10 _ (by omega) (by omega) c hc).2.1)]
  have hn : numR 10 128 (numL len) = some len.toNat := by rw [numL_dig]; exact numR_dig 10 128 (by omega) (by omega) _ (by omega)
  unfold guessR
  rw [hcut]
  simp only []
  rcases hf with rfl | rfl
  · obtain ⟨hJ, h58, hl⟩ := h4 rfl
    have h1w : cutB 58 J = [J] := cutB_word 58 J fun c hc e => h58 (e ▸ hc)
    have h8 : ¬ (cutB 58 J).length = 8 := by rw [h1w]; simp
    obtain ⟨x, r, hx, hx4⟩ := take4 a ha
    have hb4 : Bs (a.take 4) := fun y hy => hb y (List.mem_of_mem_take hy)
    have hc : cutB 46 J = (a.take 4).map numL := by rw [hJ, hx]; exact cutB_nums x r
    have hbs : bsR J = some (a.take 4) := by unfold bsR; rw [if_neg h8, hc, addrF_nums _ hb4]
    have hfm : famR J = 1 := by unfold famR; rw [if_neg h8]
    rw [hbs, hn, hfm]
    simp only []
    rw [if_neg (by rw [hx4]; simp), show ((len.toNat : Nat) : Int) = len by omega]
    congr 1
    exact mkP_self 1 len a _ hv (by rw [hx4]; exact Int.le_refl _) (pad4 len a ha hb hl hv)
  · have hJ := h6 rfl
    have hg : cutB 58 J = grpL a := by rw [hJ, cutB_grp]
    have h8 : (cutB 58 J).length = 8 := by rw [hg]; rfl
    have hbs : bsR J = some a := by
      unfold bsR
      rw [if_pos h8, hg]
      have : grpL a = ((List.range 8).map (grpN a)).map (digL 16) := by unfold grpL; rw [List.map_map]; rfl
      rw [this, addrF_grp _ fun n hn => by obtain ⟨i, _, rfl⟩ := List.mem_map.1 hn; exact grpN_le a hb i]
      congr 1
      rw [List.flatMap_map]
      have e : (List.range 8).flatMap (fun i => bytesR 65535 (grpN a i)) = (List.range 8).flatMap fun i => [a.getD (2 * i) 0, a.getD (2 * i + 1) 0] := by
        refine flat_congr _ _ _ fun i _ => ?_
        have h := grp_bd a hb i
        unfold bytesR
        rw [if_pos (by omega)]
        unfold grpN
        congr 1
        · omega
        · congr 1; omega
      rw [e, list16 a ha]
    have hfm : famR J = 2 := by unfold famR; rw [if_pos h8]
    rw [hbs, hn, hfm]
    simp only []
    rw [if_neg (by omega), show ((len.toNat : Nat) : Int) = len by omega]
    congr 1
    exact mkP_self 2 len a _ hv (by rw [ha]; exact Int.le_refl _) (pad16 a ha)
theorem parP_text (p : Int × Int × List Int) (h : WP p) : parP (textP p) = some p := by
  unfold parP; rw [guessP_text p h]; simp only [keepP]; rw [if_pos ⟨h.2.2, trivial⟩]
theorem parR_text (p : Int × Int × List Int) (h : WP p) : parR (textP p) = some p := by
  unfold parR; rw [guessR_text p h]; simp only [keepP]; rw [if_pos ⟨h.2.2, trivial⟩]
theorem par_ref (s : List UInt8) : parR s = parP s := by
  cases h : parP s with
  | some p => obtain ⟨h1, h2⟩ := parP_sound s p h; rw [← h2]; exact parR_text p h1
  | none =>
    cases h2 : parR s with
    | none => rfl
    | some p =>
      obtain ⟨h3, h4⟩ := parR_sound s p h2
      rw [← h4, parP_text p h3] at h
      cases h
end Go.Proofs.YtgegloplhlkafaaDoor
