/- slices.Clone at numbers and at segments; segment.Narrow and the reference's Narrow; at paths of at most 1000 segments of at most 100000 numbers. -/
import Derived.Test.YtnfclcbhehbchaaGreatDoorSeg
set_option autoImplicit false
namespace Go.Proofs.YtnfclcbhehbchaaGreatDoor
open Go.RowKit

theorem u32_info : (Tryz.prog.info? 32).map (fun i => (i.zero, i.size, i.bytes)) = some (some (.int .u32 0), 1, 4) := by kernel_rfl
theorem seg_info : (Tryz.prog.info? 83).map (fun i => (i.zero, i.size, i.bytes)) = some (some (.agg #[.int .i64 0, .slice none 0 0]), 2, 32) := by kernel_rfl

theorem slice_of_own {w : World} {base n : Nat} {e : TypeId} {size : Nat} {v : Value} {xs : List Value} (h : w.ownsRow base e size v n xs) :
    ∃ A c, v = .slice A n c ∧ n ≤ c ∧ c ≤ maxLen := by
  rcases h.2 with ⟨e, hn⟩ | ⟨g, cap, cur, e, _, _, h1, h2, _⟩
  · subst e; subst hn; exact ⟨none, 0, rfl, Nat.le_refl _, by simp [maxLen]⟩
  · exact ⟨_, cap, e, h1, h2⟩

set_option maxHeartbeats 400000 in
/-- slices.Clone of numbers: a row of the call's own. -/
theorem cloneU_any (A : Option Addr) (c : Nat) (l : List Int) (w : World) (h : Reads w w.heap.size 1 A l.length (uV l)) (hn : l.length ≤ 1000000) :
    Calls Tryz.prog 68 #[.slice A l.length c] w fun e w' => ∃ A' c', e = .returned (.slice A' l.length c') ∧ l.length ≤ c' ∧ c' ≤ maxLen ∧
      w'.ownsRow w.heap.size 32 1 (.slice A' l.length c') l.length (uV l) ∧ Below w.heap.size w w' := by
  obtain ⟨i0, hi0, hz0, hz1, hz2⟩ := info_parts u32_info
  have qT : ∀ (w : World) (a : Option Addr) (n c n' c' : Nat), (binOp .eql 34 (.slice a n c) (.slice none n' c')).run Tryz.prog w = .ok (.bool a.isNone) w := fun w a n c n' c' => Lib.run_eql_slice_nil w _ _ a n c n' c' Tryz.underlying34
  rcases A with _ | ad
  · have h0 : l = [] := by
      rcases List.eq_nil_or_concat l with e | ⟨l', x, e⟩
      · exact e
      · obtain ⟨ad, e', _⟩ := h.2 (by rw [e]; simp)
        cases e'
    subst h0
    go_enter Tryz.func68, Tryz.ntmps68
    go_wp2
    go_ret
    exact ⟨none, 0, rfl, Nat.le_refl _, by simp [maxLen], World.ownsRow_nil _ _ _ _, Below.refl _ _⟩
  · go_enter Tryz.func68, Tryz.ntmps68
    go_wp2_with (first
      | (at_builtin
         refine wpList_append_any _ rfl (.tmp 5) (.tmp 6) _ rfl w.heap.size 32 i0 _ 1 4 Tryz.underlying34 hi0 hz0 hz1 hz2 rfl (by omega) _ 0 [] rfl
           (World.ownsRow_lit w #[] 0 (Nat.le_refl _) (by simp [maxLen]) (by simp)) w.heap.size (some ad) l.length c (uV l) rfl ((h.alloc (Nat.le_refl _) _)) (uV_one l) (by simp only [maxLen]; omega) (by omega) (by simp) ?_
         intro v1 w1 hown1 hg1 hat1))
    go_ret
    have hb1 : Below w.heap.size w w1 := ((Below.refl _ _).alloc (Nat.le_refl _) _).grown hg1 (by simp) (fun k hk => by have e : w.heap.size = k := Option.some.inj hk; omega)
    simp only [Nat.zero_add, List.nil_append] at hown1
    obtain ⟨A', c', rfl, h1, h2⟩ := slice_of_own hown1
    exact ⟨A', c', rfl, h1, h2, hown1, hb1⟩

set_option maxHeartbeats 400000 in
/-- slices.Clone of segments: a row of the call's own; the numbers are shared. -/
theorem cloneS_any (A : Option Addr) (c n : Nat) (vs : List Value) (w : World) (h : Reads w w.heap.size 2 A n vs) (h1 : ∀ u ∈ vs, u.oneCell' = true) (hn : n ≤ 1000000) :
    Calls Tryz.prog 67 #[.slice A n c] w fun e w' => ∃ A' c', e = .returned (.slice A' n c') ∧ n ≤ c' ∧ c' ≤ maxLen ∧
      w'.ownsRow w.heap.size 83 2 (.slice A' n c') n vs ∧ Below w.heap.size w w' := by
  obtain ⟨i0, hi0, hz0, hz1, hz2⟩ := info_parts seg_info
  have qT : ∀ (w : World) (a : Option Addr) (n c n' c' : Nat), (binOp .eql 33 (.slice a n c) (.slice none n' c')).run Tryz.prog w = .ok (.bool a.isNone) w := fun w a n c n' c' => Lib.run_eql_slice_nil w _ _ a n c n' c' Tryz.underlying33
  rcases A with _ | ad
  · have h0 : n = 0 := by
      rcases Nat.eq_zero_or_pos n with e | e
      · exact e
      · obtain ⟨ad, e', _⟩ := h.2 e
        cases e'
    subst h0
    have h00 : vs = [] := List.eq_nil_of_length_eq_zero (by simpa using h.1)
    subst h00
    go_enter Tryz.func67, Tryz.ntmps67
    go_wp2
    go_ret
    exact ⟨none, 0, rfl, Nat.le_refl _, by simp [maxLen], World.ownsRow_nil _ _ _ _, Below.refl _ _⟩
  · go_enter Tryz.func67, Tryz.ntmps67
    go_wp2_with (first
      | (at_builtin
         refine wpList_append_any _ rfl (.tmp 5) (.tmp 6) _ rfl w.heap.size 83 i0 _ 2 32 Tryz.underlying33 hi0 hz0 hz1 hz2 rfl (by omega) _ 0 [] rfl
           (World.ownsRow_lit w #[] 0 (Nat.le_refl _) (by simp [maxLen]) (by simp)) w.heap.size (some ad) n c vs rfl ((h.alloc (Nat.le_refl _) _)) h1 (by simp only [maxLen]; omega) (by omega) (by simp) ?_
         intro v1 w1 hown1 hg1 hat1))
    go_ret
    have hb1 : Below w.heap.size w w1 := ((Below.refl _ _).alloc (Nat.le_refl _) _).grown hg1 (by simp) (fun k hk => by have e : w.heap.size = k := Option.some.inj hk; omega)
    simp only [Nat.zero_add, List.nil_append] at hown1
    obtain ⟨A', c', rfl, h1, h2⟩ := slice_of_own hown1
    exact ⟨A', c', rfl, h1, h2, hown1, hb1⟩

/-- A segment whose numbers lie in a row of the call's own, from block lo on. -/
def SegO (w : World) (lo : Nat) (v0 v1 : Value) (s : Sg) : Prop := v0 = .int .i64 s.1 ∧ w.ownsRow lo 32 1 v1 s.2.length (uV s.2)
def SegsO (w : World) (lo : Nat) (vs : List Value) (l : List Sg) : Prop :=
  vs.length = l.length * 2 ∧ ∀ (i : Nat) (s : Sg), l[i]? = some s → ∃ v0 v1, vs[i * 2]? = some v0 ∧ vs[i * 2 + 1]? = some v1 ∧ SegO w lo v0 v1 s
theorem own_keep {w w' : World} {base : Nat} {e : TypeId} {size : Nat} {v : Value} {n : Nat} {xs : List Value} (h : w.ownsRow base e size v n xs) (hk : ∀ b, v.ownBlock = some b → w'.heap[b]? = w.heap[b]?) :
    w'.ownsRow base e size v n xs := by
  obtain ⟨h1, h2⟩ := h
  refine ⟨h1, ?_⟩
  rcases h2 with h2 | ⟨g, cap, cur, hv, hg, hh, r⟩
  · exact .inl h2
  · exact .inr ⟨g, cap, cur, hv, hg, by rw [hk g (by rw [hv]; rfl)]; exact hh, r⟩
theorem own_base {w : World} {base base' : Nat} {e : TypeId} {size : Nat} {v : Value} {n : Nat} {xs : List Value} (h : w.ownsRow base e size v n xs) (hb : base' ≤ base) : w.ownsRow base' e size v n xs := by
  obtain ⟨h1, h2⟩ := h
  refine ⟨h1, ?_⟩
  rcases h2 with h2 | ⟨g, cap, cur, hv, hg, r⟩
  · exact .inl h2
  · exact .inr ⟨g, cap, cur, hv, by omega, r⟩
section
variable {w w' : World} {lo lo' : Nat} {l : List Sg} {vs : List Value} {v0 v1 : Value} {s : Sg}
theorem SegO.keep (h : SegO w lo v0 v1 s) (hk : ∀ b, lo ≤ b → b < w.heap.size → w'.heap[b]? = w.heap[b]?) : SegO w' lo v0 v1 s :=
  ⟨h.1, own_keep h.2 fun b hb => hk b (h.2.lt b hb).1 (h.2.lt b hb).2⟩
theorem SegO.more (h : SegO w lo v0 v1 s) (hlo : lo' ≤ lo) : SegO w lo' v0 v1 s := ⟨h.1, own_base h.2 hlo⟩
theorem SegO.seg (h : SegO w lo v0 v1 s) : SegAt w w.heap.size v0 v1 s := by
  obtain ⟨h0, h1⟩ := h
  obtain ⟨A, c, rfl, h2, h3⟩ := slice_of_own h1
  exact ⟨h0, A, c, rfl, h2, h3, Reads.of_own h1⟩
theorem SegsO.keep (h : SegsO w lo vs l) (hk : ∀ b, lo ≤ b → b < w.heap.size → w'.heap[b]? = w.heap[b]?) : SegsO w' lo vs l :=
  ⟨h.1, fun i s hs => by obtain ⟨v0, v1, a, b, c⟩ := h.2 i s hs; exact ⟨v0, v1, a, b, c.keep hk⟩⟩
theorem SegsO.more (h : SegsO w lo vs l) (hlo : lo' ≤ lo) : SegsO w lo' vs l :=
  ⟨h.1, fun i s hs => by obtain ⟨v0, v1, a, b, c⟩ := h.2 i s hs; exact ⟨v0, v1, a, b, c.more hlo⟩⟩
theorem SegsO.segs (h : SegsO w lo vs l) : Segs w w.heap.size vs l :=
  ⟨h.1, fun i s hs => by obtain ⟨v0, v1, a, b, c⟩ := h.2 i s hs; exact ⟨v0, v1, a, b, c.seg⟩⟩
theorem SegsO.nil_ : SegsO w lo [] [] := by simp [SegsO]
theorem SegsO.snoc (h : SegsO w lo vs l) (hs : SegO w lo v0 v1 s) : SegsO w lo (vs ++ [v0, v1]) (l ++ [s]) := by
  refine ⟨by simp [h.1]; omega, fun i t ht => ?_⟩
  have hl := h.1
  rcases Nat.lt_or_ge i l.length with hi' | hi'
  · rw [List.getElem?_append_left hi'] at ht
    obtain ⟨x, y, a, b, c⟩ := h.2 i t ht
    exact ⟨x, y, by rw [List.getElem?_append_left (by omega)]; exact a, by rw [List.getElem?_append_left (by omega)]; exact b, c⟩
  · rw [List.getElem?_append_right hi'] at ht
    have : i - l.length = 0 := by
      rcases Nat.eq_zero_or_pos (i - l.length) with e | e
      · exact e
      · rw [List.getElem?_eq_none (by simp; omega)] at ht; cases ht
    rw [this] at ht
    have e : s = t := by simpa using ht
    subst e
    have ei : i = l.length := by omega
    subst ei
    refine ⟨v0, v1, ?_, ?_, hs⟩
    · rw [List.getElem?_append_right (by omega), hl, Nat.sub_self]; rfl
    · rw [List.getElem?_append_right (by omega), show l.length * 2 + 1 - vs.length = 1 from by omega]; rfl
theorem SegsO.path {base n : Nat} {A : Option Addr} {c : Nat} (h : SegsO w lo vs l) (ho : w.ownsRow base 83 2 (.slice A n c) n vs) (hn : n = l.length) : Path w w.heap.size A l := by
  subst hn; exact ⟨vs, Reads.of_own ho, h.segs⟩
end

def narN (x : Int) : Int := if 65535 < x then 23456 else x
def narL (l : List Int) : List Int := l.map narN
def narS (s : Sg) : Sg := (s.1, narL s.2)
def narTo (k : Nat) (l : List Int) : List Int := l.mapIdx fun i x => if i < k then narN x else x
theorem narTo_len (k : Nat) (l : List Int) : (narTo k l).length = l.length := by simp [narTo]
theorem narTo_zero (l : List Int) : narTo 0 l = l := by
  apply List.ext_getElem
  · simp [narTo]
  · intro i h1 h2; simp [narTo]
theorem narTo_all (l : List Int) : narTo l.length l = narL l := by
  apply List.ext_getElem
  · simp [narTo, narL]
  · intro i h1 h2
    have : i < l.length := by simpa [narTo] using h1
    simp [narTo, narL, this]
theorem narTo_get (k : Nat) (l : List Int) (h : k < l.length) : (uV (narTo k l))[k]? = some (.int .u32 l[k]) := by
  simp [uV, narTo, h]
theorem narTo_succ (k : Nat) (l : List Int) (h : k < l.length) : uV (narTo (k + 1) l) = (uV (narTo k l)).set k (.int .u32 (narN l[k])) := by
  apply List.ext_getElem
  · simp [uV, narTo]
  · intro i h1 h2
    simp only [uV, narTo, List.getElem_map, List.getElem_mapIdx, List.getElem_set]
    by_cases e : k = i
    · subst e; simp
    · simp only [e, if_false]
      by_cases hlt : i < k
      · simp [hlt, Nat.lt_succ_of_lt hlt]
      · simp [hlt]; intro h; omega
theorem set_same {α : Type} (l : List α) (k : Nat) (x : α) (h : l[k]? = some x) : l.set k x = l := by
  apply List.ext_getElem?
  intro i
  rw [List.getElem?_set]
  split
  · rename_i e; subst e
    obtain ⟨this, h2⟩ := List.getElem?_eq_some_iff.1 h
    simp [this, h2]
  · rfl
theorem set_mid {α : Type} (p q : List α) (k : Nat) (v0 x y : α) (hp : p.length = k * 2) (h0 : q[k * 2]? = some v0) (h1 : q[k * 2 + 1]? = some x) :
    (p ++ q.drop (k * 2)).set (k * 2 + 1) y = (p ++ [v0, y]) ++ q.drop ((k + 1) * 2) := by
  have hl := (List.getElem?_eq_some_iff.1 h1).1
  have e0 : q.drop (k * 2) = v0 :: x :: q.drop ((k + 1) * 2) := by
    rw [List.drop_eq_getElem_cons (by omega), List.drop_eq_getElem_cons hl]
    have a0 : q[k * 2] = v0 := (List.getElem?_eq_some_iff.1 h0).2
    have a1 : q[k * 2 + 1] = x := (List.getElem?_eq_some_iff.1 h1).2
    rw [a0, a1, show k * 2 + 1 + 1 = (k + 1) * 2 from by omega]
  rw [e0, List.set_append, if_neg (by omega), show k * 2 + 1 - p.length = 1 from by omega]
  simp

def narP (l : List Sg) : List Sg := l.map narS
theorem narP_succ (l : List Sg) (k : Nat) (h : k < l.length) : (narP l).take (k + 1) = (narP l).take k ++ [narS l[k]] := by
  rw [List.take_succ_eq_append_getElem (by simpa [narP] using h)]
  simp [narP]


theorem only_grown {a b c : World} {g : Nat} {row : Option Nat} (h : a.grownBy b (some g)) (k : b.grownBy c row) (hr : ∀ x, row = some x → a.heap.size ≤ x) : a.grownBy c (some g) :=
  ⟨k.os.trans h.os, k.tape.trans h.tape, k.output.trans h.output, Nat.le_trans h.size k.size, fun i hi hne => (k.block i (Nat.lt_of_lt_of_le hi h.size) (by intro e; have := hr i e.symm; omega)).trans (h.block i hi hne)⟩
theorem narL_take (l : List Int) (j : Nat) (h : j < l.length) : uV ((narL l).take (j + 1)) = uV ((narL l).take j) ++ [.int .u32 (narN l[j])] := by
  rw [List.take_succ_eq_append_getElem (by simpa [narL] using h)]
  simp [uV, narL]

/-- One more number at the end of the row in field 1 of the block B5. -/
theorem push_step {w5 wi w1 : World} {B5 j g cap : Nat} {K x : Value} {sv : Value} {xs : List Value} {o : Obj} (hB : wi.heap[B5]? = some (.cells #[K, sv] 83 (0, 0))) (hown : wi.ownsRow (B5 + 1) 32 1 sv j xs)
    (hw5 : w5.heap.size = B5 + 1) (hg : w5.grownBy wi (some B5)) (hg1 : (wi.alloc o).grownBy w1 sv.ownBlock) (hown1 : w1.ownsRow (B5 + 1) 32 1 (.slice (some ⟨g, 0, none⟩) (j + 1) cap) (j + 1) (xs ++ [x])) :
    w1.cell? ⟨B5, 1, none⟩ = some sv ∧ w1.frozen? ⟨B5, 1, none⟩ = false ∧
    (w1.setCell ⟨B5, 1, none⟩ (.slice (some ⟨g, 0, none⟩) (j + 1) cap)).heap[B5]? = some (.cells #[K, .slice (some ⟨g, 0, none⟩) (j + 1) cap] 83 (0, 0)) ∧
    (w1.setCell ⟨B5, 1, none⟩ (.slice (some ⟨g, 0, none⟩) (j + 1) cap)).ownsRow (B5 + 1) 32 1 (.slice (some ⟨g, 0, none⟩) (j + 1) cap) (j + 1) (xs ++ [x]) ∧
    w5.grownBy (w1.setCell ⟨B5, 1, none⟩ (.slice (some ⟨g, 0, none⟩) (j + 1) cap)) (some B5) := by
  have hlt := lt_of_block hB
  have hne : some B5 ≠ sv.ownBlock := fun e => by have := (hown.lt B5 e.symm).1; omega
  have hB1 : w1.heap[B5]? = some (.cells #[K, sv] 83 (0, 0)) := (hg1.block B5 (by simp; omega) hne).trans ((Below.heap_alloc wi o B5 hlt).trans hB)
  refine ⟨by rw [cell_of_row _ _ 1 _ _ _ hB1]; rfl, frozen_of_row _ _ 1 _ _ hB1, ?_, ownsRow_setCell_below hown1 (by simp) _, ?_⟩
  · rw [heap_setCell_same w1 B5 1 _ _ _ hB1]; rfl
  · exact only_setCell (only_grown (only_alloc hg o) hg1 (fun y hy => by have := (hown.lt y hy).1; omega)) (.inl rfl) _

theorem own_other {w w' : World} {lo base : Nat} {v v1 : Value} {n k : Nat} {xs ys : List Value} (h : w.ownsRow lo 32 1 v1 n xs) (hg : w.grownBy w' v.ownBlock) (hv : w.ownsRow base 83 2 v k ys) :
    w'.ownsRow lo 32 1 v1 n xs := by
  refine h.kept hg ?_
  rcases hv.2 with ⟨rfl, _⟩ | ⟨g, cap, cur, rfl, _, hh, _⟩
  · rcases h1 : v1.ownBlock with _ | b
    · exact .inl rfl
    · exact .inr (by simp [Value.ownBlock])
  · exact .inr (own_blk_ne (t := 83) (cs := cur) h hh (by decide))

/-- One more segment at the end of the row. -/
theorem push_seg {w w1 : World} {lo base k : Nat} {o : Obj} {v sv : Value} {vs : List Value} {l : List Sg} {s : Sg} (ho : w.ownsRow base 83 2 v k vs) (hs : SegsO w lo vs (l.take k))
    {m : Nat} {xs : List Value} (hr : w.ownsRow lo 32 1 sv m xs) (hx : xs = uV s.2 ∧ m = s.2.length) (hg : (w.alloc o).grownBy w1 v.ownBlock) : SegsO w1 lo (vs ++ [.int .i64 s.1, sv]) (l.take k ++ [s]) := by
  obtain ⟨rfl, rfl⟩ := hx
  have key : ∀ (v0 v1 : Value) (t : Sg), SegO w lo v0 v1 t → SegO w1 lo v0 v1 t := fun v0 v1 t ht => ⟨ht.1, own_other (ht.2.alloc o) hg (ho.alloc o)⟩
  refine SegsO.snoc ⟨hs.1, fun i t ht => ?_⟩ (key _ _ _ ⟨rfl, hr⟩)
  obtain ⟨v0, v1, a, b, c⟩ := hs.2 i t ht
  exact ⟨v0, v1, a, b, key _ _ _ c⟩

end Go.Proofs.YtnfclcbhehbchaaGreatDoor
