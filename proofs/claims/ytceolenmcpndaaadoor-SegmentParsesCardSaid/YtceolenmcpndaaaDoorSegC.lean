/- slices.Clone at numbers and at segments; segment.Narrow and the reference's Narrow; at paths of at most 1000 segments of at most 100000 numbers. -/
import Derived.Test.YtceolenmcpndaaaDoorSeg
set_option autoImplicit false
namespace Go.Proofs.YtceolenmcpndaaaDoor
open Go.RowKit

theorem u32_info : (Tryd.prog.info? 29).map (fun i => (i.zero, i.size, i.bytes)) = some (some (.int .u32 0), 1, 4) := by kernel_rfl
theorem seg_info : (Tryd.prog.info? 27).map (fun i => (i.zero, i.size, i.bytes)) = some (some (.agg #[.int .i64 0, .slice none 0 0]), 2, 32) := by kernel_rfl

theorem slice_of_own {w : World} {base n : Nat} {e : TypeId} {size : Nat} {v : Value} {xs : List Value} (h : w.ownsRow base e size v n xs) :
    ∃ A c, v = .slice A n c ∧ n ≤ c ∧ c ≤ maxLen := by
  rcases h.2 with ⟨e, hn⟩ | ⟨g, cap, cur, e, _, _, h1, h2, _⟩
  · subst e; subst hn; exact ⟨none, 0, rfl, Nat.le_refl _, by simp [maxLen]⟩
  · exact ⟨_, cap, e, h1, h2⟩

set_option maxHeartbeats 400000 in
/-- slices.Clone of numbers: a row of the call's own. -/
theorem cloneU_any (A : Option Addr) (c : Nat) (l : List Int) (w : World) (h : Reads w w.heap.size 1 A l.length (uV l)) (hn : l.length ≤ 1000000) :
    Calls Tryd.prog 12 #[.slice A l.length c] w fun e w' => ∃ A' c', e = .returned (.slice A' l.length c') ∧ l.length ≤ c' ∧ c' ≤ maxLen ∧
      w'.ownsRow w.heap.size 29 1 (.slice A' l.length c') l.length (uV l) ∧ Below w.heap.size w w' := by
  obtain ⟨i0, hi0, hz0, hz1, hz2⟩ := info_parts u32_info
  have qT : ∀ (w : World) (a : Option Addr) (n c n' c' : Nat), (binOp .eql 25 (.slice a n c) (.slice none n' c')).run Tryd.prog w = .ok (.bool a.isNone) w := fun w a n c n' c' => Lib.run_eql_slice_nil w _ _ a n c n' c' Tryd.underlying25
  rcases A with _ | ad
  · have h0 : l = [] := by
      rcases List.eq_nil_or_concat l with e | ⟨l', x, e⟩
      · exact e
      · obtain ⟨ad, e', _⟩ := h.2 (by rw [e]; simp)
        cases e'
    subst h0
    go_enter Tryd.func12, Tryd.ntmps12
    go_wp2
    go_ret
    exact ⟨none, 0, rfl, Nat.le_refl _, by simp [maxLen], World.ownsRow_nil _ _ _ _, Below.refl _ _⟩
  · go_enter Tryd.func12, Tryd.ntmps12
    go_wp2_with (first
      | (at_builtin
         refine wpList_append_any _ rfl (.tmp 5) (.tmp 6) _ rfl w.heap.size 29 i0 _ 1 4 Tryd.underlying25 hi0 hz0 hz1 hz2 rfl (by omega) _ 0 [] rfl
           (World.ownsRow_lit w #[] 0 (Nat.le_refl _) (by simp [maxLen]) (by simp)) w.heap.size (some ad) l.length c (uV l) rfl ((h.alloc (Nat.le_refl _) _)) (uV_one l) (by simp only [maxLen]; omega) (by omega) (by simp) ?_
         intro v1 w1 hown1 hg1 hat1))
    go_ret
    have hb1 : Below w.heap.size w w1 := ((Below.refl _ _).alloc (Nat.le_refl _) _).grown hg1 (by simp) (fun k hk => by have e : w.heap.size = k := Option.some.inj hk; omega)
    simp only [Nat.zero_add, List.nil_append] at hown1
    obtain ⟨A', c', rfl, h1, h2⟩ := slice_of_own hown1
    exact ⟨A', c', rfl, h1, h2, hown1, hb1⟩

set_option maxHeartbeats 400000 in
/-- slices.Clone of segments: a row of the call's own; the numbers are shared. -/
theorem cloneS_any (A : Option Addr) (c n : Nat) (vs : List Value) (w : World) (h : Reads w w.heap.size 2 A n vs) (h1 : ∀ u ∈ vs, u.oneCell' = true) (hn : n ≤ 1000000) :
    Calls Tryd.prog 36 #[.slice A n c] w fun e w' => ∃ A' c', e = .returned (.slice A' n c') ∧ n ≤ c' ∧ c' ≤ maxLen ∧
      w'.ownsRow w.heap.size 27 2 (.slice A' n c') n vs ∧ Below w.heap.size w w' := by
  obtain ⟨i0, hi0, hz0, hz1, hz2⟩ := info_parts seg_info
  have qT : ∀ (w : World) (a : Option Addr) (n c n' c' : Nat), (binOp .eql 22 (.slice a n c) (.slice none n' c')).run Tryd.prog w = .ok (.bool a.isNone) w := fun w a n c n' c' => Lib.run_eql_slice_nil w _ _ a n c n' c' Tryd.underlying22
  rcases A with _ | ad
  · have h0 : n = 0 := by
      rcases Nat.eq_zero_or_pos n with e | e
      · exact e
      · obtain ⟨ad, e', _⟩ := h.2 e
        cases e'
    subst h0
    have h00 : vs = [] := List.eq_nil_of_length_eq_zero (by simpa using h.1)
    subst h00
    go_enter Tryd.func36, Tryd.ntmps36
    go_wp2
    go_ret
    exact ⟨none, 0, rfl, Nat.le_refl _, by simp [maxLen], World.ownsRow_nil _ _ _ _, Below.refl _ _⟩
  · go_enter Tryd.func36, Tryd.ntmps36
    go_wp2_with (first
      | (at_builtin
         refine wpList_append_any _ rfl (.tmp 5) (.tmp 6) _ rfl w.heap.size 27 i0 _ 2 32 Tryd.underlying22 hi0 hz0 hz1 hz2 rfl (by omega) _ 0 [] rfl
           (World.ownsRow_lit w #[] 0 (Nat.le_refl _) (by simp [maxLen]) (by simp)) w.heap.size (some ad) n c vs rfl ((h.alloc (Nat.le_refl _) _)) h1 (by simp only [maxLen]; omega) (by omega) (by simp) ?_
         intro v1 w1 hown1 hg1 hat1))
    go_ret
    have hb1 : Below w.heap.size w w1 := ((Below.refl _ _).alloc (Nat.le_refl _) _).grown hg1 (by simp) (fun k hk => by have e : w.heap.size = k := Option.some.inj hk; omega)
    simp only [Nat.zero_add, List.nil_append] at hown1
    obtain ⟨A', c', rfl, h1, h2⟩ := slice_of_own hown1
    exact ⟨A', c', rfl, h1, h2, hown1, hb1⟩

/-- A segment whose numbers lie in a row of the call's own, from block lo on. -/
def SegO (w : World) (lo : Nat) (v0 v1 : Value) (s : Sg) : Prop := v0 = .int .i64 s.1 ∧ w.ownsRow lo 29 1 v1 s.2.length (uV s.2)
def SegsO (w : World) (lo : Nat) (vs : List Value) (l : List Sg) : Prop :=
  vs.length = l.length * 2 ∧ ∀ (i : Nat) (s : Sg), l[i]? = some s → ∃ v0 v1, vs[i * 2]? = some v0 ∧ vs[i * 2 + 1]? = some v1 ∧ SegO w lo v0 v1 s
theorem own_keep {w w' : World} {base : Nat} {e : TypeId} {size : Nat} {v : Value} {n : Nat} {xs : List Value} (h : w.ownsRow base e size v n xs) (hk : ∀ b, v.ownBlock = some b → w'.heap[b]? = w.heap[b]?) :
    w'.ownsRow base e size v n xs := by
  obtain ⟨h1, h2⟩ := h
  refine ⟨h1, ?_⟩
  rcases h2 with h2 | ⟨g, cap, cur, hv, hg, hh, r⟩
  · exact .inl h2
  · exact .inr ⟨g, cap, cur, hv, hg, by rw [hk g (by rw [hv]; rfl)]; exact hh, r⟩
theorem own_base {w : World} {base base' : Nat} {e : TypeId} {size : Nat} {v : Value} {n : Nat} {xs : List Value} (h : w.ownsRow base e size v n xs) (hb : base' ≤ base) : w.ownsRow base' e size v n xs := by
  obtain ⟨h1, h2⟩ := h
  refine ⟨h1, ?_⟩
  rcases h2 with h2 | ⟨g, cap, cur, hv, hg, r⟩
  · exact .inl h2
  · exact .inr ⟨g, cap, cur, hv, by omega, r⟩
section
variable {w w' : World} {lo lo' : Nat} {l : List Sg} {vs : List Value} {v0 v1 : Value} {s : Sg}
theorem SegO.keep (h : SegO w lo v0 v1 s) (hk : ∀ b, lo ≤ b → b < w.heap.size → w'.heap[b]? = w.heap[b]?) : SegO w' lo v0 v1 s :=
  ⟨h.1, own_keep h.2 fun b hb => hk b (h.2.lt b hb).1 (h.2.lt b hb).2⟩
theorem SegO.more (h : SegO w lo v0 v1 s) (hlo : lo' ≤ lo) : SegO w lo' v0 v1 s := ⟨h.1, own_base h.2 hlo⟩
theorem SegO.seg (h : SegO w lo v0 v1 s) : SegAt w w.heap.size v0 v1 s := by
  obtain ⟨h0, h1⟩ := h
  obtain ⟨A, c, rfl, h2, h3⟩ := slice_of_own h1
  exact ⟨h0, A, c, rfl, h2, h3, Reads.of_own h1⟩
theorem SegsO.keep (h : SegsO w lo vs l) (hk : ∀ b, lo ≤ b → b < w.heap.size → w'.heap[b]? = w.heap[b]?) : SegsO w' lo vs l :=
  ⟨h.1, fun i s hs => by obtain ⟨v0, v1, a, b, c⟩ := h.2 i s hs; exact ⟨v0, v1, a, b, c.keep hk⟩⟩
theorem SegsO.more (h : SegsO w lo vs l) (hlo : lo' ≤ lo) : SegsO w lo' vs l :=
  ⟨h.1, fun i s hs => by obtain ⟨v0, v1, a, b, c⟩ := h.2 i s hs; exact ⟨v0, v1, a, b, c.more hlo⟩⟩
theorem SegsO.segs (h : SegsO w lo vs l) : Segs w w.heap.size vs l :=
  ⟨h.1, fun i s hs => by obtain ⟨v0, v1, a, b, c⟩ := h.2 i s hs; exact ⟨v0, v1, a, b, c.seg⟩⟩
theorem SegsO.nil_ : SegsO w lo [] [] := by simp [SegsO]
theorem SegsO.snoc (h : SegsO w lo vs l) (hs : SegO w lo v0 v1 s) : SegsO w lo (vs ++ [v0, v1]) (l ++ [s]) := by
  refine ⟨by simp [h.1]; omega, fun i t ht => ?_⟩
  have hl := h.1
  rcases Nat.lt_or_ge i l.length with hi' | hi'
  · rw [List.getElem?_append_left hi'] at ht
    obtain ⟨x, y, a, b, c⟩ := h.2 i t ht
    exact ⟨x, y, by rw [List.getElem?_append_left (by omega)]; exact a, by rw [List.getElem?_append_left (by omega)]; exact b, c⟩
  · rw [List.getElem?_append_right hi'] at ht
    have : i - l.length = 0 := by
      rcases Nat.eq_zero_or_pos (i - l.length) with e | e
      · exact e
      · rw [List.getElem?_eq_none (by simp; omega)] at ht; cases ht
    rw [this] at ht
    have e : s = t := by simpa using ht
    subst e
    have ei : i = l.length := by omega
    subst ei
    refine ⟨v0, v1, ?_, ?_, hs⟩
    · rw [List.getElem?_append_right (by omega), hl, Nat.sub_self]; rfl
    · rw [List.getElem?_append_right (by omega), show l.length * 2 + 1 - vs.length = 1 from by omega]; rfl
theorem SegsO.path {base n : Nat} {A : Option Addr} {c : Nat} (h : SegsO w lo vs l) (ho : w.ownsRow base 27 2 (.slice A n c) n vs) (hn : n = l.length) : Path w w.heap.size A l := by
  subst hn; exact ⟨vs, Reads.of_own ho, h.segs⟩
end

def narN (x : Int) : Int := if 65535 < x then 23456 else x
def narL (l : List Int) : List Int := l.map narN
def narS (s : Sg) : Sg := (s.1, narL s.2)
def narTo (k : Nat) (l : List Int) : List Int := l.mapIdx fun i x => if i < k then narN x else x
theorem narTo_len (k : Nat) (l : List Int) : (narTo k l).length = l.length := by simp [narTo]
theorem narTo_zero (l : List Int) : narTo 0 l = l := by
  apply List.ext_getElem
  · simp [narTo]
  · intro i h1 h2; simp [narTo]
theorem narTo_all (l : List Int) : narTo l.length l = narL l := by
  apply List.ext_getElem
  · simp [narTo, narL]
  · intro i h1 h2
    have : i < l.length := by simpa [narTo] using h1
    simp [narTo, narL, this]
theorem narTo_get (k : Nat) (l : List Int) (h : k < l.length) : (uV (narTo k l))[k]? = some (.int .u32 l[k]) := by
  simp [uV, narTo, h]
theorem narTo_succ (k : Nat) (l : List Int) (h : k < l.length) : uV (narTo (k + 1) l) = (uV (narTo k l)).set k (.int .u32 (narN l[k])) := by
  apply List.ext_getElem
  · simp [uV, narTo]
  · intro i h1 h2
    simp only [uV, narTo, List.getElem_map, List.getElem_mapIdx, List.getElem_set]
    by_cases e : k = i
    · subst e; simp
    · simp only [e, if_false]
      by_cases hlt : i < k
      · simp [hlt, Nat.lt_succ_of_lt hlt]
      · simp [hlt]; intro h; omega
theorem set_same {α : Type} (l : List α) (k : Nat) (x : α) (h : l[k]? = some x) : l.set k x = l := by
  apply List.ext_getElem?
  intro i
  rw [List.getElem?_set]
  split
  · rename_i e; subst e
    obtain ⟨this, h2⟩ := List.getElem?_eq_some_iff.1 h
    simp [this, h2]
  · rfl
theorem set_mid {α : Type} (p q : List α) (k : Nat) (v0 x y : α) (hp : p.length = k * 2) (h0 : q[k * 2]? = some v0) (h1 : q[k * 2 + 1]? = some x) :
    (p ++ q.drop (k * 2)).set (k * 2 + 1) y = (p ++ [v0, y]) ++ q.drop ((k + 1) * 2) := by
  have hl := (List.getElem?_eq_some_iff.1 h1).1
  have e0 : q.drop (k * 2) = v0 :: x :: q.drop ((k + 1) * 2) := by
    rw [List.drop_eq_getElem_cons (by omega), List.drop_eq_getElem_cons hl]
    have a0 : q[k * 2] = v0 := (List.getElem?_eq_some_iff.1 h0).2
    have a1 : q[k * 2 + 1] = x := (List.getElem?_eq_some_iff.1 h1).2
    rw [a0, a1, show k * 2 + 1 + 1 = (k + 1) * 2 from by omega]
  rw [e0, List.set_append, if_neg (by omega), show k * 2 + 1 - p.length = 1 from by omega]
  simp

def narP (l : List Sg) : List Sg := l.map narS
theorem narP_succ (l : List Sg) (k : Nat) (h : k < l.length) : (narP l).take (k + 1) = (narP l).take k ++ [narS l[k]] := by
  rw [List.take_succ_eq_append_getElem (by simpa [narP] using h)]
  simp [narP]

set_option maxRecDepth 100000 in
set_option maxHeartbeats 8000000 in
theorem narrow_any (A : Option Addr) (c : Nat) (l : List Sg) (w : World) (h : Path w w.heap.size A l) (hl : l.length ≤ 1000) (hm : ∀ s ∈ l, s.2.length ≤ 100000) :
    Calls Tryd.prog 13 #[.slice A l.length c] w fun e w' => ∃ A' c' vs, e = .returned (.slice A' l.length c') ∧
      w'.ownsRow w.heap.size 27 2 (.slice A' l.length c') l.length vs ∧ SegsO w' w.heap.size vs (narP l) ∧ Below w.heap.size w w' := by
  obtain ⟨vs, hv, hsg⟩ := h
  have hone : ∀ u ∈ vs, u.oneCell' = true := by
    intro u hu
    obtain ⟨i, hi, rfl⟩ := List.getElem_of_mem hu
    have hi2 : i / 2 < l.length := by have := hsg.1; omega
    obtain ⟨v0, v1, a, b, e0, A', c', e1, _⟩ := hsg.2 (i / 2) _ (List.getElem?_eq_getElem hi2)
    rcases Nat.mod_two_eq_zero_or_one i with hp | hp
    · rw [show i / 2 * 2 = i from by omega] at a
      rw [(List.getElem?_eq_some_iff.1 a).2, e0]; rfl
    · rw [show i / 2 * 2 + 1 = i from by omega] at b
      rw [(List.getElem?_eq_some_iff.1 b).2, e1]; rfl
  go_enter Tryd.func13, Tryd.ntmps13
  go_wp2_with fail
  refine (cloneS_any A c l.length vs _ hv hone (by omega)).mono ?_
  rintro e w1 ⟨A1, c1, rfl, hc1, hc1m, hown1, hb1⟩
  clear hone hv
  have hsz1 := hb1.size
  go_wp2_with fail
  go_loopw [11] (fun i wr => ∃ k : Nat, k ≤ l.length ∧ i = .int .i64 k ∧ w1.heap.size ≤ wr.heap.size ∧ ∃ vsN, wr.ownsRow w.heap.size 27 2 (.slice A1 l.length c1) l.length (vsN ++ vs.drop (k * 2)) ∧
      SegsO wr w1.heap.size vsN ((narP l).take k) ∧ Below w.heap.size w wr) (fun i _ => l.length - (intOf i).toNat)
  case atStart => exact ⟨0, Nat.zero_le _, rfl, Nat.le_refl _, [], by simpa using hown1, SegsO.nil_, hb1⟩
  case round =>
    obtain ⟨k, hk, rfl, hwz, vsN, hown, hseg, hbel⟩ := hrel
    obtain ⟨wo, rfl⟩ : ∃ wo : World, wo = wr := ⟨_, rfl⟩
    have hlN : vsN.length = k * 2 := by rw [hseg.1, List.length_take]; simp [narP]; omega
    by_cases hlt : k < l.length
    · obtain ⟨v0, v1, q0, q1, e0, A', c', e1, e2, e3, e4⟩ := hsg.2 k _ (List.getElem?_eq_getElem hlt)
      subst e0; subst e1
      obtain ⟨g, cap, hf, hg0, hg1⟩ := hown.form (by omega)
      have hf2 : A1 = some ⟨g, 0, none⟩ ∧ cap = c1 := by injection hf with a b c; exact ⟨a, c.symm⟩
      obtain ⟨rfl, rfl⟩ := hf2
      have hgw1 : g < w1.heap.size := by
        obtain ⟨g', cap', hf', _, hlt'⟩ := hown1.form (by omega)
        have : g' = g := by injection hf' with a; injection a with a; injection a with a; exact a.symm
        omega
      have hmk := hm l[k] (List.getElem_mem hlt)
      have cB : wo.cell? ⟨g, k * 2 + 1, none⟩ = some (.slice A' l[k].2.length c') := by
        rw [hown.cellAt (k * 2 + 1) (by omega), List.getElem?_append_right (by omega), List.getElem?_drop, ← q1]
        congr 1; omega
      have fB : wo.frozen? ⟨g, k * 2 + 1, none⟩ = false := hown.frozenAt _
      have hcl := cloneU_any A' c' l[k].2 wo ((e4.below hbel).more hbel.size) (by omega)
      have HCL := hide hcl
      have hk0 : (0 : Int) ≤ (k : Int) := Int.natCast_nonneg _
      have hk1 : (k : Int) < (l.length : Int) := by omega
      have hgo : g < wo.heap.size := by omega
      clear hcl e4 hm hsg
      go_wp2_with fail
      refine HCL.out.mono ?_
      rintro e w2 ⟨A2, c2, rfl, hc2, hc2m, hown2, hb2⟩
      have hsz2 := hb2.size
      have cB2 : w2.cell? ⟨g, k * 2 + 1, none⟩ = some (.slice A' l[k].2.length c') := (hb2.cell (p := ⟨g, _, none⟩) hgo).trans cB
      have fB2 : w2.frozen? ⟨g, k * 2 + 1, none⟩ = false := (hb2.frozen (p := ⟨g, _, none⟩) hgo).trans fB
      have hownO2 : w2.ownsRow w.heap.size 27 2 (.slice (some ⟨g, 0, none⟩) l.length cap) l.length (vsN ++ vs.drop (k * 2)) :=
        hown.kept (row := none) ⟨hb2.os, hb2.tape, hb2.output, hb2.size, fun i hi _ => hb2.block i hi⟩ (.inr (by simp [Value.ownBlock]))
      have hownO3 := (hownO2.stored (k * 2 + 1) (.slice A2 l[k].2.length c2)).1
      rw [set_mid vsN vs k _ _ _ hlN q0 q1] at hownO3
      have hown3 := ownsRow_setCell_below hown2 (a := ⟨g, k * 2 + 1, none⟩) hgo (.slice A2 l[k].2.length c2)
      have cB3 : (w2.setCell ⟨g, k * 2 + 1, none⟩ (.slice A2 l[k].2.length c2)).cell? ⟨g, k * 2 + 1, none⟩ = some (.slice A2 l[k].2.length c2) := World.cell?_setCell_same _ _ _ cB2
      have hg23 : wo.grownBy (w2.setCell ⟨g, k * 2 + 1, none⟩ (.slice A2 l[k].2.length c2)) (some g) := only_setCell (only_of_below hb2 _) (.inl rfl) _
      have hsz3 : (w2.setCell ⟨g, k * 2 + 1, none⟩ (.slice A2 l[k].2.length c2)).heap.size = w2.heap.size := by simp [World.setCell]
      clear hown hownO2 hown2
      go_wp2_with fail
      obtain ⟨w3, hw3⟩ : ∃ w3, w3 = w2.setCell ⟨g, k * 2 + 1, none⟩ (.slice A2 l[k].2.length c2) := ⟨_, rfl⟩
      rw [← hw3] at hownO3 hown3 cB3 hg23 hsz3 ⊢
      have HW3 := hide hw3
      clear hw3 cB fB cB2 fB2
      have hlt3 := hown3.lt
      have hne : (Value.slice A2 l[k].2.length c2).ownBlock ≠ some g := fun e => by have := (hlt3 _ e).1; omega
      have hgw3 : g < w3.heap.size := by omega
      go_loopw [30] (fun i wi => ∃ j : Nat, j ≤ l[k].2.length ∧ i = .int .i64 j ∧ wi.ownsRow wo.heap.size 29 1 (.slice A2 l[k].2.length c2) l[k].2.length (uV (narTo j l[k].2)) ∧
        w3.grownBy wi (Value.slice A2 l[k].2.length c2).ownBlock) (fun i _ => l[k].2.length - (intOf i).toNat)
      case atStart => exact ⟨0, Nat.zero_le _, rfl, by rw [narTo_zero]; exact hown3, World.grownBy.refl _ _⟩
      case round =>
        obtain ⟨j, hj, rfl, hrow, hgi⟩ := hrel
        have HO3 := hide hownO3
        have HG23 := hide hg23
        have HB2 := hide hb2
        have HBL := hide hbel
        have HSG := hide hseg
        by_cases jlt : j < l[k].2.length
        · obtain ⟨h, cap2, hf3, hh0, hh1⟩ := hrow.form (by omega)
          have hf4 : A2 = some ⟨h, 0, none⟩ ∧ cap2 = c2 := by injection hf3 with a b c; exact ⟨a, c.symm⟩
          obtain ⟨rfl, rfl⟩ := hf4
          have ch : wr.cell? ⟨h, j, none⟩ = some (.int .u32 l[k].2[j]) := by rw [hrow.cellAt j (by omega), narTo_get j _ jlt]
          have fh : wr.frozen? ⟨h, j, none⟩ = false := hrow.frozenAt _
          have cg : wr.cell? ⟨g, k * 2 + 1, none⟩ = some (.slice (some ⟨h, 0, none⟩) l[k].2.length cap2) := (hgi.cell_far ⟨g, _, none⟩ hgw3 (fun e => hne e.symm)).trans cB3
          have hst := hrow.stored j (.int .u32 23456)
          have hsucc := narTo_succ j l[k].2 jlt
          have hget := narTo_get j l[k].2 jlt
          have HST := hide hst
          have HSU := Lib.hid hsucc
          have HGE := Lib.hid hget
          have HRW := hide hrow
          have HGI := hide hgi
          have hj0 : (0 : Int) ≤ (j : Int) := Int.natCast_nonneg _
          have hj1 : (j : Int) < (l[k].2.length : Int) := by omega
          clear hst hsucc hget hrow hgi hownO3 hg23 hb2 hbel hseg hown3 hlt3 hne cB3 hown1 hb1
          by_cases hbig : 65535 < l[k].2[j]
          · have hnn : narN l[k].2[j] = 23456 := by simp [narN, hbig]
            have HNN := Lib.hid hnn
            clear hnn
            go_wp2
            go_roundw
            case rel =>
              refine ⟨j + 1, by omega, by go_num, ?_, HGI.out.trans HST.out.2⟩
              rw [HSU.out, HNN.out]; exact HST.out.1
            case measure => simp [intOf]; omega
          · have hnn : narN l[k].2[j] = l[k].2[j] := by simp [narN, hbig]
            have HNN := Lib.hid hnn
            clear hnn
            go_wp2
            go_roundw
            case rel =>
              refine ⟨j + 1, by omega, by go_num, ?_, HGI.out⟩
              rw [HSU.out, HNN.out, set_same _ _ _ HGE.out]; exact HRW.out
            case measure => simp [intOf]; omega
        · have hjk : j = l[k].2.length := by omega
          subst hjk
          rw [narTo_all] at hrow
          have hgz := hgi.size
          have hblw : Below w.heap.size w wr := by
            have b1 : Below w.heap.size w w3 := hbel.grown hg23 hbel.size (fun x hx => by injection hx with e; omega)
            exact b1.grown hgi b1.size (fun x hx => by have := (hlt3 x hx).1; have := hbel.size; omega)
          have hsg2 : SegsO wr w1.heap.size (vsN ++ [.int .i64 l[k].1, .slice A2 l[k].2.length c2]) ((narP l).take (k + 1)) := by
            rw [narP_succ l k hlt]
            refine (hseg.keep fun p hp1 hp2 => ?_).snoc ?_
            · have a1 : w3.heap[p]? = wo.heap[p]? := hg23.block p hp2 (by intro e; injection e; omega)
              have a2 : wr.heap[p]? = w3.heap[p]? := hgi.block p (by omega) (by intro e; have := (hlt3 _ e.symm).1; omega)
              rw [a2, a1]
            · have e : (narS l[k]).2.length = l[k].2.length := by simp [narS, narL]
              refine ⟨rfl, ?_⟩
              rw [e]; exact own_base hrow hwz
          have hfin : wr.ownsRow w.heap.size 27 2 (.slice (some ⟨g, 0, none⟩) l.length cap) l.length ((vsN ++ [.int .i64 l[k].1, .slice A2 l[k].2.length c2]) ++ vs.drop ((k + 1) * 2)) :=
            hownO3.kept hgi (.inr (fun e => hne e.symm))
          have HF1 := hide hblw
          have HF2 := hide hsg2
          have HF3 := hide hfin
          clear hblw hsg2 hfin hownO3 hg23 hb2 hbel hseg hown3 hlt3 hne cB3 hown1 hb1 hrow hgi HO3 HG23 HB2 HBL HSG
          go_wp2
          go_roundw
          case rel => exact ⟨k + 1, by omega, by go_num, by omega, _, HF3.out, HF2.out, HF1.out⟩
          case measure => simp [intOf]; omega
    · have hkl : k = l.length := by omega
      subst hkl
      have hfull : vsN ++ vs.drop (l.length * 2) = vsN := by rw [List.drop_eq_nil_of_le (by rw [hsg.1]; exact Nat.le_refl _), List.append_nil]
      rw [hfull] at hown
      rw [List.take_of_length_le (by simp [narP])] at hseg
      have HF1 := hide hown
      have HF2 := hide hseg
      have HF3 := hide hbel
      clear hown hseg hbel hfull hsg hown1 hb1
      go_wp2
      go_ret
      exact ⟨A1, c1, vsN, rfl, HF1.out, HF2.out.more hsz1, HF3.out⟩

theorem only_grown {a b c : World} {g : Nat} {row : Option Nat} (h : a.grownBy b (some g)) (k : b.grownBy c row) (hr : ∀ x, row = some x → a.heap.size ≤ x) : a.grownBy c (some g) :=
  ⟨k.os.trans h.os, k.tape.trans h.tape, k.output.trans h.output, Nat.le_trans h.size k.size, fun i hi hne => (k.block i (Nat.lt_of_lt_of_le hi h.size) (by intro e; have := hr i e.symm; omega)).trans (h.block i hi hne)⟩
theorem narL_take (l : List Int) (j : Nat) (h : j < l.length) : uV ((narL l).take (j + 1)) = uV ((narL l).take j) ++ [.int .u32 (narN l[j])] := by
  rw [List.take_succ_eq_append_getElem (by simpa [narL] using h)]
  simp [uV, narL]

/-- One more number at the end of the row in field 1 of the block B5. -/
theorem push_step {w5 wi w1 : World} {B5 j g cap : Nat} {K x : Value} {sv : Value} {xs : List Value} {o : Obj} (hB : wi.heap[B5]? = some (.cells #[K, sv] 27 (0, 0))) (hown : wi.ownsRow (B5 + 1) 29 1 sv j xs)
    (hw5 : w5.heap.size = B5 + 1) (hg : w5.grownBy wi (some B5)) (hg1 : (wi.alloc o).grownBy w1 sv.ownBlock) (hown1 : w1.ownsRow (B5 + 1) 29 1 (.slice (some ⟨g, 0, none⟩) (j + 1) cap) (j + 1) (xs ++ [x])) :
    w1.cell? ⟨B5, 1, none⟩ = some sv ∧ w1.frozen? ⟨B5, 1, none⟩ = false ∧
    (w1.setCell ⟨B5, 1, none⟩ (.slice (some ⟨g, 0, none⟩) (j + 1) cap)).heap[B5]? = some (.cells #[K, .slice (some ⟨g, 0, none⟩) (j + 1) cap] 27 (0, 0)) ∧
    (w1.setCell ⟨B5, 1, none⟩ (.slice (some ⟨g, 0, none⟩) (j + 1) cap)).ownsRow (B5 + 1) 29 1 (.slice (some ⟨g, 0, none⟩) (j + 1) cap) (j + 1) (xs ++ [x]) ∧
    w5.grownBy (w1.setCell ⟨B5, 1, none⟩ (.slice (some ⟨g, 0, none⟩) (j + 1) cap)) (some B5) := by
  have hlt := lt_of_block hB
  have hne : some B5 ≠ sv.ownBlock := fun e => by have := (hown.lt B5 e.symm).1; omega
  have hB1 : w1.heap[B5]? = some (.cells #[K, sv] 27 (0, 0)) := (hg1.block B5 (by simp; omega) hne).trans ((Below.heap_alloc wi o B5 hlt).trans hB)
  refine ⟨by rw [cell_of_row _ _ 1 _ _ _ hB1]; rfl, frozen_of_row _ _ 1 _ _ hB1, ?_, ownsRow_setCell_below hown1 (by simp) _, ?_⟩
  · rw [heap_setCell_same w1 B5 1 _ _ _ hB1]; rfl
  · exact only_setCell (only_grown (only_alloc hg o) hg1 (fun y hy => by have := (hown.lt y hy).1; omega)) (.inl rfl) _

theorem own_other {w w' : World} {lo base : Nat} {v v1 : Value} {n k : Nat} {xs ys : List Value} (h : w.ownsRow lo 29 1 v1 n xs) (hg : w.grownBy w' v.ownBlock) (hv : w.ownsRow base 27 2 v k ys) :
    w'.ownsRow lo 29 1 v1 n xs := by
  refine h.kept hg ?_
  rcases hv.2 with ⟨rfl, _⟩ | ⟨g, cap, cur, rfl, _, hh, _⟩
  · rcases h1 : v1.ownBlock with _ | b
    · exact .inl rfl
    · exact .inr (by simp [Value.ownBlock])
  · exact .inr (own_blk_ne (t := 27) (cs := cur) h hh (by decide))

/-- One more segment at the end of the row. -/
theorem push_seg {w w1 : World} {lo base k : Nat} {o : Obj} {v sv : Value} {vs : List Value} {l : List Sg} {s : Sg} (ho : w.ownsRow base 27 2 v k vs) (hs : SegsO w lo vs (l.take k))
    {m : Nat} {xs : List Value} (hr : w.ownsRow lo 29 1 sv m xs) (hx : xs = uV s.2 ∧ m = s.2.length) (hg : (w.alloc o).grownBy w1 v.ownBlock) : SegsO w1 lo (vs ++ [.int .i64 s.1, sv]) (l.take k ++ [s]) := by
  obtain ⟨rfl, rfl⟩ := hx
  have key : ∀ (v0 v1 : Value) (t : Sg), SegO w lo v0 v1 t → SegO w1 lo v0 v1 t := fun v0 v1 t ht => ⟨ht.1, own_other (ht.2.alloc o) hg (ho.alloc o)⟩
  refine SegsO.snoc ⟨hs.1, fun i t ht => ?_⟩ (key _ _ _ ⟨rfl, hr⟩)
  obtain ⟨v0, v1, a, b, c⟩ := hs.2 i t ht
  exact ⟨v0, v1, a, b, key _ _ _ c⟩

set_option maxRecDepth 100000 in
set_option maxHeartbeats 8000000 in
theorem rnarrow_any (A : Option Addr) (c : Nat) (l : List Sg) (w : World) (h : Path w w.heap.size A l) (hl : l.length ≤ 1000) (hm : ∀ s ∈ l, s.2.length ≤ 100000) :
    Calls Tryd.prog 15 #[.slice A l.length c] w fun e w' => ∃ A' c' vs, e = .returned (.slice A' l.length c') ∧
      w'.ownsRow w.heap.size 27 2 (.slice A' l.length c') l.length vs ∧ SegsO w' w.heap.size vs (narP l) ∧ Below w.heap.size w w' := by
  obtain ⟨iu, hu0, hu1, hu2, hu3⟩ := info_parts u32_info
  obtain ⟨ig, hg0, hg1, hg2, hg3⟩ := info_parts seg_info
  go_enter Tryd.func15, Tryd.ntmps15
  go_wp2_with fail
  go_loopw [3, 4] (fun v i wr => ∃ k : Nat, k ≤ l.length ∧ i = .int .i64 k ∧ ∃ vsN, wr.ownsRow w.heap.size 27 2 v k vsN ∧
      SegsO wr w.heap.size vsN ((narP l).take k) ∧ Below w.heap.size w wr) (fun _ i _ => l.length - (intOf i).toNat)
  case atStart => exact ⟨0, Nat.zero_le _, rfl, [], World.ownsRow_nil _ _ _ _, SegsO.nil_, Below.refl _ _⟩
  case round =>
    obtain ⟨k, hk, rfl, vsN, hown, hseg, hbel⟩ := hrel
    obtain ⟨wo, rfl⟩ : ∃ wo : World, wo = wr := ⟨_, rfl⟩
    by_cases hlt : k < l.length
    · obtain ⟨ad, A', c', rfl, had, hc0, hc1, hbk, f2, f3, f4⟩ := (h.below hbel).at_ hlt
      have hmk := hm l[k] (List.getElem_mem hlt)
      have hk0 : (0 : Int) ≤ (k : Int) := Int.natCast_nonneg _
      have hk1 : (k : Int) < (l.length : Int) := by omega
      have hwz := hbel.size
      have HOWN := hide hown
      have HSEG := hide hseg
      have HBEL := hide hbel
      have HF4 := hide f4
      clear h hm hown hseg hbel f4
      go_wp2_with fail
      have hB5 : (wo.alloc (Obj.cells #[.int .i64 l[k].1, .slice none 0 0] 27)).heap[wo.heap.size]? = some (.cells #[.int .i64 l[k].1, .slice none 0 0] 27 (0, 0)) := heap_alloc_new _ _
      go_loopw [6] (fun i wi => ∃ j : Nat, j ≤ l[k].2.length ∧ i = .int .i64 j ∧ ∃ sv, wi.heap[wo.heap.size]? = some (.cells #[.int .i64 l[k].1, sv] 27 (0, 0)) ∧
        wi.ownsRow (wo.heap.size + 1) 29 1 sv j (uV ((narL l[k].2).take j)) ∧ (wo.alloc (Obj.cells #[.int .i64 l[k].1, .slice none 0 0] 27)).grownBy wi (some wo.heap.size)) (fun i _ => l[k].2.length - (intOf i).toNat)
      case atStart => exact ⟨0, Nat.zero_le _, rfl, _, hB5, by simpa [uV] using World.ownsRow_nil _ _ _ _, World.grownBy.refl _ _⟩
      case round =>
        obtain ⟨j, hj, rfl, sv, hB, hrow, hgi⟩ := hrel
        have hsw : (wo.alloc (Obj.cells #[.int .i64 l[k].1, .slice none 0 0] 27)).heap.size = wo.heap.size + 1 := by simp
        have hwi : wo.heap.size + 1 ≤ wr.heap.size := by have := hgi.size; omega
        have hwi2 : wo.heap.size < wr.heap.size := by omega
        have hbk3 : (ad.add (k * 2)).block < wr.heap.size := by omega
        have hold : ∀ p : Addr, p.block < w.heap.size → wr.cell? p = wo.cell? p := fun p hp => by
          rw [hgi.cell_far p (by omega) (by intro e; injection e; omega), World.cell?_alloc_lt _ _ _ (by omega)]
        have cl := (hold ⟨(ad.add (k * 2)).block, (ad.add (k * 2)).off + 1, none⟩ hbk).trans hc1
        have cB : wr.cell? ⟨wo.heap.size, 1, none⟩ = some sv := by rw [cell_of_row _ _ 1 _ _ _ hB]; rfl
        by_cases jlt : j < l[k].2.length
        · obtain ⟨ap, u, rfl, hap, hx, hc⟩ := (HF4.out.keep hold).at_ jlt
          obtain ⟨x, hx1, rfl⟩ := uV_get hx
          have hx2 : l[k].2[j] = x := by rw [List.getElem?_eq_getElem jlt] at hx1; injection hx1
          have hap3 : (ap.add j).block < wr.heap.size := by rw [block_of_add]; omega
          have hsucc := narL_take l[k].2 j jlt
          rw [hx2] at hsucc
          have HSU := Lib.hid hsucc
          have HB := hide hB
          have HRW := hide hrow
          have HGI := hide hgi
          have HSW := Lib.hid hsw
          have hj0 : (0 : Int) ≤ (j : Int) := Int.natCast_nonneg _
          have hj1 : (j : Int) < (l[k].2.length : Int) := by omega
          clear hx hx1 hx2 hsucc hB hrow hgi hsw hold hB5 hc0 hc1
          by_cases hbig : 65535 < x
          · have hnn : narN x = 23456 := by simp [narN, hbig]
            have HNN := Lib.hid hnn
            clear hnn
            go_wp2_with (at_builtin
                         refine wpList_append_lies _ rfl (.tmp 39) (.tmp 40) _ rfl (wo.heap.size + 1) 29 iu _ 1 4 Tryd.underlying25 hu0 hu1 hu2 hu3 rfl (by omega) sv j _ rfl (HRW.out.alloc _)
                           ⟨wr.heap.size, 0, none⟩ 1 1 [.int .u32 23456] rfl rfl (World.news_of_block (cs := #[.int .u32 23456]) (t := 29) (fr := (0, 0)) (heap_alloc_new wr _)) (by simp [Value.oneCell'])
                           (by omega) (by simp only [maxLen]; omega) (by omega) (by simp; omega) _ rfl ?_
                         intro g cap w1 hown1 hgrow hat hltg
                         obtain ⟨q1, q2, q3⟩ := push_step HB.out HRW.out HSW.out HGI.out hgrow hown1
                         have Q3 := hide q3
                         clear q3 hown1 hgrow hat)
            go_roundw
            case rel => exact ⟨j + 1, by omega, by go_num, _, Q3.out.1, by rw [HSU.out, HNN.out]; exact Q3.out.2.1, Q3.out.2.2⟩
            case measure => simp [intOf]; omega
          · have hnn : narN x = x := by simp [narN, hbig]
            have HNN := Lib.hid hnn
            clear hnn
            go_wp2_with fail
            go_region_law ((
              refine step_append_lies _ rfl (.tmp 44) (.tmp 53) _ rfl (wo.heap.size + 1) 29 iu _ 1 4 Tryd.underlying25 hu0 hu1 hu2 hu3 rfl (by omega) sv j _ rfl ((HRW.out.alloc _).drew)
                ⟨wr.heap.size, 0, none⟩ 1 1 [.int .u32 x] rfl rfl (World.news_of_block (cs := #[.int .u32 x]) (t := 29) (fr := (0, 0)) (heap_alloc_new wr _)) (by simp [Value.oneCell'])
                (by omega) (by simp only [maxLen]; omega) (by omega) (by simp; omega) _ rfl ?_
              intro g cap w1 hown1 hgrow hat hltg
              obtain ⟨q1, q2, q3⟩ := push_step (o := Obj.cells #[.int .u32 x] 29) HB.out HRW.out HSW.out HGI.out ⟨hgrow.os, hgrow.tape, hgrow.output, hgrow.size, hgrow.block⟩ hown1
              have Q3 := hide q3
              clear q3 hown1 hgrow hat))
            all_goals
              go_wp2
              go_roundw
              case rel => exact ⟨j + 1, by omega, by go_num, _, Q3.out.1, by rw [HSU.out, HNN.out]; exact Q3.out.2.1, Q3.out.2.2⟩
              case measure => simp [intOf]; omega
        · have hjk : j = l[k].2.length := by omega
          subst hjk
          have hfull : (narL l[k].2).take l[k].2.length = narL l[k].2 := List.take_of_length_le (by simp [narL])
          rw [hfull] at hrow
          have hkeep : ∀ b, b < wo.heap.size → wr.heap[b]? = wo.heap[b]? := fun b hb =>
            (hgi.block b (by omega) (by intro e; injection e; omega)).trans (Below.heap_alloc wo _ b hb)
          have ho2 : wr.ownsRow w.heap.size 27 2 u3 k vsN := own_keep HOWN.out fun b hb => hkeep b (HOWN.out.lt b hb).2
          have hs2 : SegsO wr w.heap.size vsN ((narP l).take k) := HSEG.out.keep fun b _ hb => hkeep b hb
          have hb2 : Below w.heap.size w wr := (HBEL.out.alloc hwz _).grown hgi (by simp; omega) (fun x hx => by injection hx with e; omega)
          have c0 : wr.cell? ⟨wo.heap.size, 0, none⟩ = some (.int .i64 l[k].1) := by rw [cell_of_row _ _ 0 _ _ _ hB]; rfl
          have HRW := hide hrow
          have HO2 := hide ho2
          have HS2 := hide hs2
          have HB2 := hide hb2
          clear hB hrow hgi hsw hold hB5 hc0 hc1 hfull hkeep ho2 hs2 hb2 HOWN HSEG HBEL HF4
          go_wp2_with (at_builtin
                       refine wpList_append_lies _ rfl (.tmp 56) (.tmp 58) _ rfl w.heap.size 27 ig _ 2 32 Tryd.underlying22 hg0 hg1 hg2 hg3 rfl (by omega) u3 k vsN rfl (HO2.out.alloc _)
                         ⟨wr.heap.size, 0, none⟩ 1 1 [.int .i64 l[k].1, sv] rfl rfl (World.news_of_block (cs := #[.int .i64 l[k].1, sv]) (t := 27) (fr := (0, 0)) (heap_alloc_new wr _))
                         (by obtain ⟨A', c', e, _⟩ := slice_of_own HRW.out; rw [e]; simp [Value.oneCell'])
                         (by omega) (by simp only [maxLen]; omega) (by omega) (by simp; omega) _ rfl ?_
                       intro g cap w1 hown1 hgrow hat hltg
                       have hAll := push_seg (lo := w.heap.size) (l := narP l) (s := narS l[k]) (k := k) HO2.out HS2.out (own_base HRW.out (by omega)) ⟨rfl, by simp [narS, narL]⟩ hgrow
                       have hb3 : Below w.heap.size w w1 := (HB2.out.alloc HB2.out.size _).grown hgrow (by have := HB2.out.size; simp; omega) (fun x hx => (HO2.out.lt x hx).1)
                       have Q1 := hide hown1
                       have Q2 := hide hAll
                       have Q3 := hide hb3
                       clear hown1 hgrow hat hAll hb3)
          go_roundw
          case rel => exact ⟨k + 1, by omega, by go_num, _, Q1.out, by rw [narP_succ l k hlt]; exact Q2.out, Q3.out⟩
          case measure => simp [intOf]; omega
    · have hkl : k = l.length := by omega
      subst hkl
      rw [List.take_of_length_le (by simp [narP])] at hseg
      obtain ⟨A', c', rfl, h1, h2⟩ := slice_of_own hown
      have HF1 := hide hown
      have HF2 := hide hseg
      have HF3 := hide hbel
      clear hown hseg hbel
      go_wp2
      go_ret
      exact ⟨A', c', vsN, rfl, HF1.out, HF2.out, HF3.out⟩
end Go.Proofs.YtceolenmcpndaaaDoor
