/- value.Clone's first statement: each slice of the attribute is copied. -/
import Derived.Test.YtnfclcbhehbchaaGreatDoorRtE
set_option autoImplicit false
namespace Go.Proofs.YtnfclcbhehbchaaGreatDoor
open Go.RowKit
theorem results_cell1 {P : Program} {fn : Func} {p : Tmp} {ty : TypeId} (h : fn.results = #[.cell p ty]) (tmps : Array Value) (w : World) (g : Nat) (t' : TypeId) (cs : Array Value)
    (hp : tmps.getD p undef = .pointer (some ⟨g, 0, none⟩)) (hg : w.heap[g]? = some (.cells cs t' (0, 0))) {d : TypeDesc} (hu : P.underlying ty = some d)
    (hd : (match d with | .struct _ | .array _ _ => true | _ => false) = true) (hi : (P.info? ty).map (·.size) = some cs.size) :
    (results fn tmps).run P w = .ok (.agg cs) w := by
  have hp' : tmps[p]?.getD undef = .pointer (some ⟨g, 0, none⟩) := by simpa using hp
  simp [results, h, hp', asAddr, run_loadVar_rowF w g t' ty cs _ d hg hu hd hi]
/-- An attribute whose slices lie in rows of their own, from block lo on. -/
def AttrO (w : World) (lo : Nat) (cs : Array Value) (d : AttrD) : Prop :=
  ∃ A1 c1 vs A2 c2 A3 c3 A4 c4, cs = #[.int .i64 d.ty, .bool d.part, .int .u32 d.n, .int .u32 d.m, .slice A1 d.segs.length c1, .slice A2 d.list.length c2, .slice A3 d.byts.length c3, .int .i64 d.fam, .slice A4 d.routes.length c4] ∧
    w.ownsRow lo 83 2 (.slice A1 d.segs.length c1) d.segs.length vs ∧ SegsO w lo vs d.segs ∧ w.ownsRow lo 32 1 (.slice A2 d.list.length c2) d.list.length (uV d.list) ∧
    w.ownsRow lo 5 1 (.slice A3 d.byts.length c3) d.byts.length (bV d.byts) ∧ w.ownsRow lo 55 19 (.slice A4 d.routes.length c4) d.routes.length (rtsV d.routes)
theorem AttrO.attrC {w : World} {lo : Nat} {cs : Array Value} {d : AttrD} (h : AttrO w lo cs d) : AttrC w w.heap.size cs d := by
  obtain ⟨A1, c1, vs, A2, c2, A3, c3, A4, c4, e, h1, h2, h3, h4, h5⟩ := h
  exact ⟨A1, c1, A2, c2, A3, c3, A4, c4, e, h2.path h1 rfl, Reads.of_own h3, Reads.of_own h4, Reads.of_own h5⟩
theorem AttrO.keep {w w' : World} {lo : Nat} {cs : Array Value} {d : AttrD} (h : AttrO w lo cs d) (hk : ∀ b, lo ≤ b → b < w.heap.size → w'.heap[b]? = w.heap[b]?) : AttrO w' lo cs d := by
  obtain ⟨A1, c1, vs, A2, c2, A3, c3, A4, c4, e, h1, h2, h3, h4, h5⟩ := h
  have hkk : ∀ {e : TypeId} {sz n : Nat} {v : Value} {xs : List Value}, w.ownsRow lo e sz v n xs → w'.ownsRow lo e sz v n xs := fun h => own_keep h fun p hp => hk p (h.lt p hp).1 (h.lt p hp).2
  exact ⟨A1, c1, vs, A2, c2, A3, c3, A4, c4, e, hkk h1, h2.keep hk, hkk h3, hkk h4, hkk h5⟩
theorem AttrO.more {w : World} {lo lo' : Nat} {cs : Array Value} {d : AttrD} (h : AttrO w lo cs d) (hl : lo' ≤ lo) : AttrO w lo' cs d := by
  obtain ⟨A1, c1, vs, A2, c2, A3, c3, A4, c4, e, h1, h2, h3, h4, h5⟩ := h
  exact ⟨A1, c1, vs, A2, c2, A3, c3, A4, c4, e, own_base h1 hl, h2.more hl, own_base h3 hl, own_base h4 hl, own_base h5 hl⟩
theorem AttrO.below {w w' : World} {lo : Nat} {cs : Array Value} {d : AttrD} (h : AttrO w lo cs d) (hb : Below w.heap.size w w') : AttrO w' lo cs d := h.keep fun b _ h2 => hb.block b h2
theorem getD_mono {L : Array Bool} {i j : Nat} (h : L.getD j false = true) : (L.setIfInBounds i true).getD j false = true := by
  by_cases hij : j = i
  · subst hij
    refine getD_set_eq ?_
    rcases Nat.lt_or_ge j L.size with h1 | h1
    · exact h1
    · rw [Array.getD_eq_getD_getElem?, Array.getElem?_eq_none h1] at h; cases h
  · rw [getD_set_ne hij]; exact h
theorem getD_left {L : Array Bool} {i : Nat} (h : L.getD i true = false) : L.getD i false = false := by
  have h1 := lt_of_left h
  rw [Array.getD_eq_getD_getElem?, Array.getElem?_eq_getElem h1] at h ⊢
  exact h
/-- A slice in a row of the call's own. -/
def OwnV (V : World) (lo : Nat) (e : TypeId) (size n : Nat) (xs : List Value) (x : Value) : Prop := ∃ A c, x = .slice A n c ∧ n ≤ c ∧ c ≤ maxLen ∧ V.ownsRow lo e size x n xs
theorem OwnV.below {V V' : World} {lo : Nat} {e : TypeId} {size n : Nat} {xs : List Value} {x : Value} (h : OwnV V lo e size n xs x) (hb : Below V.heap.size V V') : OwnV V' lo e size n xs x := by
  obtain ⟨A, c, e, h1, h2, h3⟩ := h
  exact ⟨A, c, e, h1, h2, own_keep h3 fun b hb' => hb.block b (h3.lt b hb').2⟩
theorem OwnV.grown {V V' : World} {lo g : Nat} {e : TypeId} {size n : Nat} {xs : List Value} {x : Value} (h : OwnV V lo e size n xs x) (hg : V.grownBy V' (some g)) (hlt : g < lo) : OwnV V' lo e size n xs x := by
  obtain ⟨A, c, e, h1, h2, h3⟩ := h
  exact ⟨A, c, e, h1, h2, own_keep h3 fun b hb' => hg.block b (h3.lt b hb').2 (by intro e; injection e with e; have := (h3.lt b hb').1; omega)⟩
structure C5 (wo : World) (bb g cap n k m : Nat) (A' : Option Addr) (c' : Nat) (ns : List Int) (V : World) (L : Array Bool) (x26 x27 x28 x29 x30 x31 x32 x33 x34 x35 x36 x37 : Value) : Prop where
  nb : L.getD 12 false = false → Below wo.heap.size wo V
  f0 : L.getD 0 false = true → x26 = .pointer (some ⟨bb, 4, none⟩)
  f1 : L.getD 1 false = true → x27 = .slice (some ⟨g, 0, none⟩) n cap
  f2 : L.getD 2 false = true → x28 = .int .i64 k
  f3 : L.getD 3 false = true → x29 = .pointer (some ⟨bb, 4, none⟩)
  f4 : L.getD 4 false = true → x30 = .slice (some ⟨g, 0, none⟩) n cap
  f5 : L.getD 5 false = true → x31 = .int .i64 k
  f6 : L.getD 6 false = true → x32 = .pointer (some ⟨g, k * 2, none⟩)
  f7 : L.getD 7 false = true → x33 = .pointer (some ⟨g, k * 2 + 1, none⟩)
  f8 : L.getD 8 false = true → x34 = .slice A' m c'
  f9 : L.getD 9 false = true → OwnV V wo.heap.size 32 1 m (uV ns) x35
  f10 : L.getD 10 false = true → x36 = .pointer (some ⟨g, k * 2, none⟩)
  f11 : L.getD 11 false = true → x37 = .pointer (some ⟨g, k * 2 + 1, none⟩)
  f12 : L.getD 12 false = true → (L.getD 1 false = true ∧ L.getD 4 false = true ∧ L.getD 8 false = true ∧ L.getD 9 false = true) ∧ ∃ A2 d2 W2, m ≤ d2 ∧ d2 ≤ maxLen ∧ W2.ownsRow wo.heap.size 32 1 (.slice A2 m d2) m (uV ns) ∧ Below wo.heap.size wo W2 ∧ V = W2.setCell ⟨g, k * 2 + 1, none⟩ (.slice A2 m d2)
structure CF (w : World) (t1 n1 m1 f1 : Int) (q1 : Bool) (A1 A2 A3 A4 : Option Addr) (c1 c2 c3 c4 k1 k4 : Nat) (vs us : List Value) (l b : List Int) (V : World) (L : Array Bool) (x4 x5 x6 x7 x8 x9 x10 x11 x12 x13 x14 x15 x16 x17 x18 x19 : Value) : Prop where
  be : Below w.heap.size w V
  gz : V.heap[w.heap.size + 1]? = some (.cells #[.int .i64 0, .bool false, .int .u32 0, .int .u32 0, .slice none 0 0, .slice none 0 0, .slice none 0 0, .int .i64 0, .slice none 0 0] 38 (0, 0))
  blk : ∃ s l' b' r, V.heap[w.heap.size]? = some (.cells #[.int .i64 t1, .bool q1, .int .u32 n1, .int .u32 m1, s, l', b', .int .i64 f1, r] 38 (0, 0)) ∧ (L.getD 13 false = false → s = .slice A1 k1 c1) ∧ (L.getD 13 false = true → s = x6) ∧ (L.getD 15 false = false → l' = .slice A2 l.length c2) ∧ (L.getD 15 false = true → l' = x9) ∧ (L.getD 17 false = false → b' = .slice A3 b.length c3) ∧ (L.getD 17 false = true → b' = x12) ∧ (L.getD 19 false = false → r = .slice A4 k4 c4) ∧ (L.getD 19 false = true → r = x15)
  f0 : L.getD 0 false = true → x4 = .pointer (some ⟨w.heap.size, 4, none⟩)
  f1 : L.getD 1 false = true → x5 = .slice A1 k1 c1
  f2 : L.getD 2 false = true → OwnV V (w.heap.size + 2) 83 2 k1 vs x6
  f3 : L.getD 3 false = true → x7 = .pointer (some ⟨w.heap.size, 5, none⟩)
  f4 : L.getD 4 false = true → x8 = .slice A2 l.length c2
  f5 : L.getD 5 false = true → OwnV V (w.heap.size + 2) 32 1 l.length (uV l) x9
  f6 : L.getD 6 false = true → x10 = .pointer (some ⟨w.heap.size, 6, none⟩)
  f7 : L.getD 7 false = true → x11 = .slice A3 b.length c3
  f8 : L.getD 8 false = true → OwnV V (w.heap.size + 2) 5 1 b.length (bV b) x12
  f9 : L.getD 9 false = true → x13 = .pointer (some ⟨w.heap.size, 8, none⟩)
  f10 : L.getD 10 false = true → x14 = .slice A4 k4 c4
  f11 : L.getD 11 false = true → OwnV V (w.heap.size + 2) 55 19 k4 us x15
  f12 : L.getD 12 false = true → x16 = .pointer (some ⟨w.heap.size, 4, none⟩)
  f13 : L.getD 13 false = true → L.getD 1 false = true ∧ L.getD 2 false = true
  f14 : L.getD 14 false = true → x17 = .pointer (some ⟨w.heap.size, 5, none⟩)
  f15 : L.getD 15 false = true → L.getD 4 false = true ∧ L.getD 5 false = true
  f16 : L.getD 16 false = true → x18 = .pointer (some ⟨w.heap.size, 6, none⟩)
  f17 : L.getD 17 false = true → L.getD 7 false = true ∧ L.getD 8 false = true
  f18 : L.getD 18 false = true → x19 = .pointer (some ⟨w.heap.size, 8, none⟩)
  f19 : L.getD 19 false = true → L.getD 10 false = true ∧ L.getD 11 false = true
section
variable {w V V' : World} {t1 n1 m1 f1 : Int} {q1 : Bool} {A1 A2 A3 A4 : Option Addr} {c1 c2 c3 c4 k1 k4 : Nat} {vs us : List Value} {l b : List Int} {L : Array Bool} {x4 x5 x6 x7 x8 x9 x10 x11 x12 x13 x14 x15 x16 x17 x18 x19 : Value}
theorem CF.more (H : CF w t1 n1 m1 f1 q1 A1 A2 A3 A4 c1 c2 c3 c4 k1 k4 vs us l b V L x4 x5 x6 x7 x8 x9 x10 x11 x12 x13 x14 x15 x16 x17 x18 x19) (hb : Below V.heap.size V V') : CF w t1 n1 m1 f1 q1 A1 A2 A3 A4 c1 c2 c3 c4 k1 k4 vs us l b V' L x4 x5 x6 x7 x8 x9 x10 x11 x12 x13 x14 x15 x16 x17 x18 x19 :=
  ⟨H.be.trans (hb.mono H.be.size), (hb.block _ (lt_of_heapF H.gz)).trans H.gz, (by obtain ⟨s, l', b', r, a0, a⟩ := H.blk; exact ⟨s, l', b', r, (hb.block _ (lt_of_heapF a0)).trans a0, a⟩), H.f0, H.f1, fun h => (H.f2 h).below hb, H.f3, H.f4, fun h => (H.f5 h).below hb, H.f6, H.f7, fun h => (H.f8 h).below hb, H.f9, H.f10, fun h => (H.f11 h).below hb, H.f12, H.f13, H.f14, H.f15, H.f16, H.f17, H.f18, H.f19⟩
/-- The facts that a store into the copy's block leaves. -/
structure CG (w : World) (t1 n1 m1 f1 : Int) (q1 : Bool) (A1 A2 A3 A4 : Option Addr) (c1 c2 c3 c4 k1 k4 : Nat) (vs us : List Value) (l b : List Int) (V : World) (L : Array Bool) (x4 x5 x6 x7 x8 x9 x10 x11 x12 x13 x14 x15 x16 x17 x18 x19 : Value) : Prop where
  f0 : L.getD 0 false = true → x4 = .pointer (some ⟨w.heap.size, 4, none⟩)
  f1 : L.getD 1 false = true → x5 = .slice A1 k1 c1
  f2 : L.getD 2 false = true → OwnV V (w.heap.size + 2) 83 2 k1 vs x6
  f3 : L.getD 3 false = true → x7 = .pointer (some ⟨w.heap.size, 5, none⟩)
  f4 : L.getD 4 false = true → x8 = .slice A2 l.length c2
  f5 : L.getD 5 false = true → OwnV V (w.heap.size + 2) 32 1 l.length (uV l) x9
  f6 : L.getD 6 false = true → x10 = .pointer (some ⟨w.heap.size, 6, none⟩)
  f7 : L.getD 7 false = true → x11 = .slice A3 b.length c3
  f8 : L.getD 8 false = true → OwnV V (w.heap.size + 2) 5 1 b.length (bV b) x12
  f9 : L.getD 9 false = true → x13 = .pointer (some ⟨w.heap.size, 8, none⟩)
  f10 : L.getD 10 false = true → x14 = .slice A4 k4 c4
  f11 : L.getD 11 false = true → OwnV V (w.heap.size + 2) 55 19 k4 us x15
  f12 : L.getD 12 false = true → x16 = .pointer (some ⟨w.heap.size, 4, none⟩)
  f13 : L.getD 13 false = true → L.getD 1 false = true ∧ L.getD 2 false = true
  f14 : L.getD 14 false = true → x17 = .pointer (some ⟨w.heap.size, 5, none⟩)
  f15 : L.getD 15 false = true → L.getD 4 false = true ∧ L.getD 5 false = true
  f16 : L.getD 16 false = true → x18 = .pointer (some ⟨w.heap.size, 6, none⟩)
  f17 : L.getD 17 false = true → L.getD 7 false = true ∧ L.getD 8 false = true
  f18 : L.getD 18 false = true → x19 = .pointer (some ⟨w.heap.size, 8, none⟩)
  f19 : L.getD 19 false = true → L.getD 10 false = true ∧ L.getD 11 false = true
theorem CF.grown (H : CF w t1 n1 m1 f1 q1 A1 A2 A3 A4 c1 c2 c3 c4 k1 k4 vs us l b V L x4 x5 x6 x7 x8 x9 x10 x11 x12 x13 x14 x15 x16 x17 x18 x19) (hg : V.grownBy V' (some w.heap.size)) : Below w.heap.size w V' ∧ V'.heap[w.heap.size + 1]? = some (.cells #[.int .i64 0, .bool false, .int .u32 0, .int .u32 0, .slice none 0 0, .slice none 0 0, .slice none 0 0, .int .i64 0, .slice none 0 0] 38 (0, 0)) ∧ CG w t1 n1 m1 f1 q1 A1 A2 A3 A4 c1 c2 c3 c4 k1 k4 vs us l b V' L x4 x5 x6 x7 x8 x9 x10 x11 x12 x13 x14 x15 x16 x17 x18 x19 :=
  ⟨H.be.grown hg H.be.size (fun x hx => by injection hx with hx; omega), (hg.block _ (lt_of_heapF H.gz) (by intro e; injection e; omega)).trans H.gz,
    H.f0, H.f1, fun h => (H.f2 h).grown hg (by omega), H.f3, H.f4, fun h => (H.f5 h).grown hg (by omega), H.f6, H.f7, fun h => (H.f8 h).grown hg (by omega), H.f9, H.f10, fun h => (H.f11 h).grown hg (by omega), H.f12, H.f13, H.f14, H.f15, H.f16, H.f17, H.f18, H.f19⟩
end
set_option maxRecDepth 100000 in
set_option maxHeartbeats 8000000 in
theorem clone_first (rs : List Rt) (t1 n1 m1 f1 : Int) (q1 : Bool) (A1 A2 A3 A4 : Option Addr) (c1 c2 c3 c4 k1 k4 : Nat) (vs us : List Value) (l b : List Int) (segs : List Sg) (w : World) (hsg : Segs w w.heap.size vs segs) (hks : k1 = segs.length) (hm : ∀ s ∈ segs, s.2.length ≤ 1000000)
    (hS : Reads w w.heap.size 2 A1 k1 vs) (hS1 : ∀ u ∈ vs, u.oneCell' = true) (hL : Reads w w.heap.size 1 A2 l.length (uV l)) (hB : Byts w w.heap.size A3 b) (hus : us = rtsV rs) (hk4s : k4 = rs.length) (hR : Reads w w.heap.size 19 A4 k4 us) (hR1 : ∀ u ∈ us, u.oneCell' = true)
    (hk1 : k1 ≤ 1000000) (hk2 : l.length ≤ 1000000) (hk3 : b.length ≤ 1000000) (hk4 : k4 ≤ 1000000) :
    Calls Tryz.prog 26 #[.agg #[.int .i64 t1, .bool q1, .int .u32 n1, .int .u32 m1, .slice A1 k1 c1, .slice A2 l.length c2, .slice A3 b.length c3, .int .i64 f1, .slice A4 k4 c4]] w fun e w' => ∃ cs, e = .returned (.agg cs) ∧ AttrO w' (w.heap.size + 2) cs ⟨t1, q1, n1, m1, segs, l, b, f1, rs⟩ ∧ Below w.heap.size w w' := by
  have hst : CF w t1 n1 m1 f1 q1 A1 A2 A3 A4 c1 c2 c3 c4 k1 k4 vs us l b ((w.alloc (.cells #[.int .i64 t1, .bool q1, .int .u32 n1, .int .u32 m1, .slice A1 k1 c1, .slice A2 l.length c2, .slice A3 b.length c3, .int .i64 f1, .slice A4 k4 c4] 38)).alloc (.cells #[.int .i64 0, .bool false, .int .u32 0, .int .u32 0, .slice none 0 0, .slice none 0 0, .slice none 0 0, .int .i64 0, .slice none 0 0] 38)).drew (Array.replicate 20 false) undef undef undef undef undef undef undef undef undef undef undef undef undef undef undef undef :=
    ⟨(((Below.refl _ _).alloc (Nat.le_refl _) _).alloc (by simp) _).drew, heap_alloc2_new w _ _, ⟨_, _, _, _, heap_alloc2_old w _ _, fun _ => rfl, fun h => absurd h (by decide), fun _ => rfl, fun h => absurd h (by decide), fun _ => rfl, fun h => absurd h (by decide), fun _ => rfl, fun h => absurd h (by decide)⟩, fun h => absurd h (by decide), fun h => absurd h (by decide), fun h => absurd h (by decide), fun h => absurd h (by decide), fun h => absurd h (by decide), fun h => absurd h (by decide), fun h => absurd h (by decide), fun h => absurd h (by decide), fun h => absurd h (by decide), fun h => absurd h (by decide), fun h => absurd h (by decide), fun h => absurd h (by decide), fun h => absurd h (by decide), fun h => absurd h (by decide), fun h => absurd h (by decide), fun h => absurd h (by decide), fun h => absurd h (by decide), fun h => absurd h (by decide), fun h => absurd h (by decide), fun h => absurd h (by decide)⟩
  have HST := hide hst
  have HKS := Lib.hid hks
  have HK4 := Lib.hid (And.intro hus hk4s)
  clear hst hks hus hk4s
  go_enter Tryz.func26, Tryz.ntmps26
  go_wp2_with fail
  refine wp_region_inv (by kernel_rfl) (fun L a V => ∃ x4 x5 x6 x7 x8 x9 x10 x11 x12 x13 x14 x15 x16 x17 x18 x19 : Value, a = ⟨List.toArray ((.agg #[.int .i64 t1, .bool q1, .int .u32 n1, .int .u32 m1, .slice A1 k1 c1, .slice A2 l.length c2, .slice A3 b.length c3, .int .i64 f1, .slice A4 k4 c4]) :: (.pointer (some ⟨w.heap.size, 0, none⟩)) :: (.pointer (some ⟨w.heap.size + 1, 0, none⟩)) :: (undef) :: (x4) :: (x5) :: (x6) :: (x7) :: (x8) :: (x9) :: (x10) :: (x11) :: (x12) :: (x13) :: (x14) :: (x15) :: (x16) :: (x17) :: (x18) :: (x19) :: (undef) :: (undef) :: (undef) :: (undef) :: (undef) :: (undef) :: (undef) :: (undef) :: (undef) :: (undef) :: (undef) :: (undef) :: (undef) :: (undef) :: (undef) :: (undef) :: (undef) :: (undef) :: (undef) :: (undef) :: []), []⟩ ∧ CF w t1 n1 m1 f1 q1 A1 A2 A3 A4 c1 c2 c3 c4 k1 k4 vs us l b V L x4 x5 x6 x7 x8 x9 x10 x11 x12 x13 x14 x15 x16 x17 x18 x19) (by kernel_rfl) ?steps ⟨undef, undef, undef, undef, undef, undef, undef, undef, undef, undef, undef, undef, undef, undef, undef, undef, rfl, HST.out⟩ ?done
  case steps =>
    refine ⟨?_, ?_, ?_, ?_, ?_, ?_, ?_, ?_, ?_, ?_, ?_, ?_, ?_, ?_, ?_, ?_, ?_, ?_, ?_, ?_, trivial⟩
    · rintro L a V ⟨x4, x5, x6, x7, x8, x9, x10, x11, x12, x13, x14, x15, x16, x17, x18, x19, rfl, H⟩ hl ha K hK
      go_simp
      exact hK _ _ ⟨_, _, _, _, _, _, _, _, _, _, _, _, _, _, _, _, rfl, ⟨H.be, H.gz, (by obtain ⟨s, l', b', r, a0, a1, a2, a3, a4, a5, a6, a7, a8⟩ := H.blk; exact ⟨s, l', b', r, a0, fun h => a1 (by rw [getD_set_ne (by decide)] at h; exact h), fun h => a2 (by rw [getD_set_ne (by decide)] at h; exact h), fun h => a3 (by rw [getD_set_ne (by decide)] at h; exact h), fun h => a4 (by rw [getD_set_ne (by decide)] at h; exact h), fun h => a5 (by rw [getD_set_ne (by decide)] at h; exact h), fun h => a6 (by rw [getD_set_ne (by decide)] at h; exact h), fun h => a7 (by rw [getD_set_ne (by decide)] at h; exact h), fun h => a8 (by rw [getD_set_ne (by decide)] at h; exact h)⟩), fun _ => rfl, fun h => H.f1 ((getD_set h).resolve_left (by decide)), fun h => H.f2 ((getD_set h).resolve_left (by decide)), fun h => H.f3 ((getD_set h).resolve_left (by decide)), fun h => H.f4 ((getD_set h).resolve_left (by decide)), fun h => H.f5 ((getD_set h).resolve_left (by decide)), fun h => H.f6 ((getD_set h).resolve_left (by decide)), fun h => H.f7 ((getD_set h).resolve_left (by decide)), fun h => H.f8 ((getD_set h).resolve_left (by decide)), fun h => H.f9 ((getD_set h).resolve_left (by decide)), fun h => H.f10 ((getD_set h).resolve_left (by decide)), fun h => H.f11 ((getD_set h).resolve_left (by decide)), fun h => H.f12 ((getD_set h).resolve_left (by decide)), fun h => ⟨getD_mono (H.f13 ((getD_set h).resolve_left (by decide))).1, getD_mono (H.f13 ((getD_set h).resolve_left (by decide))).2⟩, fun h => H.f14 ((getD_set h).resolve_left (by decide)), fun h => ⟨getD_mono (H.f15 ((getD_set h).resolve_left (by decide))).1, getD_mono (H.f15 ((getD_set h).resolve_left (by decide))).2⟩, fun h => H.f16 ((getD_set h).resolve_left (by decide)), fun h => ⟨getD_mono (H.f17 ((getD_set h).resolve_left (by decide))).1, getD_mono (H.f17 ((getD_set h).resolve_left (by decide))).2⟩, fun h => H.f18 ((getD_set h).resolve_left (by decide)), fun h => ⟨getD_mono (H.f19 ((getD_set h).resolve_left (by decide))).1, getD_mono (H.f19 ((getD_set h).resolve_left (by decide))).2⟩⟩⟩
    · rintro L a V ⟨x4, x5, x6, x7, x8, x9, x10, x11, x12, x13, x14, x15, x16, x17, x18, x19, rfl, H⟩ hl ha K hK
      obtain rfl := H.f0 (ha ⟨0, .data⟩ (by simp) rfl)
      have hcell : V.cell? ⟨w.heap.size, 4, none⟩ = some (.slice A1 k1 c1) := by
        obtain ⟨s, l', b', r, a0, a1, a2, a3, a4, a5, a6, a7, a8⟩ := H.blk
        cases h13 : L.getD 13 false with
        | true => exact absurd (H.f13 h13).1 (by rw [getD_left hl]; decide)
        | false => rw [cell_of_row _ _ 4 _ _ _ a0, ← a1 h13]; rfl
      refine step_load_cell V rfl 33 (.tmp 4) rfl ⟨w.heap.size, 4, none⟩ _ (.slice A1 k1 c1) rfl hcell Tryz.underlying33 rfl ?_
      exact hK _ _ ⟨_, _, _, _, _, _, _, _, _, _, _, _, _, _, _, _, rfl, ⟨H.be, H.gz, (by obtain ⟨s, l', b', r, a0, a1, a2, a3, a4, a5, a6, a7, a8⟩ := H.blk; exact ⟨s, l', b', r, a0, fun h => a1 (by rw [getD_set_ne (by decide)] at h; exact h), fun h => a2 (by rw [getD_set_ne (by decide)] at h; exact h), fun h => a3 (by rw [getD_set_ne (by decide)] at h; exact h), fun h => a4 (by rw [getD_set_ne (by decide)] at h; exact h), fun h => a5 (by rw [getD_set_ne (by decide)] at h; exact h), fun h => a6 (by rw [getD_set_ne (by decide)] at h; exact h), fun h => a7 (by rw [getD_set_ne (by decide)] at h; exact h), fun h => a8 (by rw [getD_set_ne (by decide)] at h; exact h)⟩), fun h => H.f0 ((getD_set h).resolve_left (by decide)), fun _ => rfl, fun h => H.f2 ((getD_set h).resolve_left (by decide)), fun h => H.f3 ((getD_set h).resolve_left (by decide)), fun h => H.f4 ((getD_set h).resolve_left (by decide)), fun h => H.f5 ((getD_set h).resolve_left (by decide)), fun h => H.f6 ((getD_set h).resolve_left (by decide)), fun h => H.f7 ((getD_set h).resolve_left (by decide)), fun h => H.f8 ((getD_set h).resolve_left (by decide)), fun h => H.f9 ((getD_set h).resolve_left (by decide)), fun h => H.f10 ((getD_set h).resolve_left (by decide)), fun h => H.f11 ((getD_set h).resolve_left (by decide)), fun h => H.f12 ((getD_set h).resolve_left (by decide)), fun h => ⟨getD_mono (H.f13 ((getD_set h).resolve_left (by decide))).1, getD_mono (H.f13 ((getD_set h).resolve_left (by decide))).2⟩, fun h => H.f14 ((getD_set h).resolve_left (by decide)), fun h => ⟨getD_mono (H.f15 ((getD_set h).resolve_left (by decide))).1, getD_mono (H.f15 ((getD_set h).resolve_left (by decide))).2⟩, fun h => H.f16 ((getD_set h).resolve_left (by decide)), fun h => ⟨getD_mono (H.f17 ((getD_set h).resolve_left (by decide))).1, getD_mono (H.f17 ((getD_set h).resolve_left (by decide))).2⟩, fun h => H.f18 ((getD_set h).resolve_left (by decide)), fun h => ⟨getD_mono (H.f19 ((getD_set h).resolve_left (by decide))).1, getD_mono (H.f19 ((getD_set h).resolve_left (by decide))).2⟩⟩⟩
    · rintro L a V ⟨x4, x5, x6, x7, x8, x9, x10, x11, x12, x13, x14, x15, x16, x17, x18, x19, rfl, H⟩ hl ha K hK
      obtain rfl := H.f1 (ha ⟨1, .data⟩ (by simp) rfl)
      have hsz := H.be.size
      have hge := lt_of_heapF H.gz
      refine step_call_fn (args := #[.slice A1 k1 c1]) rfl rfl Tryz.func47 (by decide) rfl (by simp [Act.eval]) (copiedS_any A1 c1 k1 vs V ((hS.below H.be).more hsz) hS1 hk1) ?_
      rintro e w' ⟨A', c', rfl, hc1, hc2, hown, hb⟩
      refine ⟨_, rfl, ?_⟩
      replace H := H.more hb
      exact hK _ _ ⟨_, _, _, _, _, _, _, _, _, _, _, _, _, _, _, _, rfl, ⟨H.be, H.gz, (by obtain ⟨s, l', b', r, a0, a1, a2, a3, a4, a5, a6, a7, a8⟩ := H.blk; exact ⟨s, l', b', r, a0, fun h => a1 (by rw [getD_set_ne (by decide)] at h; exact h), fun h => absurd (H.f13 (by rw [getD_set_ne (by decide)] at h; exact h)).2 (by rw [getD_left hl]; decide), fun h => a3 (by rw [getD_set_ne (by decide)] at h; exact h), fun h => a4 (by rw [getD_set_ne (by decide)] at h; exact h), fun h => a5 (by rw [getD_set_ne (by decide)] at h; exact h), fun h => a6 (by rw [getD_set_ne (by decide)] at h; exact h), fun h => a7 (by rw [getD_set_ne (by decide)] at h; exact h), fun h => a8 (by rw [getD_set_ne (by decide)] at h; exact h)⟩), fun h => H.f0 ((getD_set h).resolve_left (by decide)), fun h => H.f1 ((getD_set h).resolve_left (by decide)), fun _ => ⟨A', c', rfl, hc1, hc2, own_base hown hge⟩, fun h => H.f3 ((getD_set h).resolve_left (by decide)), fun h => H.f4 ((getD_set h).resolve_left (by decide)), fun h => H.f5 ((getD_set h).resolve_left (by decide)), fun h => H.f6 ((getD_set h).resolve_left (by decide)), fun h => H.f7 ((getD_set h).resolve_left (by decide)), fun h => H.f8 ((getD_set h).resolve_left (by decide)), fun h => H.f9 ((getD_set h).resolve_left (by decide)), fun h => H.f10 ((getD_set h).resolve_left (by decide)), fun h => H.f11 ((getD_set h).resolve_left (by decide)), fun h => H.f12 ((getD_set h).resolve_left (by decide)), fun h => ⟨getD_mono (H.f13 ((getD_set h).resolve_left (by decide))).1, getD_mono (H.f13 ((getD_set h).resolve_left (by decide))).2⟩, fun h => H.f14 ((getD_set h).resolve_left (by decide)), fun h => ⟨getD_mono (H.f15 ((getD_set h).resolve_left (by decide))).1, getD_mono (H.f15 ((getD_set h).resolve_left (by decide))).2⟩, fun h => H.f16 ((getD_set h).resolve_left (by decide)), fun h => ⟨getD_mono (H.f17 ((getD_set h).resolve_left (by decide))).1, getD_mono (H.f17 ((getD_set h).resolve_left (by decide))).2⟩, fun h => H.f18 ((getD_set h).resolve_left (by decide)), fun h => ⟨getD_mono (H.f19 ((getD_set h).resolve_left (by decide))).1, getD_mono (H.f19 ((getD_set h).resolve_left (by decide))).2⟩⟩⟩
    · rintro L a V ⟨x4, x5, x6, x7, x8, x9, x10, x11, x12, x13, x14, x15, x16, x17, x18, x19, rfl, H⟩ hl ha K hK
      go_simp
      exact hK _ _ ⟨_, _, _, _, _, _, _, _, _, _, _, _, _, _, _, _, rfl, ⟨H.be, H.gz, (by obtain ⟨s, l', b', r, a0, a1, a2, a3, a4, a5, a6, a7, a8⟩ := H.blk; exact ⟨s, l', b', r, a0, fun h => a1 (by rw [getD_set_ne (by decide)] at h; exact h), fun h => a2 (by rw [getD_set_ne (by decide)] at h; exact h), fun h => a3 (by rw [getD_set_ne (by decide)] at h; exact h), fun h => a4 (by rw [getD_set_ne (by decide)] at h; exact h), fun h => a5 (by rw [getD_set_ne (by decide)] at h; exact h), fun h => a6 (by rw [getD_set_ne (by decide)] at h; exact h), fun h => a7 (by rw [getD_set_ne (by decide)] at h; exact h), fun h => a8 (by rw [getD_set_ne (by decide)] at h; exact h)⟩), fun h => H.f0 ((getD_set h).resolve_left (by decide)), fun h => H.f1 ((getD_set h).resolve_left (by decide)), fun h => H.f2 ((getD_set h).resolve_left (by decide)), fun _ => rfl, fun h => H.f4 ((getD_set h).resolve_left (by decide)), fun h => H.f5 ((getD_set h).resolve_left (by decide)), fun h => H.f6 ((getD_set h).resolve_left (by decide)), fun h => H.f7 ((getD_set h).resolve_left (by decide)), fun h => H.f8 ((getD_set h).resolve_left (by decide)), fun h => H.f9 ((getD_set h).resolve_left (by decide)), fun h => H.f10 ((getD_set h).resolve_left (by decide)), fun h => H.f11 ((getD_set h).resolve_left (by decide)), fun h => H.f12 ((getD_set h).resolve_left (by decide)), fun h => ⟨getD_mono (H.f13 ((getD_set h).resolve_left (by decide))).1, getD_mono (H.f13 ((getD_set h).resolve_left (by decide))).2⟩, fun h => H.f14 ((getD_set h).resolve_left (by decide)), fun h => ⟨getD_mono (H.f15 ((getD_set h).resolve_left (by decide))).1, getD_mono (H.f15 ((getD_set h).resolve_left (by decide))).2⟩, fun h => H.f16 ((getD_set h).resolve_left (by decide)), fun h => ⟨getD_mono (H.f17 ((getD_set h).resolve_left (by decide))).1, getD_mono (H.f17 ((getD_set h).resolve_left (by decide))).2⟩, fun h => H.f18 ((getD_set h).resolve_left (by decide)), fun h => ⟨getD_mono (H.f19 ((getD_set h).resolve_left (by decide))).1, getD_mono (H.f19 ((getD_set h).resolve_left (by decide))).2⟩⟩⟩
    · rintro L a V ⟨x4, x5, x6, x7, x8, x9, x10, x11, x12, x13, x14, x15, x16, x17, x18, x19, rfl, H⟩ hl ha K hK
      obtain rfl := H.f3 (ha ⟨3, .data⟩ (by simp) rfl)
      have hcell : V.cell? ⟨w.heap.size, 5, none⟩ = some (.slice A2 l.length c2) := by
        obtain ⟨s, l', b', r, a0, a1, a2, a3, a4, a5, a6, a7, a8⟩ := H.blk
        cases h13 : L.getD 15 false with
        | true => exact absurd (H.f15 h13).1 (by rw [getD_left hl]; decide)
        | false => rw [cell_of_row _ _ 5 _ _ _ a0, ← a3 h13]; rfl
      refine step_load_cell V rfl 34 (.tmp 7) rfl ⟨w.heap.size, 5, none⟩ _ (.slice A2 l.length c2) rfl hcell Tryz.underlying34 rfl ?_
      exact hK _ _ ⟨_, _, _, _, _, _, _, _, _, _, _, _, _, _, _, _, rfl, ⟨H.be, H.gz, (by obtain ⟨s, l', b', r, a0, a1, a2, a3, a4, a5, a6, a7, a8⟩ := H.blk; exact ⟨s, l', b', r, a0, fun h => a1 (by rw [getD_set_ne (by decide)] at h; exact h), fun h => a2 (by rw [getD_set_ne (by decide)] at h; exact h), fun h => a3 (by rw [getD_set_ne (by decide)] at h; exact h), fun h => a4 (by rw [getD_set_ne (by decide)] at h; exact h), fun h => a5 (by rw [getD_set_ne (by decide)] at h; exact h), fun h => a6 (by rw [getD_set_ne (by decide)] at h; exact h), fun h => a7 (by rw [getD_set_ne (by decide)] at h; exact h), fun h => a8 (by rw [getD_set_ne (by decide)] at h; exact h)⟩), fun h => H.f0 ((getD_set h).resolve_left (by decide)), fun h => H.f1 ((getD_set h).resolve_left (by decide)), fun h => H.f2 ((getD_set h).resolve_left (by decide)), fun h => H.f3 ((getD_set h).resolve_left (by decide)), fun _ => rfl, fun h => H.f5 ((getD_set h).resolve_left (by decide)), fun h => H.f6 ((getD_set h).resolve_left (by decide)), fun h => H.f7 ((getD_set h).resolve_left (by decide)), fun h => H.f8 ((getD_set h).resolve_left (by decide)), fun h => H.f9 ((getD_set h).resolve_left (by decide)), fun h => H.f10 ((getD_set h).resolve_left (by decide)), fun h => H.f11 ((getD_set h).resolve_left (by decide)), fun h => H.f12 ((getD_set h).resolve_left (by decide)), fun h => ⟨getD_mono (H.f13 ((getD_set h).resolve_left (by decide))).1, getD_mono (H.f13 ((getD_set h).resolve_left (by decide))).2⟩, fun h => H.f14 ((getD_set h).resolve_left (by decide)), fun h => ⟨getD_mono (H.f15 ((getD_set h).resolve_left (by decide))).1, getD_mono (H.f15 ((getD_set h).resolve_left (by decide))).2⟩, fun h => H.f16 ((getD_set h).resolve_left (by decide)), fun h => ⟨getD_mono (H.f17 ((getD_set h).resolve_left (by decide))).1, getD_mono (H.f17 ((getD_set h).resolve_left (by decide))).2⟩, fun h => H.f18 ((getD_set h).resolve_left (by decide)), fun h => ⟨getD_mono (H.f19 ((getD_set h).resolve_left (by decide))).1, getD_mono (H.f19 ((getD_set h).resolve_left (by decide))).2⟩⟩⟩
    · rintro L a V ⟨x4, x5, x6, x7, x8, x9, x10, x11, x12, x13, x14, x15, x16, x17, x18, x19, rfl, H⟩ hl ha K hK
      obtain rfl := H.f4 (ha ⟨4, .data⟩ (by simp) rfl)
      have hsz := H.be.size
      have hge := lt_of_heapF H.gz
      refine step_call_fn (args := #[.slice A2 l.length c2]) rfl rfl Tryz.func48 (by decide) rfl (by simp [Act.eval]) (copiedU_any A2 c2 l V ((hL.below H.be).more hsz) hk2) ?_
      rintro e w' ⟨A', c', rfl, hc1, hc2, hown, hb⟩
      refine ⟨_, rfl, ?_⟩
      replace H := H.more hb
      exact hK _ _ ⟨_, _, _, _, _, _, _, _, _, _, _, _, _, _, _, _, rfl, ⟨H.be, H.gz, (by obtain ⟨s, l', b', r, a0, a1, a2, a3, a4, a5, a6, a7, a8⟩ := H.blk; exact ⟨s, l', b', r, a0, fun h => a1 (by rw [getD_set_ne (by decide)] at h; exact h), fun h => a2 (by rw [getD_set_ne (by decide)] at h; exact h), fun h => a3 (by rw [getD_set_ne (by decide)] at h; exact h), fun h => absurd (H.f15 (by rw [getD_set_ne (by decide)] at h; exact h)).2 (by rw [getD_left hl]; decide), fun h => a5 (by rw [getD_set_ne (by decide)] at h; exact h), fun h => a6 (by rw [getD_set_ne (by decide)] at h; exact h), fun h => a7 (by rw [getD_set_ne (by decide)] at h; exact h), fun h => a8 (by rw [getD_set_ne (by decide)] at h; exact h)⟩), fun h => H.f0 ((getD_set h).resolve_left (by decide)), fun h => H.f1 ((getD_set h).resolve_left (by decide)), fun h => H.f2 ((getD_set h).resolve_left (by decide)), fun h => H.f3 ((getD_set h).resolve_left (by decide)), fun h => H.f4 ((getD_set h).resolve_left (by decide)), fun _ => ⟨A', c', rfl, hc1, hc2, own_base hown hge⟩, fun h => H.f6 ((getD_set h).resolve_left (by decide)), fun h => H.f7 ((getD_set h).resolve_left (by decide)), fun h => H.f8 ((getD_set h).resolve_left (by decide)), fun h => H.f9 ((getD_set h).resolve_left (by decide)), fun h => H.f10 ((getD_set h).resolve_left (by decide)), fun h => H.f11 ((getD_set h).resolve_left (by decide)), fun h => H.f12 ((getD_set h).resolve_left (by decide)), fun h => ⟨getD_mono (H.f13 ((getD_set h).resolve_left (by decide))).1, getD_mono (H.f13 ((getD_set h).resolve_left (by decide))).2⟩, fun h => H.f14 ((getD_set h).resolve_left (by decide)), fun h => ⟨getD_mono (H.f15 ((getD_set h).resolve_left (by decide))).1, getD_mono (H.f15 ((getD_set h).resolve_left (by decide))).2⟩, fun h => H.f16 ((getD_set h).resolve_left (by decide)), fun h => ⟨getD_mono (H.f17 ((getD_set h).resolve_left (by decide))).1, getD_mono (H.f17 ((getD_set h).resolve_left (by decide))).2⟩, fun h => H.f18 ((getD_set h).resolve_left (by decide)), fun h => ⟨getD_mono (H.f19 ((getD_set h).resolve_left (by decide))).1, getD_mono (H.f19 ((getD_set h).resolve_left (by decide))).2⟩⟩⟩
    · rintro L a V ⟨x4, x5, x6, x7, x8, x9, x10, x11, x12, x13, x14, x15, x16, x17, x18, x19, rfl, H⟩ hl ha K hK
      go_simp
      exact hK _ _ ⟨_, _, _, _, _, _, _, _, _, _, _, _, _, _, _, _, rfl, ⟨H.be, H.gz, (by obtain ⟨s, l', b', r, a0, a1, a2, a3, a4, a5, a6, a7, a8⟩ := H.blk; exact ⟨s, l', b', r, a0, fun h => a1 (by rw [getD_set_ne (by decide)] at h; exact h), fun h => a2 (by rw [getD_set_ne (by decide)] at h; exact h), fun h => a3 (by rw [getD_set_ne (by decide)] at h; exact h), fun h => a4 (by rw [getD_set_ne (by decide)] at h; exact h), fun h => a5 (by rw [getD_set_ne (by decide)] at h; exact h), fun h => a6 (by rw [getD_set_ne (by decide)] at h; exact h), fun h => a7 (by rw [getD_set_ne (by decide)] at h; exact h), fun h => a8 (by rw [getD_set_ne (by decide)] at h; exact h)⟩), fun h => H.f0 ((getD_set h).resolve_left (by decide)), fun h => H.f1 ((getD_set h).resolve_left (by decide)), fun h => H.f2 ((getD_set h).resolve_left (by decide)), fun h => H.f3 ((getD_set h).resolve_left (by decide)), fun h => H.f4 ((getD_set h).resolve_left (by decide)), fun h => H.f5 ((getD_set h).resolve_left (by decide)), fun _ => rfl, fun h => H.f7 ((getD_set h).resolve_left (by decide)), fun h => H.f8 ((getD_set h).resolve_left (by decide)), fun h => H.f9 ((getD_set h).resolve_left (by decide)), fun h => H.f10 ((getD_set h).resolve_left (by decide)), fun h => H.f11 ((getD_set h).resolve_left (by decide)), fun h => H.f12 ((getD_set h).resolve_left (by decide)), fun h => ⟨getD_mono (H.f13 ((getD_set h).resolve_left (by decide))).1, getD_mono (H.f13 ((getD_set h).resolve_left (by decide))).2⟩, fun h => H.f14 ((getD_set h).resolve_left (by decide)), fun h => ⟨getD_mono (H.f15 ((getD_set h).resolve_left (by decide))).1, getD_mono (H.f15 ((getD_set h).resolve_left (by decide))).2⟩, fun h => H.f16 ((getD_set h).resolve_left (by decide)), fun h => ⟨getD_mono (H.f17 ((getD_set h).resolve_left (by decide))).1, getD_mono (H.f17 ((getD_set h).resolve_left (by decide))).2⟩, fun h => H.f18 ((getD_set h).resolve_left (by decide)), fun h => ⟨getD_mono (H.f19 ((getD_set h).resolve_left (by decide))).1, getD_mono (H.f19 ((getD_set h).resolve_left (by decide))).2⟩⟩⟩
    · rintro L a V ⟨x4, x5, x6, x7, x8, x9, x10, x11, x12, x13, x14, x15, x16, x17, x18, x19, rfl, H⟩ hl ha K hK
      obtain rfl := H.f6 (ha ⟨6, .data⟩ (by simp) rfl)
      have hcell : V.cell? ⟨w.heap.size, 6, none⟩ = some (.slice A3 b.length c3) := by
        obtain ⟨s, l', b', r, a0, a1, a2, a3, a4, a5, a6, a7, a8⟩ := H.blk
        cases h13 : L.getD 17 false with
        | true => exact absurd (H.f17 h13).1 (by rw [getD_left hl]; decide)
        | false => rw [cell_of_row _ _ 6 _ _ _ a0, ← a5 h13]; rfl
      refine step_load_cell V rfl 35 (.tmp 10) rfl ⟨w.heap.size, 6, none⟩ _ (.slice A3 b.length c3) rfl hcell Tryz.underlying35 rfl ?_
      exact hK _ _ ⟨_, _, _, _, _, _, _, _, _, _, _, _, _, _, _, _, rfl, ⟨H.be, H.gz, (by obtain ⟨s, l', b', r, a0, a1, a2, a3, a4, a5, a6, a7, a8⟩ := H.blk; exact ⟨s, l', b', r, a0, fun h => a1 (by rw [getD_set_ne (by decide)] at h; exact h), fun h => a2 (by rw [getD_set_ne (by decide)] at h; exact h), fun h => a3 (by rw [getD_set_ne (by decide)] at h; exact h), fun h => a4 (by rw [getD_set_ne (by decide)] at h; exact h), fun h => a5 (by rw [getD_set_ne (by decide)] at h; exact h), fun h => a6 (by rw [getD_set_ne (by decide)] at h; exact h), fun h => a7 (by rw [getD_set_ne (by decide)] at h; exact h), fun h => a8 (by rw [getD_set_ne (by decide)] at h; exact h)⟩), fun h => H.f0 ((getD_set h).resolve_left (by decide)), fun h => H.f1 ((getD_set h).resolve_left (by decide)), fun h => H.f2 ((getD_set h).resolve_left (by decide)), fun h => H.f3 ((getD_set h).resolve_left (by decide)), fun h => H.f4 ((getD_set h).resolve_left (by decide)), fun h => H.f5 ((getD_set h).resolve_left (by decide)), fun h => H.f6 ((getD_set h).resolve_left (by decide)), fun _ => rfl, fun h => H.f8 ((getD_set h).resolve_left (by decide)), fun h => H.f9 ((getD_set h).resolve_left (by decide)), fun h => H.f10 ((getD_set h).resolve_left (by decide)), fun h => H.f11 ((getD_set h).resolve_left (by decide)), fun h => H.f12 ((getD_set h).resolve_left (by decide)), fun h => ⟨getD_mono (H.f13 ((getD_set h).resolve_left (by decide))).1, getD_mono (H.f13 ((getD_set h).resolve_left (by decide))).2⟩, fun h => H.f14 ((getD_set h).resolve_left (by decide)), fun h => ⟨getD_mono (H.f15 ((getD_set h).resolve_left (by decide))).1, getD_mono (H.f15 ((getD_set h).resolve_left (by decide))).2⟩, fun h => H.f16 ((getD_set h).resolve_left (by decide)), fun h => ⟨getD_mono (H.f17 ((getD_set h).resolve_left (by decide))).1, getD_mono (H.f17 ((getD_set h).resolve_left (by decide))).2⟩, fun h => H.f18 ((getD_set h).resolve_left (by decide)), fun h => ⟨getD_mono (H.f19 ((getD_set h).resolve_left (by decide))).1, getD_mono (H.f19 ((getD_set h).resolve_left (by decide))).2⟩⟩⟩
    · rintro L a V ⟨x4, x5, x6, x7, x8, x9, x10, x11, x12, x13, x14, x15, x16, x17, x18, x19, rfl, H⟩ hl ha K hK
      obtain rfl := H.f7 (ha ⟨7, .data⟩ (by simp) rfl)
      have hsz := H.be.size
      have hge := lt_of_heapF H.gz
      refine step_call_fn (args := #[.slice A3 b.length c3]) rfl rfl Tryz.func49 (by decide) rfl (by simp [Act.eval]) (copiedB_any A3 c3 b V (Reads.more (Reads.below hB H.be) hsz) hk3) ?_
      rintro e w' ⟨A', c', rfl, hc1, hc2, hown, hb⟩
      refine ⟨_, rfl, ?_⟩
      replace H := H.more hb
      exact hK _ _ ⟨_, _, _, _, _, _, _, _, _, _, _, _, _, _, _, _, rfl, ⟨H.be, H.gz, (by obtain ⟨s, l', b', r, a0, a1, a2, a3, a4, a5, a6, a7, a8⟩ := H.blk; exact ⟨s, l', b', r, a0, fun h => a1 (by rw [getD_set_ne (by decide)] at h; exact h), fun h => a2 (by rw [getD_set_ne (by decide)] at h; exact h), fun h => a3 (by rw [getD_set_ne (by decide)] at h; exact h), fun h => a4 (by rw [getD_set_ne (by decide)] at h; exact h), fun h => a5 (by rw [getD_set_ne (by decide)] at h; exact h), fun h => absurd (H.f17 (by rw [getD_set_ne (by decide)] at h; exact h)).2 (by rw [getD_left hl]; decide), fun h => a7 (by rw [getD_set_ne (by decide)] at h; exact h), fun h => a8 (by rw [getD_set_ne (by decide)] at h; exact h)⟩), fun h => H.f0 ((getD_set h).resolve_left (by decide)), fun h => H.f1 ((getD_set h).resolve_left (by decide)), fun h => H.f2 ((getD_set h).resolve_left (by decide)), fun h => H.f3 ((getD_set h).resolve_left (by decide)), fun h => H.f4 ((getD_set h).resolve_left (by decide)), fun h => H.f5 ((getD_set h).resolve_left (by decide)), fun h => H.f6 ((getD_set h).resolve_left (by decide)), fun h => H.f7 ((getD_set h).resolve_left (by decide)), fun _ => ⟨A', c', rfl, hc1, hc2, own_base hown hge⟩, fun h => H.f9 ((getD_set h).resolve_left (by decide)), fun h => H.f10 ((getD_set h).resolve_left (by decide)), fun h => H.f11 ((getD_set h).resolve_left (by decide)), fun h => H.f12 ((getD_set h).resolve_left (by decide)), fun h => ⟨getD_mono (H.f13 ((getD_set h).resolve_left (by decide))).1, getD_mono (H.f13 ((getD_set h).resolve_left (by decide))).2⟩, fun h => H.f14 ((getD_set h).resolve_left (by decide)), fun h => ⟨getD_mono (H.f15 ((getD_set h).resolve_left (by decide))).1, getD_mono (H.f15 ((getD_set h).resolve_left (by decide))).2⟩, fun h => H.f16 ((getD_set h).resolve_left (by decide)), fun h => ⟨getD_mono (H.f17 ((getD_set h).resolve_left (by decide))).1, getD_mono (H.f17 ((getD_set h).resolve_left (by decide))).2⟩, fun h => H.f18 ((getD_set h).resolve_left (by decide)), fun h => ⟨getD_mono (H.f19 ((getD_set h).resolve_left (by decide))).1, getD_mono (H.f19 ((getD_set h).resolve_left (by decide))).2⟩⟩⟩
    · rintro L a V ⟨x4, x5, x6, x7, x8, x9, x10, x11, x12, x13, x14, x15, x16, x17, x18, x19, rfl, H⟩ hl ha K hK
      go_simp
      exact hK _ _ ⟨_, _, _, _, _, _, _, _, _, _, _, _, _, _, _, _, rfl, ⟨H.be, H.gz, (by obtain ⟨s, l', b', r, a0, a1, a2, a3, a4, a5, a6, a7, a8⟩ := H.blk; exact ⟨s, l', b', r, a0, fun h => a1 (by rw [getD_set_ne (by decide)] at h; exact h), fun h => a2 (by rw [getD_set_ne (by decide)] at h; exact h), fun h => a3 (by rw [getD_set_ne (by decide)] at h; exact h), fun h => a4 (by rw [getD_set_ne (by decide)] at h; exact h), fun h => a5 (by rw [getD_set_ne (by decide)] at h; exact h), fun h => a6 (by rw [getD_set_ne (by decide)] at h; exact h), fun h => a7 (by rw [getD_set_ne (by decide)] at h; exact h), fun h => a8 (by rw [getD_set_ne (by decide)] at h; exact h)⟩), fun h => H.f0 ((getD_set h).resolve_left (by decide)), fun h => H.f1 ((getD_set h).resolve_left (by decide)), fun h => H.f2 ((getD_set h).resolve_left (by decide)), fun h => H.f3 ((getD_set h).resolve_left (by decide)), fun h => H.f4 ((getD_set h).resolve_left (by decide)), fun h => H.f5 ((getD_set h).resolve_left (by decide)), fun h => H.f6 ((getD_set h).resolve_left (by decide)), fun h => H.f7 ((getD_set h).resolve_left (by decide)), fun h => H.f8 ((getD_set h).resolve_left (by decide)), fun _ => rfl, fun h => H.f10 ((getD_set h).resolve_left (by decide)), fun h => H.f11 ((getD_set h).resolve_left (by decide)), fun h => H.f12 ((getD_set h).resolve_left (by decide)), fun h => ⟨getD_mono (H.f13 ((getD_set h).resolve_left (by decide))).1, getD_mono (H.f13 ((getD_set h).resolve_left (by decide))).2⟩, fun h => H.f14 ((getD_set h).resolve_left (by decide)), fun h => ⟨getD_mono (H.f15 ((getD_set h).resolve_left (by decide))).1, getD_mono (H.f15 ((getD_set h).resolve_left (by decide))).2⟩, fun h => H.f16 ((getD_set h).resolve_left (by decide)), fun h => ⟨getD_mono (H.f17 ((getD_set h).resolve_left (by decide))).1, getD_mono (H.f17 ((getD_set h).resolve_left (by decide))).2⟩, fun h => H.f18 ((getD_set h).resolve_left (by decide)), fun h => ⟨getD_mono (H.f19 ((getD_set h).resolve_left (by decide))).1, getD_mono (H.f19 ((getD_set h).resolve_left (by decide))).2⟩⟩⟩
    · rintro L a V ⟨x4, x5, x6, x7, x8, x9, x10, x11, x12, x13, x14, x15, x16, x17, x18, x19, rfl, H⟩ hl ha K hK
      obtain rfl := H.f9 (ha ⟨9, .data⟩ (by simp) rfl)
      have hcell : V.cell? ⟨w.heap.size, 8, none⟩ = some (.slice A4 k4 c4) := by
        obtain ⟨s, l', b', r, a0, a1, a2, a3, a4, a5, a6, a7, a8⟩ := H.blk
        cases h13 : L.getD 19 false with
        | true => exact absurd (H.f19 h13).1 (by rw [getD_left hl]; decide)
        | false => rw [cell_of_row _ _ 8 _ _ _ a0, ← a7 h13]; rfl
      refine step_load_cell V rfl 36 (.tmp 13) rfl ⟨w.heap.size, 8, none⟩ _ (.slice A4 k4 c4) rfl hcell Tryz.underlying36 rfl ?_
      exact hK _ _ ⟨_, _, _, _, _, _, _, _, _, _, _, _, _, _, _, _, rfl, ⟨H.be, H.gz, (by obtain ⟨s, l', b', r, a0, a1, a2, a3, a4, a5, a6, a7, a8⟩ := H.blk; exact ⟨s, l', b', r, a0, fun h => a1 (by rw [getD_set_ne (by decide)] at h; exact h), fun h => a2 (by rw [getD_set_ne (by decide)] at h; exact h), fun h => a3 (by rw [getD_set_ne (by decide)] at h; exact h), fun h => a4 (by rw [getD_set_ne (by decide)] at h; exact h), fun h => a5 (by rw [getD_set_ne (by decide)] at h; exact h), fun h => a6 (by rw [getD_set_ne (by decide)] at h; exact h), fun h => a7 (by rw [getD_set_ne (by decide)] at h; exact h), fun h => a8 (by rw [getD_set_ne (by decide)] at h; exact h)⟩), fun h => H.f0 ((getD_set h).resolve_left (by decide)), fun h => H.f1 ((getD_set h).resolve_left (by decide)), fun h => H.f2 ((getD_set h).resolve_left (by decide)), fun h => H.f3 ((getD_set h).resolve_left (by decide)), fun h => H.f4 ((getD_set h).resolve_left (by decide)), fun h => H.f5 ((getD_set h).resolve_left (by decide)), fun h => H.f6 ((getD_set h).resolve_left (by decide)), fun h => H.f7 ((getD_set h).resolve_left (by decide)), fun h => H.f8 ((getD_set h).resolve_left (by decide)), fun h => H.f9 ((getD_set h).resolve_left (by decide)), fun _ => rfl, fun h => H.f11 ((getD_set h).resolve_left (by decide)), fun h => H.f12 ((getD_set h).resolve_left (by decide)), fun h => ⟨getD_mono (H.f13 ((getD_set h).resolve_left (by decide))).1, getD_mono (H.f13 ((getD_set h).resolve_left (by decide))).2⟩, fun h => H.f14 ((getD_set h).resolve_left (by decide)), fun h => ⟨getD_mono (H.f15 ((getD_set h).resolve_left (by decide))).1, getD_mono (H.f15 ((getD_set h).resolve_left (by decide))).2⟩, fun h => H.f16 ((getD_set h).resolve_left (by decide)), fun h => ⟨getD_mono (H.f17 ((getD_set h).resolve_left (by decide))).1, getD_mono (H.f17 ((getD_set h).resolve_left (by decide))).2⟩, fun h => H.f18 ((getD_set h).resolve_left (by decide)), fun h => ⟨getD_mono (H.f19 ((getD_set h).resolve_left (by decide))).1, getD_mono (H.f19 ((getD_set h).resolve_left (by decide))).2⟩⟩⟩
    · rintro L a V ⟨x4, x5, x6, x7, x8, x9, x10, x11, x12, x13, x14, x15, x16, x17, x18, x19, rfl, H⟩ hl ha K hK
      obtain rfl := H.f10 (ha ⟨10, .data⟩ (by simp) rfl)
      have hsz := H.be.size
      have hge := lt_of_heapF H.gz
      refine step_call_fn (args := #[.slice A4 k4 c4]) rfl rfl Tryz.func50 (by decide) rfl (by simp [Act.eval]) (copiedR_any A4 c4 k4 us V ((hR.below H.be).more hsz) hR1 hk4) ?_
      rintro e w' ⟨A', c', rfl, hc1, hc2, hown, hb⟩
      refine ⟨_, rfl, ?_⟩
      replace H := H.more hb
      exact hK _ _ ⟨_, _, _, _, _, _, _, _, _, _, _, _, _, _, _, _, rfl, ⟨H.be, H.gz, (by obtain ⟨s, l', b', r, a0, a1, a2, a3, a4, a5, a6, a7, a8⟩ := H.blk; exact ⟨s, l', b', r, a0, fun h => a1 (by rw [getD_set_ne (by decide)] at h; exact h), fun h => a2 (by rw [getD_set_ne (by decide)] at h; exact h), fun h => a3 (by rw [getD_set_ne (by decide)] at h; exact h), fun h => a4 (by rw [getD_set_ne (by decide)] at h; exact h), fun h => a5 (by rw [getD_set_ne (by decide)] at h; exact h), fun h => a6 (by rw [getD_set_ne (by decide)] at h; exact h), fun h => a7 (by rw [getD_set_ne (by decide)] at h; exact h), fun h => absurd (H.f19 (by rw [getD_set_ne (by decide)] at h; exact h)).2 (by rw [getD_left hl]; decide)⟩), fun h => H.f0 ((getD_set h).resolve_left (by decide)), fun h => H.f1 ((getD_set h).resolve_left (by decide)), fun h => H.f2 ((getD_set h).resolve_left (by decide)), fun h => H.f3 ((getD_set h).resolve_left (by decide)), fun h => H.f4 ((getD_set h).resolve_left (by decide)), fun h => H.f5 ((getD_set h).resolve_left (by decide)), fun h => H.f6 ((getD_set h).resolve_left (by decide)), fun h => H.f7 ((getD_set h).resolve_left (by decide)), fun h => H.f8 ((getD_set h).resolve_left (by decide)), fun h => H.f9 ((getD_set h).resolve_left (by decide)), fun h => H.f10 ((getD_set h).resolve_left (by decide)), fun _ => ⟨A', c', rfl, hc1, hc2, own_base hown hge⟩, fun h => H.f12 ((getD_set h).resolve_left (by decide)), fun h => ⟨getD_mono (H.f13 ((getD_set h).resolve_left (by decide))).1, getD_mono (H.f13 ((getD_set h).resolve_left (by decide))).2⟩, fun h => H.f14 ((getD_set h).resolve_left (by decide)), fun h => ⟨getD_mono (H.f15 ((getD_set h).resolve_left (by decide))).1, getD_mono (H.f15 ((getD_set h).resolve_left (by decide))).2⟩, fun h => H.f16 ((getD_set h).resolve_left (by decide)), fun h => ⟨getD_mono (H.f17 ((getD_set h).resolve_left (by decide))).1, getD_mono (H.f17 ((getD_set h).resolve_left (by decide))).2⟩, fun h => H.f18 ((getD_set h).resolve_left (by decide)), fun h => ⟨getD_mono (H.f19 ((getD_set h).resolve_left (by decide))).1, getD_mono (H.f19 ((getD_set h).resolve_left (by decide))).2⟩⟩⟩
    · rintro L a V ⟨x4, x5, x6, x7, x8, x9, x10, x11, x12, x13, x14, x15, x16, x17, x18, x19, rfl, H⟩ hl ha K hK
      go_simp
      exact hK _ _ ⟨_, _, _, _, _, _, _, _, _, _, _, _, _, _, _, _, rfl, ⟨H.be, H.gz, (by obtain ⟨s, l', b', r, a0, a1, a2, a3, a4, a5, a6, a7, a8⟩ := H.blk; exact ⟨s, l', b', r, a0, fun h => a1 (by rw [getD_set_ne (by decide)] at h; exact h), fun h => a2 (by rw [getD_set_ne (by decide)] at h; exact h), fun h => a3 (by rw [getD_set_ne (by decide)] at h; exact h), fun h => a4 (by rw [getD_set_ne (by decide)] at h; exact h), fun h => a5 (by rw [getD_set_ne (by decide)] at h; exact h), fun h => a6 (by rw [getD_set_ne (by decide)] at h; exact h), fun h => a7 (by rw [getD_set_ne (by decide)] at h; exact h), fun h => a8 (by rw [getD_set_ne (by decide)] at h; exact h)⟩), fun h => H.f0 ((getD_set h).resolve_left (by decide)), fun h => H.f1 ((getD_set h).resolve_left (by decide)), fun h => H.f2 ((getD_set h).resolve_left (by decide)), fun h => H.f3 ((getD_set h).resolve_left (by decide)), fun h => H.f4 ((getD_set h).resolve_left (by decide)), fun h => H.f5 ((getD_set h).resolve_left (by decide)), fun h => H.f6 ((getD_set h).resolve_left (by decide)), fun h => H.f7 ((getD_set h).resolve_left (by decide)), fun h => H.f8 ((getD_set h).resolve_left (by decide)), fun h => H.f9 ((getD_set h).resolve_left (by decide)), fun h => H.f10 ((getD_set h).resolve_left (by decide)), fun h => H.f11 ((getD_set h).resolve_left (by decide)), fun _ => rfl, fun h => ⟨getD_mono (H.f13 ((getD_set h).resolve_left (by decide))).1, getD_mono (H.f13 ((getD_set h).resolve_left (by decide))).2⟩, fun h => H.f14 ((getD_set h).resolve_left (by decide)), fun h => ⟨getD_mono (H.f15 ((getD_set h).resolve_left (by decide))).1, getD_mono (H.f15 ((getD_set h).resolve_left (by decide))).2⟩, fun h => H.f16 ((getD_set h).resolve_left (by decide)), fun h => ⟨getD_mono (H.f17 ((getD_set h).resolve_left (by decide))).1, getD_mono (H.f17 ((getD_set h).resolve_left (by decide))).2⟩, fun h => H.f18 ((getD_set h).resolve_left (by decide)), fun h => ⟨getD_mono (H.f19 ((getD_set h).resolve_left (by decide))).1, getD_mono (H.f19 ((getD_set h).resolve_left (by decide))).2⟩⟩⟩
    · rintro L a V ⟨x4, x5, x6, x7, x8, x9, x10, x11, x12, x13, x14, x15, x16, x17, x18, x19, rfl, H⟩ hl ha K hK
      obtain rfl := H.f12 (ha ⟨12, .data⟩ (by simp) rfl)
      obtain ⟨s, l', b', r, a0, a1, a2, a3, a4, a5, a6, a7, a8⟩ := H.blk
      obtain ⟨A', c', hx, _, _, _⟩ := H.f2 (ha ⟨2, .data⟩ (by simp) rfl)
      have hi := ha ⟨1, .phase⟩ (by simp) rfl
      have hi2 := ha ⟨2, .data⟩ (by simp) rfl
      have hc : V.cell? ⟨w.heap.size, 4, none⟩ = some s := by rw [cell_of_row _ _ 4 _ _ _ a0]; rfl
      have hfz : V.frozen? ⟨w.heap.size, 4, none⟩ = false := frozen_of_row V w.heap.size 4 _ _ a0
      have hB : (V.setCell ⟨w.heap.size, 4, none⟩ x6).heap[w.heap.size]? = some (.cells #[.int .i64 t1, .bool q1, .int .u32 n1, .int .u32 m1, x6, l', b', .int .i64 f1, r] 38 (0, 0)) := Blk.set_ (t := 38) (cs := #[.int .i64 t1, .bool q1, .int .u32 n1, .int .u32 m1, s, l', b', .int .i64 f1, r]) a0 4 x6
      have hgr : V.grownBy (V.setCell ⟨w.heap.size, 4, none⟩ x6) (some w.heap.size) := only_setCell (World.grownBy.refl V _) (.inl rfl) _
      replace H := H.grown hgr
      subst hx
      go_simp
      exact hK _ _ ⟨_, _, _, _, _, _, _, _, _, _, _, _, _, _, _, _, rfl, ⟨H.1, H.2.1, ⟨_, l', b', r, hB, fun h => absurd h (by rw [getD_set_eq (lt_of_left hl)]; decide), fun _ => rfl, fun h => a3 (by rw [getD_set_ne (by decide)] at h; exact h), fun h => a4 (by rw [getD_set_ne (by decide)] at h; exact h), fun h => a5 (by rw [getD_set_ne (by decide)] at h; exact h), fun h => a6 (by rw [getD_set_ne (by decide)] at h; exact h), fun h => a7 (by rw [getD_set_ne (by decide)] at h; exact h), fun h => a8 (by rw [getD_set_ne (by decide)] at h; exact h)⟩, fun h => H.2.2.f0 ((getD_set h).resolve_left (by decide)), fun h => H.2.2.f1 ((getD_set h).resolve_left (by decide)), fun h => H.2.2.f2 ((getD_set h).resolve_left (by decide)), fun h => H.2.2.f3 ((getD_set h).resolve_left (by decide)), fun h => H.2.2.f4 ((getD_set h).resolve_left (by decide)), fun h => H.2.2.f5 ((getD_set h).resolve_left (by decide)), fun h => H.2.2.f6 ((getD_set h).resolve_left (by decide)), fun h => H.2.2.f7 ((getD_set h).resolve_left (by decide)), fun h => H.2.2.f8 ((getD_set h).resolve_left (by decide)), fun h => H.2.2.f9 ((getD_set h).resolve_left (by decide)), fun h => H.2.2.f10 ((getD_set h).resolve_left (by decide)), fun h => H.2.2.f11 ((getD_set h).resolve_left (by decide)), fun h => H.2.2.f12 ((getD_set h).resolve_left (by decide)), fun _ => ⟨getD_mono hi, getD_mono hi2⟩, fun h => H.2.2.f14 ((getD_set h).resolve_left (by decide)), fun h => ⟨getD_mono (H.2.2.f15 ((getD_set h).resolve_left (by decide))).1, getD_mono (H.2.2.f15 ((getD_set h).resolve_left (by decide))).2⟩, fun h => H.2.2.f16 ((getD_set h).resolve_left (by decide)), fun h => ⟨getD_mono (H.2.2.f17 ((getD_set h).resolve_left (by decide))).1, getD_mono (H.2.2.f17 ((getD_set h).resolve_left (by decide))).2⟩, fun h => H.2.2.f18 ((getD_set h).resolve_left (by decide)), fun h => ⟨getD_mono (H.2.2.f19 ((getD_set h).resolve_left (by decide))).1, getD_mono (H.2.2.f19 ((getD_set h).resolve_left (by decide))).2⟩⟩⟩
    · rintro L a V ⟨x4, x5, x6, x7, x8, x9, x10, x11, x12, x13, x14, x15, x16, x17, x18, x19, rfl, H⟩ hl ha K hK
      go_simp
      exact hK _ _ ⟨_, _, _, _, _, _, _, _, _, _, _, _, _, _, _, _, rfl, ⟨H.be, H.gz, (by obtain ⟨s, l', b', r, a0, a1, a2, a3, a4, a5, a6, a7, a8⟩ := H.blk; exact ⟨s, l', b', r, a0, fun h => a1 (by rw [getD_set_ne (by decide)] at h; exact h), fun h => a2 (by rw [getD_set_ne (by decide)] at h; exact h), fun h => a3 (by rw [getD_set_ne (by decide)] at h; exact h), fun h => a4 (by rw [getD_set_ne (by decide)] at h; exact h), fun h => a5 (by rw [getD_set_ne (by decide)] at h; exact h), fun h => a6 (by rw [getD_set_ne (by decide)] at h; exact h), fun h => a7 (by rw [getD_set_ne (by decide)] at h; exact h), fun h => a8 (by rw [getD_set_ne (by decide)] at h; exact h)⟩), fun h => H.f0 ((getD_set h).resolve_left (by decide)), fun h => H.f1 ((getD_set h).resolve_left (by decide)), fun h => H.f2 ((getD_set h).resolve_left (by decide)), fun h => H.f3 ((getD_set h).resolve_left (by decide)), fun h => H.f4 ((getD_set h).resolve_left (by decide)), fun h => H.f5 ((getD_set h).resolve_left (by decide)), fun h => H.f6 ((getD_set h).resolve_left (by decide)), fun h => H.f7 ((getD_set h).resolve_left (by decide)), fun h => H.f8 ((getD_set h).resolve_left (by decide)), fun h => H.f9 ((getD_set h).resolve_left (by decide)), fun h => H.f10 ((getD_set h).resolve_left (by decide)), fun h => H.f11 ((getD_set h).resolve_left (by decide)), fun h => H.f12 ((getD_set h).resolve_left (by decide)), fun h => ⟨getD_mono (H.f13 ((getD_set h).resolve_left (by decide))).1, getD_mono (H.f13 ((getD_set h).resolve_left (by decide))).2⟩, fun _ => rfl, fun h => ⟨getD_mono (H.f15 ((getD_set h).resolve_left (by decide))).1, getD_mono (H.f15 ((getD_set h).resolve_left (by decide))).2⟩, fun h => H.f16 ((getD_set h).resolve_left (by decide)), fun h => ⟨getD_mono (H.f17 ((getD_set h).resolve_left (by decide))).1, getD_mono (H.f17 ((getD_set h).resolve_left (by decide))).2⟩, fun h => H.f18 ((getD_set h).resolve_left (by decide)), fun h => ⟨getD_mono (H.f19 ((getD_set h).resolve_left (by decide))).1, getD_mono (H.f19 ((getD_set h).resolve_left (by decide))).2⟩⟩⟩
    · rintro L a V ⟨x4, x5, x6, x7, x8, x9, x10, x11, x12, x13, x14, x15, x16, x17, x18, x19, rfl, H⟩ hl ha K hK
      obtain rfl := H.f14 (ha ⟨14, .data⟩ (by simp) rfl)
      obtain ⟨s, l', b', r, a0, a1, a2, a3, a4, a5, a6, a7, a8⟩ := H.blk
      obtain ⟨A', c', hx, _, _, _⟩ := H.f5 (ha ⟨5, .data⟩ (by simp) rfl)
      have hi := ha ⟨4, .phase⟩ (by simp) rfl
      have hi2 := ha ⟨5, .data⟩ (by simp) rfl
      have hc : V.cell? ⟨w.heap.size, 5, none⟩ = some l' := by rw [cell_of_row _ _ 5 _ _ _ a0]; rfl
      have hfz : V.frozen? ⟨w.heap.size, 5, none⟩ = false := frozen_of_row V w.heap.size 5 _ _ a0
      have hB : (V.setCell ⟨w.heap.size, 5, none⟩ x9).heap[w.heap.size]? = some (.cells #[.int .i64 t1, .bool q1, .int .u32 n1, .int .u32 m1, s, x9, b', .int .i64 f1, r] 38 (0, 0)) := Blk.set_ (t := 38) (cs := #[.int .i64 t1, .bool q1, .int .u32 n1, .int .u32 m1, s, l', b', .int .i64 f1, r]) a0 5 x9
      have hgr : V.grownBy (V.setCell ⟨w.heap.size, 5, none⟩ x9) (some w.heap.size) := only_setCell (World.grownBy.refl V _) (.inl rfl) _
      replace H := H.grown hgr
      subst hx
      go_simp
      exact hK _ _ ⟨_, _, _, _, _, _, _, _, _, _, _, _, _, _, _, _, rfl, ⟨H.1, H.2.1, ⟨s, _, b', r, hB, fun h => a1 (by rw [getD_set_ne (by decide)] at h; exact h), fun h => a2 (by rw [getD_set_ne (by decide)] at h; exact h), fun h => absurd h (by rw [getD_set_eq (lt_of_left hl)]; decide), fun _ => rfl, fun h => a5 (by rw [getD_set_ne (by decide)] at h; exact h), fun h => a6 (by rw [getD_set_ne (by decide)] at h; exact h), fun h => a7 (by rw [getD_set_ne (by decide)] at h; exact h), fun h => a8 (by rw [getD_set_ne (by decide)] at h; exact h)⟩, fun h => H.2.2.f0 ((getD_set h).resolve_left (by decide)), fun h => H.2.2.f1 ((getD_set h).resolve_left (by decide)), fun h => H.2.2.f2 ((getD_set h).resolve_left (by decide)), fun h => H.2.2.f3 ((getD_set h).resolve_left (by decide)), fun h => H.2.2.f4 ((getD_set h).resolve_left (by decide)), fun h => H.2.2.f5 ((getD_set h).resolve_left (by decide)), fun h => H.2.2.f6 ((getD_set h).resolve_left (by decide)), fun h => H.2.2.f7 ((getD_set h).resolve_left (by decide)), fun h => H.2.2.f8 ((getD_set h).resolve_left (by decide)), fun h => H.2.2.f9 ((getD_set h).resolve_left (by decide)), fun h => H.2.2.f10 ((getD_set h).resolve_left (by decide)), fun h => H.2.2.f11 ((getD_set h).resolve_left (by decide)), fun h => H.2.2.f12 ((getD_set h).resolve_left (by decide)), fun h => ⟨getD_mono (H.2.2.f13 ((getD_set h).resolve_left (by decide))).1, getD_mono (H.2.2.f13 ((getD_set h).resolve_left (by decide))).2⟩, fun h => H.2.2.f14 ((getD_set h).resolve_left (by decide)), fun _ => ⟨getD_mono hi, getD_mono hi2⟩, fun h => H.2.2.f16 ((getD_set h).resolve_left (by decide)), fun h => ⟨getD_mono (H.2.2.f17 ((getD_set h).resolve_left (by decide))).1, getD_mono (H.2.2.f17 ((getD_set h).resolve_left (by decide))).2⟩, fun h => H.2.2.f18 ((getD_set h).resolve_left (by decide)), fun h => ⟨getD_mono (H.2.2.f19 ((getD_set h).resolve_left (by decide))).1, getD_mono (H.2.2.f19 ((getD_set h).resolve_left (by decide))).2⟩⟩⟩
    · rintro L a V ⟨x4, x5, x6, x7, x8, x9, x10, x11, x12, x13, x14, x15, x16, x17, x18, x19, rfl, H⟩ hl ha K hK
      go_simp
      exact hK _ _ ⟨_, _, _, _, _, _, _, _, _, _, _, _, _, _, _, _, rfl, ⟨H.be, H.gz, (by obtain ⟨s, l', b', r, a0, a1, a2, a3, a4, a5, a6, a7, a8⟩ := H.blk; exact ⟨s, l', b', r, a0, fun h => a1 (by rw [getD_set_ne (by decide)] at h; exact h), fun h => a2 (by rw [getD_set_ne (by decide)] at h; exact h), fun h => a3 (by rw [getD_set_ne (by decide)] at h; exact h), fun h => a4 (by rw [getD_set_ne (by decide)] at h; exact h), fun h => a5 (by rw [getD_set_ne (by decide)] at h; exact h), fun h => a6 (by rw [getD_set_ne (by decide)] at h; exact h), fun h => a7 (by rw [getD_set_ne (by decide)] at h; exact h), fun h => a8 (by rw [getD_set_ne (by decide)] at h; exact h)⟩), fun h => H.f0 ((getD_set h).resolve_left (by decide)), fun h => H.f1 ((getD_set h).resolve_left (by decide)), fun h => H.f2 ((getD_set h).resolve_left (by decide)), fun h => H.f3 ((getD_set h).resolve_left (by decide)), fun h => H.f4 ((getD_set h).resolve_left (by decide)), fun h => H.f5 ((getD_set h).resolve_left (by decide)), fun h => H.f6 ((getD_set h).resolve_left (by decide)), fun h => H.f7 ((getD_set h).resolve_left (by decide)), fun h => H.f8 ((getD_set h).resolve_left (by decide)), fun h => H.f9 ((getD_set h).resolve_left (by decide)), fun h => H.f10 ((getD_set h).resolve_left (by decide)), fun h => H.f11 ((getD_set h).resolve_left (by decide)), fun h => H.f12 ((getD_set h).resolve_left (by decide)), fun h => ⟨getD_mono (H.f13 ((getD_set h).resolve_left (by decide))).1, getD_mono (H.f13 ((getD_set h).resolve_left (by decide))).2⟩, fun h => H.f14 ((getD_set h).resolve_left (by decide)), fun h => ⟨getD_mono (H.f15 ((getD_set h).resolve_left (by decide))).1, getD_mono (H.f15 ((getD_set h).resolve_left (by decide))).2⟩, fun _ => rfl, fun h => ⟨getD_mono (H.f17 ((getD_set h).resolve_left (by decide))).1, getD_mono (H.f17 ((getD_set h).resolve_left (by decide))).2⟩, fun h => H.f18 ((getD_set h).resolve_left (by decide)), fun h => ⟨getD_mono (H.f19 ((getD_set h).resolve_left (by decide))).1, getD_mono (H.f19 ((getD_set h).resolve_left (by decide))).2⟩⟩⟩
    · rintro L a V ⟨x4, x5, x6, x7, x8, x9, x10, x11, x12, x13, x14, x15, x16, x17, x18, x19, rfl, H⟩ hl ha K hK
      obtain rfl := H.f16 (ha ⟨16, .data⟩ (by simp) rfl)
      obtain ⟨s, l', b', r, a0, a1, a2, a3, a4, a5, a6, a7, a8⟩ := H.blk
      obtain ⟨A', c', hx, _, _, _⟩ := H.f8 (ha ⟨8, .data⟩ (by simp) rfl)
      have hi := ha ⟨7, .phase⟩ (by simp) rfl
      have hi2 := ha ⟨8, .data⟩ (by simp) rfl
      have hc : V.cell? ⟨w.heap.size, 6, none⟩ = some b' := by rw [cell_of_row _ _ 6 _ _ _ a0]; rfl
      have hfz : V.frozen? ⟨w.heap.size, 6, none⟩ = false := frozen_of_row V w.heap.size 6 _ _ a0
      have hB : (V.setCell ⟨w.heap.size, 6, none⟩ x12).heap[w.heap.size]? = some (.cells #[.int .i64 t1, .bool q1, .int .u32 n1, .int .u32 m1, s, l', x12, .int .i64 f1, r] 38 (0, 0)) := Blk.set_ (t := 38) (cs := #[.int .i64 t1, .bool q1, .int .u32 n1, .int .u32 m1, s, l', b', .int .i64 f1, r]) a0 6 x12
      have hgr : V.grownBy (V.setCell ⟨w.heap.size, 6, none⟩ x12) (some w.heap.size) := only_setCell (World.grownBy.refl V _) (.inl rfl) _
      replace H := H.grown hgr
      subst hx
      go_simp
      exact hK _ _ ⟨_, _, _, _, _, _, _, _, _, _, _, _, _, _, _, _, rfl, ⟨H.1, H.2.1, ⟨s, l', _, r, hB, fun h => a1 (by rw [getD_set_ne (by decide)] at h; exact h), fun h => a2 (by rw [getD_set_ne (by decide)] at h; exact h), fun h => a3 (by rw [getD_set_ne (by decide)] at h; exact h), fun h => a4 (by rw [getD_set_ne (by decide)] at h; exact h), fun h => absurd h (by rw [getD_set_eq (lt_of_left hl)]; decide), fun _ => rfl, fun h => a7 (by rw [getD_set_ne (by decide)] at h; exact h), fun h => a8 (by rw [getD_set_ne (by decide)] at h; exact h)⟩, fun h => H.2.2.f0 ((getD_set h).resolve_left (by decide)), fun h => H.2.2.f1 ((getD_set h).resolve_left (by decide)), fun h => H.2.2.f2 ((getD_set h).resolve_left (by decide)), fun h => H.2.2.f3 ((getD_set h).resolve_left (by decide)), fun h => H.2.2.f4 ((getD_set h).resolve_left (by decide)), fun h => H.2.2.f5 ((getD_set h).resolve_left (by decide)), fun h => H.2.2.f6 ((getD_set h).resolve_left (by decide)), fun h => H.2.2.f7 ((getD_set h).resolve_left (by decide)), fun h => H.2.2.f8 ((getD_set h).resolve_left (by decide)), fun h => H.2.2.f9 ((getD_set h).resolve_left (by decide)), fun h => H.2.2.f10 ((getD_set h).resolve_left (by decide)), fun h => H.2.2.f11 ((getD_set h).resolve_left (by decide)), fun h => H.2.2.f12 ((getD_set h).resolve_left (by decide)), fun h => ⟨getD_mono (H.2.2.f13 ((getD_set h).resolve_left (by decide))).1, getD_mono (H.2.2.f13 ((getD_set h).resolve_left (by decide))).2⟩, fun h => H.2.2.f14 ((getD_set h).resolve_left (by decide)), fun h => ⟨getD_mono (H.2.2.f15 ((getD_set h).resolve_left (by decide))).1, getD_mono (H.2.2.f15 ((getD_set h).resolve_left (by decide))).2⟩, fun h => H.2.2.f16 ((getD_set h).resolve_left (by decide)), fun _ => ⟨getD_mono hi, getD_mono hi2⟩, fun h => H.2.2.f18 ((getD_set h).resolve_left (by decide)), fun h => ⟨getD_mono (H.2.2.f19 ((getD_set h).resolve_left (by decide))).1, getD_mono (H.2.2.f19 ((getD_set h).resolve_left (by decide))).2⟩⟩⟩
    · rintro L a V ⟨x4, x5, x6, x7, x8, x9, x10, x11, x12, x13, x14, x15, x16, x17, x18, x19, rfl, H⟩ hl ha K hK
      go_simp
      exact hK _ _ ⟨_, _, _, _, _, _, _, _, _, _, _, _, _, _, _, _, rfl, ⟨H.be, H.gz, (by obtain ⟨s, l', b', r, a0, a1, a2, a3, a4, a5, a6, a7, a8⟩ := H.blk; exact ⟨s, l', b', r, a0, fun h => a1 (by rw [getD_set_ne (by decide)] at h; exact h), fun h => a2 (by rw [getD_set_ne (by decide)] at h; exact h), fun h => a3 (by rw [getD_set_ne (by decide)] at h; exact h), fun h => a4 (by rw [getD_set_ne (by decide)] at h; exact h), fun h => a5 (by rw [getD_set_ne (by decide)] at h; exact h), fun h => a6 (by rw [getD_set_ne (by decide)] at h; exact h), fun h => a7 (by rw [getD_set_ne (by decide)] at h; exact h), fun h => a8 (by rw [getD_set_ne (by decide)] at h; exact h)⟩), fun h => H.f0 ((getD_set h).resolve_left (by decide)), fun h => H.f1 ((getD_set h).resolve_left (by decide)), fun h => H.f2 ((getD_set h).resolve_left (by decide)), fun h => H.f3 ((getD_set h).resolve_left (by decide)), fun h => H.f4 ((getD_set h).resolve_left (by decide)), fun h => H.f5 ((getD_set h).resolve_left (by decide)), fun h => H.f6 ((getD_set h).resolve_left (by decide)), fun h => H.f7 ((getD_set h).resolve_left (by decide)), fun h => H.f8 ((getD_set h).resolve_left (by decide)), fun h => H.f9 ((getD_set h).resolve_left (by decide)), fun h => H.f10 ((getD_set h).resolve_left (by decide)), fun h => H.f11 ((getD_set h).resolve_left (by decide)), fun h => H.f12 ((getD_set h).resolve_left (by decide)), fun h => ⟨getD_mono (H.f13 ((getD_set h).resolve_left (by decide))).1, getD_mono (H.f13 ((getD_set h).resolve_left (by decide))).2⟩, fun h => H.f14 ((getD_set h).resolve_left (by decide)), fun h => ⟨getD_mono (H.f15 ((getD_set h).resolve_left (by decide))).1, getD_mono (H.f15 ((getD_set h).resolve_left (by decide))).2⟩, fun h => H.f16 ((getD_set h).resolve_left (by decide)), fun h => ⟨getD_mono (H.f17 ((getD_set h).resolve_left (by decide))).1, getD_mono (H.f17 ((getD_set h).resolve_left (by decide))).2⟩, fun _ => rfl, fun h => ⟨getD_mono (H.f19 ((getD_set h).resolve_left (by decide))).1, getD_mono (H.f19 ((getD_set h).resolve_left (by decide))).2⟩⟩⟩
    · rintro L a V ⟨x4, x5, x6, x7, x8, x9, x10, x11, x12, x13, x14, x15, x16, x17, x18, x19, rfl, H⟩ hl ha K hK
      obtain rfl := H.f18 (ha ⟨18, .data⟩ (by simp) rfl)
      obtain ⟨s, l', b', r, a0, a1, a2, a3, a4, a5, a6, a7, a8⟩ := H.blk
      obtain ⟨A', c', hx, _, _, _⟩ := H.f11 (ha ⟨11, .data⟩ (by simp) rfl)
      have hi := ha ⟨10, .phase⟩ (by simp) rfl
      have hi2 := ha ⟨11, .data⟩ (by simp) rfl
      have hc : V.cell? ⟨w.heap.size, 8, none⟩ = some r := by rw [cell_of_row _ _ 8 _ _ _ a0]; rfl
      have hfz : V.frozen? ⟨w.heap.size, 8, none⟩ = false := frozen_of_row V w.heap.size 8 _ _ a0
      have hB : (V.setCell ⟨w.heap.size, 8, none⟩ x15).heap[w.heap.size]? = some (.cells #[.int .i64 t1, .bool q1, .int .u32 n1, .int .u32 m1, s, l', b', .int .i64 f1, x15] 38 (0, 0)) := Blk.set_ (t := 38) (cs := #[.int .i64 t1, .bool q1, .int .u32 n1, .int .u32 m1, s, l', b', .int .i64 f1, r]) a0 8 x15
      have hgr : V.grownBy (V.setCell ⟨w.heap.size, 8, none⟩ x15) (some w.heap.size) := only_setCell (World.grownBy.refl V _) (.inl rfl) _
      replace H := H.grown hgr
      subst hx
      go_simp
      exact hK _ _ ⟨_, _, _, _, _, _, _, _, _, _, _, _, _, _, _, _, rfl, ⟨H.1, H.2.1, ⟨s, l', b', _, hB, fun h => a1 (by rw [getD_set_ne (by decide)] at h; exact h), fun h => a2 (by rw [getD_set_ne (by decide)] at h; exact h), fun h => a3 (by rw [getD_set_ne (by decide)] at h; exact h), fun h => a4 (by rw [getD_set_ne (by decide)] at h; exact h), fun h => a5 (by rw [getD_set_ne (by decide)] at h; exact h), fun h => a6 (by rw [getD_set_ne (by decide)] at h; exact h), fun h => absurd h (by rw [getD_set_eq (lt_of_left hl)]; decide), fun _ => rfl⟩, fun h => H.2.2.f0 ((getD_set h).resolve_left (by decide)), fun h => H.2.2.f1 ((getD_set h).resolve_left (by decide)), fun h => H.2.2.f2 ((getD_set h).resolve_left (by decide)), fun h => H.2.2.f3 ((getD_set h).resolve_left (by decide)), fun h => H.2.2.f4 ((getD_set h).resolve_left (by decide)), fun h => H.2.2.f5 ((getD_set h).resolve_left (by decide)), fun h => H.2.2.f6 ((getD_set h).resolve_left (by decide)), fun h => H.2.2.f7 ((getD_set h).resolve_left (by decide)), fun h => H.2.2.f8 ((getD_set h).resolve_left (by decide)), fun h => H.2.2.f9 ((getD_set h).resolve_left (by decide)), fun h => H.2.2.f10 ((getD_set h).resolve_left (by decide)), fun h => H.2.2.f11 ((getD_set h).resolve_left (by decide)), fun h => H.2.2.f12 ((getD_set h).resolve_left (by decide)), fun h => ⟨getD_mono (H.2.2.f13 ((getD_set h).resolve_left (by decide))).1, getD_mono (H.2.2.f13 ((getD_set h).resolve_left (by decide))).2⟩, fun h => H.2.2.f14 ((getD_set h).resolve_left (by decide)), fun h => ⟨getD_mono (H.2.2.f15 ((getD_set h).resolve_left (by decide))).1, getD_mono (H.2.2.f15 ((getD_set h).resolve_left (by decide))).2⟩, fun h => H.2.2.f16 ((getD_set h).resolve_left (by decide)), fun h => ⟨getD_mono (H.2.2.f17 ((getD_set h).resolve_left (by decide))).1, getD_mono (H.2.2.f17 ((getD_set h).resolve_left (by decide))).2⟩, fun h => H.2.2.f18 ((getD_set h).resolve_left (by decide)), fun _ => ⟨getD_mono hi, getD_mono hi2⟩⟩⟩
  case done =>
    rintro L a V ⟨x4, x5, x6, x7, x8, x9, x10, x11, x12, x13, x14, x15, x16, x17, x18, x19, rfl, H⟩ hall
    have hg0 := H.blk
    obtain ⟨s, l', b', r, hg, _, e1, _, e2, _, e3, _, e4⟩ := hg0
    rw [e1 (hall 13 (by decide)), e2 (hall 15 (by decide)), e3 (hall 17 (by decide)), e4 (hall 19 (by decide))] at hg
    obtain ⟨AS, cS, rfl, hS2, hS3, hS4⟩ := H.f2 (hall 2 (by decide))
    obtain ⟨AL, cL, rfl, hL2, hL3, hL4⟩ := H.f5 (hall 5 (by decide))
    obtain ⟨AB, cB, rfl, hB2, hB3, hB4⟩ := H.f8 (hall 8 (by decide))
    obtain ⟨AR, cR, rfl, hR2, hR3, hR4⟩ := H.f11 (hall 11 (by decide))
    have hgz := H.gz
    have hbe := H.be
    have hlz := lt_of_heapF hgz
    clear H hall e1 e2 e3 e4 hS hS1 hL hB hR hR1
    have cc : V.cell? ⟨w.heap.size, 4, none⟩ = some (.slice AS k1 cS) := by rw [cell_of_row _ _ 4 _ _ _ hg]; rfl
    have HL4 := hide hL4
    have HB4 := hide hB4
    have HR4 := hide hR4
    have HG := Lib.hid hg
    have HGZ := Lib.hid hgz
    have HBE := hide hbe
    clear hL4 hB4 hR4 hg hgz hbe
    have hks := HKS.out
    have hk4s := HK4.out
    clear HKS HK4
    subst hks
    obtain ⟨rfl, rfl⟩ := hk4s
    go_wp2_with fail
    go_loopw [23] (fun i wr => ∃ k : Nat, k ≤ segs.length ∧ i = .int .i64 k ∧ ∃ vsN, wr.ownsRow (w.heap.size + 2) 83 2 (.slice AS segs.length cS) segs.length (vsN ++ vs.drop (k * 2)) ∧
      SegsO wr V.heap.size vsN (segs.take k) ∧ V.heap.size ≤ wr.heap.size ∧ (∀ x, x < V.heap.size → some x ≠ (Value.slice AS segs.length cS).ownBlock → wr.heap[x]? = V.heap[x]?) ∧ Below w.heap.size w wr) (fun i _ => segs.length - (intOf i).toNat)
    case atStart => exact ⟨0, Nat.zero_le _, rfl, [], by simpa using hS4, SegsO.nil_, Nat.le_refl _, fun _ _ _ => rfl, HBE.out⟩
    case round =>
      obtain ⟨k, hk, rfl, vsN, hown, hseg, hwz, hot, hbel⟩ := hrel
      obtain ⟨wo, rfl⟩ : ∃ wo : World, wo = wr := ⟨_, rfl⟩
      have hlN : vsN.length = k * 2 := by rw [hseg.1, List.length_take]; omega
      by_cases hlt : k < segs.length
      · obtain ⟨v0, v1, y0, y1, e0, A', c', e1, e2, e3, e4⟩ := hsg.2 k _ (List.getElem?_eq_getElem hlt)
        subst e0; subst e1
        obtain ⟨g, cap, hf, hgg0, hgg1⟩ := hown.form (by omega)
        have hf2 : AS = some ⟨g, 0, none⟩ ∧ cap = cS := by injection hf with a b c; exact ⟨a, c.symm⟩
        obtain ⟨rfl, rfl⟩ := hf2
        have hgV : g < V.heap.size := by
          obtain ⟨g', cap', hf', _, hlt'⟩ := hS4.form (by omega)
          have : g' = g := by injection hf' with a; injection a with a; injection a with a; exact a.symm
          omega
        have hmk := hm segs[k] (List.getElem_mem hlt)
        have cB1 : wo.cell? ⟨g, k * 2 + 1, none⟩ = some (.slice A' segs[k].2.length c') := by
          rw [hown.cellAt (k * 2 + 1) (by omega), List.getElem?_append_right (by omega), List.getElem?_drop, ← y1]
          congr 1; omega
        have fB1 : wo.frozen? ⟨g, k * 2 + 1, none⟩ = false := hown.frozenAt _
        have hbg : wo.heap[w.heap.size]? = some (.cells #[.int .i64 t1, .bool q1, .int .u32 n1, .int .u32 m1, .slice (some ⟨g, 0, none⟩) segs.length cap, .slice AL l.length cL, .slice AB b.length cB, .int .i64 f1, .slice AR rs.length cR] 38 (0, 0)) := (hot _ (by omega) (by intro e; simp [Value.ownBlock] at e; omega)).trans HG.out
        have cc1 : wo.cell? ⟨w.heap.size, 4, none⟩ = some (.slice (some ⟨g, 0, none⟩) segs.length cap) := by rw [cell_of_row _ _ 4 _ _ _ hbg]; rfl
        have hcl := fun (W : World) (hW : Below wo.heap.size wo W) => copiedU_any A' c' segs[k].2 W ((e4.below (hbel.trans (hW.mono hbel.size))).more (hbel.trans (hW.mono hbel.size)).size) hmk
        have HCL := hide hcl
        have hk0 : (0 : Int) ≤ (k : Int) := Int.natCast_nonneg _
        have hk1 : (k : Int) < (segs.length : Int) := by omega
        have hgo : g < wo.heap.size := by omega
        have hbo : w.heap.size < wo.heap.size := by omega
        clear hcl e4 hbg
        have HBL := hide hbel
        have HSG := hide hseg
        have HOW := hide hown
        have HOT := Lib.hid hot
        clear hbel hseg hown hot hS4 cc
        go_wp2_with fail
        refine wp_region_inv (by kernel_rfl) (fun L a V => ∃ x26 x27 x28 x29 x30 x31 x32 x33 x34 x35 x36 x37 : Value, a = ⟨List.toArray ((.agg #[.int .i64 t1, .bool q1, .int .u32 n1, .int .u32 m1, .slice A1 segs.length c1, .slice A2 l.length c2, .slice A3 b.length c3, .int .i64 f1, .slice A4 rs.length c4]) :: (.pointer (some ⟨w.heap.size, 0, none⟩)) :: (.pointer (some ⟨w.heap.size + 1, 0, none⟩)) :: (.int .i64 k) :: (x4) :: (x5) :: (.slice (some ⟨g, 0, none⟩) segs.length cap) :: (x7) :: (x8) :: (.slice AL l.length cL) :: (x10) :: (x11) :: (.slice AB b.length cB) :: (x13) :: (x14) :: (.slice AR rs.length cR) :: (x16) :: (x17) :: (x18) :: (x19) :: (.pointer (some ⟨w.heap.size, 4, none⟩)) :: (.slice (some ⟨g, 0, none⟩) segs.length cap) :: (.int .i64 segs.length) :: (.int .i64 k) :: (.bool true) :: (.int .i64 k) :: (x26) :: (x27) :: (x28) :: (x29) :: (x30) :: (x31) :: (x32) :: (x33) :: (x34) :: (x35) :: (x36) :: (x37) :: (u38) :: (undef) :: []), []⟩ ∧ C5 wo w.heap.size g cap segs.length k segs[k].2.length A' c' segs[k].2 V L x26 x27 x28 x29 x30 x31 x32 x33 x34 x35 x36 x37) (by kernel_rfl) ?steps ⟨u26, u27, u28, u29, u30, u31, u32, u33, u34, u35, u36, u37, rfl, fun _ => (Below.refl _ _).drew, fun h => absurd h (by decide), fun h => absurd h (by decide), fun h => absurd h (by decide), fun h => absurd h (by decide), fun h => absurd h (by decide), fun h => absurd h (by decide), fun h => absurd h (by decide), fun h => absurd h (by decide), fun h => absurd h (by decide), fun h => absurd h (by decide), fun h => absurd h (by decide), fun h => absurd h (by decide), fun h => absurd h (by decide)⟩ ?done
        case steps =>
          refine ⟨?_, ?_, ?_, ?_, ?_, ?_, ?_, ?_, ?_, ?_, ?_, ?_, ?_, trivial⟩
          · rintro L a V ⟨x26, x27, x28, x29, x30, x31, x32, x33, x34, x35, x36, x37, rfl, H⟩ hl ha K hK
            go_simp
            exact hK _ _ ⟨_, _, _, _, _, _, _, _, _, _, _, _, rfl, ⟨fun h => H.nb (by rw [getD_set_ne (by decide)] at h; exact h), fun _ => rfl, fun h => H.f1 ((getD_set h).resolve_left (by decide)), fun h => H.f2 ((getD_set h).resolve_left (by decide)), fun h => H.f3 ((getD_set h).resolve_left (by decide)), fun h => H.f4 ((getD_set h).resolve_left (by decide)), fun h => H.f5 ((getD_set h).resolve_left (by decide)), fun h => H.f6 ((getD_set h).resolve_left (by decide)), fun h => H.f7 ((getD_set h).resolve_left (by decide)), fun h => H.f8 ((getD_set h).resolve_left (by decide)), fun h => H.f9 ((getD_set h).resolve_left (by decide)), fun h => H.f10 ((getD_set h).resolve_left (by decide)), fun h => H.f11 ((getD_set h).resolve_left (by decide)), fun h => ⟨⟨getD_mono (H.f12 ((getD_set h).resolve_left (by decide))).1.1, getD_mono (H.f12 ((getD_set h).resolve_left (by decide))).1.2.1, getD_mono (H.f12 ((getD_set h).resolve_left (by decide))).1.2.2.1, getD_mono (H.f12 ((getD_set h).resolve_left (by decide))).1.2.2.2⟩, (H.f12 ((getD_set h).resolve_left (by decide))).2⟩⟩⟩
          · rintro L a V ⟨x26, x27, x28, x29, x30, x31, x32, x33, x34, x35, x36, x37, rfl, H⟩ hl ha K hK
            obtain rfl := H.f0 (ha ⟨0, .data⟩ (by simp) rfl)
            have h12 : L.getD 12 false = false := by
              cases h12 : L.getD 12 false with
              | true => exact absurd (H.f12 h12).1.1 (by rw [getD_left hl]; decide)
              | false => rfl
            have hnb := H.nb h12
            refine step_load_cell V rfl 33 (.tmp 26) rfl ⟨w.heap.size, 4, none⟩ _ (.slice (some ⟨g, 0, none⟩) segs.length cap) rfl ((hnb.cell (p := ⟨w.heap.size, 4, none⟩) hbo).trans cc1) Tryz.underlying33 rfl ?_
            exact hK _ _ ⟨_, _, _, _, _, _, _, _, _, _, _, _, rfl, ⟨fun h => H.nb (by rw [getD_set_ne (by decide)] at h; exact h), fun h => H.f0 ((getD_set h).resolve_left (by decide)), fun _ => rfl, fun h => H.f2 ((getD_set h).resolve_left (by decide)), fun h => H.f3 ((getD_set h).resolve_left (by decide)), fun h => H.f4 ((getD_set h).resolve_left (by decide)), fun h => H.f5 ((getD_set h).resolve_left (by decide)), fun h => H.f6 ((getD_set h).resolve_left (by decide)), fun h => H.f7 ((getD_set h).resolve_left (by decide)), fun h => H.f8 ((getD_set h).resolve_left (by decide)), fun h => H.f9 ((getD_set h).resolve_left (by decide)), fun h => H.f10 ((getD_set h).resolve_left (by decide)), fun h => H.f11 ((getD_set h).resolve_left (by decide)), fun h => ⟨⟨getD_mono (H.f12 ((getD_set h).resolve_left (by decide))).1.1, getD_mono (H.f12 ((getD_set h).resolve_left (by decide))).1.2.1, getD_mono (H.f12 ((getD_set h).resolve_left (by decide))).1.2.2.1, getD_mono (H.f12 ((getD_set h).resolve_left (by decide))).1.2.2.2⟩, (H.f12 ((getD_set h).resolve_left (by decide))).2⟩⟩⟩
          · rintro L a V ⟨x26, x27, x28, x29, x30, x31, x32, x33, x34, x35, x36, x37, rfl, H⟩ hl ha K hK
            go_simp
            exact hK _ _ ⟨_, _, _, _, _, _, _, _, _, _, _, _, rfl, ⟨fun h => H.nb (by rw [getD_set_ne (by decide)] at h; exact h), fun h => H.f0 ((getD_set h).resolve_left (by decide)), fun h => H.f1 ((getD_set h).resolve_left (by decide)), fun _ => rfl, fun h => H.f3 ((getD_set h).resolve_left (by decide)), fun h => H.f4 ((getD_set h).resolve_left (by decide)), fun h => H.f5 ((getD_set h).resolve_left (by decide)), fun h => H.f6 ((getD_set h).resolve_left (by decide)), fun h => H.f7 ((getD_set h).resolve_left (by decide)), fun h => H.f8 ((getD_set h).resolve_left (by decide)), fun h => H.f9 ((getD_set h).resolve_left (by decide)), fun h => H.f10 ((getD_set h).resolve_left (by decide)), fun h => H.f11 ((getD_set h).resolve_left (by decide)), fun h => ⟨⟨getD_mono (H.f12 ((getD_set h).resolve_left (by decide))).1.1, getD_mono (H.f12 ((getD_set h).resolve_left (by decide))).1.2.1, getD_mono (H.f12 ((getD_set h).resolve_left (by decide))).1.2.2.1, getD_mono (H.f12 ((getD_set h).resolve_left (by decide))).1.2.2.2⟩, (H.f12 ((getD_set h).resolve_left (by decide))).2⟩⟩⟩
          · rintro L a V ⟨x26, x27, x28, x29, x30, x31, x32, x33, x34, x35, x36, x37, rfl, H⟩ hl ha K hK
            go_simp
            exact hK _ _ ⟨_, _, _, _, _, _, _, _, _, _, _, _, rfl, ⟨fun h => H.nb (by rw [getD_set_ne (by decide)] at h; exact h), fun h => H.f0 ((getD_set h).resolve_left (by decide)), fun h => H.f1 ((getD_set h).resolve_left (by decide)), fun h => H.f2 ((getD_set h).resolve_left (by decide)), fun _ => rfl, fun h => H.f4 ((getD_set h).resolve_left (by decide)), fun h => H.f5 ((getD_set h).resolve_left (by decide)), fun h => H.f6 ((getD_set h).resolve_left (by decide)), fun h => H.f7 ((getD_set h).resolve_left (by decide)), fun h => H.f8 ((getD_set h).resolve_left (by decide)), fun h => H.f9 ((getD_set h).resolve_left (by decide)), fun h => H.f10 ((getD_set h).resolve_left (by decide)), fun h => H.f11 ((getD_set h).resolve_left (by decide)), fun h => ⟨⟨getD_mono (H.f12 ((getD_set h).resolve_left (by decide))).1.1, getD_mono (H.f12 ((getD_set h).resolve_left (by decide))).1.2.1, getD_mono (H.f12 ((getD_set h).resolve_left (by decide))).1.2.2.1, getD_mono (H.f12 ((getD_set h).resolve_left (by decide))).1.2.2.2⟩, (H.f12 ((getD_set h).resolve_left (by decide))).2⟩⟩⟩
          · rintro L a V ⟨x26, x27, x28, x29, x30, x31, x32, x33, x34, x35, x36, x37, rfl, H⟩ hl ha K hK
            obtain rfl := H.f3 (ha ⟨3, .data⟩ (by simp) rfl)
            have h12 : L.getD 12 false = false := by
              cases h12 : L.getD 12 false with
              | true => exact absurd (H.f12 h12).1.2.1 (by rw [getD_left hl]; decide)
              | false => rfl
            have hnb := H.nb h12
            refine step_load_cell V rfl 33 (.tmp 29) rfl ⟨w.heap.size, 4, none⟩ _ (.slice (some ⟨g, 0, none⟩) segs.length cap) rfl ((hnb.cell (p := ⟨w.heap.size, 4, none⟩) hbo).trans cc1) Tryz.underlying33 rfl ?_
            exact hK _ _ ⟨_, _, _, _, _, _, _, _, _, _, _, _, rfl, ⟨fun h => H.nb (by rw [getD_set_ne (by decide)] at h; exact h), fun h => H.f0 ((getD_set h).resolve_left (by decide)), fun h => H.f1 ((getD_set h).resolve_left (by decide)), fun h => H.f2 ((getD_set h).resolve_left (by decide)), fun h => H.f3 ((getD_set h).resolve_left (by decide)), fun _ => rfl, fun h => H.f5 ((getD_set h).resolve_left (by decide)), fun h => H.f6 ((getD_set h).resolve_left (by decide)), fun h => H.f7 ((getD_set h).resolve_left (by decide)), fun h => H.f8 ((getD_set h).resolve_left (by decide)), fun h => H.f9 ((getD_set h).resolve_left (by decide)), fun h => H.f10 ((getD_set h).resolve_left (by decide)), fun h => H.f11 ((getD_set h).resolve_left (by decide)), fun h => ⟨⟨getD_mono (H.f12 ((getD_set h).resolve_left (by decide))).1.1, getD_mono (H.f12 ((getD_set h).resolve_left (by decide))).1.2.1, getD_mono (H.f12 ((getD_set h).resolve_left (by decide))).1.2.2.1, getD_mono (H.f12 ((getD_set h).resolve_left (by decide))).1.2.2.2⟩, (H.f12 ((getD_set h).resolve_left (by decide))).2⟩⟩⟩
          · rintro L a V ⟨x26, x27, x28, x29, x30, x31, x32, x33, x34, x35, x36, x37, rfl, H⟩ hl ha K hK
            go_simp
            exact hK _ _ ⟨_, _, _, _, _, _, _, _, _, _, _, _, rfl, ⟨fun h => H.nb (by rw [getD_set_ne (by decide)] at h; exact h), fun h => H.f0 ((getD_set h).resolve_left (by decide)), fun h => H.f1 ((getD_set h).resolve_left (by decide)), fun h => H.f2 ((getD_set h).resolve_left (by decide)), fun h => H.f3 ((getD_set h).resolve_left (by decide)), fun h => H.f4 ((getD_set h).resolve_left (by decide)), fun _ => rfl, fun h => H.f6 ((getD_set h).resolve_left (by decide)), fun h => H.f7 ((getD_set h).resolve_left (by decide)), fun h => H.f8 ((getD_set h).resolve_left (by decide)), fun h => H.f9 ((getD_set h).resolve_left (by decide)), fun h => H.f10 ((getD_set h).resolve_left (by decide)), fun h => H.f11 ((getD_set h).resolve_left (by decide)), fun h => ⟨⟨getD_mono (H.f12 ((getD_set h).resolve_left (by decide))).1.1, getD_mono (H.f12 ((getD_set h).resolve_left (by decide))).1.2.1, getD_mono (H.f12 ((getD_set h).resolve_left (by decide))).1.2.2.1, getD_mono (H.f12 ((getD_set h).resolve_left (by decide))).1.2.2.2⟩, (H.f12 ((getD_set h).resolve_left (by decide))).2⟩⟩⟩
          · rintro L a V ⟨x26, x27, x28, x29, x30, x31, x32, x33, x34, x35, x36, x37, rfl, H⟩ hl ha K hK
            obtain rfl := H.f4 (ha ⟨4, .data⟩ (by simp) rfl)
            obtain rfl := H.f5 (ha ⟨5, .data⟩ (by simp) rfl)
            go_simp
            exact hK _ _ ⟨_, _, _, _, _, _, _, _, _, _, _, _, rfl, ⟨fun h => H.nb (by rw [getD_set_ne (by decide)] at h; exact h), fun h => H.f0 ((getD_set h).resolve_left (by decide)), fun h => H.f1 ((getD_set h).resolve_left (by decide)), fun h => H.f2 ((getD_set h).resolve_left (by decide)), fun h => H.f3 ((getD_set h).resolve_left (by decide)), fun h => H.f4 ((getD_set h).resolve_left (by decide)), fun h => H.f5 ((getD_set h).resolve_left (by decide)), fun _ => rfl, fun h => H.f7 ((getD_set h).resolve_left (by decide)), fun h => H.f8 ((getD_set h).resolve_left (by decide)), fun h => H.f9 ((getD_set h).resolve_left (by decide)), fun h => H.f10 ((getD_set h).resolve_left (by decide)), fun h => H.f11 ((getD_set h).resolve_left (by decide)), fun h => ⟨⟨getD_mono (H.f12 ((getD_set h).resolve_left (by decide))).1.1, getD_mono (H.f12 ((getD_set h).resolve_left (by decide))).1.2.1, getD_mono (H.f12 ((getD_set h).resolve_left (by decide))).1.2.2.1, getD_mono (H.f12 ((getD_set h).resolve_left (by decide))).1.2.2.2⟩, (H.f12 ((getD_set h).resolve_left (by decide))).2⟩⟩⟩
          · rintro L a V ⟨x26, x27, x28, x29, x30, x31, x32, x33, x34, x35, x36, x37, rfl, H⟩ hl ha K hK
            obtain rfl := H.f6 (ha ⟨6, .data⟩ (by simp) rfl)
            go_simp
            exact hK _ _ ⟨_, _, _, _, _, _, _, _, _, _, _, _, rfl, ⟨fun h => H.nb (by rw [getD_set_ne (by decide)] at h; exact h), fun h => H.f0 ((getD_set h).resolve_left (by decide)), fun h => H.f1 ((getD_set h).resolve_left (by decide)), fun h => H.f2 ((getD_set h).resolve_left (by decide)), fun h => H.f3 ((getD_set h).resolve_left (by decide)), fun h => H.f4 ((getD_set h).resolve_left (by decide)), fun h => H.f5 ((getD_set h).resolve_left (by decide)), fun h => H.f6 ((getD_set h).resolve_left (by decide)), fun _ => rfl, fun h => H.f8 ((getD_set h).resolve_left (by decide)), fun h => H.f9 ((getD_set h).resolve_left (by decide)), fun h => H.f10 ((getD_set h).resolve_left (by decide)), fun h => H.f11 ((getD_set h).resolve_left (by decide)), fun h => ⟨⟨getD_mono (H.f12 ((getD_set h).resolve_left (by decide))).1.1, getD_mono (H.f12 ((getD_set h).resolve_left (by decide))).1.2.1, getD_mono (H.f12 ((getD_set h).resolve_left (by decide))).1.2.2.1, getD_mono (H.f12 ((getD_set h).resolve_left (by decide))).1.2.2.2⟩, (H.f12 ((getD_set h).resolve_left (by decide))).2⟩⟩⟩
          · rintro L a V ⟨x26, x27, x28, x29, x30, x31, x32, x33, x34, x35, x36, x37, rfl, H⟩ hl ha K hK
            obtain rfl := H.f7 (ha ⟨7, .data⟩ (by simp) rfl)
            have h12 : L.getD 12 false = false := by
              cases h12 : L.getD 12 false with
              | true => exact absurd (H.f12 h12).1.2.2.1 (by rw [getD_left hl]; decide)
              | false => rfl
            have hnb := H.nb h12
            refine step_load_cell V rfl 34 (.tmp 33) rfl ⟨g, k * 2 + 1, none⟩ _ (.slice A' segs[k].2.length c') rfl ((hnb.cell (p := ⟨g, k * 2 + 1, none⟩) hgo).trans cB1) Tryz.underlying34 rfl ?_
            exact hK _ _ ⟨_, _, _, _, _, _, _, _, _, _, _, _, rfl, ⟨fun h => H.nb (by rw [getD_set_ne (by decide)] at h; exact h), fun h => H.f0 ((getD_set h).resolve_left (by decide)), fun h => H.f1 ((getD_set h).resolve_left (by decide)), fun h => H.f2 ((getD_set h).resolve_left (by decide)), fun h => H.f3 ((getD_set h).resolve_left (by decide)), fun h => H.f4 ((getD_set h).resolve_left (by decide)), fun h => H.f5 ((getD_set h).resolve_left (by decide)), fun h => H.f6 ((getD_set h).resolve_left (by decide)), fun h => H.f7 ((getD_set h).resolve_left (by decide)), fun _ => rfl, fun h => H.f9 ((getD_set h).resolve_left (by decide)), fun h => H.f10 ((getD_set h).resolve_left (by decide)), fun h => H.f11 ((getD_set h).resolve_left (by decide)), fun h => ⟨⟨getD_mono (H.f12 ((getD_set h).resolve_left (by decide))).1.1, getD_mono (H.f12 ((getD_set h).resolve_left (by decide))).1.2.1, getD_mono (H.f12 ((getD_set h).resolve_left (by decide))).1.2.2.1, getD_mono (H.f12 ((getD_set h).resolve_left (by decide))).1.2.2.2⟩, (H.f12 ((getD_set h).resolve_left (by decide))).2⟩⟩⟩
          · rintro L a V ⟨x26, x27, x28, x29, x30, x31, x32, x33, x34, x35, x36, x37, rfl, H⟩ hl ha K hK
            obtain rfl := H.f8 (ha ⟨8, .data⟩ (by simp) rfl)
            have h12 : L.getD 12 false = false := by
              cases h12 : L.getD 12 false with
              | true => exact absurd (H.f12 h12).1.2.2.2 (by rw [getD_left hl]; decide)
              | false => rfl
            have hnb := H.nb h12
            refine step_call_fn (args := #[.slice A' segs[k].2.length c']) rfl rfl Tryz.func48 (by decide) rfl (by simp [Act.eval]) (HCL.out V hnb) ?_
            rintro e w' ⟨A2, d2, rfl, hd1, hd2, hown2, hb⟩
            refine ⟨_, rfl, ?_⟩
            exact hK _ _ ⟨_, _, _, _, _, _, _, _, _, _, _, _, rfl, ⟨fun _ => hnb.trans (hb.mono hnb.size), fun h => H.f0 ((getD_set h).resolve_left (by decide)), fun h => H.f1 ((getD_set h).resolve_left (by decide)), fun h => H.f2 ((getD_set h).resolve_left (by decide)), fun h => H.f3 ((getD_set h).resolve_left (by decide)), fun h => H.f4 ((getD_set h).resolve_left (by decide)), fun h => H.f5 ((getD_set h).resolve_left (by decide)), fun h => H.f6 ((getD_set h).resolve_left (by decide)), fun h => H.f7 ((getD_set h).resolve_left (by decide)), fun h => H.f8 ((getD_set h).resolve_left (by decide)), fun _ => ⟨A2, d2, rfl, hd1, hd2, own_base hown2 hnb.size⟩, fun h => H.f10 ((getD_set h).resolve_left (by decide)), fun h => H.f11 ((getD_set h).resolve_left (by decide)), fun h => absurd (H.f12 ((getD_set h).resolve_left (by decide))).1.2.2.2 (by rw [getD_left hl]; decide)⟩⟩
          · rintro L a V ⟨x26, x27, x28, x29, x30, x31, x32, x33, x34, x35, x36, x37, rfl, H⟩ hl ha K hK
            obtain rfl := H.f1 (ha ⟨1, .data⟩ (by simp) rfl)
            obtain rfl := H.f2 (ha ⟨2, .data⟩ (by simp) rfl)
            go_simp
            exact hK _ _ ⟨_, _, _, _, _, _, _, _, _, _, _, _, rfl, ⟨fun h => H.nb (by rw [getD_set_ne (by decide)] at h; exact h), fun h => H.f0 ((getD_set h).resolve_left (by decide)), fun h => H.f1 ((getD_set h).resolve_left (by decide)), fun h => H.f2 ((getD_set h).resolve_left (by decide)), fun h => H.f3 ((getD_set h).resolve_left (by decide)), fun h => H.f4 ((getD_set h).resolve_left (by decide)), fun h => H.f5 ((getD_set h).resolve_left (by decide)), fun h => H.f6 ((getD_set h).resolve_left (by decide)), fun h => H.f7 ((getD_set h).resolve_left (by decide)), fun h => H.f8 ((getD_set h).resolve_left (by decide)), fun h => H.f9 ((getD_set h).resolve_left (by decide)), fun _ => rfl, fun h => H.f11 ((getD_set h).resolve_left (by decide)), fun h => ⟨⟨getD_mono (H.f12 ((getD_set h).resolve_left (by decide))).1.1, getD_mono (H.f12 ((getD_set h).resolve_left (by decide))).1.2.1, getD_mono (H.f12 ((getD_set h).resolve_left (by decide))).1.2.2.1, getD_mono (H.f12 ((getD_set h).resolve_left (by decide))).1.2.2.2⟩, (H.f12 ((getD_set h).resolve_left (by decide))).2⟩⟩⟩
          · rintro L a V ⟨x26, x27, x28, x29, x30, x31, x32, x33, x34, x35, x36, x37, rfl, H⟩ hl ha K hK
            obtain rfl := H.f10 (ha ⟨10, .data⟩ (by simp) rfl)
            go_simp
            exact hK _ _ ⟨_, _, _, _, _, _, _, _, _, _, _, _, rfl, ⟨fun h => H.nb (by rw [getD_set_ne (by decide)] at h; exact h), fun h => H.f0 ((getD_set h).resolve_left (by decide)), fun h => H.f1 ((getD_set h).resolve_left (by decide)), fun h => H.f2 ((getD_set h).resolve_left (by decide)), fun h => H.f3 ((getD_set h).resolve_left (by decide)), fun h => H.f4 ((getD_set h).resolve_left (by decide)), fun h => H.f5 ((getD_set h).resolve_left (by decide)), fun h => H.f6 ((getD_set h).resolve_left (by decide)), fun h => H.f7 ((getD_set h).resolve_left (by decide)), fun h => H.f8 ((getD_set h).resolve_left (by decide)), fun h => H.f9 ((getD_set h).resolve_left (by decide)), fun h => H.f10 ((getD_set h).resolve_left (by decide)), fun _ => rfl, fun h => ⟨⟨getD_mono (H.f12 ((getD_set h).resolve_left (by decide))).1.1, getD_mono (H.f12 ((getD_set h).resolve_left (by decide))).1.2.1, getD_mono (H.f12 ((getD_set h).resolve_left (by decide))).1.2.2.1, getD_mono (H.f12 ((getD_set h).resolve_left (by decide))).1.2.2.2⟩, (H.f12 ((getD_set h).resolve_left (by decide))).2⟩⟩⟩
          · rintro L a V ⟨x26, x27, x28, x29, x30, x31, x32, x33, x34, x35, x36, x37, rfl, H⟩ hl ha K hK
            obtain rfl := H.f11 (ha ⟨11, .data⟩ (by simp) rfl)
            obtain ⟨A2, d2, rfl, hd1, hd2, hown2⟩ := H.f9 (ha ⟨9, .data⟩ (by simp) rfl)
            have hnb := H.nb (getD_left hl)
            have hi1 := ha ⟨1, .phase⟩ (by simp) rfl
            have hi4 := ha ⟨4, .phase⟩ (by simp) rfl
            have hi8 := ha ⟨8, .phase⟩ (by simp) rfl
            have hi9 := ha ⟨9, .phase⟩ (by simp) rfl
            have hc2 : V.cell? ⟨g, k * 2 + 1, none⟩ = some (.slice A' segs[k].2.length c') := (hnb.cell (p := ⟨g, _, none⟩) hgo).trans cB1
            have hf2 : V.frozen? ⟨g, k * 2 + 1, none⟩ = false := (hnb.frozen (p := ⟨g, _, none⟩) hgo).trans fB1
            have hgr : V.grownBy (V.setCell ⟨g, k * 2 + 1, none⟩ (.slice A2 segs[k].2.length d2)) (some g) := only_setCell (World.grownBy.refl V _) (.inl rfl) _
            go_simp
            exact hK _ _ ⟨_, _, _, _, _, _, _, _, _, _, _, _, rfl, ⟨fun h => absurd h (by rw [getD_set_eq (lt_of_left hl)]; decide), fun h => H.f0 ((getD_set h).resolve_left (by decide)), fun h => H.f1 ((getD_set h).resolve_left (by decide)), fun h => H.f2 ((getD_set h).resolve_left (by decide)), fun h => H.f3 ((getD_set h).resolve_left (by decide)), fun h => H.f4 ((getD_set h).resolve_left (by decide)), fun h => H.f5 ((getD_set h).resolve_left (by decide)), fun h => H.f6 ((getD_set h).resolve_left (by decide)), fun h => H.f7 ((getD_set h).resolve_left (by decide)), fun h => H.f8 ((getD_set h).resolve_left (by decide)), fun h => (H.f9 ((getD_set h).resolve_left (by decide))).grown hgr hgo, fun h => H.f10 ((getD_set h).resolve_left (by decide)), fun h => H.f11 ((getD_set h).resolve_left (by decide)), fun _ => ⟨⟨getD_mono hi1, getD_mono hi4, getD_mono hi8, getD_mono hi9⟩, A2, d2, V, hd1, hd2, hown2, hnb, rfl⟩⟩⟩
        case done =>
          rintro L a V2 ⟨x26, x27, x28, x29, x30, x31, x32, x33, x34, x35, x36, x37, rfl, H⟩ hall
          obtain ⟨_, A2, d2, W2, hd1, hd2, hown2, hb2, hV2⟩ := H.f12 (hall 12 (by decide))
          obtain rfl := H.f2 (hall 2 (by decide))
          clear H hall
          have hsz2 := hb2.size
          have cB2 : W2.cell? ⟨g, k * 2 + 1, none⟩ = some (.slice A' segs[k].2.length c') := (hb2.cell (p := ⟨g, _, none⟩) hgo).trans cB1
          have hownO2 : W2.ownsRow (w.heap.size + 2) 83 2 (.slice (some ⟨g, 0, none⟩) segs.length cap) segs.length (vsN ++ vs.drop (k * 2)) :=
            HOW.out.kept (row := none) ⟨hb2.os, hb2.tape, hb2.output, hb2.size, fun i hi _ => hb2.block i hi⟩ (.inr (by simp [Value.ownBlock]))
          have hownO3 := (hownO2.stored (k * 2 + 1) (.slice A2 segs[k].2.length d2)).1
          rw [set_mid vsN vs k _ _ _ hlN y0 y1] at hownO3
          have hown3 := ownsRow_setCell_below hown2 (a := ⟨g, k * 2 + 1, none⟩) hgo (.slice A2 segs[k].2.length d2)
          have hg23 : wo.grownBy (W2.setCell ⟨g, k * 2 + 1, none⟩ (.slice A2 segs[k].2.length d2)) (some g) := only_setCell (only_of_below hb2 _) (.inl rfl) _
          have hsz3 : (W2.setCell ⟨g, k * 2 + 1, none⟩ (.slice A2 segs[k].2.length d2)).heap.size = W2.heap.size := by simp [World.setCell]
          rw [← hV2] at hownO3 hown3 hg23 hsz3
          have hot2 : ∀ x, x < V.heap.size → some x ≠ (Value.slice (some ⟨g, 0, none⟩) segs.length cap).ownBlock → V2.heap[x]? = V.heap[x]? := fun x hx hne =>
            (hg23.block x (by omega) (by intro e; apply hne; simpa [Value.ownBlock] using e)).trans (HOT.out x hx hne)
          have hsg2 : SegsO V2 V.heap.size (vsN ++ [.int .i64 segs[k].1, .slice A2 segs[k].2.length d2]) (segs.take (k + 1)) := by
            rw [List.take_succ_eq_append_getElem hlt]
            refine (HSG.out.keep fun p hp1 hp2 => ?_).snoc ⟨rfl, own_base hown3 hwz⟩
            exact hg23.block p hp2 (by intro e; injection e; omega)
          have hblw : Below w.heap.size w V2 := HBL.out.grown hg23 HBL.out.size (fun x hx => by injection hx with e; omega)
          have HF1 := hide hownO3
          have HF2 := hide hsg2
          have HF3 := Lib.hid hot2
          have HF4 := hide hblw
          have hsz4 : V.heap.size ≤ V2.heap.size := by omega
          clear hown2 hb2 hV2 hsz2 cB2 hownO2 hownO3 hown3 hg23 hsz3 hot2 hsg2 hblw HOW HOT HSG HBL HCL cB1 fB1 cc1
          go_wp2_with fail
          go_roundw
          case rel => exact ⟨k + 1, by omega, by go_num, _, by rw [List.append_assoc] at *; exact HF1.out, HF2.out, hsz4, HF3.out, HF4.out⟩
          case measure => simp [intOf]; omega
      · have hkl : k = segs.length := by omega
        subst hkl
        have hfull : vsN ++ vs.drop (segs.length * 2) = vsN := by rw [List.drop_eq_nil_of_le (by rw [hsg.1]; exact Nat.le_refl _), List.append_nil]
        rw [hfull] at hown
        rw [List.take_of_length_le (Nat.le_refl _)] at hseg
        have hne : ∀ x, x < w.heap.size + 2 → some x ≠ (Value.slice AS segs.length cS).ownBlock := fun x hx e => by have := (hown.lt x e.symm).1; omega
        have hbg : wo.heap[w.heap.size]? = some (.cells #[.int .i64 t1, .bool q1, .int .u32 n1, .int .u32 m1, .slice AS segs.length cS, .slice AL l.length cL, .slice AB b.length cB, .int .i64 f1, .slice AR rs.length cR] 38 (0, 0)) := (hot _ (by omega) (hne _ (by omega))).trans HG.out
        have hbz : wo.heap[w.heap.size + 1]? = some (.cells #[.int .i64 0, .bool false, .int .u32 0, .int .u32 0, .slice none 0 0, .slice none 0 0, .slice none 0 0, .int .i64 0, .slice none 0 0] 38 (0, 0)) := (hot _ (by omega) (hne _ (by omega))).trans HGZ.out
        have has := attr_size
        have hkeep : ∀ {e : TypeId} {sz n : Nat} {v : Value} {xs : List Value}, e ≠ 83 → V.ownsRow (w.heap.size + 2) e sz v n xs → wo.ownsRow (w.heap.size + 2) e sz v n xs := fun hne' h =>
          own_keep h fun p hp => hot p (h.lt p hp).2 (fun e => by
            obtain ⟨_, h2⟩ := h
            rcases h2 with ⟨e0, _⟩ | ⟨q, cap, cur, e0, _, hh, _⟩
            · subst e0; cases hp
            · subst e0
              have hq : q = p := by simpa [Value.ownBlock] using hp
              subst hq
              obtain ⟨_, h3⟩ := hS4
              rcases h3 with ⟨e1, _⟩ | ⟨q', cap', cur', e1, _, hh', _⟩
              · rw [e1] at e; cases e
              · have hq' : q = q' := by rw [e1] at e; simpa [Value.ownBlock] using e
                subst hq'
                rw [hh] at hh'
                injection hh' with hh'
                injection hh' with _ ht
                exact hne' ht)
        have HO1 := hide hown
        have HO2 := hide hseg
        have HO3 := hide hbel
        have HO4 := hide (hkeep (by decide) HL4.out)
        have HO5 := hide (hkeep (by decide) HB4.out)
        have HO6 := hide (hkeep (by decide) HR4.out)
        have HBG := Lib.hid hbg
        have HBZ := Lib.hid hbz
        have HAS := Lib.hid has
        have hlo := lt_of_heapF hbz
        clear hown hseg hbel hot hfull hkeep hne hbg hbz has hS4 HL4 HB4 HR4 HG HGZ cc
        go_wp2_with (first
          | ((with_reducible refine wpList_load_wholeF wo ?hgd1 38 (.tmp 1) ?ho1 w.heap.size 38 #[.int .i64 t1, .bool q1, .int .u32 n1, .int .u32 m1, .slice AS segs.length cS, .slice AL l.length cL, .slice AB b.length cB, .int .i64 f1, .slice AR rs.length cR] _ ?hx1 HBG.out Tryz.underlying38 ?hd1 ?hi1 ?_); (case hgd1 => rfl); (case ho1 => rfl); (case hx1 => rfl); (case hd1 => rfl); (case hi1 => exact HAS.out))
          | ((with_reducible refine wpList_store_whole wo ?hgd2 38 (.tmp 2) (.tmp 39) ?ho2 (w.heap.size + 1) 38 #[.int .i64 0, .bool false, .int .u32 0, .int .u32 0, .slice none 0 0, .slice none 0 0, .slice none 0 0, .int .i64 0, .slice none 0 0] #[.int .i64 t1, .bool q1, .int .u32 n1, .int .u32 m1, .slice AS segs.length cS, .slice AL l.length cL, .slice AB b.length cB, .int .i64 f1, .slice AR rs.length cR] ?hx2 ?hp2 HBZ.out ?hi2 ?hs2 ?hq2 ?_); (case hgd2 => rfl); (case ho2 => rfl); (case hx2 => rfl); (case hp2 => rfl); (case hs2 => rfl); (case hi2 => exact HAS.out); (case hq2 => simp [Value.oneCell'])
             intro W5 G5 O5))
        have hk : ∀ p, w.heap.size + 2 ≤ p → p < wo.heap.size → W5.heap[p]? = wo.heap[p]? := fun p h1 h2 => O5.out.block p h2 (by intro e; injection e; omega)
        have hkk : ∀ {e : TypeId} {sz n : Nat} {v : Value} {xs : List Value}, wo.ownsRow (w.heap.size + 2) e sz v n xs → W5.ownsRow (w.heap.size + 2) e sz v n xs := fun h => own_keep h fun p hp => hk p (h.lt p hp).1 (h.lt p hp).2
        have hb5 := HO3.out.grown O5.out HO3.out.size (fun x hx => by injection hx; omega)
        exact bodyPost_ret (v := .agg #[.int .i64 t1, .bool q1, .int .u32 n1, .int .u32 m1, .slice AS segs.length cS, .slice AL l.length cL, .slice AB b.length cB, .int .i64 f1, .slice AR rs.length cR]) (results_cell1 (p := 2) rfl _ _ (w.heap.size + 1) 38 _ rfl G5.out Tryz.underlying38 rfl HAS.out) rfl
          ⟨_, rfl, ⟨AS, cS, vsN, AL, cL, AB, cB, AR, cR, rfl, hkk HO1.out, (HO2.out.more (by omega)).keep (fun p h1 h2 => hk p h1 h2), hkk HO4.out, hkk HO5.out, hkk HO6.out⟩, hb5⟩
theorem segs_one {w : World} {B : Nat} {vs : List Value} {l : List Sg} (h : Segs w B vs l) : ∀ u ∈ vs, u.oneCell' = true := by
  intro u hu
  obtain ⟨i, hi, rfl⟩ := List.getElem_of_mem hu
  have hi2 : i / 2 < l.length := by have := h.1; omega
  obtain ⟨v0, v1, a, b, e0, A', c', e1, _⟩ := h.2 (i / 2) _ (List.getElem?_eq_getElem hi2)
  rcases Nat.mod_two_eq_zero_or_one i with hp | hp
  · rw [show i / 2 * 2 = i from by omega] at a
    rw [(List.getElem?_eq_some_iff.1 a).2, e0]; rfl
  · rw [show i / 2 * 2 + 1 = i from by omega] at b
    rw [(List.getElem?_eq_some_iff.1 b).2, e1]; rfl
/-- value.Clone: an attribute of the call's own, the same as the given one. -/
theorem cloneA_any (cs : Array Value) (d : AttrD) (w : World) (h : AttrC w w.heap.size cs d) (h1 : d.segs.length ≤ 1000000) (h2 : ∀ s ∈ d.segs, s.2.length ≤ 1000000) (h3 : d.list.length ≤ 1000000) (h4 : d.byts.length ≤ 1000000) (h5 : d.routes.length ≤ 1000000) :
    Calls Tryz.prog 26 #[.agg cs] w fun e w' => ∃ cs', e = .returned (.agg cs') ∧ AttrO w' w.heap.size cs' d ∧ Below w.heap.size w w' := by
  obtain ⟨A1, c1, A2, c2, A3, c3, A4, c4, rfl, ⟨vs, hv, hsg⟩, hL, hB, hR⟩ := h
  refine (clone_first d.routes d.ty d.n d.m d.fam d.part A1 A2 A3 A4 c1 c2 c3 c4 d.segs.length d.routes.length vs (rtsV d.routes) d.list d.byts d.segs w hsg rfl h2 hv (segs_one hsg) hL hB rfl rfl hR (rtsV_one _) h1 h3 h4 h5).mono ?_
  rintro e w' ⟨cs', rfl, ho, hb⟩
  exact ⟨cs', rfl, ho.more (by omega), hb⟩
end Go.Proofs.YtnfclcbhehbchaaGreatDoor
