/- The reference's Parse of a path: at texts of at most 400 bytes. -/
import Derived.Test.YtceolenmcpndaaaDoorSegTB
set_option autoImplicit false
namespace Go.Proofs.YtceolenmcpndaaaDoor
open Go.RowKit Go.Sort Go.Shelf

/-- The path so far, its last segment told apart. -/
structure RP (w W : World) (l0 : List Sg) (K : Int) (zs : List Int) (v sv : Value) (vs0 : List Value) : Prop where
  own : W.ownsRow w.heap.size 27 2 v (l0.length + 1) (vs0 ++ [.int .i64 K, sv])
  segs : SegsO W w.heap.size vs0 l0
  row : W.ownsRow w.heap.size 29 1 sv zs.length (uV zs)
  ap : ∀ u ∈ vs0, ∀ b, u.ownBlock = some b → sv.ownBlock ≠ some b
  bel : Below w.heap.size w W
def RO (w W : World) (out : List Sg) (v : Value) : Prop :=
  (out = [] ∧ W.ownsRow w.heap.size 27 2 v 0 [] ∧ Below w.heap.size w W) ∨ ∃ l0 K zs sv vs0, out = l0 ++ [(K, zs)] ∧ RP w W l0 K zs v sv vs0
theorem RO.bel {w W : World} {out : List Sg} {v : Value} (h : RO w W out v) : Below w.heap.size w W := by
  rcases h with ⟨_, _, h⟩ | ⟨_, _, _, _, _, _, h⟩
  · exact h
  · exact h.bel
theorem RO.own {w W : World} {out : List Sg} {v : Value} (h : RO w W out v) : ∃ vs, W.ownsRow w.heap.size 27 2 v out.length vs ∧ SegsO W w.heap.size vs out := by
  rcases h with ⟨rfl, h, _⟩ | ⟨l0, K, zs, sv, vs0, rfl, h⟩
  · exact ⟨[], h, SegsO.nil_⟩
  · exact ⟨_, by simpa using h.own, h.segs.snoc ⟨rfl, h.row⟩⟩
theorem RO.bracket {w W w1 : World} {out : List Sg} {v : Value} {vs : List Value} {K : Int} {o : Obj} {g cap : Nat} (h : RO w W out v) (ho : W.ownsRow w.heap.size 27 2 v out.length vs) (hs : SegsO W w.heap.size vs out)
    (hgrow : (W.alloc o).grownBy w1 v.ownBlock) (hown1 : w1.ownsRow w.heap.size 27 2 (.slice (some ⟨g, 0, none⟩) (out.length + 1) cap) (out.length + 1) (vs ++ [.int .i64 K, .slice none 0 0])) :
    RO w w1 (out ++ [(K, [])]) (.slice (some ⟨g, 0, none⟩) (out.length + 1) cap) := by
  refine .inr ⟨out, K, [], .slice none 0 0, vs, rfl, hown1, ?_, by simpa [uV] using World.ownsRow_nil _ _ _ _, fun u _ b _ => by simp [Value.ownBlock], ?_⟩
  · refine ⟨hs.1, fun i s hi => ?_⟩
    obtain ⟨v0, v1, a, b, c⟩ := hs.2 i s hi
    exact ⟨v0, v1, a, b, c.1, own_other (c.2.alloc o) hgrow (ho.alloc o)⟩
  · exact (h.bel.alloc h.bel.size o).grown hgrow (by have := h.bel.size; simp; omega) (fun x hx => (ho.lt x hx).1)
theorem blk_of_own {w : World} {base : Nat} {e : TypeId} {size n : Nat} {v : Value} {xs : List Value} {g : Nat} (h : w.ownsRow base e size v n xs) (hg : v.ownBlock = some g) : ∃ cur, Blk w g e cur := by
  rcases h.2 with ⟨rfl, _⟩ | ⟨g', c', cur, rfl, _, hh, _⟩
  · cases hg
  · have : g' = g := by simpa [Value.ownBlock] using hg
    subst this
    exact ⟨cur, hh⟩
/-- One more number in the last segment. -/
theorem RP.push {w W w1 : World} {l0 : List Sg} {K : Int} {zs : List Int} {v sv : Value} {vs0 : List Value} {o : Obj} {x : Int} {g cap h cap' : Nat} (H : RP w W l0 K zs v sv vs0) (hv : v = .slice (some ⟨g, 0, none⟩) (l0.length + 1) cap)
    (hgrow : (W.alloc o).grownBy w1 sv.ownBlock) (hat : sv.ownBlock = some h ∨ h = (W.alloc o).heap.size)
    (hown1 : w1.ownsRow w.heap.size 29 1 (.slice (some ⟨h, 0, none⟩) (zs.length + 1) cap') (zs.length + 1) (uV zs ++ [.int .u32 x])) :
    w1.cell? ⟨g, l0.length * 2 + 1, none⟩ = some sv ∧ w1.frozen? ⟨g, l0.length * 2 + 1, none⟩ = false ∧ g < w1.heap.size ∧
      Hid (RO w (w1.setCell ⟨g, l0.length * 2 + 1, none⟩ (.slice (some ⟨h, 0, none⟩) (zs.length + 1) cap')) (l0 ++ [(K, zs ++ [x])]) v) := by
  subst hv
  have hv0 := H.segs.1
  have hownA : (W.alloc o).ownsRow w.heap.size 27 2 (.slice (some ⟨g, 0, none⟩) (l0.length + 1) cap) (l0.length + 1) (vs0 ++ [.int .i64 K, sv]) := H.own.alloc o
  have hrowA := H.row.alloc o
  have hneA : sv.ownBlock ≠ some g := by
    rcases hownA.2 with ⟨e, _⟩ | ⟨g', c', cur, e, _, hh, _⟩
    · cases e
    · injection e with e1; injection e1 with e1; injection e1 with e1
      subst e1
      exact own_blk_ne hrowA hh (by decide)
  have hown2 : w1.ownsRow w.heap.size 27 2 (.slice (some ⟨g, 0, none⟩) (l0.length + 1) cap) (l0.length + 1) (vs0 ++ [.int .i64 K, sv]) := hownA.kept hgrow (.inr (fun e => hneA e.symm))
  have hidx : l0.length * 2 + 1 < (l0.length + 1) * 2 := by omega
  have hst := hown2.stored (l0.length * 2 + 1) (.slice (some ⟨h, 0, none⟩) (zs.length + 1) cap')
  have hset : (vs0 ++ [.int .i64 K, sv]).set (l0.length * 2 + 1) (.slice (some ⟨h, 0, none⟩) (zs.length + 1) cap') = vs0 ++ [.int .i64 K, .slice (some ⟨h, 0, none⟩) (zs.length + 1) cap'] := by
    rw [List.set_append, if_neg (by omega), show l0.length * 2 + 1 - vs0.length = 1 by omega]; rfl
  rw [hset] at hst
  have hgl : g < w1.heap.size := (hown2.lt g rfl).2
  have hg2 : w1.grownBy (w1.setCell ⟨g, l0.length * 2 + 1, none⟩ (.slice (some ⟨h, 0, none⟩) (zs.length + 1) cap')) (some g) := only_setCell (World.grownBy.refl w1 _) (.inl rfl) _
  obtain ⟨cur, hbg⟩ := blk_of_own hown2 rfl
  have hfar : ∀ {u : Value} {n : Nat} {xs : List Value}, w1.ownsRow w.heap.size 29 1 u n xs → (w1.setCell ⟨g, l0.length * 2 + 1, none⟩ (.slice (some ⟨h, 0, none⟩) (zs.length + 1) cap')).ownsRow w.heap.size 29 1 u n xs := fun hu =>
    own_keep hu fun b hb => hg2.block b (hu.lt b hb).2 (by intro e; injection e with e; exact own_blk_ne hu hbg (by decide) (by rw [hb, e]))
  refine ⟨by rw [hown2.cellAt (l0.length * 2 + 1) hidx, List.getElem?_append_right (by omega), show l0.length * 2 + 1 - vs0.length = 1 by omega]; rfl, hown2.frozenAt _, hgl, hide (.inr ⟨l0, K, zs ++ [x], .slice (some ⟨h, 0, none⟩) (zs.length + 1) cap', vs0, rfl, hst.1, ?_, ?_, ?_, ?_⟩)⟩
  · refine ⟨hv0, fun i s hi => ?_⟩
    obtain ⟨v0, v1, a, b, c⟩ := H.segs.2 i s hi
    refine ⟨v0, v1, a, b, c.1, hfar ((c.2.alloc o).kept hgrow ?_)⟩
    rcases hvb : v1.ownBlock with _ | bb
    · exact .inl rfl
    · exact .inr (fun e => H.ap v1 (List.mem_of_getElem? b) bb hvb e.symm)
  · have := hfar hown1
    simpa [uV] using this
  · intro u hu b hb e
    have e' : h = b := by simpa [Value.ownBlock] using e
    subst e'
    rcases hat with hat | hat
    · exact H.ap u hu h hb hat
    · obtain ⟨i, hi, rfl⟩ := List.getElem_of_mem hu
      have hi2 : i / 2 < l0.length := by omega
      obtain ⟨v0, v1, a, b', c0, c1⟩ := H.segs.2 (i / 2) _ (List.getElem?_eq_getElem hi2)
      rcases Nat.mod_two_eq_zero_or_one i with hp | hp
      · rw [show i / 2 * 2 = i by omega] at a
        rw [(List.getElem?_eq_some_iff.1 a).2, c0] at hb; simp [Value.ownBlock] at hb
      · rw [show i / 2 * 2 + 1 = i by omega] at b'
        rw [(List.getElem?_eq_some_iff.1 b').2] at hb
        have := (c1.lt h hb).2
        simp at hat; omega
  · exact ((H.bel.alloc H.bel.size o).grown hgrow (by have := H.bel.size; simp; omega) (fun y hy => (H.row.lt y hy).1)).grown hg2 (by have := H.bel.size; have := hgrow.size; simp at this; omega) (fun y hy => by injection hy with hy; subst hy; exact (hown2.lt g rfl).1)
end Go.Proofs.YtceolenmcpndaaaDoor
