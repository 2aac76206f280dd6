/- The example of the chapter: peeragelaw06.alive returns true wherever the tables are laid. -/
import Derived.Test.YtceolenmcpndaaaGreatDoorTxt
set_option autoImplicit false
namespace Go.Proofs.YtceolenmcpndaaaGreatDoor
open Go.RowKit Go.Sort Go.Shelf

theorem segAt_lit {w : World} {B g c : Nat} {t : TypeId} {fr : Nat × Nat} (K : Int) (ns : List Int) (hb : w.heap[g]? = some (.cells (uV ns).toArray t fr)) (hg : g < B) (hc : ns.length ≤ c) (hc2 : c ≤ maxLen) :
    SegAt w B (.int .i64 K) (.slice (some ⟨g, 0, none⟩) ns.length c) (K, ns) :=
  ⟨rfl, _, c, rfl, hc, hc2, ⟨by simp [uV], fun _ => ⟨_, rfl, hg, fun j u hu => World.news_of_block (cs := (uV ns).toArray) hb j u (by simpa using hu)⟩⟩⟩
theorem path_lit {w : World} {B g : Nat} {t : TypeId} {fr : Nat × Nat} (vs : List Value) (l : List Sg) (hb : w.heap[g]? = some (.cells vs.toArray t fr)) (hg : g < B) (hs : Segs w B vs l) :
    Path w B (some ⟨g, 0, none⟩) l :=
  ⟨vs, ⟨hs.1, fun _ => ⟨_, rfl, hg, fun j u hu => World.news_of_block (cs := vs.toArray) hb j u (by simpa using hu)⟩⟩, hs⟩
theorem segs_one {w : World} {B : Nat} {v0 v1 : Value} {s : Sg} (h : SegAt w B v0 v1 s) : Segs w B [v0, v1] [s] :=
  ⟨rfl, fun i t ht => by
    cases i with
    | zero => simp at ht; subst ht; exact ⟨_, _, rfl, rfl, h⟩
    | succ i => simp at ht⟩
theorem segs_two {w : World} {B : Nat} {v0 v1 v2 v3 : Value} {s s2 : Sg} (h : SegAt w B v0 v1 s) (h2 : SegAt w B v2 v3 s2) : Segs w B [v0, v1, v2, v3] [s, s2] :=
  ⟨rfl, fun i t ht => by
    rcases i with _ | _ | i
    · simp at ht; subst ht; exact ⟨_, _, rfl, rfl, h⟩
    · simp at ht; subst ht; exact ⟨_, _, rfl, rfl, h2⟩
    · simp at ht⟩

def exL : List Sg := [(2, [1, 2]), (1, [3])]
theorem exL_text : strB (textF exL) = ⟨#[91, 49, 32, 50, 93, 32, 123, 51, 125]⟩ := by
  have d1 : numL 1 = [49] := by simp [numL, Lib.decDigits]
  have d2 : numL 2 = [50] := by simp [numL, Lib.decDigits]
  have d3 : numL 3 = [51] := by simp [numL, Lib.decDigits]
  have hv : validF 4 exL = true := by decide
  have : textF exL = [91, 49, 32, 50, 93, 32, 123, 51, 125] := by
    simp [textF, hv]
    simp [exL, segT, d1, d2, d3, brO, brC, Lib.join, List.intercalate]
  rw [this]; rfl

set_option maxRecDepth 100000 in
theorem alive6_any (w : World) (ht : Tabs w) :
    Calls Tryz.prog 5 #[] w fun e w' => e = .returned (.bool true) ∧ Below w.heap.size w w' := by
  obtain ⟨W, hW⟩ : ∃ W, W = ((w.alloc (.cells #[.int .u32 1, .int .u32 2] 41)).alloc (.cells #[.int .u32 3] 41)).alloc
      (.cells #[.int .i64 2, .slice (some ⟨w.heap.size, 0, none⟩) 2 2, .int .i64 1, .slice (some ⟨w.heap.size + 1, 0, none⟩) 1 1] 40) := ⟨_, rfl⟩
  have hz : W.heap.size = w.heap.size + 3 := by rw [hW]; simp
  have hbW : Below w.heap.size w W := by
    rw [hW]; exact (((Below.refl _ _).alloc (Nat.le_refl _) _).alloc (by simp) _).alloc (by simp; omega) _
  have h0 : W.heap[w.heap.size]? = some (.cells #[.int .u32 1, .int .u32 2] 41 (0, 0)) := by
    rw [hW, Below.heap_alloc _ _ _ (by simp; omega), Below.heap_alloc _ _ _ (by simp), heap_alloc_new]
  have h1 : W.heap[w.heap.size + 1]? = some (.cells #[.int .u32 3] 41 (0, 0)) := by
    rw [hW, Below.heap_alloc _ _ _ (by simp)]
    have := heap_alloc_new (w.alloc (.cells #[.int .u32 1, .int .u32 2] 41)) (.cells #[.int .u32 3] 41)
    rw [World.size_alloc] at this; exact this
  have h2 : W.heap[w.heap.size + 2]? = some (.cells #[.int .i64 2, .slice (some ⟨w.heap.size, 0, none⟩) 2 2, .int .i64 1, .slice (some ⟨w.heap.size + 1, 0, none⟩) 1 1] 40 (0, 0)) := by
    rw [hW]
    have := heap_alloc_new ((w.alloc (.cells #[.int .u32 1, .int .u32 2] 41)).alloc (.cells #[.int .u32 3] 41)) (.cells #[.int .i64 2, .slice (some ⟨w.heap.size, 0, none⟩) 2 2, .int .i64 1, .slice (some ⟨w.heap.size + 1, 0, none⟩) 1 1] 40)
    rw [World.size_alloc, World.size_alloc] at this; exact this
  have hp : Path W W.heap.size (some ⟨w.heap.size + 2, 0, none⟩) exL :=
    path_lit [.int .i64 2, .slice (some ⟨w.heap.size, 0, none⟩) 2 2, .int .i64 1, .slice (some ⟨w.heap.size + 1, 0, none⟩) 1 1] exL h2 (by omega)
      (segs_two (segAt_lit 2 [1, 2] h0 (by omega) (by simp) (by simp [maxLen])) (segAt_lit 1 [3] h1 (by omega) (by simp) (by simp [maxLen])))
  have htx := text_any _ 2 exL W hp (by decide) (by intro s hs; simp [exL] at hs; rcases hs with rfl | rfl <;> simp [Us]) (ht.below hbW)
  rw [exL_text] at htx
  have hln : ∀ w', Below W.heap.size W w' → _ := fun w' hb => length_any _ 2 exL w' ((hp.below hb).more hb.size) (by decide) (by intro s hs; simp [exL] at hs; rcases hs with rfl | rfl <;> simp)
  have H1 := hide htx
  have H2 := hide hln
  have HB := hide hbW
  clear htx hln hp h0 h1 h2 hbW ht
  go_enter Tryz.func5, Tryz.ntmps5
  go_wp2_with fail
  rw [← hW]
  refine H1.out.mono ?_
  rintro e w1 ⟨rfl, hb1⟩
  have H3 := hide (H2.out w1 hb1)
  have HB1 := hide hb1
  clear hb1 H2
  go_wp2_with fail
  refine H3.out.mono ?_
  rintro e w2 ⟨rfl, hb2⟩
  have hl : lenF exL = 3 := by decide
  rw [hl]
  have HB2 := hide hb2
  clear hb2
  go_wp2
  go_ret
  exact ⟨rfl, HB.out.trans ((HB1.out.mono HB.out.size).trans (HB2.out.mono (by have := HB.out.size; have := HB1.out.size; omega)))⟩
end Go.Proofs.YtceolenmcpndaaaGreatDoor
