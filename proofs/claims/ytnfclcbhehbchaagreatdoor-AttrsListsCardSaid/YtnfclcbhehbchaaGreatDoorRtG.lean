/- Whether an attribute is small; a copy whose numbers are changed: what stays. -/
import Derived.Test.YtnfclcbhehbchaaGreatDoorRtF
set_option autoImplicit false
namespace Go.Proofs.YtnfclcbhehbchaaGreatDoor
open Go.RowKit

def FewA (d : AttrD) : Bool := FewF d.segs && decide (d.list.length ≤ 200) && decide (d.byts.length ≤ 600) && decide (d.routes.length ≤ 100)
theorem lenSum_le : ∀ (l : List Sg) (s : Sg), s ∈ l → min (s.2.length : Int) 1000 ≤ lenSum l := by
  intro l
  have key : ∀ (l : List Sg) (n : Int), n ≤ l.foldl (fun n s => n + min (s.2.length : Int) 1000) n ∧ ∀ s ∈ l, n + min (s.2.length : Int) 1000 ≤ l.foldl (fun n s => n + min (s.2.length : Int) 1000) n := by
    intro l
    induction l with
    | nil => intro n; exact ⟨Int.le_refl _, fun s hs => by cases hs⟩
    | cons t l ih =>
      intro n
      have := ih (n + min (t.2.length : Int) 1000)
      simp only [List.foldl_cons]
      refine ⟨by omega, fun s hs => ?_⟩
      rcases List.mem_cons.1 hs with rfl | hs
      · exact this.1
      · have := this.2 s hs; omega
  intro s hs
  have := (key l 0).2 s hs
  unfold lenSum; omega
theorem few_bounds {d : AttrD} (h : FewA d = true) : d.segs.length ≤ 50 ∧ (∀ s ∈ d.segs, s.2.length ≤ 600) ∧ d.list.length ≤ 200 ∧ d.byts.length ≤ 600 ∧ d.routes.length ≤ 100 := by
  unfold FewA FewF at h
  simp only [Bool.and_eq_true, decide_eq_true_eq] at h
  obtain ⟨⟨⟨⟨h1, h2⟩, h3⟩, h4⟩, h5⟩ := h
  refine ⟨h1, fun s hs => ?_, h3, h4, h5⟩
  have := lenSum_le d.segs s hs
  omega
set_option maxRecDepth 100000 in
set_option maxHeartbeats 4000000 in
theorem rfewA_any (cs : Array Value) (d : AttrD) (w : World) (h : AttrC w w.heap.size cs d) (hs : d.segs.length ≤ 140737488351232) (hm : ∀ s ∈ d.segs, s.2.length ≤ 140737488351232) :
    Calls Tryz.prog 22 #[.agg cs] w fun e w' => e = .returned (.bool (FewA d)) ∧ Below w.heap.size w w' := by
  obtain ⟨A1, c1, A2, c2, A3, c3, A4, c4, rfl, h1, h2, h3, h4⟩ := h
  have hb := (Below.refl w.heap.size w).alloc (Nat.le_refl _) (.cells #[.int .i64 d.ty, .bool d.part, .int .u32 d.n, .int .u32 d.m, .slice A1 d.segs.length c1, .slice A2 d.list.length c2, .slice A3 d.byts.length c3, .int .i64 d.fam, .slice A4 d.routes.length c4] 38)
  have HF := hide (few_any A1 c1 d.segs (w.alloc (.cells #[.int .i64 d.ty, .bool d.part, .int .u32 d.n, .int .u32 d.m, .slice A1 d.segs.length c1, .slice A2 d.list.length c2, .slice A3 d.byts.length c3, .int .i64 d.fam, .slice A4 d.routes.length c4] 38)) ((h1.below hb).more hb.size) hs hm)
  have HB := hide hb
  clear h1 h2 h3 h4 hb hs hm
  obtain ⟨q, hq⟩ : ∃ q, q = FewA d := ⟨_, rfl⟩
  rw [← hq]
  unfold FewA at hq
  have hl0 : (0 : Int) ≤ (d.list.length : Int) := Int.natCast_nonneg _
  cases hf : FewF d.segs
  · rw [hf] at hq HF
    have HQ := Lib.hid hq
    clear hf hq
    go_enter Tryz.func22, Tryz.ntmps22
    go_wp2_with (go_at_call 43; refine HF.out.mono ?_; rintro e w1 ⟨rfl, rfl⟩)
    go_ret
    exact ⟨by rw [HQ.out]; rfl, HB.out⟩
  · rw [hf] at hq HF
    by_cases k1 : d.list.length ≤ 200
    · have j1 : (d.list.length : Int) ≤ 200 := by omega
      by_cases k2 : d.byts.length ≤ 600
      · have j2 : (d.byts.length : Int) ≤ 600 := by omega
        have e3 : decide ((d.routes.length : Int) ≤ 100) = decide (d.routes.length ≤ 100) := by rw [decide_eq_decide]; omega
        rw [decide_eq_true k1, decide_eq_true k2, ← e3] at hq
        have HQ := Lib.hid hq
        clear hf hq k1 k2 e3
        go_enter Tryz.func22, Tryz.ntmps22
        go_wp2_with (go_at_call 43; refine HF.out.mono ?_; rintro e w1 ⟨rfl, rfl⟩)
        go_ret
        exact ⟨by rw [HQ.out]; rfl, HB.out⟩
      · have j2 : ¬ (d.byts.length : Int) ≤ 600 := by omega
        rw [decide_eq_true k1, decide_eq_false k2] at hq
        have HQ := Lib.hid hq
        clear hf hq k1 k2
        go_enter Tryz.func22, Tryz.ntmps22
        go_wp2_with (go_at_call 43; refine HF.out.mono ?_; rintro e w1 ⟨rfl, rfl⟩)
        go_ret
        refine ⟨by rw [HQ.out]; simp, HB.out⟩
    · have j1 : ¬ (d.list.length : Int) ≤ 200 := by omega
      rw [decide_eq_false k1] at hq
      have HQ := Lib.hid hq
      clear hf hq k1
      go_enter Tryz.func22, Tryz.ntmps22
      go_wp2_with (go_at_call 43; refine HF.out.mono ?_; rintro e w1 ⟨rfl, rfl⟩)
      go_ret
      refine ⟨by rw [HQ.out]; simp, HB.out⟩

/-- Numbers in the blocks from lo to the end of world Vc have been changed, and nothing else; Vc: what lay there before. -/
structure Sh (lo : Nat) (Vc W W' : World) : Prop where
  os : W'.os = W.os
  tape : W'.tape = W.tape
  output : W'.output = W.output
  size : W'.heap.size = W.heap.size
  sz : Vc.heap.size ≤ W.heap.size
  out : ∀ b, b < lo ∨ Vc.heap.size ≤ b → W'.heap[b]? = W.heap[b]?
  nums : ∀ p k x, lo ≤ p.block → p.block < Vc.heap.size → Vc.cell? p = some (.int k x) → ∃ y, W'.cell? p = some (.int k y)
  slices : ∀ p A n c, lo ≤ p.block → p.block < Vc.heap.size → Vc.cell? p = some (.slice A n c) → W'.cell? p = some (.slice A n c)
  frz : ∀ p, lo ≤ p.block → p.block < Vc.heap.size → W'.frozen? p = Vc.frozen? p
theorem Sh.start {lo : Nat} {Vc W : World} (hs : Vc.heap.size ≤ W.heap.size) (h : ∀ b, lo ≤ b → b < Vc.heap.size → W.heap[b]? = Vc.heap[b]?) : Sh lo Vc W W :=
  ⟨rfl, rfl, rfl, rfl, hs, fun _ _ => rfl, fun p k x h1 h2 hc => ⟨x, (World.cell?_of_block (h p.block h1 h2)).trans hc⟩, fun p A n c h1 h2 hc => (World.cell?_of_block (h p.block h1 h2)).trans hc,
    fun p h1 h2 => by unfold World.frozen?; rw [h p.block h1 h2]⟩
theorem Sh.set {lo : Nat} {Vc W W' : World} (h : Sh lo Vc W W') {p : Addr} {k : IntKind} {x : Int} (hc : W'.cell? p = some (.int k x)) (h1 : lo ≤ p.block) (h2 : p.block < Vc.heap.size) (y : Int) : Sh lo Vc W (W'.setCell p (.int k y)) := by
  refine ⟨h.os, h.tape, h.output, by rw [← h.size]; simp [World.setCell], h.sz, fun b hb => ?_, fun q k' x' a b hq => ?_, fun q A n c a b hq => ?_, fun q a b => ?_⟩
  · rw [← h.out b hb]
    exact Below.heap_setCell W' p _ b (by omega)
  · by_cases hpq : p = q
    · subst hpq
      obtain ⟨z, hz⟩ := h.nums p k' x' a b hq
      rw [hc] at hz
      injection hz with hz
      injection hz with hk _
      subst hk
      exact ⟨y, World.cell?_setCell_same _ _ _ hc⟩
    · obtain ⟨z, hz⟩ := h.nums q k' x' a b hq
      exact ⟨z, (World.cell?_setCell_other _ _ _ _ hpq).trans hz⟩
  · have hz := h.slices q A n c a b hq
    have hpq : p ≠ q := by rintro rfl; rw [hc] at hz; cases hz
    exact (World.cell?_setCell_other _ _ _ _ hpq).trans hz
  · rw [World.frozen?_setCell]; exact h.frz q a b
theorem Sh.below {lo B : Nat} {w Vc W W' : World} (h : Sh lo Vc W W') (hb : Below B w W) (hB : B ≤ lo) : Below B w W' :=
  ⟨h.os.trans hb.os, h.tape.trans hb.tape, h.output.trans hb.output, by rw [h.size]; exact hb.size, fun i hi' => (h.out i (.inl (by omega))).trans (hb.block i hi')⟩
/-- A row of the copy, after changes of numbers. -/
theorem Sh.row {lo : Nat} {Vc W W' : World} (h : Sh lo Vc W W') {e : TypeId} {sz n : Nat} {A : Option Addr} {c : Nat} {xs : List Value} (ho : Vc.ownsRow lo e sz (.slice A n c) n xs) (hn : 0 < n) :
    ∃ g, A = some ⟨g, 0, none⟩ ∧ lo ≤ g ∧ g < Vc.heap.size ∧ g < W'.heap.size ∧ (∀ i, W'.frozen? ⟨g, i, none⟩ = false) ∧ (∀ i k x, i < n * sz → xs[i]? = some (.int k x) → ∃ y, W'.cell? ⟨g, i, none⟩ = some (.int k y)) ∧
      (∀ i A' n' c', i < n * sz → xs[i]? = some (.slice A' n' c') → W'.cell? ⟨g, i, none⟩ = some (.slice A' n' c')) := by
  obtain ⟨g, cap, hf, hg0, hg1⟩ := ho.form hn
  have hf2 : A = some ⟨g, 0, none⟩ ∧ cap = c := by injection hf with a b c; exact ⟨a, c.symm⟩
  obtain ⟨rfl, rfl⟩ := hf2
  refine ⟨g, rfl, hg0, hg1, by rw [h.size]; have := h.sz; omega, fun i => (h.frz _ hg0 hg1).trans (ho.frozenAt i), fun i k x hi' hx => h.nums _ k x hg0 hg1 ((ho.cellAt i hi').trans hx), fun i A' n' c' hi' hx => h.slices _ A' n' c' hg0 hg1 ((ho.cellAt i hi').trans hx)⟩
end Go.Proofs.YtnfclcbhehbchaaGreatDoor
