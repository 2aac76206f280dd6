/- The law UpdateSame at small updates: two copies, all compared; then the numbers of one copy are changed. -/
import Derived.Test.YtnfclcbhehbchaaGreatDoorUpH
set_option autoImplicit false
namespace Go.Proofs.YtnfclcbhehbchaaGreatDoor
open Go.RowKit
theorem ref_size : (Tryz.prog.info? 44).map (·.size) = some 3 := by kernel_rfl
theorem UpdC.three {w : World} {B : Nat} {cs : Array Value} {d : UpdD} (h : UpdC w B cs d) : cs.size = 3 ∧ ∀ v ∈ cs.toList, v.oneCell' = true := by
  obtain ⟨A1, c1, A2, c2, A3, c3, rfl, _⟩ := h; exact ⟨rfl, by simp [Value.oneCell']⟩
/-- A copy of an update, made between block lo and the end of world Vc, still as it was. -/
def Cp (V : World) (B : Nat) (d : UpdD) (cs : Array Value) (lo : Nat) (Vc : World) : Prop := B ≤ lo ∧ Vc.heap.size ≤ V.heap.size ∧ UpdO Vc lo cs d ∧ ∀ b, lo ≤ b → b < Vc.heap.size → V.heap[b]? = Vc.heap[b]?
theorem Cp.below {V V' : World} {B lo : Nat} {d : UpdD} {cs : Array Value} {Vc : World} (h : Cp V B d cs lo Vc) (hb : Below V.heap.size V V') : Cp V' B d cs lo Vc :=
  ⟨h.1, Nat.le_trans h.2.1 hb.size, h.2.2.1, fun b h1 h2 => (hb.block b (by have := h.2.1; omega)).trans (h.2.2.2 b h1 h2)⟩
theorem Cp.grown {V V' : World} {B lo g : Nat} {d : UpdD} {cs : Array Value} {Vc : World} (h : Cp V B d cs lo Vc) (hg : V.grownBy V' (some g)) (ho : g < lo ∨ Vc.heap.size ≤ g) : Cp V' B d cs lo Vc :=
  ⟨h.1, Nat.le_trans h.2.1 hg.size, h.2.2.1, fun b h1 h2 => (hg.block b (by have := h.2.1; omega) (by intro e; injection e; omega)).trans (h.2.2.2 b h1 h2)⟩
theorem Cp.size3 {V : World} {B lo : Nat} {d : UpdD} {cs : Array Value} {Vc : World} (h : Cp V B d cs lo Vc) : cs.size = 3 := by
  obtain ⟨v1, v2, v3, rfl, _⟩ := h.2.2.1; rfl
theorem Cp.one {V : World} {B lo : Nat} {d : UpdD} {cs : Array Value} {Vc : World} (h : Cp V B d cs lo Vc) : ∀ v ∈ cs.toList, v.oneCell' = true := by
  obtain ⟨v1, v2, v3, rfl, ⟨A1, c1, rfl, _⟩, ⟨A2, c2, rfl, _⟩, ⟨A3, c3, rfl, _⟩⟩ := h.2.2.1; simp [Value.oneCell']
def Off (x : Value) (lo : Nat) (Vc : World) : Prop := ∀ g, x = .pointer (some ⟨g, 0, none⟩) → g < lo ∨ Vc.heap.size ≤ g
def F1 (V : World) (B : Nat) (d : UpdD) (L : Array Bool) (x22 x5 x6 : Value) : Prop :=
  ∃ cs lo Vc, x22 = .agg cs ∧ Cp V B d cs lo Vc ∧ (L.getD 4 false = true → Off x5 lo Vc) ∧ (L.getD 5 false = true → Off x6 lo Vc)
def F3 (V : World) (B : Nat) (d : UpdD) (L : Array Bool) (x22 x24 x5 x6 : Value) : Prop :=
  L.getD 1 false = true ∧ ∃ cs lo Vc cs2 lo2 Vc2, x22 = .agg cs ∧ x24 = .agg cs2 ∧ Cp V B d cs lo Vc ∧ Cp V B d cs2 lo2 Vc2 ∧ Vc.heap.size ≤ lo2 ∧
    (L.getD 4 false = true → Off x5 lo Vc) ∧ (L.getD 5 false = true → Off x6 lo Vc) ∧ (L.getD 4 false = true → Off x5 lo2 Vc2) ∧ (L.getD 5 false = true → Off x6 lo2 Vc2)
def BkU (V : World) (B : Nat) (x : Value) : Prop := ∃ g vs, B ≤ g ∧ x = .pointer (some ⟨g, 0, none⟩) ∧ V.heap[g]? = some (.cells vs 46 (0, 0)) ∧ vs.size = 3
section
variable {V V' : World} {B g : Nat} {d : UpdD} {L : Array Bool} {x22 x24 x5 x6 x : Value}
theorem BkU.below (h : BkU V B x) (hb : Below V.heap.size V V') : BkU V' B x := by
  obtain ⟨g, vs, h1, h2, h3, h4⟩ := h; exact ⟨g, vs, h1, h2, (hb.block _ (lt_of_heapF h3)).trans h3, h4⟩
theorem BkU.grown (h : BkU V B x) (hg : V.grownBy V' (some g)) (hne : x ≠ .pointer (some ⟨g, 0, none⟩)) : BkU V' B x := by
  obtain ⟨q, vs, h1, h2, h3, h4⟩ := h
  exact ⟨q, vs, h1, h2, (hg.block _ (lt_of_heapF h3) (by intro e; injection e with e; subst e; exact hne h2)).trans h3, h4⟩
theorem F1.below (h : F1 V B d L x22 x5 x6) (hb : Below V.heap.size V V') : F1 V' B d L x22 x5 x6 := by
  obtain ⟨cs, lo, Vc, a, b, c, e⟩ := h; exact ⟨cs, lo, Vc, a, b.below hb, c, e⟩
theorem F3.below (h : F3 V B d L x22 x24 x5 x6) (hb : Below V.heap.size V V') : F3 V' B d L x22 x24 x5 x6 := by
  obtain ⟨i, cs, lo, Vc, cs2, lo2, Vc2, a, b, c, e, r⟩ := h; exact ⟨i, cs, lo, Vc, cs2, lo2, Vc2, a, b, c.below hb, e.below hb, r⟩
theorem F1.set {j : Nat} (h : F1 V B d L x22 x5 x6) (h4 : 4 ≠ j) (h5 : 5 ≠ j) : F1 V B d (L.setIfInBounds j true) x22 x5 x6 := by
  obtain ⟨cs, lo, Vc, a, b, c, e⟩ := h
  exact ⟨cs, lo, Vc, a, b, fun h => c (by rw [getD_set_ne h4] at h; exact h), fun h => e (by rw [getD_set_ne h5] at h; exact h)⟩
theorem F3.set {j : Nat} (h : F3 V B d L x22 x24 x5 x6) (h4 : 4 ≠ j) (h5 : 5 ≠ j) : F3 V B d (L.setIfInBounds j true) x22 x24 x5 x6 := by
  obtain ⟨i, cs, lo, Vc, cs2, lo2, Vc2, a, b, c, e, f, k4, k5, l4, l5⟩ := h
  exact ⟨getD_mono i, cs, lo, Vc, cs2, lo2, Vc2, a, b, c, e, f, fun h => k4 (by rw [getD_set_ne h4] at h; exact h), fun h => k5 (by rw [getD_set_ne h5] at h; exact h), fun h => l4 (by rw [getD_set_ne h4] at h; exact h), fun h => l5 (by rw [getD_set_ne h5] at h; exact h)⟩
theorem off_new {lo : Nat} {Vc : World} {cs : Array Value} (h : Cp V B d cs lo Vc) : Off (.pointer (some ⟨V.heap.size, 0, none⟩)) lo Vc := fun g hg => by
  injection hg with hg; injection hg with hg; injection hg with hg; have := h.2.1; omega
theorem F1.new4 (h : F1 V B d L x22 x5 x6) (hb : Below V.heap.size V V') : F1 V' B d (L.setIfInBounds 4 true) x22 (.pointer (some ⟨V.heap.size, 0, none⟩)) x6 := by
  obtain ⟨cs, lo, Vc, a, b, c, e⟩ := h
  exact ⟨cs, lo, Vc, a, b.below hb, fun _ => off_new b, fun h => e (by rw [getD_set_ne (by decide)] at h; exact h)⟩
theorem F1.new5 (h : F1 V B d L x22 x5 x6) (hb : Below V.heap.size V V') : F1 V' B d (L.setIfInBounds 5 true) x22 x5 (.pointer (some ⟨V.heap.size, 0, none⟩)) := by
  obtain ⟨cs, lo, Vc, a, b, c, e⟩ := h
  exact ⟨cs, lo, Vc, a, b.below hb, fun h => c (by rw [getD_set_ne (by decide)] at h; exact h), fun _ => off_new b⟩
theorem F3.new4 (h : F3 V B d L x22 x24 x5 x6) (hb : Below V.heap.size V V') : F3 V' B d (L.setIfInBounds 4 true) x22 x24 (.pointer (some ⟨V.heap.size, 0, none⟩)) x6 := by
  obtain ⟨i, cs, lo, Vc, cs2, lo2, Vc2, a, b, c, e, f, k4, k5, l4, l5⟩ := h
  exact ⟨getD_mono i, cs, lo, Vc, cs2, lo2, Vc2, a, b, c.below hb, e.below hb, f, fun _ => off_new c, fun h => k5 (by rw [getD_set_ne (by decide)] at h; exact h), fun _ => off_new e, fun h => l5 (by rw [getD_set_ne (by decide)] at h; exact h)⟩
theorem F3.new5 (h : F3 V B d L x22 x24 x5 x6) (hb : Below V.heap.size V V') : F3 V' B d (L.setIfInBounds 5 true) x22 x24 x5 (.pointer (some ⟨V.heap.size, 0, none⟩)) := by
  obtain ⟨i, cs, lo, Vc, cs2, lo2, Vc2, a, b, c, e, f, k4, k5, l4, l5⟩ := h
  exact ⟨getD_mono i, cs, lo, Vc, cs2, lo2, Vc2, a, b, c.below hb, e.below hb, f, fun h => k4 (by rw [getD_set_ne (by decide)] at h; exact h), fun _ => off_new c, fun h => l4 (by rw [getD_set_ne (by decide)] at h; exact h), fun _ => off_new e⟩
theorem F1.grown (h : F1 V B d L x22 x5 x6) (hg : V.grownBy V' (some g)) (h4 : L.getD 4 false = true) (hx : x5 = .pointer (some ⟨g, 0, none⟩)) : F1 V' B d L x22 x5 x6 := by
  obtain ⟨cs, lo, Vc, a, b, c, e⟩ := h; exact ⟨cs, lo, Vc, a, b.grown hg (c h4 g hx), c, e⟩
theorem F1.grown5 (h : F1 V B d L x22 x5 x6) (hg : V.grownBy V' (some g)) (h5 : L.getD 5 false = true) (hx : x6 = .pointer (some ⟨g, 0, none⟩)) : F1 V' B d L x22 x5 x6 := by
  obtain ⟨cs, lo, Vc, a, b, c, e⟩ := h; exact ⟨cs, lo, Vc, a, b.grown hg (e h5 g hx), c, e⟩
theorem F3.grown (h : F3 V B d L x22 x24 x5 x6) (hg : V.grownBy V' (some g)) (h4 : L.getD 4 false = true) (hx : x5 = .pointer (some ⟨g, 0, none⟩)) : F3 V' B d L x22 x24 x5 x6 := by
  obtain ⟨i, cs, lo, Vc, cs2, lo2, Vc2, a, b, c, e, f, k4, k5, l4, l5⟩ := h
  exact ⟨i, cs, lo, Vc, cs2, lo2, Vc2, a, b, c.grown hg (k4 h4 g hx), e.grown hg (l4 h4 g hx), f, k4, k5, l4, l5⟩
theorem F3.grown5 (h : F3 V B d L x22 x24 x5 x6) (hg : V.grownBy V' (some g)) (h5 : L.getD 5 false = true) (hx : x6 = .pointer (some ⟨g, 0, none⟩)) : F3 V' B d L x22 x24 x5 x6 := by
  obtain ⟨i, cs, lo, Vc, cs2, lo2, Vc2, a, b, c, e, f, k4, k5, l4, l5⟩ := h
  exact ⟨i, cs, lo, Vc, cs2, lo2, Vc2, a, b, c.grown hg (k5 h5 g hx), e.grown hg (l5 h5 g hx), f, k4, k5, l4, l5⟩
end
structure L3S (w W2 : World) (ca cb : Array Value) (V : World) (L : Array Bool) (x5 x6 x23 x24 : Value) : Prop where
  be : Below W2.heap.size W2 V
  ne : L.getD 2 false = true → L.getD 3 false = true → x5 ≠ x6
  i4 : L.getD 4 false = true → L.getD 2 false = true
  i5 : L.getD 5 false = true → L.getD 3 false = true
  f0 : L.getD 0 false = true → x23 = .agg ca
  f1 : L.getD 1 false = true → x24 = .agg cb
  f2 : L.getD 2 false = true → BkU V W2.heap.size x5
  f3 : L.getD 3 false = true → BkU V W2.heap.size x6
  f4 : L.getD 4 false = true → ∃ g, x5 = .pointer (some ⟨g, 0, none⟩) ∧ V.heap[g]? = some (.cells ca 46 (0, 0))
  f5 : L.getD 5 false = true → ∃ g, x6 = .pointer (some ⟨g, 0, none⟩) ∧ V.heap[g]? = some (.cells cb 46 (0, 0))
theorem L3S.more {w W2 V V' : World} {ca cb : Array Value} {L : Array Bool} {x5 x6 x23 x24 : Value} (H : L3S w W2 ca cb V L x5 x6 x23 x24) (hb : Below V.heap.size V V') : L3S w W2 ca cb V' L x5 x6 x23 x24 :=
  ⟨H.be.trans (hb.mono H.be.size), H.ne, H.i4, H.i5, H.f0, H.f1, fun h => (H.f2 h).below hb, fun h => (H.f3 h).below hb, fun h => by obtain ⟨g, a, b⟩ := H.f4 h; exact ⟨g, a, (hb.block _ (lt_of_heapF b)).trans b⟩, fun h => by obtain ⟨g, a, b⟩ := H.f5 h; exact ⟨g, a, (hb.block _ (lt_of_heapF b)).trans b⟩⟩
structure LS (w W3 : World) (g5 g6 : Nat) (da : UpdD) (ca cb : Array Value) (V : World) (L : Array Bool) (x7 x8 x25 x26 x27 x28 : Value) : Prop where
  be : Below W3.heap.size W3 V
  ne : L.getD 4 false = true → L.getD 5 false = true → x7 ≠ x8
  i6 : L.getD 6 false = true → L.getD 4 false = true ∧ L.getD 5 false = true ∧ L.getD 1 false = true ∧ L.getD 3 false = true
  i7 : L.getD 7 false = true → L.getD 6 false = true ∧ L.getD 3 false = true
  f0 : L.getD 0 false = true → x25 = .agg ca
  f1 : L.getD 1 false = true → F1 V W3.heap.size da L x26 x7 x8
  f2 : L.getD 2 false = true → x27 = .agg ca
  f3 : L.getD 3 false = true → F3 V W3.heap.size da L x26 x28 x7 x8
  f4 : L.getD 4 false = true → BkU V W3.heap.size x7
  f5 : L.getD 5 false = true → BkU V W3.heap.size x8
  f6 : L.getD 6 false = true → ∃ cs g, x26 = .agg cs ∧ x7 = .pointer (some ⟨g, 0, none⟩) ∧ V.heap[g]? = some (.cells cs 46 (0, 0))
  f7 : L.getD 7 false = true → ∃ cs g, x28 = .agg cs ∧ x8 = .pointer (some ⟨g, 0, none⟩) ∧ V.heap[g]? = some (.cells cs 46 (0, 0))
theorem LS.more {w W3 V V' : World} {g5 g6 : Nat} {da : UpdD} {ca cb : Array Value} {L : Array Bool} {x7 x8 x25 x26 x27 x28 : Value} (H : LS w W3 g5 g6 da ca cb V L x7 x8 x25 x26 x27 x28) (hb : Below V.heap.size V V') : LS w W3 g5 g6 da ca cb V' L x7 x8 x25 x26 x27 x28 :=
  ⟨H.be.trans (hb.mono H.be.size), H.ne, H.i6, H.i7, H.f0, fun h => (H.f1 h).below hb, H.f2, fun h => (H.f3 h).below hb, fun h => (H.f4 h).below hb, fun h => (H.f5 h).below hb,
    fun h => by obtain ⟨cs, g, a, b, c⟩ := H.f6 h; exact ⟨cs, g, a, b, (hb.block _ (lt_of_heapF c)).trans c⟩, fun h => by obtain ⟨cs, g, a, b, c⟩ := H.f7 h; exact ⟨cs, g, a, b, (hb.block _ (lt_of_heapF c)).trans c⟩⟩
set_option maxRecDepth 100000 in
set_option maxHeartbeats 8000000 in
theorem usame_main (ca cb : Array Value) (da db : UpdD) (w : World) (ha : UpdC w w.heap.size ca da) (hb : UpdC w w.heap.size cb db) (oka : UpdOk da) (okb : UpdOk db) (fa : FewU da = true) (fb : FewU db = true) :
    Calls Tryz.prog 4 #[.agg ca, .agg cb] w fun e w' => e = .returned (.bool true) ∧ Below w.heap.size w w' := by
  have hA : ∀ W, Below w.heap.size w W → Calls Tryz.prog 16 #[.agg ca] W fun e w' => e = .returned (.bool true) ∧ Below W.heap.size W w' := fun W hW => by
    have := rfewU_any ca da W ((ha.below hW).more hW.size) oka
    rw [fa] at this; exact this
  have hB : ∀ W, Below w.heap.size w W → Calls Tryz.prog 16 #[.agg cb] W fun e w' => e = .returned (.bool true) ∧ Below W.heap.size W w' := fun W hW => by
    have := rfewU_any cb db W ((hb.below hW).more hW.size) okb
    rw [fb] at this; exact this
  have bA : da.wd.length ≤ 100 ∧ da.ats.length ≤ 30 ∧ da.rts.length ≤ 100 ∧ ∀ a ∈ da.ats, FewA a = true := by
    unfold FewU at fa
    simp only [Bool.and_eq_true, decide_eq_true_eq] at fa
    have := few_boundsL fa.1.2
    exact ⟨fa.1.1, this.1, fa.2, this.2⟩
  have hC : ∀ W, Below w.heap.size w W → Calls Tryz.prog 18 #[.agg ca] W fun e w' => ∃ cs', e = .returned (.agg cs') ∧ UpdO w' (W.heap.size + 2) cs' da ∧ Below W.heap.size W w' := fun W hW =>
    uclone_any ca da W ((ha.below hW).more hW.size) (by omega) (by omega) (by omega) (fun a hd => by
      have fb := few_bounds (bA.2.2.2 a hd)
      exact ⟨by omega, fun s hs => by have := fb.2.1 s hs; omega, by omega, by omega, by omega⟩)
  have h9a := ha.three
  have h9b := hb.three
  have CAH := Lib.hid ha
  have CBH := Lib.hid hb
  have OKA := Lib.hid oka
  have OKB := Lib.hid okb
  have BDA := Lib.hid bA
  clear ha hb oka okb fa fb bA
  obtain ⟨W, hW⟩ : ∃ W, W = ((w.alloc (.cells ca 44)).alloc (.cells cb 44)) := ⟨_, rfl⟩
  have n0 : W.heap[w.heap.size]? = some (.cells ca 44 (0, 0)) := by rw [hW]; exact heap_alloc2_old _ _ _
  have n1 : W.heap[w.heap.size + 1]? = some (.cells cb 44 (0, 0)) := by rw [hW]; exact heap_alloc2_new _ _ _
  have nb : Below w.heap.size w W := by rw [hW]; exact ((Below.refl _ _).alloc (Nat.le_refl _) _).alloc (by simp) _
  have HA := hide (hA W nb)
  have HB := hide hB
  have HC := Lib.hid hC
  have NB := hide nb
  have N0 := Lib.hid n0
  have N1 := Lib.hid n1
  have HW := Lib.hid hW
  have hsa : (Tryz.prog.info? 46).map (·.size) = some ca.size := by rw [h9a.1]; exact upd_size
  have hra : (Tryz.prog.info? 44).map (·.size) = some ca.size := by rw [h9a.1]; exact ref_size
  have hrb : (Tryz.prog.info? 44).map (·.size) = some cb.size := by rw [h9b.1]; exact ref_size
  have hsb : (Tryz.prog.info? 46).map (·.size) = some cb.size := by rw [h9b.1]; exact upd_size
  have HSA := Lib.hid hsa
  have HSB := Lib.hid hsb
  have HRA := Lib.hid hra
  have HRB := Lib.hid hrb
  have H3A := Lib.hid h9a.1
  have H3B := Lib.hid h9b.1
  have ONA := Lib.hid h9a.2
  have ONB := Lib.hid h9b.2
  clear hA hB hC n0 n1 nb hW hsa hsb hra hrb h9a h9b
  go_enter Tryz.func4, Tryz.ntmps4
  go_wp2_with (first
    | (rw [← HW.out]; (with_reducible refine wpList_load_wholeF W ?hgd1 44 (.tmp 2) ?ho1 w.heap.size 44 ca _ ?hx1 N0.out Tryz.underlying44 ?hd1 ?hi1 ?_); (case hgd1 => rfl); (case ho1 => rfl); (case hx1 => rfl); (case hd1 => rfl); (case hi1 => exact HRA.out))
    | (go_at_call 16; (with_reducible refine HA.out.mono ?_); rintro e w1 ⟨rfl, hb1⟩
       have m0 := (hb1.block _ (lt_of_heapF N0.out)).trans N0.out
       have m1 := (hb1.block _ (lt_of_heapF N1.out)).trans N1.out
       have M0 := Lib.hid m0
       have M1 := Lib.hid m1
       have B1 := hide (NB.out.trans (hb1.mono NB.out.size))
       clear m0 m1 hb1)
    | ((with_reducible refine wpList_load_wholeG w1 ?hgd2 44 (.tmp 3) ?ho2 (w.heap.size + 1) 44 cb _ ?hx2 M1.out Tryz.underlying44 ?hd2 ?hi2 ?_); (case hgd2 => rfl); (case ho2 => rfl); (case hx2 => rfl); (case hd2 => rfl); (case hi2 => exact HRB.out))
    | (go_at_call 16; (with_reducible refine (HB.out _ B1.out).mono ?_); rintro e W2 ⟨rfl, hb2⟩
       have k0 := (hb2.block _ (lt_of_heapF M0.out)).trans M0.out
       have k1 := (hb2.block _ (lt_of_heapF M1.out)).trans M1.out
       have K0 := Lib.hid k0
       have K1 := Lib.hid k1
       have B2 := hide (B1.out.trans (hb2.mono B1.out.size))
       clear k0 k1 hb2))
  clear HA HB N0 N1 M0 M1 HW NB B1
  have hst : L3S w W2 ca cb W2.drew (Array.replicate 6 false) undef undef undef undef :=
    ⟨(Below.refl _ _).drew, fun h => absurd h (by decide), fun h => absurd h (by decide), fun h => absurd h (by decide), fun h => absurd h (by decide), fun h => absurd h (by decide), fun h => absurd h (by decide), fun h => absurd h (by decide), fun h => absurd h (by decide), fun h => absurd h (by decide)⟩
  refine wp_region_inv (by kernel_rfl) (fun L a V => ∃ x5 x6 x23 x24 : Value, a = ⟨List.toArray ((.agg ca) :: (.agg cb) :: (.pointer (some ⟨w.heap.size, 0, none⟩)) :: (.pointer (some ⟨w.heap.size + 1, 0, none⟩)) :: (.bool false) :: (x5) :: (x6) :: (undef) :: (undef) :: (undef) :: (undef) :: (undef) :: (undef) :: (undef) :: (.agg ca) :: (.bool true) :: (.bool false) :: (.bool false) :: (.agg cb) :: (.bool true) :: (.bool false) :: (.bool false) :: (undef) :: (x23) :: (x24) :: (undef) :: (undef) :: (undef) :: (undef) :: (undef) :: (undef) :: (undef) :: (undef) :: (undef) :: (undef) :: (undef) :: (undef) :: (undef) :: (undef) :: (undef) :: (undef) :: (undef) :: (undef) :: (undef) :: (undef) :: (undef) :: (undef) :: (undef) :: (undef) :: (undef) :: (undef) :: (undef) :: (undef) :: (undef) :: (undef) :: (undef) :: (undef) :: (undef) :: (undef) :: (undef) :: (undef) :: (undef) :: (undef) :: (undef) :: (undef) :: (undef) :: (undef) :: (undef) :: (undef) :: (undef) :: (undef) :: (undef) :: (undef) :: (undef) :: (undef) :: (undef) :: (undef) :: (undef) :: (undef) :: (undef) :: (undef) :: (undef) :: (undef) :: (undef) :: (undef) :: (undef) :: (undef) :: (undef) :: (undef) :: (undef) :: (undef) :: (undef) :: (undef) :: (undef) :: (undef) :: (undef) :: (undef) :: (undef) :: (undef) :: (undef) :: (undef) :: (undef) :: (undef) :: (undef) :: (undef) :: (undef) :: (undef) :: (undef) :: (undef) :: (undef) :: (undef) :: (undef) :: (undef) :: (undef) :: (undef) :: (undef) :: (undef) :: (undef) :: (undef) :: (undef) :: (undef) :: (undef) :: (undef) :: (undef) :: (undef) :: (undef) :: (undef) :: (undef) :: (undef) :: (undef) :: (undef) :: (undef) :: (undef) :: (undef) :: (undef) :: (undef) :: (undef) :: (undef) :: (undef) :: (undef) :: (undef) :: []), []⟩ ∧ L3S w W2 ca cb V L x5 x6 x23 x24) (by kernel_rfl) ?steps ⟨undef, undef, undef, undef, rfl, hst⟩ ?done
  case steps =>
    clear hst
    refine ⟨?_, ?_, ?_, ?_, ?_, ?_, trivial⟩
    · rintro L a V ⟨x5, x6, x23, x24, rfl, H⟩ hl ha K hK
      refine step_load_whole V rfl 44 (.tmp 2) rfl w.heap.size 44 ca _ rfl ((H.be.block _ (lt_of_heapF K0.out)).trans K0.out) Tryz.underlying44 rfl HRA.out ?_
      exact hK _ _ ⟨_, _, _, _, rfl, ⟨H.be, fun p q => H.ne (by rw [getD_set_ne (by decide)] at p; exact p) (by rw [getD_set_ne (by decide)] at q; exact q), fun h => getD_mono (H.i4 (by rw [getD_set_ne (by decide)] at h; exact h)), fun h => getD_mono (H.i5 (by rw [getD_set_ne (by decide)] at h; exact h)), fun _ => rfl, fun h => H.f1 ((getD_set h).resolve_left (by decide)), fun h => H.f2 ((getD_set h).resolve_left (by decide)), fun h => H.f3 ((getD_set h).resolve_left (by decide)), fun h => H.f4 ((getD_set h).resolve_left (by decide)), fun h => H.f5 ((getD_set h).resolve_left (by decide))⟩⟩
    · rintro L a V ⟨x5, x6, x23, x24, rfl, H⟩ hl ha K hK
      refine step_load_whole V rfl 44 (.tmp 3) rfl (w.heap.size + 1) 44 cb _ rfl ((H.be.block _ (lt_of_heapF K1.out)).trans K1.out) Tryz.underlying44 rfl HRB.out ?_
      exact hK _ _ ⟨_, _, _, _, rfl, ⟨H.be, fun p q => H.ne (by rw [getD_set_ne (by decide)] at p; exact p) (by rw [getD_set_ne (by decide)] at q; exact q), fun h => getD_mono (H.i4 (by rw [getD_set_ne (by decide)] at h; exact h)), fun h => getD_mono (H.i5 (by rw [getD_set_ne (by decide)] at h; exact h)), fun h => H.f0 ((getD_set h).resolve_left (by decide)), fun _ => rfl, fun h => H.f2 ((getD_set h).resolve_left (by decide)), fun h => H.f3 ((getD_set h).resolve_left (by decide)), fun h => H.f4 ((getD_set h).resolve_left (by decide)), fun h => H.f5 ((getD_set h).resolve_left (by decide))⟩⟩
    · rintro L a V ⟨x5, x6, x23, x24, rfl, H⟩ hl ha K hK
      have n4 : L.getD 4 false = false := by
        cases h6 : L.getD 4 false with
        | true => exact absurd (H.i4 h6) (by rw [getD_left hl]; decide)
        | false => rfl
      have hal : Below V.heap.size V (V.alloc (.cells #[.slice none 0 0, .slice none 0 0, .slice none 0 0] 46)) := (Below.refl _ _).alloc (Nat.le_refl _) _
      have hz := H.be.size
      have hV : ∀ q, BkU V W2.heap.size q → (.pointer (some ⟨V.heap.size, 0, none⟩) : Value) ≠ q := fun q hq e => by obtain ⟨g, vs, _, e', hg, _⟩ := hq; rw [e'] at e; injection e with e; injection e with e; injection e with e; have := lt_of_heapF hg; omega
      have hf := H.f3
      replace H := H.more hal
      go_simp
      exact hK _ _ ⟨_, _, _, _, rfl, ⟨H.be, fun _ q => hV _ (hf (by rw [getD_set_ne (by decide)] at q; exact q)), fun h => getD_mono (H.i4 (by rw [getD_set_ne (by decide)] at h; exact h)), fun h => getD_mono (H.i5 (by rw [getD_set_ne (by decide)] at h; exact h)), fun h => H.f0 ((getD_set h).resolve_left (by decide)), fun h => H.f1 ((getD_set h).resolve_left (by decide)), fun _ => ⟨_, _, hz, rfl, heap_alloc_new _ _, rfl⟩, fun h => H.f3 ((getD_set h).resolve_left (by decide)), fun h => absurd ((getD_set h).resolve_left (by decide)) (by rw [n4]; decide), fun h => H.f5 ((getD_set h).resolve_left (by decide))⟩⟩
    · rintro L a V ⟨x5, x6, x23, x24, rfl, H⟩ hl ha K hK
      have n5 : L.getD 5 false = false := by
        cases h6 : L.getD 5 false with
        | true => exact absurd (H.i5 h6) (by rw [getD_left hl]; decide)
        | false => rfl
      have hal : Below V.heap.size V (V.alloc (.cells #[.slice none 0 0, .slice none 0 0, .slice none 0 0] 46)) := (Below.refl _ _).alloc (Nat.le_refl _) _
      have hz := H.be.size
      have hV : ∀ q, BkU V W2.heap.size q → (.pointer (some ⟨V.heap.size, 0, none⟩) : Value) ≠ q := fun q hq e => by obtain ⟨g, vs, _, e', hg, _⟩ := hq; rw [e'] at e; injection e with e; injection e with e; injection e with e; have := lt_of_heapF hg; omega
      have hf := H.f2
      replace H := H.more hal
      go_simp
      exact hK _ _ ⟨_, _, _, _, rfl, ⟨H.be, fun p _ e => hV _ (hf (by rw [getD_set_ne (by decide)] at p; exact p)) e.symm, fun h => getD_mono (H.i4 (by rw [getD_set_ne (by decide)] at h; exact h)), fun h => getD_mono (H.i5 (by rw [getD_set_ne (by decide)] at h; exact h)), fun h => H.f0 ((getD_set h).resolve_left (by decide)), fun h => H.f1 ((getD_set h).resolve_left (by decide)), fun h => H.f2 ((getD_set h).resolve_left (by decide)), fun _ => ⟨_, _, hz, rfl, heap_alloc_new _ _, rfl⟩, fun h => H.f4 ((getD_set h).resolve_left (by decide)), fun h => absurd ((getD_set h).resolve_left (by decide)) (by rw [n5]; decide)⟩⟩
    · rintro L a V ⟨x5, x6, x23, x24, rfl, H⟩ hl ha K hK
      have hi := ha ⟨2, .data⟩ (by simp) rfl
      have hi0 := ha ⟨0, .data⟩ (by simp) rfl
      have hne : L.getD 3 false = true → x5 ≠ x6 := fun h => H.ne hi h
      have e0 := H.f0 hi0
      obtain ⟨g, vs, hg0, hx, hg, hvs⟩ := H.f2 hi
      have hcs : vs.size = ca.size := by rw [hvs, H3A.out]
      refine step_store_whole V rfl 46 (.tmp 5) (.tmp 23) rfl g 46 vs ca e0 hx hg (by rw [H3A.out]; exact upd_size) hcs ONA.out ?_
      intro V' hg' ho
      have hgr := ho.out
      have be' := H.be.grown hgr H.be.size (fun x hx => by injection hx with hx; omega)
      have fo : L.getD 5 false = true → ∃ g, x6 = .pointer (some ⟨g, 0, none⟩) ∧ V'.heap[g]? = some (.cells cb 46 (0, 0)) := fun h5 => by
        obtain ⟨q, c, d⟩ := H.f5 h5
        exact ⟨q, c, (hgr.block q (lt_of_heapF d) (by intro e; injection e with e; subst e; exact hne (H.i5 h5) (hx.trans c.symm))).trans d⟩
      exact hK _ _ ⟨_, _, _, _, rfl, ⟨be', fun p q => H.ne (by rw [getD_set_ne (by decide)] at p; exact p) (by rw [getD_set_ne (by decide)] at q; exact q), fun _ => getD_mono hi, fun h => getD_mono (H.i5 (by rw [getD_set_ne (by decide)] at h; exact h)), fun h => H.f0 ((getD_set h).resolve_left (by decide)), fun h => H.f1 ((getD_set h).resolve_left (by decide)), fun _ => ⟨g, ca, hg0, hx, hg'.out, H3A.out⟩, fun h => (H.f3 ((getD_set h).resolve_left (by decide))).grown hgr (fun e => hne ((getD_set h).resolve_left (by decide)) (hx.trans e.symm)), fun _ => ⟨g, hx, hg'.out⟩, fun h => fo ((getD_set h).resolve_left (by decide))⟩⟩
    · rintro L a V ⟨x5, x6, x23, x24, rfl, H⟩ hl ha K hK
      have hi := ha ⟨3, .data⟩ (by simp) rfl
      have hi0 := ha ⟨1, .data⟩ (by simp) rfl
      have hne : L.getD 2 false = true → x6 ≠ x5 := fun h e => H.ne h hi e.symm
      have e0 := H.f1 hi0
      obtain ⟨g, vs, hg0, hx, hg, hvs⟩ := H.f3 hi
      have hcs : vs.size = cb.size := by rw [hvs, H3B.out]
      refine step_store_whole V rfl 46 (.tmp 6) (.tmp 24) rfl g 46 vs cb e0 hx hg (by rw [H3B.out]; exact upd_size) hcs ONB.out ?_
      intro V' hg' ho
      have hgr := ho.out
      have be' := H.be.grown hgr H.be.size (fun x hx => by injection hx with hx; omega)
      have fo : L.getD 4 false = true → ∃ g, x5 = .pointer (some ⟨g, 0, none⟩) ∧ V'.heap[g]? = some (.cells ca 46 (0, 0)) := fun h5 => by
        obtain ⟨q, c, d⟩ := H.f4 h5
        exact ⟨q, c, (hgr.block q (lt_of_heapF d) (by intro e; injection e with e; subst e; exact hne (H.i4 h5) (hx.trans c.symm))).trans d⟩
      exact hK _ _ ⟨_, _, _, _, rfl, ⟨be', fun p q => H.ne (by rw [getD_set_ne (by decide)] at p; exact p) (by rw [getD_set_ne (by decide)] at q; exact q), fun h => getD_mono (H.i4 (by rw [getD_set_ne (by decide)] at h; exact h)), fun _ => getD_mono hi, fun h => H.f0 ((getD_set h).resolve_left (by decide)), fun h => H.f1 ((getD_set h).resolve_left (by decide)), fun h => (H.f2 ((getD_set h).resolve_left (by decide))).grown hgr (fun e => hne ((getD_set h).resolve_left (by decide)) (hx.trans e.symm)), fun _ => ⟨g, cb, hg0, hx, hg'.out, H3B.out⟩, fun h => fo ((getD_set h).resolve_left (by decide)), fun _ => ⟨g, hx, hg'.out⟩⟩⟩
  case done =>
    rintro L a W3 ⟨x5, x6, x23, x24, rfl, H⟩ hall
    clear hst
    obtain rfl := H.f0 (hall 0 (by decide))
    obtain rfl := H.f1 (hall 1 (by decide))
    obtain ⟨g5, rfl, hx5⟩ := H.f4 (hall 4 (by decide))
    obtain ⟨g6, rfl, hx6⟩ := H.f5 (hall 5 (by decide))
    have k0 := (H.be.block _ (lt_of_heapF K0.out)).trans K0.out
    have k1 := (H.be.block _ (lt_of_heapF K1.out)).trans K1.out
    have b3 := B2.out.trans (H.be.mono B2.out.size)
    have hg5 : W2.heap.size ≤ g5 := by obtain ⟨g, _, h1, h2, _⟩ := H.f2 (hall 2 (by decide)); injection h2 with h2; injection h2 with h2; injection h2 with h2; omega
    have hg6 : W2.heap.size ≤ g6 := by obtain ⟨g, _, h1, h2, _⟩ := H.f3 (hall 3 (by decide)); injection h2 with h2; injection h2 with h2; injection h2 with h2; omega
    have X5 := Lib.hid hx5
    have X6 := Lib.hid hx6
    have Y0 := Lib.hid k0
    have Y1 := Lib.hid k1
    have B3 := hide b3
    have hlw1 := lt_of_heapF K1.out
    clear H hall hx5 hx6 k0 k1 b3 K0 K1 B2
    have HCL : Hid (∀ W, Below W3.heap.size W3 W → Calls Tryz.prog 18 #[.agg ca] W fun e w' => ∃ cs', e = .returned (.agg cs') ∧ UpdO w' (W.heap.size + 2) cs' da ∧ Below W.heap.size W w') := Lib.hid (fun W hW => HC.out W (B3.out.trans (hW.mono B3.out.size)))
    clear HC
    go_wp2_with fail
    have hst : LS w W3 g5 g6 da ca cb W3.drew (Array.replicate 8 false) undef undef undef undef undef undef :=
      ⟨(Below.refl _ _).drew, fun h => absurd h (by decide), fun h => absurd h (by decide), fun h => absurd h (by decide), fun h => absurd h (by decide), fun h => absurd h (by decide), fun h => absurd h (by decide), fun h => absurd h (by decide), fun h => absurd h (by decide), fun h => absurd h (by decide), fun h => absurd h (by decide), fun h => absurd h (by decide)⟩
    refine wp_region_inv (by kernel_rfl) (fun L a V => ∃ x7 x8 x25 x26 x27 x28 : Value, a = ⟨List.toArray ((.agg ca) :: (.agg cb) :: (.pointer (some ⟨w.heap.size, 0, none⟩)) :: (.pointer (some ⟨w.heap.size + 1, 0, none⟩)) :: (.bool false) :: (.pointer (some ⟨g5, 0, none⟩)) :: (.pointer (some ⟨g6, 0, none⟩)) :: (x7) :: (x8) :: (undef) :: (undef) :: (undef) :: (undef) :: (undef) :: (.agg ca) :: (.bool true) :: (.bool false) :: (.bool false) :: (.agg cb) :: (.bool true) :: (.bool false) :: (.bool false) :: (undef) :: (.agg ca) :: (.agg cb) :: (x25) :: (x26) :: (x27) :: (x28) :: (undef) :: (undef) :: (undef) :: (undef) :: (undef) :: (undef) :: (undef) :: (undef) :: (undef) :: (undef) :: (undef) :: (undef) :: (undef) :: (undef) :: (undef) :: (undef) :: (undef) :: (undef) :: (undef) :: (undef) :: (undef) :: (undef) :: (undef) :: (undef) :: (undef) :: (undef) :: (undef) :: (undef) :: (undef) :: (undef) :: (undef) :: (undef) :: (undef) :: (undef) :: (undef) :: (undef) :: (undef) :: (undef) :: (undef) :: (undef) :: (undef) :: (undef) :: (undef) :: (undef) :: (undef) :: (undef) :: (undef) :: (undef) :: (undef) :: (undef) :: (undef) :: (undef) :: (undef) :: (undef) :: (undef) :: (undef) :: (undef) :: (undef) :: (undef) :: (undef) :: (undef) :: (undef) :: (undef) :: (undef) :: (undef) :: (undef) :: (undef) :: (undef) :: (undef) :: (undef) :: (undef) :: (undef) :: (undef) :: (undef) :: (undef) :: (undef) :: (undef) :: (undef) :: (undef) :: (undef) :: (undef) :: (undef) :: (undef) :: (undef) :: (undef) :: (undef) :: (undef) :: (undef) :: (undef) :: (undef) :: (undef) :: (undef) :: (undef) :: (undef) :: (undef) :: (undef) :: (undef) :: (undef) :: (undef) :: (undef) :: (undef) :: (undef) :: (undef) :: (undef) :: (undef) :: (undef) :: (undef) :: (undef) :: (undef) :: (undef) :: (undef) :: (undef) :: []), []⟩ ∧ LS w W3 g5 g6 da ca cb V L x7 x8 x25 x26 x27 x28) (by kernel_rfl) ?steps ⟨undef, undef, undef, undef, undef, undef, rfl, hst⟩ ?done
    case steps =>
      clear hst
      refine ⟨?_, ?_, ?_, ?_, ?_, ?_, ?_, ?_, trivial⟩
      · rintro L a V ⟨x7, x8, x25, x26, x27, x28, rfl, H⟩ hl ha K hK
        refine step_load_whole V rfl 46 (.tmp 5) rfl g5 46 ca _ rfl ((H.be.block _ (lt_of_heapF X5.out)).trans X5.out) Tryz.underlying46 rfl HSA.out ?_
        exact hK _ _ ⟨_, _, _, _, _, _, rfl, ⟨H.be, fun p q => H.ne (by rw [getD_set_ne (by decide)] at p; exact p) (by rw [getD_set_ne (by decide)] at q; exact q), fun h => ⟨getD_mono (H.i6 (by rw [getD_set_ne (by decide)] at h; exact h)).1, getD_mono (H.i6 (by rw [getD_set_ne (by decide)] at h; exact h)).2.1, getD_mono (H.i6 (by rw [getD_set_ne (by decide)] at h; exact h)).2.2.1, getD_mono (H.i6 (by rw [getD_set_ne (by decide)] at h; exact h)).2.2.2⟩, fun h => ⟨getD_mono (H.i7 (by rw [getD_set_ne (by decide)] at h; exact h)).1, getD_mono (H.i7 (by rw [getD_set_ne (by decide)] at h; exact h)).2⟩, fun _ => rfl, fun h => (H.f1 ((getD_set h).resolve_left (by decide))).set (by decide) (by decide), fun h => H.f2 ((getD_set h).resolve_left (by decide)), fun h => (H.f3 ((getD_set h).resolve_left (by decide))).set (by decide) (by decide), fun h => H.f4 ((getD_set h).resolve_left (by decide)), fun h => H.f5 ((getD_set h).resolve_left (by decide)), fun h => H.f6 ((getD_set h).resolve_left (by decide)), fun h => H.f7 ((getD_set h).resolve_left (by decide))⟩⟩
      · rintro L a V ⟨x7, x8, x25, x26, x27, x28, rfl, H⟩ hl ha K hK
        obtain rfl := H.f0 (ha ⟨0, .data⟩ (by simp) rfl)
        have n6 : L.getD 6 false = false := by
          cases h6 : L.getD 6 false with
          | true => exact absurd (H.i6 h6).2.2.1 (by rw [getD_left hl]; decide)
          | false => rfl
        have hz := H.be.size
        refine step_call_fn (args := #[.agg ca]) rfl rfl Tryz.func18 (by decide) rfl (by simp [Act.eval]) (HCL.out V H.be) ?_
        rintro e w' ⟨cs, rfl, ho, hb⟩
        refine ⟨_, rfl, ?_⟩
        have h3 : L.getD 3 false = false := by
          cases h3 : L.getD 3 false with
          | true => exact absurd (H.f3 h3).1 (by rw [getD_left hl]; decide)
          | false => rfl
        have hn : F1 w' W3.heap.size da L (.agg cs) x7 x8 := ⟨cs, V.heap.size + 2, w', rfl, ⟨by omega, Nat.le_refl _, ho, fun _ _ _ => rfl⟩, fun h4 g hg => by obtain ⟨q, vs, _, e, hq, _⟩ := H.f4 h4; rw [e] at hg; injection hg with hg; injection hg with hg; injection hg with hg; have := lt_of_heapF hq; omega,
          fun h5 g hg => by obtain ⟨q, vs, _, e, hq, _⟩ := H.f5 h5; rw [e] at hg; injection hg with hg; injection hg with hg; injection hg with hg; have := lt_of_heapF hq; omega⟩
        replace H := H.more hb
        exact hK _ _ ⟨_, _, _, _, _, _, rfl, ⟨H.be, fun p q => H.ne (by rw [getD_set_ne (by decide)] at p; exact p) (by rw [getD_set_ne (by decide)] at q; exact q), fun h => ⟨getD_mono (H.i6 (by rw [getD_set_ne (by decide)] at h; exact h)).1, getD_mono (H.i6 (by rw [getD_set_ne (by decide)] at h; exact h)).2.1, getD_mono (H.i6 (by rw [getD_set_ne (by decide)] at h; exact h)).2.2.1, getD_mono (H.i6 (by rw [getD_set_ne (by decide)] at h; exact h)).2.2.2⟩, fun h => ⟨getD_mono (H.i7 (by rw [getD_set_ne (by decide)] at h; exact h)).1, getD_mono (H.i7 (by rw [getD_set_ne (by decide)] at h; exact h)).2⟩, fun h => H.f0 ((getD_set h).resolve_left (by decide)), fun _ => hn.set (by decide) (by decide), fun h => H.f2 ((getD_set h).resolve_left (by decide)), fun h => absurd ((getD_set h).resolve_left (by decide)) (by rw [h3]; decide), fun h => H.f4 ((getD_set h).resolve_left (by decide)), fun h => H.f5 ((getD_set h).resolve_left (by decide)), fun h => absurd ((getD_set h).resolve_left (by decide)) (by rw [n6]; decide), fun h => H.f7 ((getD_set h).resolve_left (by decide))⟩⟩
      · rintro L a V ⟨x7, x8, x25, x26, x27, x28, rfl, H⟩ hl ha K hK
        refine step_load_whole V rfl 46 (.tmp 5) rfl g5 46 ca _ rfl ((H.be.block _ (lt_of_heapF X5.out)).trans X5.out) Tryz.underlying46 rfl HSA.out ?_
        exact hK _ _ ⟨_, _, _, _, _, _, rfl, ⟨H.be, fun p q => H.ne (by rw [getD_set_ne (by decide)] at p; exact p) (by rw [getD_set_ne (by decide)] at q; exact q), fun h => ⟨getD_mono (H.i6 (by rw [getD_set_ne (by decide)] at h; exact h)).1, getD_mono (H.i6 (by rw [getD_set_ne (by decide)] at h; exact h)).2.1, getD_mono (H.i6 (by rw [getD_set_ne (by decide)] at h; exact h)).2.2.1, getD_mono (H.i6 (by rw [getD_set_ne (by decide)] at h; exact h)).2.2.2⟩, fun h => ⟨getD_mono (H.i7 (by rw [getD_set_ne (by decide)] at h; exact h)).1, getD_mono (H.i7 (by rw [getD_set_ne (by decide)] at h; exact h)).2⟩, fun h => H.f0 ((getD_set h).resolve_left (by decide)), fun h => (H.f1 ((getD_set h).resolve_left (by decide))).set (by decide) (by decide), fun _ => rfl, fun h => (H.f3 ((getD_set h).resolve_left (by decide))).set (by decide) (by decide), fun h => H.f4 ((getD_set h).resolve_left (by decide)), fun h => H.f5 ((getD_set h).resolve_left (by decide)), fun h => H.f6 ((getD_set h).resolve_left (by decide)), fun h => H.f7 ((getD_set h).resolve_left (by decide))⟩⟩
      · rintro L a V ⟨x7, x8, x25, x26, x27, x28, rfl, H⟩ hl ha K hK
        obtain rfl := H.f2 (ha ⟨2, .data⟩ (by simp) rfl)
        have n7 : L.getD 7 false = false := by
          cases h7 : L.getD 7 false with
          | true => exact absurd (H.i7 h7).2 (by rw [getD_left hl]; decide)
          | false => rfl
        have hz := H.be.size
        have h1 := H.f1 (ha ⟨1, .chain⟩ (by simp) rfl)
        have hi1 := ha ⟨1, .chain⟩ (by simp) rfl
        refine step_call_fn (args := #[.agg ca]) rfl rfl Tryz.func18 (by decide) rfl (by simp [Act.eval]) (HCL.out V H.be) ?_
        rintro e w' ⟨cs, rfl, ho, hb⟩
        refine ⟨_, rfl, ?_⟩
        have hn : F3 w' W3.heap.size da L x26 (.agg cs) x7 x8 := by
          obtain ⟨cs', lo', Vc', e', hc', k4, k5⟩ := h1
          exact ⟨hi1, cs', lo', Vc', cs, V.heap.size + 2, w', e', rfl, hc'.below hb, ⟨by omega, Nat.le_refl _, ho, fun _ _ _ => rfl⟩, by have := hc'.2.1; omega, k4, k5, fun h4 g hg => by obtain ⟨q, vs, _, e, hq, _⟩ := H.f4 h4; rw [e] at hg; injection hg with hg; injection hg with hg; injection hg with hg; have := lt_of_heapF hq; omega,
            fun h5 g hg => by obtain ⟨q, vs, _, e, hq, _⟩ := H.f5 h5; rw [e] at hg; injection hg with hg; injection hg with hg; injection hg with hg; have := lt_of_heapF hq; omega⟩
        replace H := H.more hb
        exact hK _ _ ⟨_, _, _, _, _, _, rfl, ⟨H.be, fun p q => H.ne (by rw [getD_set_ne (by decide)] at p; exact p) (by rw [getD_set_ne (by decide)] at q; exact q), fun h => ⟨getD_mono (H.i6 (by rw [getD_set_ne (by decide)] at h; exact h)).1, getD_mono (H.i6 (by rw [getD_set_ne (by decide)] at h; exact h)).2.1, getD_mono (H.i6 (by rw [getD_set_ne (by decide)] at h; exact h)).2.2.1, getD_mono (H.i6 (by rw [getD_set_ne (by decide)] at h; exact h)).2.2.2⟩, fun h => ⟨getD_mono (H.i7 (by rw [getD_set_ne (by decide)] at h; exact h)).1, getD_mono (H.i7 (by rw [getD_set_ne (by decide)] at h; exact h)).2⟩, fun h => H.f0 ((getD_set h).resolve_left (by decide)), fun h => (H.f1 ((getD_set h).resolve_left (by decide))).set (by decide) (by decide), fun h => H.f2 ((getD_set h).resolve_left (by decide)), fun _ => hn.set (by decide) (by decide), fun h => H.f4 ((getD_set h).resolve_left (by decide)), fun h => H.f5 ((getD_set h).resolve_left (by decide)), fun h => H.f6 ((getD_set h).resolve_left (by decide)), fun h => absurd ((getD_set h).resolve_left (by decide)) (by rw [n7]; decide)⟩⟩
      · rintro L a V ⟨x7, x8, x25, x26, x27, x28, rfl, H⟩ hl ha K hK
        have n6 : L.getD 6 false = false := by
          cases h6 : L.getD 6 false with
          | true => exact absurd (H.i6 h6).1 (by rw [getD_left hl]; decide)
          | false => rfl
        have n7 : L.getD 7 false = false := by
          cases h7 : L.getD 7 false with
          | true => exact absurd (H.i7 h7).1 (by rw [n6]; decide)
          | false => rfl
        have hal : Below V.heap.size V (V.alloc (.cells #[.slice none 0 0, .slice none 0 0, .slice none 0 0] 46)) := (Below.refl _ _).alloc (Nat.le_refl _) _
        have hz := H.be.size
        have hV : ∀ q, BkU V W3.heap.size q → (.pointer (some ⟨V.heap.size, 0, none⟩) : Value) ≠ q := fun q hq e => by obtain ⟨g, vs, _, e', hg, _⟩ := hq; rw [e'] at e; injection e with e; injection e with e; injection e with e; have := lt_of_heapF hg; omega
        have h1 := H.f1
        have h3 := H.f3
        have hf := H.f5
        replace H := H.more hal
        go_simp
        exact hK _ _ ⟨_, _, _, _, _, _, rfl, ⟨H.be, fun _ q => hV _ (hf (by rw [getD_set_ne (by decide)] at q; exact q)), fun h => ⟨getD_mono (H.i6 (by rw [getD_set_ne (by decide)] at h; exact h)).1, getD_mono (H.i6 (by rw [getD_set_ne (by decide)] at h; exact h)).2.1, getD_mono (H.i6 (by rw [getD_set_ne (by decide)] at h; exact h)).2.2.1, getD_mono (H.i6 (by rw [getD_set_ne (by decide)] at h; exact h)).2.2.2⟩, fun h => ⟨getD_mono (H.i7 (by rw [getD_set_ne (by decide)] at h; exact h)).1, getD_mono (H.i7 (by rw [getD_set_ne (by decide)] at h; exact h)).2⟩, fun h => H.f0 ((getD_set h).resolve_left (by decide)), fun h => (h1 ((getD_set h).resolve_left (by decide))).new4 hal, fun h => H.f2 ((getD_set h).resolve_left (by decide)), fun h => (h3 ((getD_set h).resolve_left (by decide))).new4 hal, fun _ => ⟨_, _, hz, rfl, heap_alloc_new _ _, rfl⟩, fun h => H.f5 ((getD_set h).resolve_left (by decide)), fun h => absurd ((getD_set h).resolve_left (by decide)) (by rw [n6]; decide), fun h => absurd ((getD_set h).resolve_left (by decide)) (by rw [n7]; decide)⟩⟩
      · rintro L a V ⟨x7, x8, x25, x26, x27, x28, rfl, H⟩ hl ha K hK
        have n6 : L.getD 6 false = false := by
          cases h6 : L.getD 6 false with
          | true => exact absurd (H.i6 h6).2.1 (by rw [getD_left hl]; decide)
          | false => rfl
        have n7 : L.getD 7 false = false := by
          cases h7 : L.getD 7 false with
          | true => exact absurd (H.i7 h7).1 (by rw [n6]; decide)
          | false => rfl
        have hal : Below V.heap.size V (V.alloc (.cells #[.slice none 0 0, .slice none 0 0, .slice none 0 0] 46)) := (Below.refl _ _).alloc (Nat.le_refl _) _
        have hz := H.be.size
        have hV : ∀ q, BkU V W3.heap.size q → (.pointer (some ⟨V.heap.size, 0, none⟩) : Value) ≠ q := fun q hq e => by obtain ⟨g, vs, _, e', hg, _⟩ := hq; rw [e'] at e; injection e with e; injection e with e; injection e with e; have := lt_of_heapF hg; omega
        have h1 := H.f1
        have h3 := H.f3
        have hf := H.f4
        replace H := H.more hal
        go_simp
        exact hK _ _ ⟨_, _, _, _, _, _, rfl, ⟨H.be, fun p _ e => hV _ (hf (by rw [getD_set_ne (by decide)] at p; exact p)) e.symm, fun h => ⟨getD_mono (H.i6 (by rw [getD_set_ne (by decide)] at h; exact h)).1, getD_mono (H.i6 (by rw [getD_set_ne (by decide)] at h; exact h)).2.1, getD_mono (H.i6 (by rw [getD_set_ne (by decide)] at h; exact h)).2.2.1, getD_mono (H.i6 (by rw [getD_set_ne (by decide)] at h; exact h)).2.2.2⟩, fun h => ⟨getD_mono (H.i7 (by rw [getD_set_ne (by decide)] at h; exact h)).1, getD_mono (H.i7 (by rw [getD_set_ne (by decide)] at h; exact h)).2⟩, fun h => H.f0 ((getD_set h).resolve_left (by decide)), fun h => (h1 ((getD_set h).resolve_left (by decide))).new5 hal, fun h => H.f2 ((getD_set h).resolve_left (by decide)), fun h => (h3 ((getD_set h).resolve_left (by decide))).new5 hal, fun h => H.f4 ((getD_set h).resolve_left (by decide)), fun _ => ⟨_, _, hz, rfl, heap_alloc_new _ _, rfl⟩, fun h => absurd ((getD_set h).resolve_left (by decide)) (by rw [n6]; decide), fun h => absurd ((getD_set h).resolve_left (by decide)) (by rw [n7]; decide)⟩⟩
      · rintro L a V ⟨x7, x8, x25, x26, x27, x28, rfl, H⟩ hl ha K hK
        have hi4 := ha ⟨4, .data⟩ (by simp) rfl
        have hi5 := ha ⟨5, .phase⟩ (by simp) rfl
        have hi1 := ha ⟨1, .data⟩ (by simp) rfl
        have hi3 := ha ⟨3, .chain⟩ (by simp) rfl
        have hne := H.ne hi4 hi5
        obtain ⟨g, vs, hg0, hx, hg, hvs⟩ := H.f4 hi4
        obtain ⟨_, cs, lo, Vc, cs2, lo2, Vc2, hx2, hx3, hp, hp2, hle, k4, k5, l4, l5⟩ := H.f3 hi3
        have hcs : vs.size = cs.size := by rw [hvs, hp.size3]
        have f3' := H.f3 hi3
        have f1' := H.f1 hi1
        refine step_store_whole V rfl 46 (.tmp 7) (.tmp 26) rfl g 46 vs cs hx2 hx hg (by rw [← hcs, hvs]; exact upd_size) hcs (hp.one) ?_
        intro V' hg' ho
        have hgr := ho.out
        have f5' := H.f5 hi5
        have be' := H.be.grown hgr H.be.size (fun x hx => by injection hx with hx; omega)
        have f1n := f1'.grown hgr hi4 hx
        have f3n := f3'.grown hgr hi4 hx
        have f5n := f5'.grown hgr (fun e => hne (hx.trans e.symm))
        have n7 : L.getD 7 false = false := by
          cases h7 : L.getD 7 false with
          | true => exact absurd (H.i7 h7).1 (by rw [getD_left hl]; decide)
          | false => rfl
        exact hK _ _ ⟨_, _, _, _, _, _, rfl, ⟨be', fun p q => H.ne (by rw [getD_set_ne (by decide)] at p; exact p) (by rw [getD_set_ne (by decide)] at q; exact q), fun _ => ⟨getD_mono hi4, getD_mono hi5, getD_mono hi1, getD_mono hi3⟩, fun h => absurd (by rw [getD_set_ne (by decide)] at h; exact h) (by rw [n7]; decide), fun h => H.f0 ((getD_set h).resolve_left (by decide)), fun _ => f1n.set (by decide) (by decide), fun h => H.f2 ((getD_set h).resolve_left (by decide)), fun _ => f3n.set (by decide) (by decide), fun _ => ⟨g, cs, hg0, hx, hg'.out, hp.size3⟩, fun _ => f5n, fun _ => ⟨cs, g, hx2, hx, hg'.out⟩, fun h => absurd ((getD_set h).resolve_left (by decide)) (by rw [n7]; decide)⟩⟩
      · rintro L a V ⟨x7, x8, x25, x26, x27, x28, rfl, H⟩ hl ha K hK
        have hi6 := ha ⟨6, .chain⟩ (by simp) rfl
        have hi4 := ha ⟨4, .phase⟩ (by simp) rfl
        have hi5 := ha ⟨5, .data⟩ (by simp) rfl
        have hi1 := ha ⟨1, .phase⟩ (by simp) rfl
        have hi3 := ha ⟨3, .data⟩ (by simp) rfl
        have hne := H.ne hi4 hi5
        obtain ⟨g, vs, hg0, hx, hg, hvs⟩ := H.f5 hi5
        obtain ⟨_, cs, lo, Vc, cs2, lo2, Vc2, hx2, hx3, hp, hp2, hle, k4, k5, l4, l5⟩ := H.f3 hi3
        have hcs : vs.size = cs2.size := by rw [hvs, hp2.size3]
        have f3' := H.f3 hi3
        have f1' := H.f1 hi1
        refine step_store_whole V rfl 46 (.tmp 8) (.tmp 28) rfl g 46 vs cs2 hx3 hx hg (by rw [← hcs, hvs]; exact upd_size) hcs (hp2.one) ?_
        intro V' hg' ho
        have hgr := ho.out
        have f4' := H.f4 hi4
        have f6' := H.f6 hi6
        have be' := H.be.grown hgr H.be.size (fun x hx => by injection hx with hx; omega)
        have f1n := f1'.grown5 hgr hi5 hx
        have f3n := f3'.grown5 hgr hi5 hx
        have f4n := f4'.grown hgr (fun e => hne (e.trans hx.symm))
        have f6n : ∃ cs g, x26 = .agg cs ∧ x7 = .pointer (some ⟨g, 0, none⟩) ∧ V'.heap[g]? = some (.cells cs 46 (0, 0)) := by
          obtain ⟨c0, g0, a0, a1, a2⟩ := f6'
          exact ⟨c0, g0, a0, a1, (hgr.block g0 (lt_of_heapF a2) (by intro e; injection e with e; subst e; exact hne (a1.trans hx.symm))).trans a2⟩
        exact hK _ _ ⟨_, _, _, _, _, _, rfl, ⟨be', fun p q => H.ne (by rw [getD_set_ne (by decide)] at p; exact p) (by rw [getD_set_ne (by decide)] at q; exact q), fun h => ⟨getD_mono (H.i6 (by rw [getD_set_ne (by decide)] at h; exact h)).1, getD_mono (H.i6 (by rw [getD_set_ne (by decide)] at h; exact h)).2.1, getD_mono (H.i6 (by rw [getD_set_ne (by decide)] at h; exact h)).2.2.1, getD_mono (H.i6 (by rw [getD_set_ne (by decide)] at h; exact h)).2.2.2⟩, fun _ => ⟨getD_mono hi6, getD_mono hi3⟩, fun h => H.f0 ((getD_set h).resolve_left (by decide)), fun _ => f1n.set (by decide) (by decide), fun h => H.f2 ((getD_set h).resolve_left (by decide)), fun _ => f3n.set (by decide) (by decide), fun _ => f4n, fun _ => ⟨g, cs2, hg0, hx, hg'.out, hp2.size3⟩, fun _ => f6n, fun _ => ⟨cs2, g, hx3, hx, hg'.out⟩⟩⟩
    case done =>
      rintro L a V ⟨x7, x8, x25, x26, x27, x28, rfl, H⟩ hall
      obtain ⟨_, csC, lo, Vc, csD, lo2, Vc2, rfl, rfl, hp, hp2, hle, k4, k5, l4, l5⟩ := H.f3 (hall 3 (by decide))
      obtain ⟨cs', g7, e1, rfl, hg7⟩ := H.f6 (hall 6 (by decide))
      injection e1 with e1
      subst e1
      obtain ⟨cs', g8, e1, rfl, hg8⟩ := H.f7 (hall 7 (by decide))
      injection e1 with e1
      subst e1
      obtain rfl := H.f0 (hall 0 (by decide))
      obtain rfl := H.f2 (hall 2 (by decide))
      have o7 := k4 (hall 4 (by decide)) g7 rfl
      have o8 := k5 (hall 5 (by decide)) g8 rfl
      have hbv := H.be
      have hlw := B3.out.size
      have hlo : W3.heap.size ≤ lo := hp.1
      have hg0 := (hbv.block _ (lt_of_heapF Y0.out)).trans Y0.out
      have hg1 := (hbv.block _ (lt_of_heapF Y1.out)).trans Y1.out
      have hx5 := (hbv.block _ (lt_of_heapF X5.out)).trans X5.out
      have hx6 := (hbv.block _ (lt_of_heapF X6.out)).trans X6.out
      have lt5 := lt_of_heapF X5.out
      have lt0 := lt_of_heapF Y0.out
      have hbw : Below w.heap.size w V := B3.out.trans (hbv.mono hlw)
      have hoC : UpdO V lo csC da := hp.2.2.1.keep hp.2.2.2
      have hcC : UpdC V V.heap.size csC da := hoC.updC
      have hsC : (Tryz.prog.info? 46).map (·.size) = some csC.size := by rw [hp.size3]; exact upd_size
      have hsD : (Tryz.prog.info? 46).map (·.size) = some csD.size := by rw [hp2.size3]; exact upd_size
      have hv1 : ∀ W', Below V.heap.size V W' → Calls Tryz.prog 19 #[.agg ca, .agg cb] W' fun e w' => e = .returned (.bool (decide (da = db))) ∧ Below W'.heap.size W' w' := fun W' hW' =>
        have hbb := hbw.trans (hW'.mono hbw.size)
        usame_any ca cb da db W' ((CAH.out.below hbb).more hbb.size) ((CBH.out.below hbb).more hbb.size) OKA.out OKB.out
      have hr1 : ∀ W', Below V.heap.size V W' → Calls Tryz.prog 20 #[.agg ca, .agg cb] W' fun e w' => e = .returned (.bool (decide (da = db))) ∧ Below W'.heap.size W' w' := fun W' hW' =>
        have hbb := hbw.trans (hW'.mono hbw.size)
        rusame_any ca cb da db W' ((CAH.out.below hbb).more hbb.size) ((CBH.out.below hbb).more hbb.size) OKA.out OKB.out
      have he1 : ∀ W', Below V.heap.size V W' → Calls Tryz.prog 21 #[.agg ca] W' fun e w' => e = .returned (.bool (EmpU da)) ∧ Below W'.heap.size W' w' := fun W' hW' =>
        have hbb := hbw.trans (hW'.mono hbw.size)
        uempty_any ca da W' ((CAH.out.below hbb).more hbb.size) (by have := BDA.out; omega) (by have := BDA.out; omega) (by have := BDA.out; omega)
      have hr2 : ∀ W', Below V.heap.size V W' → Calls Tryz.prog 20 #[.agg csC, .agg ca] W' fun e w' => e = .returned (.bool true) ∧ Below W'.heap.size W' w' := fun W' hW' => by
        have hbb := hbw.trans (hW'.mono hbw.size)
        have := rusame_any csC ca da da W' ((hcC.below hW').more hW'.size) ((CAH.out.below hbb).more hbb.size) OKA.out OKA.out
        rw [decide_eq_true rfl] at this; exact this
      obtain ⟨eq, heq⟩ : ∃ eq, eq = decide (da = db) := ⟨_, rfl⟩
      rw [← heq] at hv1 hr1
      obtain ⟨emp, hemp⟩ : ∃ emp, emp = EmpU da := ⟨_, rfl⟩
      rw [← hemp] at he1
      have hq : (((da.wd.length : Int) + (da.ats.length : Int) + (da.rts.length : Int)) == 0) = emp := by rw [hemp]; unfold EmpU; rw [Bool.eq_iff_iff]; simp only [decide_eq_true_eq, beq_iff_eq]
      have hca := CAH.out
      obtain ⟨A1, c1, A2, c2, A3, c3, eca, _⟩ := hca
      have ca0 : V.cell? ⟨w.heap.size, 0, none⟩ = some (.slice A1 da.wd.length c1) := by rw [cell_of_row _ _ 0 _ _ _ hg0, eca]; rfl
      have ca1 : V.cell? ⟨w.heap.size, 1, none⟩ = some (.slice A2 da.ats.length c2) := by rw [cell_of_row _ _ 1 _ _ _ hg0, eca]; rfl
      have ca2 : V.cell? ⟨w.heap.size, 2, none⟩ = some (.slice A3 da.rts.length c3) := by rw [cell_of_row _ _ 2 _ _ _ hg0, eca]; rfl
      have lv0 := lt_of_heapF hg0
      have HV1 := Lib.hid hv1
      have HR1 := Lib.hid hr1
      have HE1 := Lib.hid he1
      have HR2 := Lib.hid hr2
      have HP := Lib.hid hp
      have HP2 := Lib.hid hp2
      have G0 := Lib.hid hg0
      have G1 := Lib.hid hg1
      have G5 := Lib.hid hx5
      have G6 := Lib.hid hx6
      have G7 := Lib.hid hg7
      have G8 := Lib.hid hg8
      have HBW := hide hbw
      have HSC := Lib.hid hsC
      have HSD := Lib.hid hsD
      have HQ := Lib.hid hq
      have n1 : (0 : Int) ≤ (da.wd.length : Int) := Int.natCast_nonneg _
      have n2 : (0 : Int) ≤ (da.ats.length : Int) := Int.natCast_nonneg _
      have n3 : (0 : Int) ≤ (da.rts.length : Int) := Int.natCast_nonneg _
      have m1 : (da.wd.length : Int) ≤ 100 := by have := BDA.out; omega
      have m2 : (da.ats.length : Int) ≤ 30 := by have := BDA.out; omega
      have m3 : (da.rts.length : Int) ≤ 100 := by have := BDA.out; omega
      clear H hall hst hv1 hr1 he1 hr2 hp hp2 hg0 hg1 hx5 hx6 hg7 hg8 hbw hsC hsD hoC hcC k4 k5 l4 l5 hbv HCL B3 heq hemp hq eca Y0 Y1 X5 X6
      have hlt := lt_of_heapF G7.out
      have hlt8 := lt_of_heapF G8.out
      go_wp2_with fail
      rw [HQ.out]
      refine wp_region_quietC (fun w' => Below V.heap.size V w') (by kernel_rfl) (by kernel_rfl) (Below.refl _ _ |>.drew) ?_
      repeat (first
        | go_big_quiet_skip
        | (go_big_quiet_want
           first
           | (refine quiet_loadA _ _ rfl ⟨g5, 0, none⟩ rfl (.agg ca) (fun w' hw' => run_loadVar_rowF w' g5 46 46 ca (0, 0) _ ((hw'.block _ (lt_of_heapF G5.out)).trans G5.out) Tryz.underlying46 rfl HSA.out) ?_; go_big_quiet_on; simp only [Act.put, List.setIfInBounds_toArray, List.set_cons_zero, List.set_cons_succ])
           | (refine quiet_loadA _ _ rfl ⟨g6, 0, none⟩ rfl (.agg cb) (fun w' hw' => run_loadVar_rowF w' g6 46 46 cb (0, 0) _ ((hw'.block _ (lt_of_heapF G6.out)).trans G6.out) Tryz.underlying46 rfl HSB.out) ?_; go_big_quiet_on; simp only [Act.put, List.setIfInBounds_toArray, List.set_cons_zero, List.set_cons_succ])
           | (refine quiet_loadA _ _ rfl ⟨w.heap.size, 0, none⟩ rfl (.agg ca) (fun w' hw' => run_loadVar_rowF w' w.heap.size 44 44 ca (0, 0) _ ((hw'.block _ (lt_of_heapF G0.out)).trans G0.out) Tryz.underlying44 rfl HRA.out) ?_; go_big_quiet_on; simp only [Act.put, List.setIfInBounds_toArray, List.set_cons_zero, List.set_cons_succ])
           | (refine quiet_loadA _ _ rfl ⟨(w.heap.size + 1), 0, none⟩ rfl (.agg cb) (fun w' hw' => run_loadVar_rowF w' (w.heap.size + 1) 44 44 cb (0, 0) _ ((hw'.block _ (lt_of_heapF G1.out)).trans G1.out) Tryz.underlying44 rfl HRB.out) ?_; go_big_quiet_on; simp only [Act.put, List.setIfInBounds_toArray, List.set_cons_zero, List.set_cons_succ])
           | (refine quiet_loadA _ _ rfl ⟨g7, 0, none⟩ rfl (.agg csC) (fun w' hw' => run_loadVar_rowF w' g7 46 46 csC (0, 0) _ ((hw'.block _ (lt_of_heapF G7.out)).trans G7.out) Tryz.underlying46 rfl HSC.out) ?_; go_big_quiet_on; simp only [Act.put, List.setIfInBounds_toArray, List.set_cons_zero, List.set_cons_succ])
           | (go_big_quiet_op
              first
                | go_big_quiet_on
                | (refine ⟨_, fun _ _ => rfl, ?_⟩; go_big_quiet_on)
                | (with_reducible refine ⟨.bool eq, fun w' hw' => (HV1.out w' hw').mono ?_, ?_⟩; exact (fun e w1 h => ⟨h.1, hw'.trans (h.2.mono hw'.size)⟩); go_big_quiet_on)
                | (with_reducible refine ⟨.bool eq, fun w' hw' => (HR1.out w' hw').mono ?_, ?_⟩; exact (fun e w1 h => ⟨h.1, hw'.trans (h.2.mono hw'.size)⟩); go_big_quiet_on)
                | (with_reducible refine ⟨.bool emp, fun w' hw' => (HE1.out w' hw').mono ?_, ?_⟩; exact (fun e w1 h => ⟨h.1, hw'.trans (h.2.mono hw'.size)⟩); go_big_quiet_on)
                | (with_reducible refine ⟨.bool true, fun w' hw' => (HR2.out w' hw').mono ?_, ?_⟩; exact (fun e w1 h => ⟨h.1, hw'.trans (h.2.mono hw'.size)⟩); go_big_quiet_on))))
      refine wpQuiet_nil ?_
      intro W6 hW6
      obtain ⟨v1, v2, v3, ecs, ⟨AW, cW, e1, _, _, rW⟩, ⟨AL, cL, e2, vs, rL, rO⟩, ⟨AR, cR, e3, _, _, rR⟩⟩ := HP.out.2.2.1
      subst e1
      subst e2
      subst e3
      subst ecs
      have hsh : Sh lo Vc W6 W6 := Sh.start (Nat.le_trans HP.out.2.1 hW6.size) (fun b h1 h2 => (hW6.block b (by have := HP.out.2.1; omega)).trans (HP.out.2.2.2 b h1 h2))
      have hg76 : W6.heap[g7]? = some (.cells #[.slice AW da.wd.length cW, .slice AL da.ats.length cL, .slice AR da.rts.length cR] 46 (0, 0)) := (hW6.block _ hlt).trans G7.out
      have c7 : ∀ wr, Sh lo Vc W6 wr → wr.cell? ⟨g7, 0, none⟩ = some (.slice AW da.wd.length cW) ∧ wr.cell? ⟨g7, 1, none⟩ = some (.slice AL da.ats.length cL) ∧ wr.cell? ⟨g7, 2, none⟩ = some (.slice AR da.rts.length cR) ∧ g7 < wr.heap.size := fun wr hs => by
        have hg := (hs.out g7 o7).trans hg76
        refine ⟨?_, ?_, ?_, lt_of_heapF hg⟩
        · rw [cell_of_row _ _ 0 _ _ _ hg]; rfl
        · rw [cell_of_row _ _ 1 _ _ _ hg]; rfl
        · rw [cell_of_row _ _ 2 _ _ _ hg]; rfl
      have hlw2 : w.heap.size < W6.heap.size := by have := lt_of_heapF G0.out; have := hW6.size; omega
      have hsz6 := hW6.size
      have C7 := Lib.hid c7
      have hW6o := hide hW6
      have RW := Lib.hid rW
      have RO := Lib.hid rO
      have RL := Lib.hid rL
      have RR := Lib.hid rR
      have HG76 := Lib.hid hg76
      clear c7 hW6 rW rO rL rR hg76 HV1 HR1 HE1 HR2 ca0 ca1 ca2 lv0
      have z0 := (C7.out W6 hsh).1
      have z1 := (C7.out W6 hsh).2.1
      have z2 := (C7.out W6 hsh).2.2.1
      have hz7 := (C7.out W6 hsh).2.2.2
      have HSH := hide hsh
      clear hsh
      go_wp2_with fail
      go_loopw [63] (fun i wr => ∃ k : Nat, k ≤ da.wd.length ∧ i = .int .i64 k ∧ Sh lo Vc W6 wr) (fun i _ => da.wd.length - (intOf i).toNat)
      case atStart => exact ⟨0, Nat.zero_le _, rfl, HSH.out⟩
      case round =>
        clear HSH z0 z1 z2 hz7
        obtain ⟨k, hk, rfl, hsh⟩ := hrel
        obtain ⟨wq, rfl⟩ : ∃ wq : World, wq = wr := ⟨_, rfl⟩
        have z0 := (C7.out wq hsh).1
        have z1 := (C7.out wq hsh).2.1
        have z2 := (C7.out wq hsh).2.2.1
        have hz7 := (C7.out wq hsh).2.2.2
        have hk0 : (0 : Int) ≤ (k : Int) := Int.natCast_nonneg _
        by_cases hkl : k < da.wd.length

        · obtain ⟨gq, eq_, s1, s2, s3, fq, nq, _⟩ := hsh.row RW.out (by omega)
          obtain ⟨y, hy⟩ := nq (k * 19) _ _ (by omega) (rtsV_at OKA.out.w2 k hkl 0 _ rfl)
          have fz := fq (k * 19)
          have hst := fun z => hsh.set hy s1 s2 z
          have HST := Lib.hid hst
          have hk1 : (k : Int) < (da.wd.length : Int) := by omega
          clear hst hsh fq nq s1 s2
          subst eq_
          go_wp2
          go_roundw
          case rel => exact ⟨k + 1, by omega, by go_num, HST.out _⟩
          case measure => simp [intOf]; omega

        · have hkn : k = da.wd.length := by omega
          have hkn1 : ¬ (k : Int) < (da.wd.length : Int) := by omega
          have HSH := hide hsh
          clear hsh
          go_wp2_with fail
          go_loopw [79] (fun i wr => ∃ k : Nat, k ≤ da.rts.length ∧ i = .int .i64 k ∧ Sh lo Vc W6 wr) (fun i _ => da.rts.length - (intOf i).toNat)
          case atStart => exact ⟨0, Nat.zero_le _, rfl, HSH.out⟩
          case round =>
            clear HSH z0 z1 z2 hz7
            obtain ⟨k, hk, rfl, hsh⟩ := hrel
            obtain ⟨wq, rfl⟩ : ∃ wq : World, wq = wr := ⟨_, rfl⟩
            have z0 := (C7.out wq hsh).1
            have z1 := (C7.out wq hsh).2.1
            have z2 := (C7.out wq hsh).2.2.1
            have hz7 := (C7.out wq hsh).2.2.2
            have hk0 : (0 : Int) ≤ (k : Int) := Int.natCast_nonneg _
            by_cases hkl : k < da.rts.length

            · obtain ⟨gq, eq_, s1, s2, s3, fq, nq, _⟩ := hsh.row RR.out (by omega)
              obtain ⟨y, hy⟩ := nq (k * 19) _ _ (by omega) (rtsV_at OKA.out.r2 k hkl 0 _ rfl)
              have fz := fq (k * 19)
              have hst := fun z => hsh.set hy s1 s2 z
              have HST := Lib.hid hst
              have hk1 : (k : Int) < (da.rts.length : Int) := by omega
              clear hst hsh fq nq s1 s2
              subst eq_
              go_wp2
              go_roundw
              case rel => exact ⟨k + 1, by omega, by go_num, HST.out _⟩
              case measure => simp [intOf]; omega

            · have hkn : k = da.rts.length := by omega
              have hkn1 : ¬ (k : Int) < (da.rts.length : Int) := by omega
              have HSH := hide hsh
              clear hsh
              go_wp2_with fail
              go_loopw [95] (fun i wr => ∃ k : Nat, k ≤ da.ats.length ∧ i = .int .i64 k ∧ Sh lo Vc W6 wr) (fun i _ => da.ats.length - (intOf i).toNat)
              case atStart => exact ⟨0, Nat.zero_le _, rfl, HSH.out⟩
              case round =>
                clear HSH z0 z1 z2 hz7
                obtain ⟨k, hk, rfl, hsh⟩ := hrel
                obtain ⟨wq, rfl⟩ : ∃ wq : World, wq = wr := ⟨_, rfl⟩
                have z0 := (C7.out wq hsh).1
                have z1 := (C7.out wq hsh).2.1
                have z2 := (C7.out wq hsh).2.2.1
                have hz7 := (C7.out wq hsh).2.2.2
                have hk0 : (0 : Int) ≤ (k : Int) := Int.natCast_nonneg _
                by_cases hkl : k < da.ats.length

                · obtain ⟨d, hd⟩ : ∃ d, da.ats[k]? = some d := ⟨_, List.getElem?_eq_getElem hkl⟩
                  obtain ⟨S1, d1, us, A', c', S3, d3, S4, d4, ech, _, _, hL, _⟩ := RO.out k d hd
                  have hch : chunk vs k = [.int .i64 d.ty, .bool d.part, .int .u32 d.n, .int .u32 d.m, .slice S1 d.segs.length d1, .slice A' d.list.length c', .slice S3 d.byts.length d3, .int .i64 d.fam, .slice S4 d.routes.length d4] := by
                    have := congrArg Array.toList ech; simpa using this
                  have q2 : vs[k * 9 + 2]? = some (.int .u32 d.n) := by rw [← chunk_get (vs := vs) (i := k) (j := 2) (by decide), hch]; rfl
                  have q5 : vs[k * 9 + 5]? = some (.slice A' d.list.length c') := by rw [← chunk_get (vs := vs) (i := k) (j := 5) (by decide), hch]; rfl
                  have fdm := few_bounds (BDA.out.2.2.2 d (List.mem_of_getElem? hd))
                  obtain ⟨gS, eS, s1, s2, s3, fS, nS, sS⟩ := hsh.row RL.out (by omega)
                  obtain ⟨x, hx⟩ := nS (k * 9 + 2) _ _ (by omega) q2
                  have hy := sS (k * 9 + 5) _ _ _ (by omega) q5
                  have fz0 := fS (k * 9 + 2)
                  have hne : gS ≠ g7 := by omega
                  have u7 : ∀ v, (wq.setCell ⟨gS, k * 9 + 2, none⟩ v).cell? ⟨g7, 1, none⟩ = some (.slice (some ⟨gS, 0, none⟩) da.ats.length cL) := fun v => (World.cell?_setCell_far wq ⟨gS, k * 9 + 2, none⟩ ⟨g7, 1, none⟩ v hne).trans (by rw [← eS]; exact z1)
                  have uS : ∀ v, (wq.setCell ⟨gS, k * 9 + 2, none⟩ v).cell? ⟨gS, k * 9 + 5, none⟩ = some (.slice A' d.list.length c') := fun v => (World.cell?_setCell_other _ _ _ _ (by intro e; injection e; omega)).trans hy
                  have hst := fun z => hsh.set hx s1 s2 z
                  have HST := Lib.hid hst
                  have HV := Lib.hid hL
                  have HQ5 := Lib.hid q5
                  have hk1 : (k : Int) < (da.ats.length : Int) := by omega
                  have hbm2 : ((d.list.length : Nat) : Int) ≤ 200 := by have := fdm.2.2.1; omega
                  have hbm0 : (0 : Int) ≤ (d.list.length : Int) := Int.natCast_nonneg _
                  clear hst hsh fS nS sS hL q2 q5 ech hch hd fdm
                  have ES := Lib.hid eS
                  subst eS
                  go_wp2_with fail
                  go_loopw [114] (fun i wr => ∃ j : Nat, j ≤ d.list.length ∧ i = .int .i64 j ∧ Sh lo Vc W6 wr) (fun i _ => d.list.length - (intOf i).toNat)
                  case atStart => exact ⟨0, Nat.zero_le _, rfl, HST.out _⟩
                  case round =>
                    obtain ⟨j, hj, rfl, hsh⟩ := hrel
                    obtain ⟨wi, rfl⟩ : ∃ wi : World, wi = wr := ⟨_, rfl⟩
                    have y1 := (C7.out wi hsh).2.1
                    have yz := (C7.out wi hsh).2.2.2
                    have hj0 : (0 : Int) ≤ (j : Int) := Int.natCast_nonneg _
                    obtain ⟨gS', eS', t1, t2, t3, _, _, sS'⟩ := hsh.row RL.out (by omega)
                    have eg : gS' = gS := by injection eS' with a; injection a with a; exact a.symm
                    subst eg
                    have hy' := sS' (k * 9 + 5) _ _ _ (by omega) HQ5.out
                    by_cases jlt : j < d.list.length
                    · obtain ⟨gA, eA, a1, a2, a3, fA, nA, _⟩ := hsh.row HV.out (by omega)
                      obtain ⟨y, hy2⟩ := nA j _ _ (by omega) (by rw [uV, List.getElem?_map, List.getElem?_eq_getElem jlt]; rfl)
                      have fz := fA j
                      have hst2 := fun z => hsh.set hy2 a1 a2 z
                      have HST2 := Lib.hid hst2
                      have hj1 : (j : Int) < (d.list.length : Int) := by omega
                      clear hst2 hsh fA nA sS' HST hx hy u7 uS fz0
                      subst eA
                      go_wp2
                      go_roundw
                      case rel => exact ⟨j + 1, by omega, by go_num, HST2.out _⟩
                      case measure => simp [intOf]; omega
                    · have hjn : j = d.list.length := by omega
                      have hjn1 : ¬ (j : Int) < (d.list.length : Int) := by omega
                      have HSH := hide hsh
                      clear hsh sS' HST hx hy u7 uS fz0
                      go_wp2
                      go_roundw
                      case rel => exact ⟨k + 1, by omega, by go_num, HSH.out⟩
                      case measure => simp [intOf]; omega

                · have hkn : k = da.ats.length := by omega
                  have hkn1 : ¬ (k : Int) < (da.ats.length : Int) := by omega
                  have HSH := hide hsh
                  clear hsh

                  go_wp2_with (first
                    | (go_at_call 17; refine (ualive_any _).mono ?_; rintro e w7 ⟨rfl, hb7⟩
                       have hz := HSH.out.size
                       have hb67 := hW6o.out.size
                       have q0 : w7.heap[w.heap.size]? = some (.cells ca 44 (0, 0)) := (hb7.block _ (by rw [hz]; have := hlw2; omega)).trans ((HSH.out.out _ (.inl (by omega))).trans ((hW6o.out.block _ (lt_of_heapF G0.out)).trans G0.out))
                       have q5 : w7.heap[g5]? = some (.cells ca 46 (0, 0)) := (hb7.block _ (by rw [hz]; have := lt_of_heapF G5.out; omega)).trans ((HSH.out.out _ (.inl (by omega))).trans ((hW6o.out.block _ (lt_of_heapF G5.out)).trans G5.out))
                       have q8 : w7.heap[g8]? = some (.cells csD 46 (0, 0)) := (hb7.block _ (by rw [hz]; omega)).trans ((HSH.out.out _ o8).trans ((hW6o.out.block _ hlt8).trans G8.out))
                       have hbw7 : Below w.heap.size w w7 := (HSH.out.below (HBW.out.trans (hW6o.out.mono HBW.out.size)) (by omega)).trans (hb7.mono (by rw [hz]; have := HBW.out.size; omega))
                       have hD : UpdC w7 w7.heap.size csD da := by
                         have a1 : UpdO V lo2 csD da := HP2.out.2.2.1.keep HP2.out.2.2.2
                         have a2 : UpdO W6 lo2 csD da := a1.keep fun b _ h => hW6o.out.block b h
                         have a3 : UpdO wq lo2 csD da := a2.keep fun b h1 _ => HSH.out.out b (.inr (by omega))
                         exact (a3.keep fun b _ h => hb7.block b h).updC
                       have hs := rusame_any csD ca da da w7 hD ((CAH.out.below hbw7).more hbw7.size) OKA.out OKA.out
                       rw [decide_eq_true rfl] at hs
                       have Q0 := Lib.hid q0
                       have Q5 := Lib.hid q5
                       have Q8 := Lib.hid q8
                       have HB7 := hide hbw7
                       have HS7 := hide hs
                       clear hb7 q0 q5 q8 hbw7 hD hs hz)
                    | ((with_reducible refine wpList_load_wholeG w7 ?hgd1 46 (.tmp 8) ?ho1 g8 46 csD _ ?hx1 Q8.out Tryz.underlying46 ?hd1 ?hi1 ?_); (case hgd1 => rfl); (case ho1 => rfl); (case hx1 => rfl); (case hd1 => rfl); (case hi1 => exact HSD.out))
                    | ((with_reducible refine wpList_load_wholeG w7 ?hgd2 44 (.tmp 2) ?ho2 w.heap.size 44 ca _ ?hx2 Q0.out Tryz.underlying44 ?hd2 ?hi2 ?_); (case hgd2 => rfl); (case ho2 => rfl); (case hx2 => rfl); (case hd2 => rfl); (case hi2 => exact HRA.out))
                    | (go_at_call 20; (with_reducible refine HS7.out.mono ?_); rintro e w8 ⟨rfl, hb8⟩
                       have q0 := (hb8.block _ (lt_of_heapF Q0.out)).trans Q0.out
                       have q5 := (hb8.block _ (lt_of_heapF Q5.out)).trans Q5.out
                       have hbw8 := HB7.out.trans (hb8.mono HB7.out.size)
                       have hs := rusame_any ca ca da da w8 ((CAH.out.below hbw8).more hbw8.size) ((CAH.out.below hbw8).more hbw8.size) OKA.out OKA.out
                       rw [decide_eq_true rfl] at hs
                       have Q0' := Lib.hid q0
                       have Q5' := Lib.hid q5
                       have HB8 := hide hbw8
                       have HS8 := hide hs
                       clear hb8 q0 q5 hbw8 hs)
                    | ((with_reducible refine wpList_load_wholeG w8 ?hgd3 46 (.tmp 5) ?ho3 g5 46 ca _ ?hx3 Q5'.out Tryz.underlying46 ?hd3 ?hi3 ?_); (case hgd3 => rfl); (case ho3 => rfl); (case hx3 => rfl); (case hd3 => rfl); (case hi3 => exact HSA.out))
                    | ((with_reducible refine wpList_load_wholeG w8 ?hgd4 44 (.tmp 2) ?ho4 w.heap.size 44 ca _ ?hx4 Q0'.out Tryz.underlying44 ?hd4 ?hi4 ?_); (case hgd4 => rfl); (case ho4 => rfl); (case hx4 => rfl); (case hd4 => rfl); (case hi4 => exact HRA.out))
                    | (go_at_call 20; (with_reducible refine HS8.out.mono ?_); rintro e w9 ⟨rfl, hb9⟩
                       have HB9 := hide (HB8.out.trans (hb9.mono HB8.out.size))
                       clear hb9))
                  go_ret
                  exact ⟨rfl, HB9.out⟩
end Go.Proofs.YtnfclcbhehbchaaGreatDoor
