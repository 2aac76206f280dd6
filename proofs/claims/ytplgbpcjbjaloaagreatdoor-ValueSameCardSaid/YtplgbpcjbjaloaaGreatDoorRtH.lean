/- The law ValueSame up to its loops: small attributes, two copies, all compared. -/
import Derived.Test.YtplgbpcjbjaloaaGreatDoorRtG
import Derived.Test.YtplgbpcjbjaloaaGreatDoorFlgN
set_option autoImplicit false
namespace Go.Proofs.YtplgbpcjbjaloaaGreatDoor
open Go.RowKit

/-- A copy of an attribute, made between block lo and the end of world Vc, still as it was. -/
def Cp (V : World) (B : Nat) (d : AttrD) (cs : Array Value) (lo : Nat) (Vc : World) : Prop := B ≤ lo ∧ Vc.heap.size ≤ V.heap.size ∧ AttrO Vc lo cs d ∧ ∀ b, lo ≤ b → b < Vc.heap.size → V.heap[b]? = Vc.heap[b]?
theorem Cp.below {V V' : World} {B lo : Nat} {d : AttrD} {cs : Array Value} {Vc : World} (h : Cp V B d cs lo Vc) (hb : Below V.heap.size V V') : Cp V' B d cs lo Vc :=
  ⟨h.1, Nat.le_trans h.2.1 hb.size, h.2.2.1, fun b h1 h2 => (hb.block b (by have := h.2.1; omega)).trans (h.2.2.2 b h1 h2)⟩
theorem Cp.grown {V V' : World} {B lo g : Nat} {d : AttrD} {cs : Array Value} {Vc : World} (h : Cp V B d cs lo Vc) (hg : V.grownBy V' (some g)) (ho : g < lo ∨ Vc.heap.size ≤ g) : Cp V' B d cs lo Vc :=
  ⟨h.1, Nat.le_trans h.2.1 hg.size, h.2.2.1, fun b h1 h2 => (hg.block b (by have := h.2.1; omega) (by intro e; injection e; omega)).trans (h.2.2.2 b h1 h2)⟩
theorem Cp.size9 {V : World} {B lo : Nat} {d : AttrD} {cs : Array Value} {Vc : World} (h : Cp V B d cs lo Vc) : cs.size = 9 := by
  obtain ⟨A1, c1, vs, A2, c2, A3, c3, A4, c4, rfl, _⟩ := h.2.2.1; rfl
theorem Cp.one {V : World} {B lo : Nat} {d : AttrD} {cs : Array Value} {Vc : World} (h : Cp V B d cs lo Vc) : ∀ v ∈ cs.toList, v.oneCell' = true := by
  obtain ⟨A1, c1, vs, A2, c2, A3, c3, A4, c4, rfl, _⟩ := h.2.2.1; simp [Value.oneCell']
def Off (x : Value) (lo : Nat) (Vc : World) : Prop := ∀ g, x = .pointer (some ⟨g, 0, none⟩) → g < lo ∨ Vc.heap.size ≤ g
def F1 (V : World) (B : Nat) (d : AttrD) (L : Array Bool) (x22 x5 x6 : Value) : Prop :=
  ∃ cs lo Vc, x22 = .agg cs ∧ Cp V B d cs lo Vc ∧ (L.getD 4 false = true → Off x5 lo Vc) ∧ (L.getD 5 false = true → Off x6 lo Vc)
def F3 (V : World) (B : Nat) (d : AttrD) (L : Array Bool) (x22 x24 x5 x6 : Value) : Prop :=
  L.getD 1 false = true ∧ ∃ cs lo Vc cs2 lo2 Vc2, x22 = .agg cs ∧ x24 = .agg cs2 ∧ Cp V B d cs lo Vc ∧ Cp V B d cs2 lo2 Vc2 ∧ Vc.heap.size ≤ lo2 ∧
    (L.getD 4 false = true → Off x5 lo Vc) ∧ (L.getD 5 false = true → Off x6 lo Vc) ∧ (L.getD 4 false = true → Off x5 lo2 Vc2) ∧ (L.getD 5 false = true → Off x6 lo2 Vc2)
def Bk (V : World) (B : Nat) (x : Value) : Prop := ∃ g vs, B ≤ g ∧ x = .pointer (some ⟨g, 0, none⟩) ∧ V.heap[g]? = some (.cells vs 28 (0, 0)) ∧ vs.size = 9
section
variable {V V' : World} {B g : Nat} {d : AttrD} {L : Array Bool} {x22 x24 x5 x6 x : Value}
theorem Bk.below (h : Bk V B x) (hb : Below V.heap.size V V') : Bk V' B x := by
  obtain ⟨g, vs, h1, h2, h3, h4⟩ := h; exact ⟨g, vs, h1, h2, (hb.block _ (lt_of_heapF h3)).trans h3, h4⟩
theorem Bk.grown (h : Bk V B x) (hg : V.grownBy V' (some g)) (hne : x ≠ .pointer (some ⟨g, 0, none⟩)) : Bk V' B x := by
  obtain ⟨q, vs, h1, h2, h3, h4⟩ := h
  exact ⟨q, vs, h1, h2, (hg.block _ (lt_of_heapF h3) (by intro e; injection e with e; subst e; exact hne h2)).trans h3, h4⟩
theorem F1.below (h : F1 V B d L x22 x5 x6) (hb : Below V.heap.size V V') : F1 V' B d L x22 x5 x6 := by
  obtain ⟨cs, lo, Vc, a, b, c, e⟩ := h; exact ⟨cs, lo, Vc, a, b.below hb, c, e⟩
theorem F3.below (h : F3 V B d L x22 x24 x5 x6) (hb : Below V.heap.size V V') : F3 V' B d L x22 x24 x5 x6 := by
  obtain ⟨i, cs, lo, Vc, cs2, lo2, Vc2, a, b, c, e, r⟩ := h; exact ⟨i, cs, lo, Vc, cs2, lo2, Vc2, a, b, c.below hb, e.below hb, r⟩
theorem F1.set {j : Nat} (h : F1 V B d L x22 x5 x6) (h4 : 4 ≠ j) (h5 : 5 ≠ j) : F1 V B d (L.setIfInBounds j true) x22 x5 x6 := by
  obtain ⟨cs, lo, Vc, a, b, c, e⟩ := h
  exact ⟨cs, lo, Vc, a, b, fun h => c (by rw [getD_set_ne h4] at h; exact h), fun h => e (by rw [getD_set_ne h5] at h; exact h)⟩
theorem F3.set {j : Nat} (h : F3 V B d L x22 x24 x5 x6) (h4 : 4 ≠ j) (h5 : 5 ≠ j) : F3 V B d (L.setIfInBounds j true) x22 x24 x5 x6 := by
  obtain ⟨i, cs, lo, Vc, cs2, lo2, Vc2, a, b, c, e, f, k4, k5, l4, l5⟩ := h
  exact ⟨getD_mono i, cs, lo, Vc, cs2, lo2, Vc2, a, b, c, e, f, fun h => k4 (by rw [getD_set_ne h4] at h; exact h), fun h => k5 (by rw [getD_set_ne h5] at h; exact h), fun h => l4 (by rw [getD_set_ne h4] at h; exact h), fun h => l5 (by rw [getD_set_ne h5] at h; exact h)⟩
theorem off_new {lo : Nat} {Vc : World} {cs : Array Value} (h : Cp V B d cs lo Vc) : Off (.pointer (some ⟨V.heap.size, 0, none⟩)) lo Vc := fun g hg => by
  injection hg with hg; injection hg with hg; injection hg with hg; have := h.2.1; omega
theorem F1.new4 (h : F1 V B d L x22 x5 x6) (hb : Below V.heap.size V V') : F1 V' B d (L.setIfInBounds 4 true) x22 (.pointer (some ⟨V.heap.size, 0, none⟩)) x6 := by
  obtain ⟨cs, lo, Vc, a, b, c, e⟩ := h
  exact ⟨cs, lo, Vc, a, b.below hb, fun _ => off_new b, fun h => e (by rw [getD_set_ne (by decide)] at h; exact h)⟩
theorem F1.new5 (h : F1 V B d L x22 x5 x6) (hb : Below V.heap.size V V') : F1 V' B d (L.setIfInBounds 5 true) x22 x5 (.pointer (some ⟨V.heap.size, 0, none⟩)) := by
  obtain ⟨cs, lo, Vc, a, b, c, e⟩ := h
  exact ⟨cs, lo, Vc, a, b.below hb, fun h => c (by rw [getD_set_ne (by decide)] at h; exact h), fun _ => off_new b⟩
theorem F3.new4 (h : F3 V B d L x22 x24 x5 x6) (hb : Below V.heap.size V V') : F3 V' B d (L.setIfInBounds 4 true) x22 x24 (.pointer (some ⟨V.heap.size, 0, none⟩)) x6 := by
  obtain ⟨i, cs, lo, Vc, cs2, lo2, Vc2, a, b, c, e, f, k4, k5, l4, l5⟩ := h
  exact ⟨getD_mono i, cs, lo, Vc, cs2, lo2, Vc2, a, b, c.below hb, e.below hb, f, fun _ => off_new c, fun h => k5 (by rw [getD_set_ne (by decide)] at h; exact h), fun _ => off_new e, fun h => l5 (by rw [getD_set_ne (by decide)] at h; exact h)⟩
theorem F3.new5 (h : F3 V B d L x22 x24 x5 x6) (hb : Below V.heap.size V V') : F3 V' B d (L.setIfInBounds 5 true) x22 x24 x5 (.pointer (some ⟨V.heap.size, 0, none⟩)) := by
  obtain ⟨i, cs, lo, Vc, cs2, lo2, Vc2, a, b, c, e, f, k4, k5, l4, l5⟩ := h
  exact ⟨getD_mono i, cs, lo, Vc, cs2, lo2, Vc2, a, b, c.below hb, e.below hb, f, fun h => k4 (by rw [getD_set_ne (by decide)] at h; exact h), fun _ => off_new c, fun h => l4 (by rw [getD_set_ne (by decide)] at h; exact h), fun _ => off_new e⟩
theorem F1.grown (h : F1 V B d L x22 x5 x6) (hg : V.grownBy V' (some g)) (h4 : L.getD 4 false = true) (hx : x5 = .pointer (some ⟨g, 0, none⟩)) : F1 V' B d L x22 x5 x6 := by
  obtain ⟨cs, lo, Vc, a, b, c, e⟩ := h; exact ⟨cs, lo, Vc, a, b.grown hg (c h4 g hx), c, e⟩
theorem F1.grown5 (h : F1 V B d L x22 x5 x6) (hg : V.grownBy V' (some g)) (h5 : L.getD 5 false = true) (hx : x6 = .pointer (some ⟨g, 0, none⟩)) : F1 V' B d L x22 x5 x6 := by
  obtain ⟨cs, lo, Vc, a, b, c, e⟩ := h; exact ⟨cs, lo, Vc, a, b.grown hg (e h5 g hx), c, e⟩
theorem F3.grown (h : F3 V B d L x22 x24 x5 x6) (hg : V.grownBy V' (some g)) (h4 : L.getD 4 false = true) (hx : x5 = .pointer (some ⟨g, 0, none⟩)) : F3 V' B d L x22 x24 x5 x6 := by
  obtain ⟨i, cs, lo, Vc, cs2, lo2, Vc2, a, b, c, e, f, k4, k5, l4, l5⟩ := h
  exact ⟨i, cs, lo, Vc, cs2, lo2, Vc2, a, b, c.grown hg (k4 h4 g hx), e.grown hg (l4 h4 g hx), f, k4, k5, l4, l5⟩
theorem F3.grown5 (h : F3 V B d L x22 x24 x5 x6) (hg : V.grownBy V' (some g)) (h5 : L.getD 5 false = true) (hx : x6 = .pointer (some ⟨g, 0, none⟩)) : F3 V' B d L x22 x24 x5 x6 := by
  obtain ⟨i, cs, lo, Vc, cs2, lo2, Vc2, a, b, c, e, f, k4, k5, l4, l5⟩ := h
  exact ⟨i, cs, lo, Vc, cs2, lo2, Vc2, a, b, c.grown hg (k5 h5 g hx), e.grown hg (l5 h5 g hx), f, k4, k5, l4, l5⟩
end
structure LS (w W2 : World) (da : AttrD) (ca cb : Array Value) (V : World) (L : Array Bool) (x5 x6 x21 x22 x23 x24 : Value) : Prop where
  be : Below W2.heap.size W2 V
  ne : L.getD 4 false = true → L.getD 5 false = true → x5 ≠ x6
  i6 : L.getD 6 false = true → L.getD 4 false = true ∧ L.getD 5 false = true ∧ L.getD 1 false = true ∧ L.getD 3 false = true
  i7 : L.getD 7 false = true → L.getD 6 false = true ∧ L.getD 3 false = true
  f0 : L.getD 0 false = true → x21 = .agg ca
  f1 : L.getD 1 false = true → F1 V W2.heap.size da L x22 x5 x6
  f2 : L.getD 2 false = true → x23 = .agg ca
  f3 : L.getD 3 false = true → F3 V W2.heap.size da L x22 x24 x5 x6
  f4 : L.getD 4 false = true → Bk V W2.heap.size x5
  f5 : L.getD 5 false = true → Bk V W2.heap.size x6
  f6 : L.getD 6 false = true → ∃ cs g, x22 = .agg cs ∧ x5 = .pointer (some ⟨g, 0, none⟩) ∧ V.heap[g]? = some (.cells cs 28 (0, 0))
  f7 : L.getD 7 false = true → ∃ cs g, x24 = .agg cs ∧ x6 = .pointer (some ⟨g, 0, none⟩) ∧ V.heap[g]? = some (.cells cs 28 (0, 0))
theorem LS.more {w W2 V V' : World} {da : AttrD} {ca cb : Array Value} {L : Array Bool} {x5 x6 x21 x22 x23 x24 : Value} (H : LS w W2 da ca cb V L x5 x6 x21 x22 x23 x24) (hb : Below V.heap.size V V') : LS w W2 da ca cb V' L x5 x6 x21 x22 x23 x24 :=
  ⟨H.be.trans (hb.mono H.be.size), H.ne, H.i6, H.i7, H.f0, fun h => (H.f1 h).below hb, H.f2, fun h => (H.f3 h).below hb, fun h => (H.f4 h).below hb, fun h => (H.f5 h).below hb,
    fun h => by obtain ⟨cs, g, a, b, c⟩ := H.f6 h; exact ⟨cs, g, a, b, (hb.block _ (lt_of_heapF c)).trans c⟩, fun h => by obtain ⟨cs, g, a, b, c⟩ := H.f7 h; exact ⟨cs, g, a, b, (hb.block _ (lt_of_heapF c)).trans c⟩⟩
set_option maxRecDepth 100000 in
set_option maxHeartbeats 8000000 in
theorem same_main (ca cb : Array Value) (da db : AttrD) (w : World) (ha : AttrC w w.heap.size ca da) (hb : AttrC w w.heap.size cb db) (oka : AttrOk da) (okb : AttrOk db) (fa : FewA da = true) (fb : FewA db = true) :
    Calls Tryz.prog 3 #[.agg ca, .agg cb] w fun e w' => e = .returned (.bool true) ∧ Below w.heap.size w w' := by
  have hA : ∀ W, Below w.heap.size w W → Calls Tryz.prog 5 #[.agg ca] W fun e w' => e = .returned (.bool true) ∧ Below W.heap.size W w' := fun W hW => by
    have := rfewA_any ca da W ((ha.below hW).more hW.size) oka.s1 oka.s2
    rw [fa] at this; exact this
  have hB : ∀ W, Below w.heap.size w W → Calls Tryz.prog 5 #[.agg cb] W fun e w' => e = .returned (.bool true) ∧ Below W.heap.size W w' := fun W hW => by
    have := rfewA_any cb db W ((hb.below hW).more hW.size) okb.s1 okb.s2
    rw [fb] at this; exact this
  have hC : ∀ W, Below w.heap.size w W → Calls Tryz.prog 7 #[.agg ca] W fun e w' => ∃ cs', e = .returned (.agg cs') ∧ AttrO w' W.heap.size cs' da ∧ Below W.heap.size W w' := fun W hW => by
    have fb := few_bounds fa
    exact cloneA_any ca da W ((ha.below hW).more hW.size) (by omega) (fun s hs => by have := fb.2.1 s hs; omega) (by omega) (by omega) (by omega)
  have h9a : ca.size = 9 := by obtain ⟨_, _, _, _, _, _, _, _, rfl, _⟩ := ha; rfl
  have h9b : cb.size = 9 := by obtain ⟨_, _, _, _, _, _, _, _, rfl, _⟩ := hb; rfl
  have CAH := Lib.hid ha
  have CBH := Lib.hid hb
  have OKA := Lib.hid oka
  have OKB := Lib.hid okb
  clear ha hb oka okb fa fb
  obtain ⟨W, hW⟩ : ∃ W, W = ((w.alloc (.cells ca 28)).alloc (.cells cb 28)) := ⟨_, rfl⟩
  have n0 : W.heap[w.heap.size]? = some (.cells ca 28 (0, 0)) := by rw [hW]; exact heap_alloc2_old _ _ _
  have n1 : W.heap[w.heap.size + 1]? = some (.cells cb 28 (0, 0)) := by rw [hW]; exact heap_alloc2_new _ _ _
  have nb : Below w.heap.size w W := by rw [hW]; exact ((Below.refl _ _).alloc (Nat.le_refl _) _).alloc (by simp) _
  have HA := hide (hA W nb)
  have HB := hide hB
  have HC := Lib.hid hC
  have NB := hide nb
  have N0 := Lib.hid n0
  have N1 := Lib.hid n1
  have HW := Lib.hid hW
  have has := attr_size
  have hsa : (Tryz.prog.info? 28).map (·.size) = some ca.size := by rw [h9a]; exact has
  have hsb : (Tryz.prog.info? 28).map (·.size) = some cb.size := by rw [h9b]; exact has
  have HSA := Lib.hid hsa
  have HSB := Lib.hid hsb
  clear hA hB hC n0 n1 nb hW has hsa hsb h9a h9b
  go_enter Tryz.func3, Tryz.ntmps3
  go_wp2_with (first
    | (rw [← HW.out]; (with_reducible refine wpList_load_wholeF W ?hgd1 28 (.tmp 2) ?ho1 w.heap.size 28 ca _ ?hx1 N0.out Tryz.underlying28 ?hd1 ?hi1 ?_); (case hgd1 => rfl); (case ho1 => rfl); (case hx1 => rfl); (case hd1 => rfl); (case hi1 => exact HSA.out))
    | (go_at_call 5; (with_reducible refine HA.out.mono ?_); rintro e w1 ⟨rfl, hb1⟩
       have m0 := (hb1.block _ (lt_of_heapF N0.out)).trans N0.out
       have m1 := (hb1.block _ (lt_of_heapF N1.out)).trans N1.out
       have M0 := Lib.hid m0
       have M1 := Lib.hid m1
       have B1 := hide (NB.out.trans (hb1.mono NB.out.size))
       clear m0 m1 hb1)
    | ((with_reducible refine wpList_load_wholeH w1 ?hgd2 28 (.tmp 3) ?ho2 (w.heap.size + 1) 28 cb _ ?hx2 M1.out Tryz.underlying28 ?hd2 ?hi2 ?_); (case hgd2 => rfl); (case ho2 => rfl); (case hx2 => rfl); (case hd2 => rfl); (case hi2 => exact HSB.out))
    | (go_at_call 5; (with_reducible refine (HB.out _ B1.out).mono ?_); rintro e W2 ⟨rfl, hb2⟩
       have k0 := (hb2.block _ (lt_of_heapF M0.out)).trans M0.out
       have k1 := (hb2.block _ (lt_of_heapF M1.out)).trans M1.out
       have K0 := Lib.hid k0
       have K1 := Lib.hid k1
       have B2 := hide (B1.out.trans (hb2.mono B1.out.size))
       clear k0 k1 hb2))
  have HCL : Hid (∀ W, Below W2.heap.size W2 W → Calls Tryz.prog 7 #[.agg ca] W fun e w' => ∃ cs', e = .returned (.agg cs') ∧ AttrO w' W.heap.size cs' da ∧ Below W.heap.size W w') := Lib.hid (fun W hW => HC.out W (B2.out.trans (hW.mono B2.out.size)))
  clear HC HA HB N0 N1 M0 M1 HW NB B1
  have CAV := CAH.out
  have CA2 := Lib.hid CAV
  clear CAV
  have hst : LS w W2 da ca cb W2.drew (Array.replicate 8 false) undef undef undef undef undef undef :=
    ⟨(Below.refl _ _).drew, fun h => absurd h (by decide), fun h => absurd h (by decide), fun h => absurd h (by decide), fun h => absurd h (by decide), fun h => absurd h (by decide), fun h => absurd h (by decide), fun h => absurd h (by decide), fun h => absurd h (by decide), fun h => absurd h (by decide), fun h => absurd h (by decide), fun h => absurd h (by decide)⟩
  refine wp_region_inv (by kernel_rfl) (fun L a V => ∃ x5 x6 x21 x22 x23 x24 : Value, a = ⟨List.toArray ((.agg ca) :: (.agg cb) :: (.pointer (some ⟨w.heap.size, 0, none⟩)) :: (.pointer (some ⟨w.heap.size + 1, 0, none⟩)) :: (.bool false) :: (x5) :: (x6) :: (undef) :: (undef) :: (undef) :: (undef) :: (undef) :: (.agg ca) :: (.bool true) :: (.bool false) :: (.bool false) :: (.agg cb) :: (.bool true) :: (.bool false) :: (.bool false) :: (undef) :: (x21) :: (x22) :: (x23) :: (x24) :: (undef) :: (undef) :: (undef) :: (undef) :: (undef) :: (undef) :: (undef) :: (undef) :: (undef) :: (undef) :: (undef) :: (undef) :: (undef) :: (undef) :: (undef) :: (undef) :: (undef) :: (undef) :: (undef) :: (undef) :: (undef) :: (undef) :: (undef) :: (undef) :: (undef) :: (undef) :: (undef) :: (undef) :: (undef) :: (undef) :: (undef) :: (undef) :: (undef) :: (undef) :: (undef) :: (undef) :: (undef) :: (undef) :: (undef) :: (undef) :: (undef) :: (undef) :: (undef) :: (undef) :: (undef) :: (undef) :: (undef) :: (undef) :: (undef) :: (undef) :: (undef) :: (undef) :: (undef) :: (undef) :: (undef) :: (undef) :: (undef) :: (undef) :: (undef) :: (undef) :: (undef) :: (undef) :: (undef) :: (undef) :: (undef) :: (undef) :: (undef) :: (undef) :: (undef) :: (undef) :: (undef) :: (undef) :: (undef) :: (undef) :: (undef) :: (undef) :: (undef) :: (undef) :: (undef) :: (undef) :: (undef) :: (undef) :: (undef) :: (undef) :: (undef) :: (undef) :: (undef) :: (undef) :: (undef) :: (undef) :: (undef) :: (undef) :: (undef) :: (undef) :: (undef) :: (undef) :: (undef) :: (undef) :: (undef) :: (undef) :: (undef) :: (undef) :: (undef) :: (undef) :: (undef) :: (undef) :: (undef) :: []), []⟩ ∧ LS w W2 da ca cb V L x5 x6 x21 x22 x23 x24) (by kernel_rfl) ?steps ⟨undef, undef, undef, undef, undef, undef, rfl, hst⟩ ?done
  case steps =>
    clear hst
    refine ⟨?_, ?_, ?_, ?_, ?_, ?_, ?_, ?_, trivial⟩
    · rintro L a V ⟨x5, x6, x21, x22, x23, x24, rfl, H⟩ hl ha K hK
      refine step_load_whole V rfl 28 (.tmp 2) rfl w.heap.size 28 ca _ rfl ((H.be.block _ (lt_of_heapF K0.out)).trans K0.out) Tryz.underlying28 rfl HSA.out ?_
      exact hK _ _ ⟨_, _, _, _, _, _, rfl, ⟨H.be, fun p q => H.ne (by rw [getD_set_ne (by decide)] at p; exact p) (by rw [getD_set_ne (by decide)] at q; exact q), fun h => ⟨getD_mono (H.i6 (by rw [getD_set_ne (by decide)] at h; exact h)).1, getD_mono (H.i6 (by rw [getD_set_ne (by decide)] at h; exact h)).2.1, getD_mono (H.i6 (by rw [getD_set_ne (by decide)] at h; exact h)).2.2.1, getD_mono (H.i6 (by rw [getD_set_ne (by decide)] at h; exact h)).2.2.2⟩, fun h => ⟨getD_mono (H.i7 (by rw [getD_set_ne (by decide)] at h; exact h)).1, getD_mono (H.i7 (by rw [getD_set_ne (by decide)] at h; exact h)).2⟩, fun _ => rfl, fun h => (H.f1 ((getD_set h).resolve_left (by decide))).set (by decide) (by decide), fun h => H.f2 ((getD_set h).resolve_left (by decide)), fun h => (H.f3 ((getD_set h).resolve_left (by decide))).set (by decide) (by decide), fun h => H.f4 ((getD_set h).resolve_left (by decide)), fun h => H.f5 ((getD_set h).resolve_left (by decide)), fun h => H.f6 ((getD_set h).resolve_left (by decide)), fun h => H.f7 ((getD_set h).resolve_left (by decide))⟩⟩
    · rintro L a V ⟨x5, x6, x21, x22, x23, x24, rfl, H⟩ hl ha K hK
      obtain rfl := H.f0 (ha ⟨0, .data⟩ (by simp) rfl)
      have n6 : L.getD 6 false = false := by
        cases h6 : L.getD 6 false with
        | true => exact absurd (H.i6 h6).2.2.1 (by rw [getD_left hl]; decide)
        | false => rfl
      have hz := H.be.size
      refine step_call_fn (args := #[.agg ca]) rfl rfl Tryz.func7 (by decide) rfl (by simp [Act.eval]) (HCL.out V H.be) ?_
      rintro e w' ⟨cs, rfl, ho, hb⟩
      refine ⟨_, rfl, ?_⟩
      have h3 : L.getD 3 false = false := by
        cases h3 : L.getD 3 false with
        | true => exact absurd (H.f3 h3).1 (by rw [getD_left hl]; decide)
        | false => rfl
      have hn : F1 w' W2.heap.size da L (.agg cs) x5 x6 := ⟨cs, V.heap.size, w', rfl, ⟨hz, Nat.le_refl _, ho, fun _ _ _ => rfl⟩, fun h4 g hg => by obtain ⟨q, vs, _, e, hq, _⟩ := H.f4 h4; rw [e] at hg; injection hg with hg; injection hg with hg; injection hg with hg; have := lt_of_heapF hq; omega,
        fun h5 g hg => by obtain ⟨q, vs, _, e, hq, _⟩ := H.f5 h5; rw [e] at hg; injection hg with hg; injection hg with hg; injection hg with hg; have := lt_of_heapF hq; omega⟩
      replace H := H.more hb
      exact hK _ _ ⟨_, _, _, _, _, _, rfl, ⟨H.be, fun p q => H.ne (by rw [getD_set_ne (by decide)] at p; exact p) (by rw [getD_set_ne (by decide)] at q; exact q), fun h => ⟨getD_mono (H.i6 (by rw [getD_set_ne (by decide)] at h; exact h)).1, getD_mono (H.i6 (by rw [getD_set_ne (by decide)] at h; exact h)).2.1, getD_mono (H.i6 (by rw [getD_set_ne (by decide)] at h; exact h)).2.2.1, getD_mono (H.i6 (by rw [getD_set_ne (by decide)] at h; exact h)).2.2.2⟩, fun h => ⟨getD_mono (H.i7 (by rw [getD_set_ne (by decide)] at h; exact h)).1, getD_mono (H.i7 (by rw [getD_set_ne (by decide)] at h; exact h)).2⟩, fun h => H.f0 ((getD_set h).resolve_left (by decide)), fun _ => hn.set (by decide) (by decide), fun h => H.f2 ((getD_set h).resolve_left (by decide)), fun h => absurd ((getD_set h).resolve_left (by decide)) (by rw [h3]; decide), fun h => H.f4 ((getD_set h).resolve_left (by decide)), fun h => H.f5 ((getD_set h).resolve_left (by decide)), fun h => absurd ((getD_set h).resolve_left (by decide)) (by rw [n6]; decide), fun h => H.f7 ((getD_set h).resolve_left (by decide))⟩⟩
    · rintro L a V ⟨x5, x6, x21, x22, x23, x24, rfl, H⟩ hl ha K hK
      refine step_load_whole V rfl 28 (.tmp 2) rfl w.heap.size 28 ca _ rfl ((H.be.block _ (lt_of_heapF K0.out)).trans K0.out) Tryz.underlying28 rfl HSA.out ?_
      exact hK _ _ ⟨_, _, _, _, _, _, rfl, ⟨H.be, fun p q => H.ne (by rw [getD_set_ne (by decide)] at p; exact p) (by rw [getD_set_ne (by decide)] at q; exact q), fun h => ⟨getD_mono (H.i6 (by rw [getD_set_ne (by decide)] at h; exact h)).1, getD_mono (H.i6 (by rw [getD_set_ne (by decide)] at h; exact h)).2.1, getD_mono (H.i6 (by rw [getD_set_ne (by decide)] at h; exact h)).2.2.1, getD_mono (H.i6 (by rw [getD_set_ne (by decide)] at h; exact h)).2.2.2⟩, fun h => ⟨getD_mono (H.i7 (by rw [getD_set_ne (by decide)] at h; exact h)).1, getD_mono (H.i7 (by rw [getD_set_ne (by decide)] at h; exact h)).2⟩, fun h => H.f0 ((getD_set h).resolve_left (by decide)), fun h => (H.f1 ((getD_set h).resolve_left (by decide))).set (by decide) (by decide), fun _ => rfl, fun h => (H.f3 ((getD_set h).resolve_left (by decide))).set (by decide) (by decide), fun h => H.f4 ((getD_set h).resolve_left (by decide)), fun h => H.f5 ((getD_set h).resolve_left (by decide)), fun h => H.f6 ((getD_set h).resolve_left (by decide)), fun h => H.f7 ((getD_set h).resolve_left (by decide))⟩⟩
    · rintro L a V ⟨x5, x6, x21, x22, x23, x24, rfl, H⟩ hl ha K hK
      obtain rfl := H.f2 (ha ⟨2, .data⟩ (by simp) rfl)
      have n7 : L.getD 7 false = false := by
        cases h7 : L.getD 7 false with
        | true => exact absurd (H.i7 h7).2 (by rw [getD_left hl]; decide)
        | false => rfl
      have hz := H.be.size
      have h1 := H.f1 (ha ⟨1, .chain⟩ (by simp) rfl)
      have hi1 := ha ⟨1, .chain⟩ (by simp) rfl
      refine step_call_fn (args := #[.agg ca]) rfl rfl Tryz.func7 (by decide) rfl (by simp [Act.eval]) (HCL.out V H.be) ?_
      rintro e w' ⟨cs, rfl, ho, hb⟩
      refine ⟨_, rfl, ?_⟩
      have hn : F3 w' W2.heap.size da L x22 (.agg cs) x5 x6 := by
        obtain ⟨cs', lo', Vc', e', hc', k4, k5⟩ := h1
        exact ⟨hi1, cs', lo', Vc', cs, V.heap.size, w', e', rfl, hc'.below hb, ⟨hz, Nat.le_refl _, ho, fun _ _ _ => rfl⟩, hc'.2.1, k4, k5, fun h4 g hg => by obtain ⟨q, vs, _, e, hq, _⟩ := H.f4 h4; rw [e] at hg; injection hg with hg; injection hg with hg; injection hg with hg; have := lt_of_heapF hq; omega,
          fun h5 g hg => by obtain ⟨q, vs, _, e, hq, _⟩ := H.f5 h5; rw [e] at hg; injection hg with hg; injection hg with hg; injection hg with hg; have := lt_of_heapF hq; omega⟩
      replace H := H.more hb
      exact hK _ _ ⟨_, _, _, _, _, _, rfl, ⟨H.be, fun p q => H.ne (by rw [getD_set_ne (by decide)] at p; exact p) (by rw [getD_set_ne (by decide)] at q; exact q), fun h => ⟨getD_mono (H.i6 (by rw [getD_set_ne (by decide)] at h; exact h)).1, getD_mono (H.i6 (by rw [getD_set_ne (by decide)] at h; exact h)).2.1, getD_mono (H.i6 (by rw [getD_set_ne (by decide)] at h; exact h)).2.2.1, getD_mono (H.i6 (by rw [getD_set_ne (by decide)] at h; exact h)).2.2.2⟩, fun h => ⟨getD_mono (H.i7 (by rw [getD_set_ne (by decide)] at h; exact h)).1, getD_mono (H.i7 (by rw [getD_set_ne (by decide)] at h; exact h)).2⟩, fun h => H.f0 ((getD_set h).resolve_left (by decide)), fun h => (H.f1 ((getD_set h).resolve_left (by decide))).set (by decide) (by decide), fun h => H.f2 ((getD_set h).resolve_left (by decide)), fun _ => hn.set (by decide) (by decide), fun h => H.f4 ((getD_set h).resolve_left (by decide)), fun h => H.f5 ((getD_set h).resolve_left (by decide)), fun h => H.f6 ((getD_set h).resolve_left (by decide)), fun h => absurd ((getD_set h).resolve_left (by decide)) (by rw [n7]; decide)⟩⟩
    · rintro L a V ⟨x5, x6, x21, x22, x23, x24, rfl, H⟩ hl ha K hK
      have n6 : L.getD 6 false = false := by
        cases h6 : L.getD 6 false with
        | true => exact absurd (H.i6 h6).1 (by rw [getD_left hl]; decide)
        | false => rfl
      have n7 : L.getD 7 false = false := by
        cases h7 : L.getD 7 false with
        | true => exact absurd (H.i7 h7).1 (by rw [n6]; decide)
        | false => rfl
      have hal : Below V.heap.size V (V.alloc (.cells #[.int .i64 0, .bool false, .int .u32 0, .int .u32 0, .slice none 0 0, .slice none 0 0, .slice none 0 0, .int .i64 0, .slice none 0 0] 28)) := (Below.refl _ _).alloc (Nat.le_refl _) _
      have hz := H.be.size
      have hV : ∀ q, Bk V W2.heap.size q → (.pointer (some ⟨V.heap.size, 0, none⟩) : Value) ≠ q := fun q hq e => by obtain ⟨g, vs, _, e', hg, _⟩ := hq; rw [e'] at e; injection e with e; injection e with e; injection e with e; have := lt_of_heapF hg; omega
      have h1 := H.f1
      have h3 := H.f3
      have hf := H.f5
      replace H := H.more hal
      go_simp
      exact hK _ _ ⟨_, _, _, _, _, _, rfl, ⟨H.be, fun _ q => hV _ (hf (by rw [getD_set_ne (by decide)] at q; exact q)), fun h => ⟨getD_mono (H.i6 (by rw [getD_set_ne (by decide)] at h; exact h)).1, getD_mono (H.i6 (by rw [getD_set_ne (by decide)] at h; exact h)).2.1, getD_mono (H.i6 (by rw [getD_set_ne (by decide)] at h; exact h)).2.2.1, getD_mono (H.i6 (by rw [getD_set_ne (by decide)] at h; exact h)).2.2.2⟩, fun h => ⟨getD_mono (H.i7 (by rw [getD_set_ne (by decide)] at h; exact h)).1, getD_mono (H.i7 (by rw [getD_set_ne (by decide)] at h; exact h)).2⟩, fun h => H.f0 ((getD_set h).resolve_left (by decide)), fun h => (h1 ((getD_set h).resolve_left (by decide))).new4 hal, fun h => H.f2 ((getD_set h).resolve_left (by decide)), fun h => (h3 ((getD_set h).resolve_left (by decide))).new4 hal, fun _ => ⟨_, _, hz, rfl, heap_alloc_new _ _, rfl⟩, fun h => H.f5 ((getD_set h).resolve_left (by decide)), fun h => absurd ((getD_set h).resolve_left (by decide)) (by rw [n6]; decide), fun h => absurd ((getD_set h).resolve_left (by decide)) (by rw [n7]; decide)⟩⟩
    · rintro L a V ⟨x5, x6, x21, x22, x23, x24, rfl, H⟩ hl ha K hK
      have n6 : L.getD 6 false = false := by
        cases h6 : L.getD 6 false with
        | true => exact absurd (H.i6 h6).2.1 (by rw [getD_left hl]; decide)
        | false => rfl
      have n7 : L.getD 7 false = false := by
        cases h7 : L.getD 7 false with
        | true => exact absurd (H.i7 h7).1 (by rw [n6]; decide)
        | false => rfl
      have hal : Below V.heap.size V (V.alloc (.cells #[.int .i64 0, .bool false, .int .u32 0, .int .u32 0, .slice none 0 0, .slice none 0 0, .slice none 0 0, .int .i64 0, .slice none 0 0] 28)) := (Below.refl _ _).alloc (Nat.le_refl _) _
      have hz := H.be.size
      have hV : ∀ q, Bk V W2.heap.size q → (.pointer (some ⟨V.heap.size, 0, none⟩) : Value) ≠ q := fun q hq e => by obtain ⟨g, vs, _, e', hg, _⟩ := hq; rw [e'] at e; injection e with e; injection e with e; injection e with e; have := lt_of_heapF hg; omega
      have h1 := H.f1
      have h3 := H.f3
      have hf := H.f4
      replace H := H.more hal
      go_simp
      exact hK _ _ ⟨_, _, _, _, _, _, rfl, ⟨H.be, fun p _ e => hV _ (hf (by rw [getD_set_ne (by decide)] at p; exact p)) e.symm, fun h => ⟨getD_mono (H.i6 (by rw [getD_set_ne (by decide)] at h; exact h)).1, getD_mono (H.i6 (by rw [getD_set_ne (by decide)] at h; exact h)).2.1, getD_mono (H.i6 (by rw [getD_set_ne (by decide)] at h; exact h)).2.2.1, getD_mono (H.i6 (by rw [getD_set_ne (by decide)] at h; exact h)).2.2.2⟩, fun h => ⟨getD_mono (H.i7 (by rw [getD_set_ne (by decide)] at h; exact h)).1, getD_mono (H.i7 (by rw [getD_set_ne (by decide)] at h; exact h)).2⟩, fun h => H.f0 ((getD_set h).resolve_left (by decide)), fun h => (h1 ((getD_set h).resolve_left (by decide))).new5 hal, fun h => H.f2 ((getD_set h).resolve_left (by decide)), fun h => (h3 ((getD_set h).resolve_left (by decide))).new5 hal, fun h => H.f4 ((getD_set h).resolve_left (by decide)), fun _ => ⟨_, _, hz, rfl, heap_alloc_new _ _, rfl⟩, fun h => absurd ((getD_set h).resolve_left (by decide)) (by rw [n6]; decide), fun h => absurd ((getD_set h).resolve_left (by decide)) (by rw [n7]; decide)⟩⟩
    · rintro L a V ⟨x5, x6, x21, x22, x23, x24, rfl, H⟩ hl ha K hK
      have hi4 := ha ⟨4, .data⟩ (by simp) rfl
      have hi5 := ha ⟨5, .phase⟩ (by simp) rfl
      have hi1 := ha ⟨1, .data⟩ (by simp) rfl
      have hi3 := ha ⟨3, .chain⟩ (by simp) rfl
      have hne := H.ne hi4 hi5
      obtain ⟨g, vs, hg0, hx, hg, hvs⟩ := H.f4 hi4
      obtain ⟨_, cs, lo, Vc, cs2, lo2, Vc2, hx2, hx3, hp, hp2, hle, k4, k5, l4, l5⟩ := H.f3 hi3
      have hcs : vs.size = cs.size := by rw [hvs, hp.size9]
      have f3' := H.f3 hi3
      have f1' := H.f1 hi1
      have hgc : g < lo ∨ Vc.heap.size ≤ g := k4 hi4 g hx
      have hgd : g < lo2 ∨ Vc2.heap.size ≤ g := l4 hi4 g hx
      refine step_store_whole V rfl 28 (.tmp 5) (.tmp 22) rfl g 28 vs cs hx2 hx hg (by rw [← hcs, hvs]; exact attr_size) hcs (hp.one) ?_
      intro V' hg' ho
      have hgr := ho.out
      have f5' := H.f5 hi5
      have be' := H.be.grown hgr H.be.size (fun x hx => by injection hx with hx; omega)
      have f1n := f1'.grown hgr hi4 hx
      have f3n := f3'.grown hgr hi4 hx
      have f5n := f5'.grown hgr (fun e => hne (hx.trans e.symm))
      have n7 : L.getD 7 false = false := by
        cases h7 : L.getD 7 false with
        | true => exact absurd (H.i7 h7).1 (by rw [getD_left hl]; decide)
        | false => rfl
      exact hK _ _ ⟨_, _, _, _, _, _, rfl, ⟨be', fun p q => H.ne (by rw [getD_set_ne (by decide)] at p; exact p) (by rw [getD_set_ne (by decide)] at q; exact q), fun _ => ⟨getD_mono hi4, getD_mono hi5, getD_mono hi1, getD_mono hi3⟩, fun h => absurd (by rw [getD_set_ne (by decide)] at h; exact h) (by rw [n7]; decide), fun h => H.f0 ((getD_set h).resolve_left (by decide)), fun _ => f1n.set (by decide) (by decide), fun h => H.f2 ((getD_set h).resolve_left (by decide)), fun _ => f3n.set (by decide) (by decide), fun _ => ⟨g, cs, hg0, hx, hg'.out, hp.size9⟩, fun _ => f5n, fun _ => ⟨cs, g, hx2, hx, hg'.out⟩, fun h => absurd ((getD_set h).resolve_left (by decide)) (by rw [n7]; decide)⟩⟩
    · rintro L a V ⟨x5, x6, x21, x22, x23, x24, rfl, H⟩ hl ha K hK
      have hi6 := ha ⟨6, .chain⟩ (by simp) rfl
      have hi4 := ha ⟨4, .phase⟩ (by simp) rfl
      have hi5 := ha ⟨5, .data⟩ (by simp) rfl
      have hi1 := ha ⟨1, .phase⟩ (by simp) rfl
      have hi3 := ha ⟨3, .data⟩ (by simp) rfl
      have hne := H.ne hi4 hi5
      obtain ⟨g, vs, hg0, hx, hg, hvs⟩ := H.f5 hi5
      obtain ⟨_, cs, lo, Vc, cs2, lo2, Vc2, hx2, hx3, hp, hp2, hle, k4, k5, l4, l5⟩ := H.f3 hi3
      have hcs : vs.size = cs2.size := by rw [hvs, hp2.size9]
      have f3' := H.f3 hi3
      have f1' := H.f1 hi1
      refine step_store_whole V rfl 28 (.tmp 6) (.tmp 24) rfl g 28 vs cs2 hx3 hx hg (by rw [← hcs, hvs]; exact attr_size) hcs (hp2.one) ?_
      intro V' hg' ho
      have hgr := ho.out
      have f4' := H.f4 hi4
      have f6' := H.f6 hi6
      have be' := H.be.grown hgr H.be.size (fun x hx => by injection hx with hx; omega)
      have f1n := f1'.grown5 hgr hi5 hx
      have f3n := f3'.grown5 hgr hi5 hx
      have f4n := f4'.grown hgr (fun e => hne (e.trans hx.symm))
      have f6n : ∃ cs g, x22 = .agg cs ∧ x5 = .pointer (some ⟨g, 0, none⟩) ∧ V'.heap[g]? = some (.cells cs 28 (0, 0)) := by
        obtain ⟨c0, g0, a0, a1, a2⟩ := f6'
        exact ⟨c0, g0, a0, a1, (hgr.block g0 (lt_of_heapF a2) (by intro e; injection e with e; subst e; exact hne (a1.trans hx.symm))).trans a2⟩
      exact hK _ _ ⟨_, _, _, _, _, _, rfl, ⟨be', fun p q => H.ne (by rw [getD_set_ne (by decide)] at p; exact p) (by rw [getD_set_ne (by decide)] at q; exact q), fun h => ⟨getD_mono (H.i6 (by rw [getD_set_ne (by decide)] at h; exact h)).1, getD_mono (H.i6 (by rw [getD_set_ne (by decide)] at h; exact h)).2.1, getD_mono (H.i6 (by rw [getD_set_ne (by decide)] at h; exact h)).2.2.1, getD_mono (H.i6 (by rw [getD_set_ne (by decide)] at h; exact h)).2.2.2⟩, fun _ => ⟨getD_mono hi6, getD_mono hi3⟩, fun h => H.f0 ((getD_set h).resolve_left (by decide)), fun _ => f1n.set (by decide) (by decide), fun h => H.f2 ((getD_set h).resolve_left (by decide)), fun _ => f3n.set (by decide) (by decide), fun _ => f4n, fun _ => ⟨g, cs2, hg0, hx, hg'.out, hp2.size9⟩, fun _ => f6n, fun _ => ⟨cs2, g, hx3, hx, hg'.out⟩⟩⟩
  case done =>
    rintro L a V ⟨x5, x6, x21, x22, x23, x24, rfl, H⟩ hall
    obtain ⟨_, csC, lo, Vc, csD, lo2, Vc2, rfl, rfl, hp, hp2, hle, k4, k5, l4, l5⟩ := H.f3 (hall 3 (by decide))
    obtain ⟨cs', g5, e1, rfl, hg5⟩ := H.f6 (hall 6 (by decide))
    injection e1 with e1
    subst e1
    obtain ⟨cs', g6, e1, rfl, hg6⟩ := H.f7 (hall 7 (by decide))
    injection e1 with e1
    subst e1
    have o5 := k4 (hall 4 (by decide)) g5 rfl
    have o6 := k5 (hall 5 (by decide)) g6 rfl
    have hbv := H.be
    have hlw := B2.out.size
    have hwlo : w.heap.size + 2 ≤ lo := by have := lt_of_heapF K1.out; have := hp.1; omega
    have hg0 := (hbv.block _ (lt_of_heapF K0.out)).trans K0.out
    have hg1 := (hbv.block _ (lt_of_heapF K1.out)).trans K1.out
    have hbw : Below w.heap.size w V := B2.out.trans (hbv.mono hlw)
    have hoC : AttrO V lo csC da := hp.2.2.1.keep hp.2.2.2
    have hcC : AttrC V V.heap.size csC da := hoC.attrC
    have hsC : (Tryz.prog.info? 28).map (·.size) = some csC.size := by rw [hp.size9]; exact attr_size
    have hsD : (Tryz.prog.info? 28).map (·.size) = some csD.size := by rw [hp2.size9]; exact attr_size
    have hv1 : ∀ W', Below V.heap.size V W' → Calls Tryz.prog 8 #[.agg ca, .agg cb] W' fun e w' => e = .returned (.bool (decide (da = db))) ∧ Below W'.heap.size W' w' := fun W' hW' =>
      have hbb := hbw.trans (hW'.mono hbw.size)
      vsameA_any ca cb da db W' ((CAH.out.below hbb).more hbb.size) ((CBH.out.below hbb).more hbb.size) OKA.out OKB.out
    have hr1 : ∀ W', Below V.heap.size V W' → Calls Tryz.prog 9 #[.agg ca, .agg cb] W' fun e w' => e = .returned (.bool (decide (da = db))) ∧ Below W'.heap.size W' w' := fun W' hW' =>
      have hbb := hbw.trans (hW'.mono hbw.size)
      rsameA_any ca cb da db W' ((CAH.out.below hbb).more hbb.size) ((CBH.out.below hbb).more hbb.size) OKA.out OKB.out
    have hv2 : ∀ W', Below V.heap.size V W' → Calls Tryz.prog 8 #[.agg ca, .agg csC] W' fun e w' => e = .returned (.bool true) ∧ Below W'.heap.size W' w' := fun W' hW' => by
      have hbb := hbw.trans (hW'.mono hbw.size)
      have := vsameA_any ca csC da da W' ((CAH.out.below hbb).more hbb.size) ((hcC.below hW').more hW'.size) OKA.out OKA.out
      rw [decide_eq_true rfl] at this; exact this
    have hr2 : ∀ W', Below V.heap.size V W' → Calls Tryz.prog 9 #[.agg ca, .agg csC] W' fun e w' => e = .returned (.bool true) ∧ Below W'.heap.size W' w' := fun W' hW' => by
      have hbb := hbw.trans (hW'.mono hbw.size)
      have := rsameA_any ca csC da da W' ((CAH.out.below hbb).more hbb.size) ((hcC.below hW').more hW'.size) OKA.out OKA.out
      rw [decide_eq_true rfl] at this; exact this
    obtain ⟨eq, heq⟩ : ∃ eq, eq = decide (da = db) := ⟨_, rfl⟩
    rw [← heq] at hv1 hr1
    have HV1 := Lib.hid hv1
    have HR1 := Lib.hid hr1
    have HV2 := Lib.hid hv2
    have HR2 := Lib.hid hr2
    have HP := Lib.hid hp
    have HP2 := Lib.hid hp2
    have G0 := Lib.hid hg0
    have G1 := Lib.hid hg1
    have G5 := Lib.hid hg5
    have G6 := Lib.hid hg6
    have HBW := hide hbw
    have HSC := Lib.hid hsC
    have HSD := Lib.hid hsD
    have HOC := Lib.hid hoC
    clear H hall hv1 hr1 hv2 hr2 hp hp2 hg0 hg1 hg5 hg6 hbw hsC hsD hoC hcC k4 k5 l4 l5 hbv HCL K0 K1 B2 heq
    have hlt := lt_of_heapF G5.out
    have hlt6 := lt_of_heapF G6.out
    cases eq
    all_goals
      go_wp2_with fail
      refine wp_region_quietC (fun w' => Below V.heap.size V w') (by kernel_rfl) (by kernel_rfl) (Below.refl _ _ |>.drew) ?_
      repeat (first
        | go_big_quiet_skip
        | (go_big_quiet_want
           first
           | (refine quiet_loadA _ _ rfl ⟨w.heap.size, 0, none⟩ rfl (.agg ca) (fun w' hw' => run_loadVar_rowF w' w.heap.size 28 28 ca (0, 0) _ ((hw'.block _ (lt_of_heapF G0.out)).trans G0.out) Tryz.underlying28 rfl HSA.out) ?_; go_big_quiet_on; simp only [Act.put, List.setIfInBounds_toArray, List.set_cons_zero, List.set_cons_succ])
           | (refine quiet_loadA _ _ rfl ⟨(w.heap.size + 1), 0, none⟩ rfl (.agg cb) (fun w' hw' => run_loadVar_rowF w' (w.heap.size + 1) 28 28 cb (0, 0) _ ((hw'.block _ (lt_of_heapF G1.out)).trans G1.out) Tryz.underlying28 rfl HSB.out) ?_; go_big_quiet_on; simp only [Act.put, List.setIfInBounds_toArray, List.set_cons_zero, List.set_cons_succ])
           | (refine quiet_loadA _ _ rfl ⟨g5, 0, none⟩ rfl (.agg csC) (fun w' hw' => run_loadVar_rowF w' g5 28 28 csC (0, 0) _ ((hw'.block _ (lt_of_heapF G5.out)).trans G5.out) Tryz.underlying28 rfl HSC.out) ?_; go_big_quiet_on; simp only [Act.put, List.setIfInBounds_toArray, List.set_cons_zero, List.set_cons_succ])
           | (go_big_quiet_op
              first
                | go_big_quiet_on
                | (refine ⟨_, fun _ _ => rfl, ?_⟩; go_big_quiet_on)
                | (with_reducible refine ⟨.bool true, fun w' hw' => (HV1.out w' hw').mono ?_, ?_⟩; exact (fun e w1 h => ⟨h.1, hw'.trans (h.2.mono hw'.size)⟩); go_big_quiet_on)
                | (with_reducible refine ⟨.bool false, fun w' hw' => (HV1.out w' hw').mono ?_, ?_⟩; exact (fun e w1 h => ⟨h.1, hw'.trans (h.2.mono hw'.size)⟩); go_big_quiet_on)
                | (with_reducible refine ⟨.bool true, fun w' hw' => (HR1.out w' hw').mono ?_, ?_⟩; exact (fun e w1 h => ⟨h.1, hw'.trans (h.2.mono hw'.size)⟩); go_big_quiet_on)
                | (with_reducible refine ⟨.bool false, fun w' hw' => (HR1.out w' hw').mono ?_, ?_⟩; exact (fun e w1 h => ⟨h.1, hw'.trans (h.2.mono hw'.size)⟩); go_big_quiet_on)
                | (with_reducible refine ⟨.bool true, fun w' hw' => (HV2.out w' hw').mono ?_, ?_⟩; exact (fun e w1 h => ⟨h.1, hw'.trans (h.2.mono hw'.size)⟩); go_big_quiet_on)
                | (with_reducible refine ⟨.bool true, fun w' hw' => (HR2.out w' hw').mono ?_, ?_⟩; exact (fun e w1 h => ⟨h.1, hw'.trans (h.2.mono hw'.size)⟩); go_big_quiet_on))))
      refine wpQuiet_nil ?_
      intro W6 hW6
      obtain ⟨AS, cS, vs, AL, cL, AB, cB, AR, cR, ecs, rS, rO, rL, rB, rR⟩ := HP.out.2.2.1
      subst ecs
      have hsh : Sh lo Vc W6 W6 := Sh.start (Nat.le_trans HP.out.2.1 hW6.size) (fun b h1 h2 => (hW6.block b (by have := HP.out.2.1; omega)).trans (HP.out.2.2.2 b h1 h2))
      have hg56 : W6.heap[g5]? = some (.cells #[.int .i64 da.ty, .bool da.part, .int .u32 da.n, .int .u32 da.m, .slice AS da.segs.length cS, .slice AL da.list.length cL, .slice AB da.byts.length cB, .int .i64 da.fam, .slice AR da.routes.length cR] 28 (0, 0)) := (hW6.block _ hlt).trans G5.out
      have c5 : ∀ wr, Sh lo Vc W6 wr → wr.cell? ⟨g5, 4, none⟩ = some (.slice AS da.segs.length cS) ∧ wr.cell? ⟨g5, 5, none⟩ = some (.slice AL da.list.length cL) ∧ wr.cell? ⟨g5, 6, none⟩ = some (.slice AB da.byts.length cB) ∧ wr.cell? ⟨g5, 8, none⟩ = some (.slice AR da.routes.length cR) ∧ g5 < wr.heap.size := fun wr hs => by
        have hg := (hs.out g5 o5).trans hg56
        refine ⟨?_, ?_, ?_, ?_, lt_of_heapF hg⟩
        · rw [cell_of_row _ _ 4 _ _ _ hg]; rfl
        · rw [cell_of_row _ _ 5 _ _ _ hg]; rfl
        · rw [cell_of_row _ _ 6 _ _ _ hg]; rfl
        · rw [cell_of_row _ _ 8 _ _ _ hg]; rfl
      have hlw2 : w.heap.size < W6.heap.size := by have := lt_of_heapF G0.out; have := hW6.size; omega
      have hsz6 := hW6.size
      have C5 := Lib.hid c5
      have hW6o := hide hW6
      have RS_ := Lib.hid rS
      have RO := Lib.hid rO
      have RL := Lib.hid rL
      have RB := Lib.hid rB
      have RR := Lib.hid rR
      have HG56 := Lib.hid hg56
      clear c5 hW6 rS rO rL rB rR hg56 HV1 HR1 HV2 HR2 HOC
      have e4 := (C5.out W6 hsh).1
      have e5 := (C5.out W6 hsh).2.1
      have e6 := (C5.out W6 hsh).2.2.1
      have e8 := (C5.out W6 hsh).2.2.2.1
      have hz5 := (C5.out W6 hsh).2.2.2.2
      have hbs := OKA.out.s1
      have hbs2 : ((da.segs.length : Nat) : Int) ≤ 140737488351232 := by omega
      have HSH := hide hsh
      clear hsh
      go_wp2_with fail
      go_loopw [47] (fun i wr => ∃ k : Nat, k ≤ da.segs.length ∧ i = .int .i64 k ∧ Sh lo Vc W6 wr) (fun i _ => da.segs.length - (intOf i).toNat)
      case atStart => exact ⟨0, Nat.zero_le _, rfl, HSH.out⟩
      case round =>
        clear HSH e4 e5 e6 e8 hz5
        obtain ⟨k, hk, rfl, hsh⟩ := hrel
        obtain ⟨wq, rfl⟩ : ∃ wq : World, wq = wr := ⟨_, rfl⟩
        have e4 := (C5.out wq hsh).1
        have e5 := (C5.out wq hsh).2.1
        have e6 := (C5.out wq hsh).2.2.1
        have e8 := (C5.out wq hsh).2.2.2.1
        have hz5 := (C5.out wq hsh).2.2.2.2
        have hk0 : (0 : Int) ≤ (k : Int) := Int.natCast_nonneg _
        by_cases hkl : k < da.segs.length
        · obtain ⟨v0, v1, q0, q1, hv0, hv1⟩ := RO.out.2 k _ (List.getElem?_eq_getElem hkl)
          obtain ⟨A', c', ev, _, _⟩ := slice_of_own hv1
          subst ev; subst hv0
          obtain ⟨gS, eS, s1, s2, s3, fS, nS, sS⟩ := hsh.row RS_.out (by omega)
          obtain ⟨x, hx⟩ := nS (k * 2) _ _ (by omega) q0
          have hy := sS (k * 2 + 1) _ _ _ (by omega) q1
          have fz0 := fS (k * 2)
          have hne : gS ≠ g5 := by omega
          have u5 : ∀ v, (wq.setCell ⟨gS, k * 2, none⟩ v).cell? ⟨g5, 4, none⟩ = some (.slice AS da.segs.length cS) := fun v => (World.cell?_setCell_far wq ⟨gS, k * 2, none⟩ ⟨g5, 4, none⟩ v hne).trans e4
          have uS : ∀ v, (wq.setCell ⟨gS, k * 2, none⟩ v).cell? ⟨gS, k * 2 + 1, none⟩ = some (.slice A' da.segs[k].2.length c') := fun v => (World.cell?_setCell_other _ _ _ _ (by intro e; injection e; omega)).trans hy
          have hst := fun z => hsh.set hx s1 s2 z
          have HST := Lib.hid hst
          have HV := Lib.hid hv1
          have HQ1 := Lib.hid q1
          have hk1 : (k : Int) < (da.segs.length : Int) := by omega
          have hbm := OKA.out.s2 _ (List.getElem_mem hkl)
          have hbm2 : ((da.segs[k].2.length : Nat) : Int) ≤ 140737488351232 := by omega
          clear hst hsh fS nS sS hv1 q0 q1
          have ES := Lib.hid eS
          subst eS
          go_wp2_with fail
          go_loopw [66] (fun i wr => ∃ j : Nat, j ≤ da.segs[k].2.length ∧ i = .int .i64 j ∧ Sh lo Vc W6 wr) (fun i _ => da.segs[k].2.length - (intOf i).toNat)
          case atStart => exact ⟨0, Nat.zero_le _, rfl, HST.out _⟩
          case round =>
            obtain ⟨j, hj, rfl, hsh⟩ := hrel
            obtain ⟨wi, rfl⟩ : ∃ wi : World, wi = wr := ⟨_, rfl⟩
            have z4 := (C5.out wi hsh).1
            have zz5 := (C5.out wi hsh).2.2.2.2
            have hj0 : (0 : Int) ≤ (j : Int) := Int.natCast_nonneg _
            obtain ⟨gS', eS', t1, t2, t3, _, _, sS'⟩ := hsh.row RS_.out (by omega)
            have eg : gS' = gS := by injection eS' with a; injection a with a; exact a.symm
            subst eg
            have hy' := sS' (k * 2 + 1) _ _ _ (by omega) HQ1.out
            by_cases jlt : j < da.segs[k].2.length
            · obtain ⟨gA, eA, a1, a2, a3, fA, nA, _⟩ := hsh.row HV.out (by omega)
              obtain ⟨y, hy2⟩ := nA j _ _ (by omega) (by rw [uV, List.getElem?_map, List.getElem?_eq_getElem jlt]; rfl)
              have fz := fA j
              have hst2 := fun z => hsh.set hy2 a1 a2 z
              have HST2 := Lib.hid hst2
              have hj1 : (j : Int) < (da.segs[k].2.length : Int) := by omega
              clear hst2 hsh fA nA sS' HST hx hy u5 uS fz0
              subst eA
              go_wp2
              go_roundw
              case rel => exact ⟨j + 1, by omega, by go_num, HST2.out _⟩
              case measure => simp [intOf]; omega
            · have hjn : j = da.segs[k].2.length := by omega
              have hjn1 : ¬ (j : Int) < (da.segs[k].2.length : Int) := by omega
              have HSH := hide hsh
              clear hsh sS' HST hx hy u5 uS fz0
              go_wp2
              go_roundw
              case rel => exact ⟨k + 1, by omega, by go_num, HSH.out⟩
              case measure => simp [intOf]; omega
        · have hkn : k = da.segs.length := by omega
          have hkn1 : ¬ (k : Int) < (da.segs.length : Int) := by omega
          have HSH := hide hsh
          clear hsh
          go_wp2_with fail
          go_loopw [85] (fun i wr => ∃ k : Nat, k ≤ da.list.length ∧ i = .int .i64 k ∧ Sh lo Vc W6 wr) (fun i _ => da.list.length - (intOf i).toNat)
          case atStart => exact ⟨0, Nat.zero_le _, rfl, HSH.out⟩
          case round =>
            clear HSH e4 e5 e6 e8 hz5
            obtain ⟨k, hk, rfl, hsh⟩ := hrel
            obtain ⟨wq, rfl⟩ : ∃ wq : World, wq = wr := ⟨_, rfl⟩
            have e4 := (C5.out wq hsh).1
            have e5 := (C5.out wq hsh).2.1
            have e6 := (C5.out wq hsh).2.2.1
            have e8 := (C5.out wq hsh).2.2.2.1
            have hz5 := (C5.out wq hsh).2.2.2.2
            have hk0 : (0 : Int) ≤ (k : Int) := Int.natCast_nonneg _
            have hbnd := OKA.out.l1
            have hbnd2 : ((da.list.length : Nat) : Int) ≤ 140737488351232 := by omega
            by_cases hkl : k < da.list.length
            · obtain ⟨gq, eq_, s1, s2, s3, fq, nq, _⟩ := hsh.row RL.out (by omega)
              obtain ⟨y, hy⟩ := nq (k) _ _ (by omega) (by rw [uV, List.getElem?_map, List.getElem?_eq_getElem hkl]; rfl)
              have fz := fq (k)
              have hst := fun z => hsh.set hy s1 s2 z
              have HST := Lib.hid hst
              have hk1 : (k : Int) < (da.list.length : Int) := by omega
              clear hst hsh fq nq s1 s2
              subst eq_
              go_wp2
              go_roundw
              case rel => exact ⟨k + 1, by omega, by go_num, HST.out _⟩
              case measure => simp [intOf]; omega
            · have hkn : k = da.list.length := by omega
              have hkn1 : ¬ (k : Int) < (da.list.length : Int) := by omega
              have HSH := hide hsh
              clear hsh
              go_wp2_with fail
              go_loopw [99] (fun i wr => ∃ k : Nat, k ≤ da.byts.length ∧ i = .int .i64 k ∧ Sh lo Vc W6 wr) (fun i _ => da.byts.length - (intOf i).toNat)
              case atStart => exact ⟨0, Nat.zero_le _, rfl, HSH.out⟩
              case round =>
                clear HSH e4 e5 e6 e8 hz5
                obtain ⟨k, hk, rfl, hsh⟩ := hrel
                obtain ⟨wq, rfl⟩ : ∃ wq : World, wq = wr := ⟨_, rfl⟩
                have e4 := (C5.out wq hsh).1
                have e5 := (C5.out wq hsh).2.1
                have e6 := (C5.out wq hsh).2.2.1
                have e8 := (C5.out wq hsh).2.2.2.1
                have hz5 := (C5.out wq hsh).2.2.2.2
                have hk0 : (0 : Int) ≤ (k : Int) := Int.natCast_nonneg _
                have hbnd := OKA.out.b1
                have hbnd2 : ((da.byts.length : Nat) : Int) ≤ 140737488351232 := by omega
                by_cases hkl : k < da.byts.length
                · obtain ⟨gq, eq_, s1, s2, s3, fq, nq, _⟩ := hsh.row RB.out (by omega)
                  obtain ⟨y, hy⟩ := nq (k) _ _ (by omega) (by rw [bV, List.getElem?_map, List.getElem?_eq_getElem hkl]; rfl)
                  have fz := fq (k)
                  have hst := fun z => hsh.set hy s1 s2 z
                  have HST := Lib.hid hst
                  have hk1 : (k : Int) < (da.byts.length : Int) := by omega
                  clear hst hsh fq nq s1 s2
                  subst eq_
                  go_wp2
                  go_roundw
                  case rel => exact ⟨k + 1, by omega, by go_num, HST.out _⟩
                  case measure => simp [intOf]; omega
                · have hkn : k = da.byts.length := by omega
                  have hkn1 : ¬ (k : Int) < (da.byts.length : Int) := by omega
                  have HSH := hide hsh
                  clear hsh
                  go_wp2_with fail
                  go_loopw [113] (fun i wr => ∃ k : Nat, k ≤ da.routes.length ∧ i = .int .i64 k ∧ Sh lo Vc W6 wr) (fun i _ => da.routes.length - (intOf i).toNat)
                  case atStart => exact ⟨0, Nat.zero_le _, rfl, HSH.out⟩
                  case round =>
                    clear HSH e4 e5 e6 e8 hz5
                    obtain ⟨k, hk, rfl, hsh⟩ := hrel
                    obtain ⟨wq, rfl⟩ : ∃ wq : World, wq = wr := ⟨_, rfl⟩
                    have e4 := (C5.out wq hsh).1
                    have e5 := (C5.out wq hsh).2.1
                    have e6 := (C5.out wq hsh).2.2.1
                    have e8 := (C5.out wq hsh).2.2.2.1
                    have hz5 := (C5.out wq hsh).2.2.2.2
                    have hk0 : (0 : Int) ≤ (k : Int) := Int.natCast_nonneg _
                    have hbnd := OKA.out.r1
                    have hbnd2 : ((da.routes.length : Nat) : Int) ≤ 140737488351232 := by omega
                    by_cases hkl : k < da.routes.length
                    · obtain ⟨gq, eq_, s1, s2, s3, fq, nq, _⟩ := hsh.row RR.out (by omega)
                      obtain ⟨y, hy⟩ := nq (k * 19) _ _ (by omega) (rtsV_at OKA.out.r2 k hkl 0 _ rfl)
                      have fz := fq (k * 19)
                      have hst := fun z => hsh.set hy s1 s2 z
                      have HST := Lib.hid hst
                      have hk1 : (k : Int) < (da.routes.length : Int) := by omega
                      clear hst hsh fq nq s1 s2
                      subst eq_
                      go_wp2
                      go_roundw
                      case rel => exact ⟨k + 1, by omega, by go_num, HST.out _⟩
                      case measure => simp [intOf]; omega
                    · have hkn : k = da.routes.length := by omega
                      have hkn1 : ¬ (k : Int) < (da.routes.length : Int) := by omega
                      have HSH := hide hsh
                      clear hsh
                      go_wp2_with (first
                        | (go_at_call 6; refine (alive_any _).mono ?_; rintro e w7 ⟨rfl, hb7⟩
                           have hz := HSH.out.size
                           have hb67 := hW6o.out.size
                           have q0 : w7.heap[w.heap.size]? = some (.cells ca 28 (0, 0)) := (hb7.block _ (by rw [hz]; have := hlw2; omega)).trans ((HSH.out.out _ (.inl (by omega))).trans ((hW6o.out.block _ (lt_of_heapF G0.out)).trans G0.out))
                           have q6 : w7.heap[g6]? = some (.cells csD 28 (0, 0)) := (hb7.block _ (by rw [hz]; omega)).trans ((HSH.out.out _ o6).trans ((hW6o.out.block _ hlt6).trans G6.out))
                           have hbw7 : Below w.heap.size w w7 := (HSH.out.below (HBW.out.trans (hW6o.out.mono HBW.out.size)) (by omega)).trans (hb7.mono (by rw [hz]; have := HBW.out.size; omega))
                           have hD : AttrC w7 w7.heap.size csD da := by
                             have a1 : AttrO V lo2 csD da := HP2.out.2.2.1.keep HP2.out.2.2.2
                             have a2 : AttrO W6 lo2 csD da := a1.below hW6o.out
                             have a3 : AttrO wq lo2 csD da := a2.keep fun b h1 _ => HSH.out.out b (.inr (by omega))
                             exact (a3.below hb7).attrC
                           have hs := rsameA_any ca csD da da w7 ((CAH.out.below hbw7).more hbw7.size) hD OKA.out OKA.out
                           rw [decide_eq_true rfl] at hs
                           have Q0 := Lib.hid q0
                           have Q6 := Lib.hid q6
                           have HB7 := hide hbw7
                           have HS7 := hide hs
                           clear hb7 q0 q6 hbw7 hD hs hz)
                        | ((with_reducible refine wpList_load_wholeH w7 ?hgd1 28 (.tmp 2) ?ho1 w.heap.size 28 ca _ ?hx1 Q0.out Tryz.underlying28 ?hd1 ?hi1 ?_); (case hgd1 => rfl); (case ho1 => rfl); (case hx1 => rfl); (case hd1 => rfl); (case hi1 => exact HSA.out))
                        | ((with_reducible refine wpList_load_wholeH w7 ?hgd2 28 (.tmp 6) ?ho2 g6 28 csD _ ?hx2 Q6.out Tryz.underlying28 ?hd2 ?hi2 ?_); (case hgd2 => rfl); (case ho2 => rfl); (case hx2 => rfl); (case hd2 => rfl); (case hi2 => exact HSD.out))
                        | (go_at_call 9; refine HS7.out.mono ?_; rintro e w8 ⟨rfl, hb8⟩
                           have HB8 := hide (HB7.out.trans (hb8.mono HB7.out.size))
                           clear hb8))
                      go_ret
                      exact ⟨rfl, HB8.out⟩
end Go.Proofs.YtplgbpcjbjaloaaGreatDoor
