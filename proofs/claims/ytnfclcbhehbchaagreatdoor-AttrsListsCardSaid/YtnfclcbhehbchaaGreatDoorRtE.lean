/- Lists compared; attributes as data, and Same at them. -/
import Derived.Test.YtnfclcbhehbchaaGreatDoorRtD
import Derived.Test.YtnfclcbhehbchaaGreatDoorEquU
import Derived.Test.YtnfclcbhehbchaaGreatDoorEquB
import Derived.Test.YtnfclcbhehbchaaGreatDoorSegEq
import Derived.Lib.BufferRead
set_option autoImplicit false
namespace Go.Proofs.YtnfclcbhehbchaaGreatDoor
open Go.RowKit

set_option maxRecDepth 100000 in
set_option maxHeartbeats 4000000 in
theorem rnumbers_any (A A2 : Option Addr) (c c2 : Nat) (a b : List Int) (w : World) (h : Reads w w.heap.size 1 A a.length (uV a)) (h2 : Reads w w.heap.size 1 A2 b.length (uV b)) (ha : a.length ≤ 140737488351232) :
    Calls Tryz.prog 34 #[.slice A a.length c, .slice A2 b.length c2] w fun e w' => e = .returned (.bool (decide (a = b))) ∧ Below w.heap.size w w' := by
  by_cases hlen : a.length = b.length
  · have hne : ((a.length : Int) != (b.length : Int)) = false := by simp [hlen]
    have HL := Lib.hid hlen
    clear hlen
    go_enter Tryz.func34, Tryz.ntmps34
    go_wp2_with fail
    go_loopw [5] (fun i wr => ∃ k : Nat, k ≤ a.length ∧ i = .int .i64 k ∧ Hid (a.take k = b.take k) ∧ Below w.heap.size w wr) (fun i _ => a.length - (intOf i).toNat)
    case atStart => exact ⟨0, Nat.zero_le _, rfl, by show _ = _; rfl, Below.refl _ _⟩
    case round =>
      obtain ⟨k, hk, rfl, hpre, hbel⟩ := hrel
      obtain ⟨wo, rfl⟩ : ∃ wo : World, wo = wr := ⟨_, rfl⟩
      by_cases hlt : k < a.length
      · have hlt2 : k < b.length := by have := HL.out; omega
        obtain ⟨ap, u, rfl, hap, hx, hc⟩ := (h.below hbel).at_ hlt
        obtain ⟨x, hx1, rfl⟩ := uV_get hx
        obtain ⟨bp, v, rfl, hbp, hy, hd⟩ := (h2.below hbel).at_ hlt2
        obtain ⟨y, hy1, rfl⟩ := uV_get hy
        have hx2 : a[k] = x := by rw [List.getElem?_eq_getElem hlt] at hx1; injection hx1
        have hy2 : b[k] = y := by rw [List.getElem?_eq_getElem hlt2] at hy1; injection hy1
        have HX := Lib.hid hx2
        have HY := Lib.hid hy2
        have HB := hide hbel
        have hi0 : (0 : Int) ≤ (k : Int) := Int.natCast_nonneg _
        have hi1 : (k : Int) < (a.length : Int) := by omega
        have hi2 : (k : Int) < (b.length : Int) := by omega
        clear hx hx1 hx2 hy hy1 hy2 h h2 hbel
        by_cases exy : x = y
        · have b3 : (x != y) = false := by simp [exy]
          have EXY := Lib.hid exy
          clear exy
          go_wp2_with fail
          go_quiet (fail)
          go_wp2
          go_roundw
          case rel => exact ⟨k + 1, by omega, by go_num, take_succ_eq _ _ k hlt hlt2 hpre.out (by rw [HX.out, HY.out, EXY.out]), below_drewN HB.out _⟩
          case measure => simp [intOf]; omega
        · have b3 : (x != y) = true := by simpa using exy
          have EXY := Lib.hid exy
          clear exy
          go_wp2_with fail
          go_quiet (fail)
          go_wp2
          go_ret
          refine ⟨ret_bool (decide_eq_false ?_).symm, below_drewN HB.out _⟩
          exact ne_of_get _ _ k hlt hlt2 (by rw [HX.out, HY.out]; exact EXY.out)
      · have HB := hide hbel
        clear hbel
        go_wp2
        go_ret
        refine ⟨ret_bool (decide_eq_true ?_).symm, HB.out⟩
        have e1 := hpre.out
        rw [List.take_of_length_le (by omega), List.take_of_length_le (by have := HL.out; omega)] at e1
        exact e1
  · have hne : ((a.length : Int) != (b.length : Int)) = true := by simp; omega
    have HL := Lib.hid hlen
    clear hlen
    go_enter Tryz.func34, Tryz.ntmps34
    go_wp2
    go_ret
    exact ⟨ret_bool (decide_eq_false (fun e => HL.out (by rw [e]))).symm, Below.refl _ _⟩
set_option maxRecDepth 100000 in
theorem eqU_any (A A2 : Option Addr) (c c2 : Nat) (a b : List Int) (w : World) (h : Reads w w.heap.size 1 A a.length (uV a)) (h2 : Reads w w.heap.size 1 A2 b.length (uV b)) (ha : a.length ≤ 140737488351232) :
    Calls Tryz.prog 60 #[.slice A a.length c, .slice A2 b.length c2] w fun e w' => e = .returned (.bool (decide (a = b))) ∧ Below w.heap.size w w' := by
  have HC := hide (equalU_any A A2 c c2 a b w h h2 ha)
  clear h h2
  go_enter Tryz.func60, Tryz.ntmps60
  go_wp2_with (go_at_call 76; refine HC.out.mono ?_; rintro e w1 ⟨rfl, hb⟩; have B1 := hide hb; clear hb)
  go_ret
  exact ⟨rfl, B1.out⟩
set_option maxRecDepth 100000 in
theorem eqB_any (A A2 : Option Addr) (c c2 : Nat) (a b : List Int) (w : World) (h : Reads w w.heap.size 1 A a.length (bV a)) (h2 : Reads w w.heap.size 1 A2 b.length (bV b)) (ha : a.length ≤ 140737488351232) :
    Calls Tryz.prog 61 #[.slice A a.length c, .slice A2 b.length c2] w fun e w' => e = .returned (.bool (decide (a = b))) ∧ Below w.heap.size w w' := by
  have HC := hide (equalB_any A A2 c c2 a b w h h2 ha)
  clear h h2
  go_enter Tryz.func61, Tryz.ntmps61
  go_wp2_with (go_at_call 24; refine HC.out.mono ?_; rintro e w1 ⟨rfl, hb⟩; have B1 := hide hb; clear hb)
  go_ret
  exact ⟨rfl, B1.out⟩
set_option maxRecDepth 100000 in
theorem eqR_any (A A2 : Option Addr) (c c2 : Nat) (a b : List Rt) (w : World) (h : Reads w w.heap.size 19 A a.length (rtsV a)) (h2 : Reads w w.heap.size 19 A2 b.length (rtsV b)) (hra : Rts a) (hrb : Rts b) (ha : a.length ≤ 140737488351232) :
    Calls Tryz.prog 62 #[.slice A a.length c, .slice A2 b.length c2] w fun e w' => e = .returned (.bool (decide (a = b))) ∧ Below w.heap.size w w' := by
  have HC := hide (equalR_any A A2 c c2 a b w h h2 hra hrb ha)
  clear h h2 hra hrb
  go_enter Tryz.func62, Tryz.ntmps62
  go_wp2_with (go_at_call 77; refine HC.out.mono ?_; rintro e w1 ⟨rfl, hb⟩; have B1 := hide hb; clear hb)
  go_ret
  exact ⟨rfl, B1.out⟩

theorem conv_byts (A : Option Addr) (c : Nat) (l : List Int) (w : World) {B : Nat} (h : Byts w B A l) : (convert 35 9 (.slice A l.length c)).run Tryz.prog w = .ok (.string (strOfNums l)) w := by
  rw [run_convert_bytes_string w 35 9 5 A l.length c Tryz.underlying35 Tryz.underlying5 Tryz.underlying9]
  rcases A with _ | ad
  · have h0 : l = [] := by
      rcases List.eq_nil_or_concat l with e | ⟨l', x, e⟩
      · exact e
      · obtain ⟨ad, e', _⟩ := h.2 (by rw [e]; simp)
        cases e'
    subst h0
    simp [Conv.bytesToString, strOfNums]
    rfl
  · have hl : (loadCells ad l.length).run Tryz.prog w = .ok (l.map (Value.int .u8)).toArray w := by
      have := run_loadCells_list (P := Tryz.prog) w ad (l.map (Value.int .u8)) (fun j v hj => by
        have hjl : j < l.length := by simpa using (List.getElem?_eq_some_iff.1 hj).1
        obtain ⟨ad', e, _, hc⟩ := h.2 (by omega)
        injection e with e
        subst e
        exact hc j v hj)
      simpa using this
    rw [run_bytesToString w _ l.length c l hl, foldl_push_bytes]
    simp [strOfNums, ByteArray.empty, ByteArray.emptyWithCapacity]
    rfl
theorem strOf_inj {a b : List Int} (ha : Bs a) (hb : Bs b) (h : strOfNums a = strOfNums b) : a = b := by
  have h1 : (strOfNums a).data.toList = (strOfNums b).data.toList := by rw [h]
  rw [strOfNums_data, strOfNums_data] at h1
  have key : ∀ l : List Int, Bs l → (l.map fun n => UInt8.ofNat n.toNat).map (fun u => (u.toNat : Int)) = l := by
    intro l hl
    rw [List.map_map]
    refine (List.map_congr_left (g := id) (fun x hx => ?_)).trans (List.map_id l)
    have := hl x hx
    simp only [Function.comp_apply, UInt8.toNat_ofNat', id_eq]
    omega
  rw [← key a ha, h1, key b hb]
set_option maxRecDepth 100000 in
set_option maxHeartbeats 4000000 in
theorem rbytes_any (A A2 : Option Addr) (c c2 : Nat) (a b : List Int) (w : World) (h : Byts w w.heap.size A a) (h2 : Byts w w.heap.size A2 b) (ha : Bs a) (hb : Bs b) :
    Calls Tryz.prog 35 #[.slice A a.length c, .slice A2 b.length c2] w fun e w' => e = .returned (.bool (decide (a = b))) ∧ Below w.heap.size w w' := by
  have k1 := conv_byts A c a w h
  have k2 := conv_byts A2 c2 b w h2
  have hq : ((strOfNums a).toList == (strOfNums b).toList) = decide (a = b) := by
    by_cases e : a = b
    · simp [e]
    · rw [decide_eq_false e]
      cases hx : ((strOfNums a).toList == (strOfNums b).toList) with
      | false => rfl
      | true =>
        have h1 := eq_of_beq hx
        rw [ByteArray.toList_eq, ByteArray.toList_eq] at h1
        exact absurd (strOf_inj ha hb (by have h3 := Array.toList_inj.1 h1; cases hA : strOfNums a; cases hB : strOfNums b; rw [hA, hB] at h3; simp at h3; rw [h3])) e
  have HQ := Lib.hid hq
  generalize strOfNums a = sa at *
  generalize strOfNums b = sb at *
  clear h h2 ha hb hq
  go_enter Tryz.func35, Tryz.ntmps35
  go_wp2
  go_ret
  exact ⟨ret_bool HQ.out, Below.refl _ _⟩

/-- An attribute as data. -/
structure AttrD where
  ty : Int
  part : Bool
  n : Int
  m : Int
  segs : List Sg
  list : List Int
  byts : List Int
  fam : Int
  routes : List Rt
  deriving DecidableEq
/-- What is known of an attribute's numbers. -/
structure AttrOk (d : AttrD) : Prop where
  s1 : d.segs.length ≤ 140737488351232
  s2 : ∀ s ∈ d.segs, s.2.length ≤ 140737488351232
  l1 : d.list.length ≤ 140737488351232
  b1 : d.byts.length ≤ 140737488351232
  b2 : Bs d.byts
  r1 : d.routes.length ≤ 140737488351232
  r2 : Rts d.routes
/-- An attribute's cells: its slices read as its lists, below block B. -/
def AttrC (w : World) (B : Nat) (cs : Array Value) (d : AttrD) : Prop :=
  ∃ A1 c1 A2 c2 A3 c3 A4 c4, cs = #[.int .i64 d.ty, .bool d.part, .int .u32 d.n, .int .u32 d.m, .slice A1 d.segs.length c1, .slice A2 d.list.length c2, .slice A3 d.byts.length c3, .int .i64 d.fam, .slice A4 d.routes.length c4] ∧
    Path w B A1 d.segs ∧ Reads w B 1 A2 d.list.length (uV d.list) ∧ Byts w B A3 d.byts ∧ Reads w B 19 A4 d.routes.length (rtsV d.routes)
theorem AttrC.keep {w w' : World} {B : Nat} {cs : Array Value} {d : AttrD} (h : AttrC w B cs d) (hk : ∀ p : Addr, p.block < B → w'.cell? p = w.cell? p) : AttrC w' B cs d := by
  obtain ⟨A1, c1, A2, c2, A3, c3, A4, c4, e, h1, h2, h3, h4⟩ := h
  exact ⟨A1, c1, A2, c2, A3, c3, A4, c4, e, h1.keep hk, h2.keep hk, Reads.keep h3 hk, h4.keep hk⟩
theorem AttrC.below {w w' : World} {B : Nat} {cs : Array Value} {d : AttrD} (h : AttrC w B cs d) (hb : Below B w w') : AttrC w' B cs d := h.keep fun _ hp => hb.cell hp
theorem AttrC.more {w : World} {B B' : Nat} {cs : Array Value} {d : AttrD} (h : AttrC w B cs d) (hB : B ≤ B') : AttrC w B' cs d := by
  obtain ⟨A1, c1, A2, c2, A3, c3, A4, c4, e, h1, h2, h3, h4⟩ := h
  exact ⟨A1, c1, A2, c2, A3, c3, A4, c4, e, h1.more hB, h2.more hB, Reads.more h3 hB, h4.more hB⟩
theorem same_bool (a b : AttrD) : ((a.ty == b.ty) && (a.part == b.part) && (a.n == b.n) && (a.m == b.m) && (a.fam == b.fam) && decide (a.segs = b.segs) && decide (a.list = b.list) && decide (a.byts = b.byts) && decide (a.routes = b.routes)) = decide (a = b) := by
  rw [Bool.eq_iff_iff]
  obtain ⟨a1, a2, a3, a4, a5, a6, a7, a8, a9⟩ := a
  obtain ⟨b1, b2, b3, b4, b5, b6, b7, b8, b9⟩ := b
  simp only [Bool.and_eq_true, beq_iff_eq, decide_eq_true_eq, AttrD.mk.injEq]
  constructor
  · rintro ⟨⟨⟨⟨⟨⟨⟨⟨h1, h2⟩, h3⟩, h4⟩, h5⟩, h6⟩, h7⟩, h8⟩, h9⟩
    exact ⟨h1, h2, h3, h4, h6, h7, h8, h5, h9⟩
  · rintro ⟨h1, h2, h3, h4, h6, h7, h8, h5, h9⟩
    exact ⟨⟨⟨⟨⟨⟨⟨⟨h1, h2⟩, h3⟩, h4⟩, h5⟩, h6⟩, h7⟩, h8⟩, h9⟩
/-- value.Same: equal just where the attributes are. -/
theorem vsameA_any (cs cs' : Array Value) (a b : AttrD) (w : World) (h : AttrC w w.heap.size cs a) (h' : AttrC w w.heap.size cs' b) (ha : AttrOk a) (hb : AttrOk b) :
    Calls Tryz.prog 42 #[.agg cs, .agg cs'] w fun e w' => e = .returned (.bool (decide (a = b))) ∧ Below w.heap.size w w' := by
  obtain ⟨A1, c1, A2, c2, A3, c3, A4, c4, rfl, h1, h2, h3, h4⟩ := h
  obtain ⟨A1', c1', A2', c2', A3', c3', A4', c4', rfl, h1', h2', h3', h4'⟩ := h'
  rw [← same_bool a b]
  refine vsame_parts a.ty b.ty a.n b.n a.m b.m a.fam b.fam a.part b.part _ _ _ _ _ _ _ _ _ _ _ _ _ _ _ _ _ w rfl rfl rfl rfl rfl ?_ ?_ ?_ ?_
  · exact fun W hW => psame_any A1 A1' c1 c1' a.segs b.segs W ((h1.below hW).more hW.size) ((h1'.below hW).more hW.size) ha.s1 ha.s2
  · exact fun W hW => eqU_any A2 A2' c2 c2' a.list b.list W ((h2.below hW).more hW.size) ((h2'.below hW).more hW.size) ha.l1
  · exact fun W hW => eqB_any A3 A3' c3 c3' a.byts b.byts W ((Reads.below h3 hW).more hW.size) ((Reads.below h3' hW).more hW.size) ha.b1
  · exact fun W hW => eqR_any A4 A4' c4 c4' a.routes b.routes W ((h4.below hW).more hW.size) ((h4'.below hW).more hW.size) ha.r2 hb.r2 ha.r1
/-- The reference's Same: equal just where the attributes are. -/
theorem rsameA_any (cs cs' : Array Value) (a b : AttrD) (w : World) (h : AttrC w w.heap.size cs a) (h' : AttrC w w.heap.size cs' b) (ha : AttrOk a) (hb : AttrOk b) :
    Calls Tryz.prog 15 #[.agg cs, .agg cs'] w fun e w' => e = .returned (.bool (decide (a = b))) ∧ Below w.heap.size w w' := by
  obtain ⟨A1, c1, A2, c2, A3, c3, A4, c4, rfl, h1, h2, h3, h4⟩ := h
  obtain ⟨A1', c1', A2', c2', A3', c3', A4', c4', rfl, h1', h2', h3', h4'⟩ := h'
  rw [← same_bool a b]
  refine rsame_parts a.ty b.ty a.n b.n a.m b.m a.fam b.fam a.part b.part _ _ _ _ _ _ _ _ _ _ _ _ _ _ _ _ _ w rfl rfl rfl rfl rfl ?_ ?_ ?_ ?_
  · exact fun W hW => same_any A1 A1' c1 c1' a.segs b.segs W ((h1.below hW).more hW.size) ((h1'.below hW).more hW.size) ha.s1 ha.s2 hb.s2
  · exact fun W hW => rnumbers_any A2 A2' c2 c2' a.list b.list W ((h2.below hW).more hW.size) ((h2'.below hW).more hW.size) ha.l1
  · exact fun W hW => rbytes_any A3 A3' c3 c3' a.byts b.byts W ((Reads.below h3 hW).more hW.size) ((Reads.below h3' hW).more hW.size) ha.b2 hb.b2
  · exact fun W hW => rroutes_any A4 A4' c4 c4' a.routes b.routes W ((h4.below hW).more hW.size) ((h4'.below hW).more hW.size) ha.r2 hb.r2 ha.r1
end Go.Proofs.YtnfclcbhehbchaaGreatDoor
