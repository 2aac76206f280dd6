/- The reference of layer 1 at readers that are values: Take, Big, Number. -/
import Derived.Test.YtgegloplhlkafaaDoorPfxR
set_option autoImplicit false
namespace Go.Proofs.YtgegloplhlkafaaDoor
open Go.RowKit

/-- A struct result in a variable, then two plain results. -/
theorem results_cellT3 {P : Program} {f : Func} {p t u : Tmp} {ty : TypeId} (h : f.results = #[.cell p ty, .tmp t, .tmp u]) (tmps : Array Value) (w : World) (g : Nat) (tt : TypeId) (cs : Array Value) (fr : Nat × Nat) (x y : Value)
    (hp : tmps.getD p undef = .pointer (some ⟨g, 0, none⟩)) (ht : tmps.getD t undef = x) (htu : tmps.getD u undef = y) (hg : w.heap[g]? = some (.cells cs tt fr)) {d : TypeDesc} (hu : P.underlying ty = some d)
    (hd : (match d with | .struct _ | .array _ _ => true | _ => false) = true) (hi : (P.info? ty).map (·.size) = some cs.size) :
    (results f tmps).run P w = .ok (.tuple #[.agg cs, x, y]) w := by
  subst ht htu
  have hp' : tmps[p]?.getD undef = .pointer (some ⟨g, 0, none⟩) := by simpa using hp
  simp [results, h, hp', asAddr, run_loadVar_row w g tt ty cs fr d hg hu hd hi]

set_option maxHeartbeats 1000000 in
theorem rbig_any (A : Option Addr) (c : Nat) (d : List Int) (w : World) (hb : Byts w w.heap.size A d) (hbs : Bs d) (hn : d.length ≤ 4) :
    Calls Tryd.prog 59 #[.slice A d.length c] w fun e w' => e = .returned (.int .u32 (bigI d)) ∧ w = w' := by
  have HB := hide hb
  have hf : bigI (d.take d.length) = bigI d := by rw [List.take_length]
  have HF := Lib.hid hf
  clear hb hf
  go_enter Tryd.func59, Tryd.ntmps59
  go_wp2
  go_loop [3, 4] (fun x i => ∃ j : Nat, j ≤ d.length ∧ i = .int .i64 j ∧ x = .int .u32 (bigI (d.take j))) (fun _ i => d.length - (intOf i).toNat)
  case atStart => exact ⟨0, Nat.zero_le _, rfl, rfl⟩
  case round =>
    obtain ⟨j, hj, rfl, rfl⟩ := hrel
    by_cases hlt : j < d.length
    · obtain ⟨ad, u, rfl, had, hu, hc⟩ := Reads.at_ (k := j) HB.out hlt
      obtain ⟨y, hy, rfl⟩ := bV_get hu
      have hyb := hbs.get hlt
      have hy' : d[j] = y := by rw [List.getElem?_eq_getElem hlt] at hy; injection hy
      rw [hy'] at hyb
      have hs := bigI_succ d j hlt
      rw [hy'] at hs
      have hx0 := (bigI_bd (d.take j) (hbs.take j)).1
      have hx1 : bigI (d.take j) < 16777216 := bigI_lt (d.take j) (hbs.take j) 3 (by rw [List.length_take]; omega)
      have HS := Lib.hid hs
      clear hs hy hy' hu
      generalize bigI (d.take j) = X at *
      go_wp2
      go_roundw
      case rel => exact ⟨j + 1, hlt, by go_num, by rw [HS.out]⟩
      case measure => simp [intOf]; omega
    · go_wp2
      go_ret
      have hjk : j = d.length := by omega
      rw [hjk, HF.out]
      exact ⟨rfl, rfl⟩

/-- Where a slice's rest begins. -/
def cutA (A : Option Addr) (c n : Nat) : Option Addr := if c = n then A else A.map (fun x => x.add n)
set_option maxHeartbeats 1000000 in
theorem rtake_ok (B : Nat) (A : Option Addr) (c : Nat) (d : List Int) (at_ : Int) (n : Nat) (w : World) (hb : Byts w B A d) (hn : n ≤ d.length) (hc : d.length ≤ c) (h0 : 0 ≤ at_) (h1 : at_ ≤ 140737488351232) (hl : d.length ≤ 140737488351232) :
    Calls Tryd.prog 40 #[.agg #[.slice A d.length c, .int .i64 at_], .int .i64 n] w fun e w' => e = .returned (.tuple #[.agg #[.slice (cutA A c n) (d.length - n) (c - n), .int .i64 (at_ + n)], .slice A n c, .bool true]) ∧
      Byts w B (cutA A c n) (d.drop n) ∧ Byts w B A (d.take n) ∧ Below w.heap.size w w' := by
  have hk := hb.take n hn
  have hd := hb.cut (k := n) (cap := c) hn hc
  have HK := hide hk
  have HD := hide hd
  clear hb hk hd
  by_cases hcn : c = n
  · subst hcn
    have hz : d.length - c = 0 := by omega
    have HZ := Lib.hid hz
    clear hz
    go_enter Tryd.func40, Tryd.ntmps40
    go_wp2
    go_region
    go_wp2
    refine bodyPost_ret (v := .tuple #[.agg #[.slice A 0 0, .int .i64 (at_ + c)], .slice A c c, .bool true])
      (results_cellT3 rfl _ _ (w.heap.size + 1) 38 _ (0, 0) _ _ rfl rfl rfl (heap_alloc2_new w _ _) Tryd.underlying38 rfl (by kernel_rfl)) rfl ?_
    have hD := HD.out
    rw [if_pos trivial] at hD
    have hca : cutA A c c = A := if_pos rfl
    rw [hca, HZ.out, Nat.sub_self]
    exact ⟨rfl, hD, HK.out, ((((Below.refl _ _).alloc (Nat.le_refl _) _).alloc (by simp) _).drew)⟩
  · go_enter Tryd.func40, Tryd.ntmps40
    go_wp2
    go_region
    go_wp2
    refine bodyPost_ret (v := .tuple #[.agg #[.slice (Option.map (fun x => x.add n) A) (d.length - n) (c - n), .int .i64 (at_ + n)], .slice A n c, .bool true])
      (results_cellT3 rfl _ _ (w.heap.size + 1) 38 _ (0, 0) _ _ rfl rfl rfl (heap_alloc2_new w _ _) Tryd.underlying38 rfl (by kernel_rfl)) rfl ?_
    have hD := HD.out
    rw [if_neg hcn] at hD
    have hca : cutA A c n = Option.map (fun x => x.add n) A := if_neg hcn
    rw [hca]
    exact ⟨rfl, hD, HK.out, ((((Below.refl _ _).alloc (Nat.le_refl _) _).alloc (by simp) _).drew)⟩

set_option maxHeartbeats 1000000 in
theorem rtake_no (A : Option Addr) (c : Nat) (k : Nat) (at_ : Int) (n : Int) (w : World) (hn : n < 0 ∨ (k : Int) < n) :
    Calls Tryd.prog 40 #[.agg #[.slice A k c, .int .i64 at_], .int .i64 n] w fun e w' => e = .returned (.tuple #[.agg #[.slice A k c, .int .i64 at_], .slice none 0 0, .bool false]) ∧ Below w.heap.size w w' := by
  by_cases hn0 : n < 0
  · go_enter Tryd.func40, Tryd.ntmps40
    go_wp2
    refine bodyPost_ret (v := .tuple #[.agg #[.slice A k c, .int .i64 at_], .slice none 0 0, .bool false])
      (results_cellT3 rfl _ _ (w.heap.size + 1) 38 _ (0, 0) _ _ rfl rfl rfl (heap_alloc2_new _ _ _) Tryd.underlying38 rfl (by kernel_rfl)) rfl ?_
    exact ⟨rfl, (((Below.refl _ _).alloc (Nat.le_refl _) _).alloc (by simp) _)⟩
  · have hn1 : (k : Int) < n := by omega
    clear hn
    go_enter Tryd.func40, Tryd.ntmps40
    go_wp2
    refine bodyPost_ret (v := .tuple #[.agg #[.slice A k c, .int .i64 at_], .slice none 0 0, .bool false])
      (results_cellT3 rfl _ _ (w.heap.size + 1) 38 _ (0, 0) _ _ rfl rfl rfl (heap_alloc2_new _ _ _) Tryd.underlying38 rfl (by kernel_rfl)) rfl ?_
    exact ⟨rfl, (((Below.refl _ _).alloc (Nat.le_refl _) _).alloc (by simp) _)⟩

set_option maxHeartbeats 1000000 in
theorem rnumber_ok (B : Nat) (A : Option Addr) (c : Nat) (d : List Int) (at_ : Int) (n : Nat) (w : World) (hBw : B ≤ w.heap.size) (hb : Byts w B A d) (hbs : Bs d) (hn0 : 1 ≤ n) (hn4 : n ≤ 4) (hn : n ≤ d.length) (hc : d.length ≤ c) (h0 : 0 ≤ at_) (h1 : at_ ≤ 140737488351232) (hl : d.length ≤ 140737488351232) :
    Calls Tryd.prog 39 #[.agg #[.slice A d.length c, .int .i64 at_], .int .i64 n] w fun e w' => e = .returned (.tuple #[.agg #[.slice (cutA A c n) (d.length - n) (c - n), .int .i64 (at_ + n)], .int .u32 (bigI (d.take n)), .bool true]) ∧
      Byts w' B (cutA A c n) (d.drop n) ∧ Below w.heap.size w w' := by
  have hT := fun W (hb : Byts W B A d) => rtake_ok B A c d at_ n W hb hn hc h0 h1 hl
  have hB : ∀ W c', Byts W W.heap.size A (d.take n) → Calls Tryd.prog 59 #[.slice A n c'] W fun e w' => e = .returned (.int .u32 (bigI (d.take n))) ∧ W = w' := fun W c' hy => by
    have := rbig_any A c' (d.take n) W hy (hbs.take n) (by rw [List.length_take]; omega)
    rwa [show (d.take n).length = n by rw [List.length_take]; omega] at this
  generalize cutA A c n = A' at *
  generalize c - n = c' at *
  have HT := hide hT
  have HB := hide hB
  have HY := hide hb
  generalize bigI (d.take n) = X at *
  clear hT hB hb hbs
  go_enter Tryd.func39, Tryd.ntmps39
  go_wp2_with fail
  have hb2 : Below w.heap.size w ((w.alloc (Obj.cells #[.slice A d.length c, .int .i64 at_] 38)).alloc (Obj.cells #[.slice none 0 0, .int .i64 0] 38)) := ((Below.refl _ _).alloc (Nat.le_refl _) _).alloc (by simp) _
  refine (HT.out _ (HY.out.below (hb2.mono hBw))).mono ?_
  rintro e w1 ⟨rfl, hd1, hk1, hb1⟩
  have hg4 : w1.heap[w.heap.size + 1]? = some (.cells #[.slice none 0 0, .int .i64 0] 38 (0, 0)) := (hb1.block (w.heap.size + 1) (by simp)).trans (heap_alloc2_new w _ _)
  have hb3 := hb2.trans (hb1.mono hb2.size)
  have hz : w.heap.size + 2 ≤ w1.heap.size := by have := hb1.size; simpa using this
  have HBW := hide hb3
  have HG4 := hide hg4
  have hbig : ∀ W, Below w1.heap.size w1 W → Calls Tryd.prog 59 #[.slice A n c] W fun e w' => e = .returned (.int .u32 X) ∧ W = w' := fun W hbw =>
    HB.out W c ((((hk1.below (hb1.mono (Nat.le_trans hBw hb2.size))).more (Nat.le_trans hBw hb2.size)).more hb1.size).below hbw |>.more hbw.size)
  have HBIG := hide hbig
  have HD1 := hide (hd1.below (hb1.mono (Nat.le_trans hBw hb2.size)))
  clear hb2 hb3 hb1 hg4 hd1 hk1 hbig
  go_wp2_with fail
  have f0 : w1.frozen? ⟨w.heap.size + 1, 0, none⟩ = false := frozen_of_row w1 _ 0 _ _ HG4.out
  have f1 : w1.frozen? ⟨w.heap.size + 1, 1, none⟩ = false := frozen_of_row w1 _ 1 _ _ HG4.out
  have c0 : w1.cell? ⟨w.heap.size + 1, 0, none⟩ = some (.slice none 0 0) := by rw [cell_of_row w1 _ 0 _ _ _ HG4.out]; rfl
  have c1 : w1.cell? ⟨w.heap.size + 1, 1, none⟩ = some (.int .i64 0) := by rw [cell_of_row w1 _ 1 _ _ _ HG4.out]; rfl
  have hz1 : w.heap.size + 1 < w1.heap.size := by omega
  go_region_with (go_at_call 59; refine (HBIG.out _ ?hbb).mono ?_; (case hbb => first | exact ((Below.refl _ _).alloc (Nat.le_refl _) _) | exact ((Below.refl _ _).alloc (Nat.le_refl _) _).drew); rintro e w2 ⟨rfl, rfl⟩)
  all_goals go_wp2
  all_goals
    have hG := (Blk.set_ (HG4.out : Blk w1 (w.heap.size + 1) 38 _) 0 (.slice A' (d.length - n) c')).set_ 1 (.int .i64 (at_ + n))
    have hBel := (((HBW.out.setCell (p := ⟨w.heap.size + 1, 0, none⟩) (by simp) (.slice A' (d.length - n) c')).setCell (p := ⟨w.heap.size + 1, 1, none⟩) (by simp) (.int .i64 (at_ + n))).alloc (by have := HBW.out.size; simpa [World.setCell] using this) (Obj.cells #[Value.slice A' (d.length - n) c', Value.int IntKind.i64 (at_ + n)] 38)).drew
    have hRd := HD1.out.below ((((Below.refl B w1).setCell (p := ⟨w.heap.size + 1, 0, none⟩) (show B ≤ w.heap.size + 1 by omega) (.slice A' (d.length - n) c')).setCell (p := ⟨w.heap.size + 1, 1, none⟩) (show B ≤ w.heap.size + 1 by omega) (.int .i64 (at_ + n))).alloc (by have := Nat.le_trans hBw HBW.out.size; simpa [World.setCell] using this) (Obj.cells #[Value.slice A' (d.length - n) c', Value.int IntKind.i64 (at_ + n)] 38)).drew
    refine bodyPost_ret (v := .tuple #[.agg #[.slice A' (d.length - n) c', .int .i64 (at_ + n)], .int .u32 X, .bool true])
      (results_cellT3 (p := 4) (t := 5) (u := 6) rfl _ _ (w.heap.size + 1) 38 _ (0, 0) _ _ rfl rfl rfl (hG.alloc _) Tryd.underlying38 rfl (by kernel_rfl)) rfl ?_
    exact ⟨rfl, hRd, hBel⟩

set_option maxHeartbeats 1000000 in
theorem rnumber_no (A : Option Addr) (c : Nat) (k : Nat) (at_ : Int) (n : Nat) (w : World) (hn0 : 1 ≤ n) (hn4 : n ≤ 4) (hn : k < n) :
    Calls Tryd.prog 39 #[.agg #[.slice A k c, .int .i64 at_], .int .i64 n] w fun e w' => e = .returned (.tuple #[.agg #[.slice A k c, .int .i64 at_], .int .u32 0, .bool false]) ∧ Below w.heap.size w w' := by
  have hT := fun W => rtake_no A c k at_ n W (.inr (by omega))
  have hB : ∀ W, Calls Tryd.prog 59 #[.slice none 0 0] W fun e w' => e = .returned (.int .u32 0) ∧ W = w' := fun W => rbig_any none 0 [] W Reads.none_ (by intro x hx; simp at hx) (by simp)
  have HT := hide hT
  have HB := hide hB
  clear hT hB
  go_enter Tryd.func39, Tryd.ntmps39
  go_wp2_with fail
  have hb2 : Below w.heap.size w ((w.alloc (Obj.cells #[.slice A k c, .int .i64 at_] 38)).alloc (Obj.cells #[.slice none 0 0, .int .i64 0] 38)) := ((Below.refl _ _).alloc (Nat.le_refl _) _).alloc (by simp) _
  refine (HT.out _).mono ?_
  rintro e w1 ⟨rfl, hb1⟩
  have hg4 : w1.heap[w.heap.size + 1]? = some (.cells #[.slice none 0 0, .int .i64 0] 38 (0, 0)) := (hb1.block (w.heap.size + 1) (by simp)).trans (heap_alloc2_new w _ _)
  have hb3 := hb2.trans (hb1.mono hb2.size)
  have hz : w.heap.size + 2 ≤ w1.heap.size := by have := hb1.size; simpa using this
  have HBW := hide hb3
  have HG4 := hide hg4
  clear hb2 hb3 hb1 hg4
  go_wp2_with fail
  have f0 : w1.frozen? ⟨w.heap.size + 1, 0, none⟩ = false := frozen_of_row w1 _ 0 _ _ HG4.out
  have f1 : w1.frozen? ⟨w.heap.size + 1, 1, none⟩ = false := frozen_of_row w1 _ 1 _ _ HG4.out
  have c0 : w1.cell? ⟨w.heap.size + 1, 0, none⟩ = some (.slice none 0 0) := by rw [cell_of_row w1 _ 0 _ _ _ HG4.out]; rfl
  have c1 : w1.cell? ⟨w.heap.size + 1, 1, none⟩ = some (.int .i64 0) := by rw [cell_of_row w1 _ 1 _ _ _ HG4.out]; rfl
  have hz1 : w.heap.size + 1 < w1.heap.size := by omega
  go_region_with (go_at_call 59; refine (HB.out _).mono ?_; rintro e w2 ⟨rfl, rfl⟩)
  all_goals go_wp2
  all_goals
    have hG := (Blk.set_ (HG4.out : Blk w1 (w.heap.size + 1) 38 _) 0 (.slice A k c)).set_ 1 (.int .i64 at_)
    have hBel := (((HBW.out.setCell (p := ⟨w.heap.size + 1, 0, none⟩) (by simp) (.slice A k c)).setCell (p := ⟨w.heap.size + 1, 1, none⟩) (by simp) (.int .i64 at_)).alloc (by have := HBW.out.size; simpa [World.setCell] using this) (Obj.cells #[Value.slice A k c, Value.int IntKind.i64 at_] 38)).drew
    refine bodyPost_ret (v := .tuple #[.agg #[.slice A k c, .int .i64 at_], .int .u32 0, .bool false])
      (results_cellT3 (p := 4) (t := 5) (u := 6) rfl _ _ (w.heap.size + 1) 38 _ (0, 0) _ _ rfl rfl rfl (hG.alloc _) Tryd.underlying38 rfl (by kernel_rfl)) rfl ?_
    exact ⟨rfl, hBel⟩
end Go.Proofs.YtgegloplhlkafaaDoor
