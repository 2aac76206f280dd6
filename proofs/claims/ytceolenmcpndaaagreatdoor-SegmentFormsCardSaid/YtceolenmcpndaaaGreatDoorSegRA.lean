/- Numbers at any width; the function literal of segment.Read: a segment that is read, at lists of at most 100,000 bytes. -/
import Derived.Test.YtceolenmcpndaaaGreatDoorSegRL
import Derived.Test.YtceolenmcpndaaaGreatDoorSegC
import Derived.RegionTactic
set_option autoImplicit false
namespace Go.Proofs.YtceolenmcpndaaaGreatDoor
open Go.RowKit

set_option maxHeartbeats 1000000 in
theorem number_bad (g : Nat) (n : Int) (w : World) (hn : n < 1 ∨ 4 < n) :
    Calls Tryz.prog 30 #[.pointer (some ⟨g, 0, none⟩), .int .i64 n] w fun e w' => e = .returned (.tuple #[.int .u32 0, .bool false]) ∧ w = w' := by
  by_cases h : n < 1
  · clear hn
    go_enter Tryz.func30, Tryz.ntmps30
    go_wp2
    go_ret2
    exact ⟨rfl, rfl⟩
  · have h4 : 4 < n := by omega
    clear hn
    go_enter Tryz.func30, Tryz.ntmps30
    go_wp2
    go_ret2
    exact ⟨rfl, rfl⟩

def At (at_ : Int) (l : List Int) : Prop := 0 ≤ at_ ∧ at_ + l.length ≤ 200000
theorem At.le {at_ : Int} {l : List Int} (h : At at_ l) : at_ ≤ 200000 ∧ l.length ≤ 200000 := by unfold At at h; omega
theorem At.drop {at_ : Int} {l : List Int} {n : Nat} (h : At at_ l) (hn : n ≤ l.length) : At (at_ + n) (l.drop n) := by unfold At at *; rw [List.length_drop]; omega
/-- A number of k bytes, all of them there. -/
theorem num_yes (g : Nat) (l : List Int) (at_ : Int) (k : Nat) (w : World) (hr : Rdr w g l at_) (hb : Bs l) (ha : At at_ l) (hk0 : 1 ≤ k) (hk : k ≤ 4) (hn : k ≤ l.length) :
    Calls Tryz.prog 30 #[.pointer (some ⟨g, 0, none⟩), .int .i64 k] w fun e w' => e = .returned (.tuple #[.int .u32 (bigI (l.take k)), .bool true]) ∧ w.grownBy w' (some g) ∧ ∃ at', Rdr w' g (l.drop k) at' ∧ At at' (l.drop k) := by
  have h2 := ha.le
  exact (number_ok g l at_ k w hr hb hk0 hk hn (by omega) ha.1 (by omega)).mono (by rintro e w' ⟨rfl, hG⟩; exact ⟨rfl, hG.only, _, hG.rdr, ha.drop hn⟩)
/-- A number that is not there. -/
theorem num_no (g : Nat) (l : List Int) (at_ : Int) (n : Int) (w : World) (hr : Rdr w g l at_) (hn : n < 1 ∨ 4 < n ∨ (l.length : Int) < n) :
    Calls Tryz.prog 30 #[.pointer (some ⟨g, 0, none⟩), .int .i64 n] w fun e w' => e = .returned (.tuple #[.int .u32 0, .bool false]) ∧ w.grownBy w' (some g) ∧ Rdr w' g l at_ := by
  by_cases h : n < 1 ∨ 4 < n
  · exact (number_bad g n w h).mono (by rintro e w' ⟨rfl, rfl⟩; exact ⟨rfl, World.grownBy.refl w _, hr⟩)
  · obtain ⟨k, rfl⟩ : ∃ k : Nat, n = k := ⟨n.toNat, by omega⟩
    exact (number_no g l at_ k w hr (by omega) (by omega) (by omega)).mono (by rintro e w' ⟨rfl, hb⟩; exact ⟨rfl, only_of_below hb _, hr.below hb⟩)
theorem num_one (g : Nat) (l : List Int) (at_ : Int) (w : World) (hr : Rdr w g l at_) (hb : Bs l) (ha : At at_ l) :
    Calls Tryz.prog 30 #[.pointer (some ⟨g, 0, none⟩), .int .i64 1] w fun e w' => ∃ o, e = .returned (.tuple #[.int .u32 (l.headD 0), .bool o]) ∧ w.grownBy w' (some g) ∧ ∃ at', Rdr w' g (l.drop 1) at' ∧ At at' (l.drop 1) := by
  match l, hr, hb, ha with
  | [], hr, hb, ha => exact (num_no g [] at_ 1 w hr (by simp)).mono (by rintro e w' ⟨rfl, h1, h2⟩; exact ⟨_, rfl, h1, _, h2, ha⟩)
  | x :: t, hr, hb, ha => exact (num_yes g (x :: t) at_ 1 w hr hb ha (by omega) (by omega) (by simp)).mono (by rintro e w' ⟨rfl, h1, at', h2, h3⟩; exact ⟨true, by simp [bigI], h1, _, h2, h3⟩)

/-- The world in the middle of the literal: the segment's variable at B5, its numbers' row, the width's variable, the reader. -/
structure Mid (w W : World) (gr bR bW B5 : Nat) (width K : Int) (sv : Value) (m : Nat) (ns l : List Int) (at_ : Int) : Prop where
  b5 : W.heap[B5]? = some (.cells #[.int .i64 K, sv] 40 (0, 0))
  own : W.ownsRow (B5 + 1) 41 1 sv m (uV ns)
  cr : W.cell? ⟨bR, 0, none⟩ = some (.pointer (some ⟨gr, 0, none⟩))
  cw : W.cell? ⟨bW, 0, none⟩ = some (.int .i64 width)
  gro : w.grownBy W (some gr)
  rdr : Rdr W gr l at_
  at_ : At at_ l
  lt : gr < w.heap.size
  hB : w.heap.size ≤ B5
  hw : bW < w.heap.size
  hr : bR < w.heap.size

section
variable {w W W' : World} {gr bR bW B5 m : Nat} {width K at_ : Int} {sv : Value} {ns l : List Int}
theorem Mid.lt5 (h : Mid w W gr bR bW B5 width K sv m ns l at_) : B5 < W.heap.size := lt_of_block h.b5
theorem Mid.below (h : Mid w W gr bR bW B5 width K sv m ns l at_) (hb : Below W.heap.size W W') : Mid w W' gr bR bW B5 width K sv m ns l at_ where
  b5 := (hb.block B5 h.lt5).trans h.b5
  own := own_keep h.own fun b hb' => hb.block b (h.own.lt b hb').2
  cr := cell_below h.cr hb
  cw := cell_below h.cw hb
  gro := h.gro.trans (only_of_below hb _)
  rdr := h.rdr.below hb
  at_ := h.at_
  lt := h.lt
  hB := h.hB
  hw := h.hw
  hr := h.hr
theorem Mid.alloc (h : Mid w W gr bR bW B5 width K sv m ns l at_) (o : Obj) : Mid w (W.alloc o) gr bR bW B5 width K sv m ns l at_ := h.below ((Below.refl _ _).alloc (Nat.le_refl _) _)
theorem Mid.drew (h : Mid w W gr bR bW B5 width K sv m ns l at_) : Mid w W.drew gr bR bW B5 width K sv m ns l at_ := h.below ((Below.refl _ _).drew)
theorem Mid.turn {K' : Int} {sv' : Value} {m' : Nat} {ns' : List Int} (h : Mid w W gr bR bW B5 width K sv m ns l at_) (hB : W'.heap[B5]? = some (.cells #[.int .i64 K', sv'] 40 (0, 0))) (ho : W'.ownsRow (B5 + 1) 41 1 sv' m' (uV ns'))
    (hgo : w.grownBy W' (some gr)) (hk : ∀ b, b < B5 → W'.heap[b]? = W.heap[b]?) : Mid w W' gr bR bW B5 width K' sv' m' ns' l at_ where
  b5 := hB
  own := ho
  cr := (World.cell?_of_block (a := ⟨bR, 0, none⟩) (hk bR (by have := h.hr; have := h.hB; omega))).trans h.cr
  cw := (World.cell?_of_block (a := ⟨bW, 0, none⟩) (hk bW (by have := h.hw; have := h.hB; omega))).trans h.cw
  gro := hgo
  rdr := h.rdr.keep fun b hb => hk b (by have := h.lt; have := h.hB; omega)
  at_ := h.at_
  lt := h.lt
  hB := h.hB
  hw := h.hw
  hr := h.hr
theorem Mid.store (h : Mid w W gr bR bW B5 width K sv m ns l at_) (hB : W'.heap[B5]? = some (.cells #[.int .i64 K, sv] 40 (0, 0))) (hg : W.grownBy W' (some B5)) : Mid w W' gr bR bW B5 width K sv m ns l at_ :=
  h.turn hB (own_keep h.own fun b hb' => hg.block b (h.own.lt b hb').2 (by have := (h.own.lt b hb').1; intro e; injection e; omega))
    ⟨hg.os.trans h.gro.os, hg.tape.trans h.gro.tape, hg.output.trans h.gro.output, Nat.le_trans h.gro.size hg.size, fun i hi hne => (hg.block i (Nat.lt_of_lt_of_le hi h.gro.size) (by have := h.hB; intro e; injection e; omega)).trans (h.gro.block i hi hne)⟩
    fun b hb => hg.block b (by have := h.lt5; omega) (by intro e; injection e; omega)
/-- A number was read. -/
theorem Mid.read {l' : List Int} {at' : Int} (h : Mid w W gr bR bW B5 width K sv m ns l at_) (hg : W.grownBy W' (some gr)) (hr : Rdr W' gr l' at') (ha : At at' l') (nR : bR ≠ gr) (nW : bW ≠ gr) : Mid w W' gr bR bW B5 width K sv m ns l' at' where
  b5 := (hg.block B5 h.lt5 (by have := h.lt; have := h.hB; intro e; injection e; omega)).trans h.b5
  own := own_keep h.own fun b hb' => hg.block b (h.own.lt b hb').2 (by have := (h.own.lt b hb').1; have := h.lt; have := h.hB; intro e; injection e; omega)
  cr := (World.cell?_of_block (a := ⟨bR, 0, none⟩) (hg.block bR (by have := h.hr; have := h.gro.size; show bR < _; omega) (by intro e; injection e with e; exact nR e))).trans h.cr
  cw := (World.cell?_of_block (a := ⟨bW, 0, none⟩) (hg.block bW (by have := h.hw; have := h.gro.size; show bW < _; omega) (by intro e; injection e with e; exact nW e))).trans h.cw
  gro := h.gro.trans hg
  rdr := hr
  at_ := ha
  lt := h.lt
  hB := h.hB
  hw := h.hw
  hr := h.hr
/-- The first field is set. -/
theorem Mid.kind (h : Mid w W gr bR bW B5 width K sv m ns l at_) (K' : Int) : Mid w (W.setCell ⟨B5, 0, none⟩ (.int .i64 K')) gr bR bW B5 width K' sv m ns l at_ :=
  h.turn (by rw [heap_setCell_same W B5 0 _ _ _ h.b5]; rfl) (ownsRow_setCell_below h.own (by simp) _)
    (by
      have h2 : W.grownBy (W.setCell ⟨B5, 0, none⟩ (.int .i64 K')) (some B5) := only_setCell (World.grownBy.refl W _) (.inl rfl) _
      exact ⟨h2.os.trans h.gro.os, h2.tape.trans h.gro.tape, h2.output.trans h.gro.output, Nat.le_trans h.gro.size h2.size, fun i hi hne => (h2.block i (Nat.lt_of_lt_of_le hi h.gro.size) (by have := h.hB; intro e; injection e; omega)).trans (h.gro.block i hi hne)⟩)
    fun b hb => Below.heap_setCell W _ _ b (by show b ≠ B5; omega)
/-- One more number. -/
theorem Mid.push {w1 : World} {g cap : Nat} {x : Int} {o : Obj} (h : Mid w W gr bR bW B5 width K sv m ns l at_) (hg1 : (W.alloc o).grownBy w1 sv.ownBlock) (hown1 : w1.ownsRow (B5 + 1) 41 1 (.slice (some ⟨g, 0, none⟩) (m + 1) cap) (m + 1) (uV ns ++ [.int .u32 x])) :
    w1.cell? ⟨B5, 1, none⟩ = some sv ∧ w1.frozen? ⟨B5, 1, none⟩ = false ∧
    Hid (Mid w (w1.setCell ⟨B5, 1, none⟩ (.slice (some ⟨g, 0, none⟩) (m + 1) cap)) gr bR bW B5 width K (.slice (some ⟨g, 0, none⟩) (m + 1) cap) (m + 1) (ns ++ [x]) l at_) := by
  have hlt := h.lt5
  have hkeep : ∀ b, b < W.heap.size → b ≤ B5 → w1.heap[b]? = W.heap[b]? := fun b hb hb5 =>
    (hg1.block b (by simp; omega) (by intro e; have := (h.own.lt b e.symm).1; omega)).trans (Below.heap_alloc W o b hb)
  have hB1 : w1.heap[B5]? = some (.cells #[.int .i64 K, sv] 40 (0, 0)) := (hkeep B5 hlt (Nat.le_refl _)).trans h.b5
  have hsz : W.heap.size ≤ w1.heap.size := by have := hg1.size; simp at this; omega
  refine ⟨by rw [cell_of_row _ _ 1 _ _ _ hB1]; rfl, frozen_of_row _ _ 1 _ _ hB1, hide ?_⟩
  refine h.turn (by rw [heap_setCell_same w1 B5 1 _ _ _ hB1]; rfl) (by have := ownsRow_setCell_below hown1 (a := ⟨B5, 1, none⟩) (by simp) (.slice (some ⟨g, 0, none⟩) (m + 1) cap); simpa [uV] using this) ?_
    fun b hb => (Below.heap_setCell w1 _ _ b (by show b ≠ B5; omega)).trans (hkeep b (by omega) (by omega))
  have h2 : w1.grownBy (w1.setCell ⟨B5, 1, none⟩ (.slice (some ⟨g, 0, none⟩) (m + 1) cap)) (some B5) := only_setCell (World.grownBy.refl w1 _) (.inl rfl) _
  refine ⟨h2.os.trans (hg1.os.trans h.gro.os), h2.tape.trans (hg1.tape.trans h.gro.tape), h2.output.trans (hg1.output.trans h.gro.output), Nat.le_trans h.gro.size (Nat.le_trans hsz h2.size), fun i hi hne => ?_⟩
  have hi1 : i < W.heap.size := Nat.lt_of_lt_of_le hi h.gro.size
  have hi5 := h.hB
  exact (h2.block i (by omega) (by intro e; injection e; omega)).trans ((hkeep i hi1 (by omega)).trans (h.gro.block i hi hne))
end

theorem seg_size : (Tryz.prog.info? 40).map (·.size) = some 2 := by kernel_rfl
/-- Valid at one segment that lies in a block. -/
theorem one_valid {W : World} {gB lo m : Nat} {width K : Int} {sv : Value} {ns : List Int} (hB : W.heap[gB]? = some (.cells #[.int .i64 K, sv] 40 (0, 0))) (ho : W.ownsRow lo 41 1 sv m (uV ns)) (hs : Sound [(K, ns)]) :
    Calls Tryz.prog 9 #[.int .i64 width, .slice (some ⟨gB, 0, none⟩) 1 1] W fun e w' => e = .returned (.bool (validF width [(K, ns)])) ∧ Below W.heap.size W w' := by
  have hm : m = ns.length := by have := ho.1; rw [uV_len] at this; omega
  subst hm
  refine valid_any width (some ⟨gB, 0, none⟩) 1 [(K, ns)] W ⟨[.int .i64 K, sv], ⟨rfl, fun _ => ⟨_, rfl, lt_of_block hB, fun j u hu => World.news_of_block hB j u (by simpa using hu)⟩⟩, rfl, fun i s h => ?_⟩ hs
  have hi : i = 0 := by
    rcases Nat.eq_zero_or_pos i with e | e
    · exact e
    · rw [List.getElem?_eq_none (by simp; omega)] at h; cases h
  subst hi
  have e : (K, ns) = s := by simpa using h
  subst e
  obtain ⟨A, c, rfl, h2, h3⟩ := slice_of_own ho
  exact ⟨_, _, rfl, rfl, rfl, A, c, rfl, h2, h3, Reads.of_own ho⟩
/-- A struct result in a variable, then a plain one. -/
theorem results_cellT2 {P : Program} {f : Func} {p t : Tmp} {ty : TypeId} (h : f.results = #[.cell p ty, .tmp t]) (tmps : Array Value) (w : World) (g : Nat) (tt : TypeId) (cs : Array Value) (fr : Nat × Nat) (x : Value)
    (hp : tmps.getD p undef = .pointer (some ⟨g, 0, none⟩)) (ht : tmps.getD t undef = x) (hg : w.heap[g]? = some (.cells cs tt fr)) {d : TypeDesc} (hu : P.underlying ty = some d)
    (hd : (match d with | .struct _ | .array _ _ => true | _ => false) = true) (hi : (P.info? ty).map (·.size) = some cs.size) :
    (results f tmps).run P w = .ok (.tuple #[.agg cs, x]) w := by
  subst ht
  have hp' : tmps[p]?.getD undef = .pointer (some ⟨g, 0, none⟩) := by simpa using hp
  simp [results, h, hp', asAddr, run_loadVar_row w g tt ty cs fr d hg hu hd hi]
end Go.Proofs.YtceolenmcpndaaaGreatDoor
