/- The contracts of package octet's readers (New, cut, Number, Take, At, Left) and of slices.Clone at bytes; each number below 2^47. -/
import Derived.Test.YtplgbpcjbjaloaaGreatDoorProg
import Derived.Test.YtplgbpcjbjaloaaGreatDoorBase
import Derived.WalkSpells
import Derived.Deep.QuietTactic
import Derived.BigQuiet
import Derived.BigRegion
import Derived.Lib.SliceRun
import Derived.KernelRfl
set_option autoImplicit false
namespace Go.Proofs.YtplgbpcjbjaloaaGreatDoor
open Go.RowKit

def bV (l : List Int) : List Value := l.map (Value.int .u8)
theorem bV_len (l : List Int) : (bV l).length = l.length := by simp [bV]
theorem bV_one (l : List Int) : ∀ u ∈ bV l, u.oneCell' = true := by
  intro u hu; simp only [bV, List.mem_map] at hu; obtain ⟨x, _, rfl⟩ := hu; rfl
theorem bV_drop (l : List Int) (n : Nat) : bV (l.drop n) = (bV l).drop n := by simp [bV, List.map_drop]
theorem bV_take (l : List Int) (n : Nat) : bV (l.take n) = (bV l).take n := by simp [bV, List.map_take]
theorem bV_append (a b : List Int) : bV (a ++ b) = bV a ++ bV b := by simp [bV]
theorem bV_get {l : List Int} {i : Nat} {u : Value} (h : (bV l)[i]? = some u) : ∃ x, l[i]? = some x ∧ u = .int .u8 x := by
  simp only [bV, List.getElem?_map] at h
  cases hx : l[i]? with
  | none => rw [hx] at h; cases h
  | some x => rw [hx] at h; cases h; exact ⟨x, rfl, rfl⟩

/-- A slice of bytes that reads as a list, below block B. -/
def Byts (w : World) (B : Nat) (A : Option Addr) (l : List Int) : Prop := Reads w B 1 A l.length (bV l)

theorem Byts.take {w : World} {B : Nat} {A : Option Addr} {l : List Int} (h : Byts w B A l) (n : Nat) (hn : n ≤ l.length) : Byts w B A (l.take n) := by
  refine ⟨by simp [bV_len], fun h0 => ?_⟩
  have hl : (l.take n).length = n := by simp; omega
  rw [hl] at h0
  obtain ⟨ad, e, hb, hc⟩ := h.2 (by omega)
  refine ⟨ad, e, hb, fun j u hu => hc j u ?_⟩
  rw [bV_take, List.getElem?_take] at hu
  split at hu
  · exact hu
  · cases hu
theorem Byts.cut {w : World} {B : Nat} {A : Option Addr} {l : List Int} (h : Byts w B A l) {k cap : Nat} (hk : k ≤ l.length) (hc : l.length ≤ cap) :
    Byts w B (if cap = k then A else A.map (·.add k)) (l.drop k) := by
  have := Reads.cut (k := k) (cap := cap) h hk hc
  simp only [Nat.mul_one] at this
  unfold Byts
  rw [List.length_drop, bV_drop]
  exact this

/-- A reader at block g: its bytes lie below it. -/
structure Rdr (w : World) (g : Nat) (l : List Int) (at_ : Int) : Prop where
  ex : ∃ (t : TypeId) (A : Option Addr) (c : Nat), w.heap[g]? = some (.cells #[.slice A l.length c, .int .i64 at_] t (0, 0)) ∧ l.length ≤ c ∧ c ≤ maxLen ∧ Byts w g A l

theorem Rdr.keep {w w' : World} {g : Nat} {l : List Int} {at_ : Int} (h : Rdr w g l at_) (hk : ∀ b, b ≤ g → w'.heap[b]? = w.heap[b]?) : Rdr w' g l at_ := by
  obtain ⟨t, A, c, hg, h1, h2, hr⟩ := h.ex
  exact ⟨t, A, c, (hk g (Nat.le_refl _)).trans hg, h1, h2, hr.keep fun p hp => World.cell?_of_block (hk p.block (by omega))⟩
theorem Rdr.lt {w : World} {g : Nat} {l : List Int} {at_ : Int} (h : Rdr w g l at_) : g < w.heap.size := by
  obtain ⟨t, A, c, hg, _⟩ := h.ex; exact lt_of_block hg
theorem Rdr.below {w w' : World} {g : Nat} {l : List Int} {at_ : Int} (h : Rdr w g l at_) (hb : Below w.heap.size w w') : Rdr w' g l at_ :=
  h.keep fun b hb' => hb.block b (by have := h.lt; omega)
theorem Rdr.drew {w : World} {g : Nat} {l : List Int} {at_ : Int} (h : Rdr w g l at_) : Rdr w.drew g l at_ := h.keep fun _ _ => rfl
theorem Rdr.alloc {w : World} {g : Nat} {l : List Int} {at_ : Int} (h : Rdr w g l at_) (o : Obj) : Rdr (w.alloc o) g l at_ :=
  h.keep fun b hb => Below.heap_alloc w o b (by have := h.lt; omega)

theorem u8_info : (Tryz.prog.info? 5).map (fun i => (i.zero, i.size, i.bytes)) = some (some (.int .u8 0), 1, 1) := by kernel_rfl

set_option maxHeartbeats 400000 in
/-- slices.Clone of bytes: a copy in new memory, or nil. -/
theorem clone_any (A : Option Addr) (c : Nat) (l : List Int) (w : World) (h : Byts w w.heap.size A l) (hn : l.length ≤ 140737488351232) :
    Calls Tryz.prog 40 #[.slice A l.length c] w fun e w' => ∃ A' c', e = .returned (.slice A' l.length c') ∧ l.length ≤ c' ∧ c' ≤ maxLen ∧ Byts w' w'.heap.size A' l ∧ Below w.heap.size w w' := by
  obtain ⟨i0, hi0, hz0, hz1, hz2⟩ := info_parts u8_info
  have qT : ∀ (w : World) (a : Option Addr) (n c n' c' : Nat), (binOp .eql 25 (.slice a n c) (.slice none n' c')).run Tryz.prog w = .ok (.bool a.isNone) w := fun w a n c n' c' => Lib.run_eql_slice_nil w _ _ a n c n' c' Tryz.underlying25
  rcases A with _ | ad
  · have h0 : l = [] := by
      rcases List.eq_nil_or_concat l with e | ⟨l', x, e⟩
      · exact e
      · obtain ⟨ad, e', _⟩ := h.2 (by rw [e]; simp)
        cases e'
    subst h0
    go_enter Tryz.func40, Tryz.ntmps40
    go_wp2
    go_ret
    exact ⟨none, 0, rfl, Nat.le_refl _, by simp [maxLen], Reads.none_, Below.refl _ _⟩
  · go_enter Tryz.func40, Tryz.ntmps40
    go_wp2_with (first
      | (at_builtin
         refine wpList_append_any _ rfl (.tmp 5) (.tmp 6) _ rfl w.heap.size 5 i0 _ 1 1 Tryz.underlying25 hi0 hz0 hz1 hz2 rfl (by omega) _ 0 [] rfl
           (World.ownsRow_lit w #[] 0 (Nat.le_refl _) (by simp [maxLen]) (by simp)) w.heap.size (some ad) l.length c (bV l) rfl ((h.alloc (Nat.le_refl _) _)) (bV_one l) (by simp only [maxLen]; omega) (by omega) (by simp) ?_
         intro v1 w1 hown1 hg1 hat1))
    go_ret
    have hb1 : Below w.heap.size w w1 := ((Below.refl _ _).alloc (Nat.le_refl _) _).grown hg1 (by simp) (fun k hk => by have e : w.heap.size = k := Option.some.inj hk; omega)
    simp only [Nat.zero_add, List.nil_append] at hown1
    rcases hown1.2 with ⟨e, hn0⟩ | ⟨g, cap, cur, e, hb, hh, hc1, hc2, hs, ht⟩
    · subst e
      exact ⟨none, 0, by rw [hn0]; rfl, by omega, by simp [maxLen], Reads.of_own (by rw [hn0] at hown1 ⊢; exact hown1), hb1⟩
    · subst e
      exact ⟨_, cap, rfl, hc1, hc2, Reads.of_own hown1, hb1⟩

set_option maxHeartbeats 400000 in
theorem new_any (A : Option Addr) (c : Nat) (l : List Int) (w : World) (h : Byts w w.heap.size A l) (hn : l.length ≤ 140737488351232) :
    Calls Tryz.prog 13 #[.slice A l.length c] w fun e w' => ∃ g, e = .returned (.pointer (some ⟨g, 0, none⟩)) ∧ w.heap.size ≤ g ∧ Rdr w' g l 0 ∧ Below w.heap.size w w' := by
  go_enter Tryz.func13, Tryz.ntmps13
  go_wp2_with (go_at_call 40; refine (clone_any A c l _ h hn).mono ?_; rintro e w1 ⟨A', c', rfl, hc1, hc2, hr, hb⟩)
  go_ret
  refine ⟨w1.heap.size, rfl, hb.size, ⟨_, A', c', heap_alloc_new _ _, hc1, hc2, hr.alloc (Nat.le_refl _) _⟩, hb.alloc hb.size _⟩

/-- What a call does to a reader at block g: only g has turned, and it stands n bytes further. -/
structure Goes (w w' : World) (g : Nat) (l : List Int) (at_ : Int) : Prop where
  rdr : Rdr w' g l at_
  only : w.grownBy w' (some g)

theorem goes_cut {w : World} {g : Nat} {A A' : Option Addr} {k c c' : Nat} {at_ : Int} {t : TypeId} {l : List Int} {at1 : Int}
    (hg : w.heap[g]? = some (.cells #[.slice A k c, .int .i64 at_] t (0, 0))) (hlc : l.length ≤ c') (hc : c' ≤ maxLen) (hb : Byts w g A' l) :
    Goes w ((w.setCell ⟨g, 0, none⟩ (.slice A' l.length c')).setCell ⟨g, 1, none⟩ (.int .i64 at1)) g l at1 := by
  have hB : Blk w g t #[.slice A k c, .int .i64 at_] := hg
  have h2 := (hB.set_ 0 (.slice A' l.length c')).set_ 1 (.int .i64 at1)
  have ho : w.grownBy ((w.setCell ⟨g, 0, none⟩ (.slice A' l.length c')).setCell ⟨g, 1, none⟩ (.int .i64 at1)) (some g) :=
    only_setCell (p := ⟨g, 1, none⟩) (only_setCell (p := ⟨g, 0, none⟩) (World.grownBy.refl w _) (.inl rfl) _) (.inl rfl) _
  refine ⟨⟨t, A', c', h2, hlc, hc, ?_⟩, ho⟩
  exact hb.keep fun p hp => World.cell?_of_block (ho.block p.block (by have := lt_of_block hg; omega) (by intro e; injection e; omega))
theorem Goes.alloc {w w' : World} {g : Nat} {l : List Int} {at_ : Int} (h : Goes w w' g l at_) (o : Obj) : Goes w (w'.alloc o) g l at_ := ⟨h.rdr.alloc o, only_alloc h.only o⟩
theorem Goes.drew {w w' : World} {g : Nat} {l : List Int} {at_ : Int} (h : Goes w w' g l at_) : Goes w w'.drew g l at_ := ⟨h.rdr.drew, only_drew h.only⟩
theorem Goes.below {w w' w'' : World} {g : Nat} {l : List Int} {at_ : Int} (h : Goes w w' g l at_) (hb : Below w'.heap.size w' w'') : Goes w w'' g l at_ :=
  ⟨h.rdr.below hb, h.only.trans (only_of_below hb _)⟩

set_option maxHeartbeats 1000000 in
theorem cut_ok (g : Nat) (l : List Int) (at_ : Int) (n : Nat) (w : World) (hr : Rdr w g l at_) (hn : n ≤ l.length) (hl : l.length ≤ 140737488351232) (h0 : 0 ≤ at_) (h1 : at_ ≤ 140737488351232) :
    Calls Tryz.prog 54 #[.pointer (some ⟨g, 0, none⟩), .int .i64 n] w fun e w' => ∃ A, e = .returned (.tuple #[.agg #[.slice A n n, .int .i64 at_], .bool true]) ∧
      Byts w' g A (l.take n) ∧ Goes w w' g (l.drop n) (at_ + n) := by
  obtain ⟨t, A, c, hg, hlc, hc, hby⟩ := hr.ex
  have hlt : g < w.heap.size := lt_of_block hg
  have c0 : w.cell? ⟨g, 0, none⟩ = some (.slice A l.length c) := by rw [cell_of_row w g 0 _ _ _ hg]; rfl
  have c1 : w.cell? ⟨g, 1, none⟩ = some (.int .i64 at_) := by rw [cell_of_row w g 1 _ _ _ hg]; rfl
  have f0 : w.frozen? ⟨g, 0, none⟩ = false := frozen_of_row w g 0 _ _ hg
  have f1 : w.frozen? ⟨g, 1, none⟩ = false := frozen_of_row w g 1 _ _ hg
  have hnc : n ≤ c := by omega
  have HG := Lib.hid hg
  clear hg hr
  go_enter Tryz.func54, Tryz.ntmps54
  go_wp2
  go_region
  go_wp2
  go_region
  all_goals go_wp2
  all_goals
    refine bodyPost_ret (v := .tuple #[.agg #[.slice A n n, .int .i64 at_], .bool true]) (by simp [results, Tryz.results54, go_sem]) rfl ?_
  all_goals
    have hcut := hby.cut (k := n) (cap := c) hn hlc
    have hdl : (l.drop n).length = l.length - n := List.length_drop ..
  · have hcn : _ := h
    have hG := ((((goes_cut (l := l.drop n) (c' := 0) (at1 := at_ + n) HG.out (by omega) (by simp [maxLen]) (by rw [if_pos hcn] at hcut; exact hcut)).alloc
      (Obj.cells #[Value.slice A n n, Value.int IntKind.i64 at_] 86)).alloc (Obj.cells #[Value.slice A n n, Value.int IntKind.i64 at_] 86)).drew).drew
    rw [hdl] at hG
    exact ⟨A, rfl, (hby.take n hn).keep fun p hp => World.cell?_of_block (hG.only.block p.block (by omega) (by intro e; injection e; omega)), hG⟩
  · have hcn : _ := h
    have hG := ((((goes_cut (l := l.drop n) (c' := c - n) (at1 := at_ + n) HG.out (by omega) (by omega) (by rw [if_neg hcn] at hcut; exact hcut)).alloc
      (Obj.cells #[Value.slice A n n, Value.int IntKind.i64 at_] 86)).alloc (Obj.cells #[Value.slice A n n, Value.int IntKind.i64 at_] 86)).drew).drew
    rw [hdl] at hG
    exact ⟨A, rfl, (hby.take n hn).keep fun p hp => World.cell?_of_block (hG.only.block p.block (by omega) (by intro e; injection e; omega)), hG⟩

set_option maxHeartbeats 1000000 in
theorem cut_no (g : Nat) (l : List Int) (at_ : Int) (n : Int) (w : World) (hr : Rdr w g l at_) (hn : n < 0 ∨ (l.length : Int) < n) :
    Calls Tryz.prog 54 #[.pointer (some ⟨g, 0, none⟩), .int .i64 n] w fun e w' => e = .returned (.tuple #[.agg #[.slice none 0 0, .int .i64 0], .bool false]) ∧
      Below w.heap.size w w' := by
  obtain ⟨t, A, c, hg, hlc, hc, hby⟩ := hr.ex
  have hlt : g < w.heap.size := lt_of_block hg
  have c0 : w.cell? ⟨g, 0, none⟩ = some (.slice A l.length c) := by rw [cell_of_row w g 0 _ _ _ hg]; rfl
  have HG := Lib.hid hg
  clear hg hr
  by_cases hn0 : n < 0
  · go_enter Tryz.func54, Tryz.ntmps54
    go_wp2
    refine bodyPost_ret (v := .tuple #[.agg #[.slice none 0 0, .int .i64 0], .bool false]) (by simp [results, Tryz.results54, go_sem]) rfl ⟨rfl, ?_⟩
    exact (Below.refl _ _).alloc (Nat.le_refl _) _
  · have hn1 : (l.length : Int) < n := by omega
    clear hn
    go_enter Tryz.func54, Tryz.ntmps54
    go_wp2
    refine bodyPost_ret (v := .tuple #[.agg #[.slice none 0 0, .int .i64 0], .bool false]) (by simp [results, Tryz.results54, go_sem]) rfl ⟨rfl, ?_⟩
    exact (Below.refl _ _).alloc (Nat.le_refl _) _

def bigI (l : List Int) : Int := l.foldl (fun n y => n * 256 + y) 0
def Bs (l : List Int) : Prop := ∀ x ∈ l, 0 ≤ x ∧ x < 256
theorem Bs.take {l : List Int} (h : Bs l) (n : Nat) : Bs (l.take n) := fun x hx => h x (List.mem_of_mem_take hx)
theorem Bs.drop {l : List Int} (h : Bs l) (n : Nat) : Bs (l.drop n) := fun x hx => h x (List.mem_of_mem_drop hx)
theorem Bs.get {l : List Int} (h : Bs l) {i : Nat} (hi : i < l.length) : 0 ≤ l[i] ∧ l[i] < 256 := h _ (List.getElem_mem hi)
theorem bigI_snoc (l : List Int) (y : Int) : bigI (l ++ [y]) = bigI l * 256 + y := by simp [bigI]
theorem bigI_succ (l : List Int) (i : Nat) (hi : i < l.length) : bigI (l.take (i + 1)) = bigI (l.take i) * 256 + l[i] := by
  rw [List.take_succ_eq_append_getElem hi, bigI_snoc]
theorem bigI_bd0 (l : List Int) (h : Bs l) : ∀ (acc : Int) (m : Nat), 0 ≤ acc → acc < 256 ^ m → 0 ≤ l.foldl (fun n y => n * 256 + y) acc ∧ l.foldl (fun n y => n * 256 + y) acc < 256 ^ (m + l.length) := by
  induction l with
  | nil => intro acc m h0 h1; exact ⟨h0, h1⟩
  | cons y l ih =>
    intro acc m h0 h1
    have hy := h y (by simp)
    have := ih (fun x hx => h x (by simp [hx])) (acc * 256 + y) (m + 1) (by omega) (by rw [Int.pow_succ]; omega)
    rw [List.length_cons, List.foldl_cons, show m + (l.length + 1) = m + 1 + l.length from by omega]
    exact this
theorem bigI_bd (l : List Int) (h : Bs l) : 0 ≤ bigI l ∧ bigI l < 256 ^ l.length := by
  have := bigI_bd0 l h 0 0 (Int.le_refl _) (by decide)
  simpa [bigI] using this
theorem bigI_lt (l : List Int) (h : Bs l) (n : Nat) (hn : l.length ≤ n) : bigI l < 256 ^ n := by
  have h1 := (bigI_bd l h).2
  have h2 : (256 : Nat) ^ l.length ≤ 256 ^ n := Nat.pow_le_pow_right (by decide) hn
  have e1 : ((256 ^ l.length : Nat) : Int) = (256 : Int) ^ l.length := Int.natCast_pow 256 _
  have e2 : ((256 ^ n : Nat) : Int) = (256 : Int) ^ n := Int.natCast_pow 256 _
  omega
theorem u32_join (X y : Int) (h0 : 0 ≤ X) (h1 : X < 16777216) (h2 : 0 ≤ y) (h3 : y < 256) : bits .or .u32 (X * 256) y = X * 256 + y := by
  rw [u32_or _ _ (by omega) (by omega) h2 (by omega), nat_join 8 _ _ (by omega) (by omega)]
  omega

set_option maxHeartbeats 1000000 in
theorem number_ok (g : Nat) (l : List Int) (at_ : Int) (k : Nat) (w : World) (hr : Rdr w g l at_) (hb : Bs l) (hk0 : 1 ≤ k) (hk : k ≤ 4) (hn : k ≤ l.length) (hl : l.length ≤ 140737488351232) (h0 : 0 ≤ at_) (h1 : at_ ≤ 140737488351232) :
    Calls Tryz.prog 61 #[.pointer (some ⟨g, 0, none⟩), .int .i64 k] w fun e w' => e = .returned (.tuple #[.int .u32 (bigI (l.take k)), .bool true]) ∧
      Goes w w' g (l.drop k) (at_ + k) := by
  go_enter Tryz.func61, Tryz.ntmps61
  go_wp2_with (go_at_call 54; refine (cut_ok g l at_ k _ hr hn hl h0 h1).mono ?_; rintro e w1 ⟨A, rfl, hby, hG⟩)
  have hm : (l.take k).length = k := by rw [List.length_take]; omega
  have hbm : Bs (l.take k) := hb.take k
  have HG := hide hG
  clear hG hr
  obtain ⟨m, hmd⟩ : ∃ m, m = l.take k := ⟨_, rfl⟩
  rw [← hmd] at hm hbm hby
  have HMD := Lib.hid hmd
  have HM := Lib.hid hm
  clear hmd hm
  go_loop [8, 32] (fun x i => ∃ j : Nat, j ≤ k ∧ i = .int .i64 j ∧ x = .int .u32 (bigI (m.take j))) (fun _ i => k - (intOf i).toNat)
  case atStart => exact ⟨0, Nat.zero_le _, rfl, rfl⟩
  case round =>
    obtain ⟨j, hj, rfl, rfl⟩ := hrel
    by_cases hlt : j < k
    · obtain ⟨ad, u, rfl, had, hu, hc⟩ := Reads.at_ (k := j) hby (by rw [HM.out]; exact hlt)
      obtain ⟨y, hy, rfl⟩ := bV_get hu
      have hjm : j < m.length := by rw [HM.out]; exact hlt
      have hyb := hbm.get hjm
      have hy' : m[j] = y := by rw [List.getElem?_eq_getElem hjm] at hy; injection hy
      rw [hy'] at hyb
      have hs := bigI_succ m j hjm
      rw [hy'] at hs
      have hx0 := (bigI_bd (m.take j) (hbm.take j)).1
      have hx1 : bigI (m.take j) < 16777216 := bigI_lt (m.take j) (hbm.take j) 3 (by rw [List.length_take]; omega)
      have hc' : ∀ o, (w1.alloc o).cell? (ad.add j) = some (.int .u8 y) := fun o => (World.cell?_alloc_lt w1 o _ (by rw [block_of_add]; have := HG.out.rdr.lt; omega)).trans hc
      clear hc
      have HS := Lib.hid hs
      clear hs hy hy' hu hjm
      generalize bigI (m.take j) = X at *
      go_wp2
      go_roundw
      case rel => exact ⟨j + 1, hlt, by go_num, by rw [u32_join X y hx0 hx1 hyb.1 hyb.2, HS.out]⟩
      case measure => simp [intOf]; omega
    · go_wp2
      go_ret2
      have hjk : j = k := by omega
      have e1 : m.take j = l.take k := by rw [List.take_of_length_le (by rw [HM.out]; omega), HMD.out]
      exact ⟨by rw [← e1]; rfl, HG.out.alloc _⟩

set_option maxHeartbeats 1000000 in
theorem number_no (g : Nat) (l : List Int) (at_ : Int) (k : Nat) (w : World) (hr : Rdr w g l at_) (hk0 : 1 ≤ k) (hk : k ≤ 4) (hn : l.length < k) :
    Calls Tryz.prog 61 #[.pointer (some ⟨g, 0, none⟩), .int .i64 k] w fun e w' => e = .returned (.tuple #[.int .u32 0, .bool false]) ∧ Below w.heap.size w w' := by
  go_enter Tryz.func61, Tryz.ntmps61
  go_wp2_with (go_at_call 54; refine (cut_no g l at_ k _ hr (.inr (by omega))).mono ?_; rintro e w1 ⟨rfl, hb⟩)
  go_loop [8, 32] (fun x i => i = .int .i64 0 ∧ x = .int .u32 0) (fun _ i => 0 - (intOf i).toNat)
  case atStart => exact ⟨rfl, rfl⟩
  case round =>
    obtain ⟨rfl, rfl⟩ := hrel
    go_wp2
    go_ret2
    exact ⟨rfl, hb.alloc hb.size _⟩

set_option maxHeartbeats 1000000 in
theorem take_ok (g : Nat) (l : List Int) (at_ : Int) (n : Nat) (w : World) (hr : Rdr w g l at_) (hn : n ≤ l.length) (hl : l.length ≤ 140737488351232) (h0 : 0 ≤ at_) (h1 : at_ ≤ 140737488351232) :
    Calls Tryz.prog 33 #[.pointer (some ⟨g, 0, none⟩), .int .i64 n] w fun e w' => ∃ A c, e = .returned (.tuple #[.slice A n c, .bool true]) ∧
      n ≤ c ∧ c ≤ maxLen ∧ Byts w' w'.heap.size A (l.take n) ∧ Goes w w' g (l.drop n) (at_ + n) := by
  have hm : (l.take n).length = n := by rw [List.length_take]; omega
  have HM := Lib.hid hm
  go_enter Tryz.func33, Tryz.ntmps33
  clear hm
  go_wp2_with fail
  refine (cut_ok g l at_ n _ hr hn hl h0 h1).mono ?_
  rintro e w1 ⟨A, rfl, hby, hG⟩
  have HG := hide hG
  have HB := hide hby
  clear hG hby
  go_wp2_with fail
  have hcl := clone_any A n (l.take n) (w1.alloc (Obj.cells #[Value.slice A n n, Value.int IntKind.i64 at_] 86))
    ((HB.out.more (by have := HG.out.rdr.lt; omega)).alloc (B := w1.heap.size) (Nat.le_refl _) _ |>.more (by simp)) (by rw [HM.out]; omega)
  rw [HM.out] at hcl
  refine hcl.mono ?_
  rintro e w2 ⟨A', c', rfl, hc1, hc2, hr2, hb2⟩
  have HB2 := hide hb2
  have HR2 := hide hr2
  clear hb2 hr2 hcl
  go_wp2_with fail
  go_ret2
  exact ⟨A', c', rfl, hc1, hc2, HR2.out, (HG.out.alloc _).below HB2.out⟩

set_option maxHeartbeats 1000000 in
theorem take_no (g : Nat) (l : List Int) (at_ : Int) (n : Int) (w : World) (hr : Rdr w g l at_) (hn : n < 0 ∨ (l.length : Int) < n) :
    Calls Tryz.prog 33 #[.pointer (some ⟨g, 0, none⟩), .int .i64 n] w fun e w' => ∃ A c, e = .returned (.tuple #[.slice A 0 c, .bool false]) ∧ Below w.heap.size w w' := by
  go_enter Tryz.func33, Tryz.ntmps33
  go_wp2_with fail
  refine (cut_no g l at_ n _ hr hn).mono ?_
  rintro e w1 ⟨rfl, hb⟩
  go_wp2_with fail
  refine (clone_any none 0 [] _ Reads.none_ (by simp)).mono ?_
  rintro e w2 ⟨A', c', rfl, hc1, hc2, hr2, hb2⟩
  go_wp2_with fail
  go_ret2
  exact ⟨A', c', rfl, (hb.alloc hb.size _).trans (hb2.mono (by simp; have := hb.size; omega))⟩

set_option maxHeartbeats 1000000 in
theorem at_any (g : Nat) (l : List Int) (at_ : Int) (w : World) (hr : Rdr w g l at_) :
    Calls Tryz.prog 60 #[.pointer (some ⟨g, 0, none⟩)] w fun e w' => e = .returned (.int .i64 at_) ∧ w = w' := by
  obtain ⟨t, A, c, hg, hlc, hc, hby⟩ := hr.ex
  have c1 : w.cell? ⟨g, 1, none⟩ = some (.int .i64 at_) := by rw [cell_of_row w g 1 _ _ _ hg]; rfl
  clear hg hr hby
  go_enter Tryz.func60, Tryz.ntmps60
  go_wp2
  go_ret
  exact ⟨rfl, rfl⟩

set_option maxHeartbeats 1000000 in
theorem left_any (g : Nat) (l : List Int) (at_ : Int) (w : World) (hr : Rdr w g l at_) :
    Calls Tryz.prog 34 #[.pointer (some ⟨g, 0, none⟩)] w fun e w' => e = .returned (.int .i64 l.length) ∧ w = w' := by
  obtain ⟨t, A, c, hg, hlc, hc, hby⟩ := hr.ex
  have c0 : w.cell? ⟨g, 0, none⟩ = some (.slice A l.length c) := by rw [cell_of_row w g 0 _ _ _ hg]; rfl
  clear hg hr hby
  go_enter Tryz.func34, Tryz.ntmps34
  go_wp2
  go_ret
  exact ⟨rfl, rfl⟩
end Go.Proofs.YtplgbpcjbjaloaaGreatDoor
