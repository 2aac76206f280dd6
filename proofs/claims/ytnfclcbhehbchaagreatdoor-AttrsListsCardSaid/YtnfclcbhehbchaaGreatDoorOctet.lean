/- The contracts of package octet's readers (New, cut, Number, Take, At, Left) and of slices.Clone at bytes; each number below 2^47. -/
import Derived.Test.YtnfclcbhehbchaaGreatDoorProg
import Derived.Test.YtnfclcbhehbchaaGreatDoorBase
import Derived.WalkSpells
import Derived.Deep.QuietTactic
import Derived.BigQuiet
import Derived.BigRegion
import Derived.Lib.SliceRun
import Derived.KernelRfl
set_option autoImplicit false
namespace Go.Proofs.YtnfclcbhehbchaaGreatDoor
open Go.RowKit

def bV (l : List Int) : List Value := l.map (Value.int .u8)
theorem bV_len (l : List Int) : (bV l).length = l.length := by simp [bV]
theorem bV_one (l : List Int) : ∀ u ∈ bV l, u.oneCell' = true := by
  intro u hu; simp only [bV, List.mem_map] at hu; obtain ⟨x, _, rfl⟩ := hu; rfl
theorem bV_drop (l : List Int) (n : Nat) : bV (l.drop n) = (bV l).drop n := by simp [bV, List.map_drop]
theorem bV_take (l : List Int) (n : Nat) : bV (l.take n) = (bV l).take n := by simp [bV, List.map_take]
theorem bV_append (a b : List Int) : bV (a ++ b) = bV a ++ bV b := by simp [bV]
theorem bV_get {l : List Int} {i : Nat} {u : Value} (h : (bV l)[i]? = some u) : ∃ x, l[i]? = some x ∧ u = .int .u8 x := by
  simp only [bV, List.getElem?_map] at h
  cases hx : l[i]? with
  | none => rw [hx] at h; cases h
  | some x => rw [hx] at h; cases h; exact ⟨x, rfl, rfl⟩

/-- A slice of bytes that reads as a list, below block B. -/
def Byts (w : World) (B : Nat) (A : Option Addr) (l : List Int) : Prop := Reads w B 1 A l.length (bV l)

theorem Byts.take {w : World} {B : Nat} {A : Option Addr} {l : List Int} (h : Byts w B A l) (n : Nat) (hn : n ≤ l.length) : Byts w B A (l.take n) := by
  refine ⟨by simp [bV_len], fun h0 => ?_⟩
  have hl : (l.take n).length = n := by simp; omega
  rw [hl] at h0
  obtain ⟨ad, e, hb, hc⟩ := h.2 (by omega)
  refine ⟨ad, e, hb, fun j u hu => hc j u ?_⟩
  rw [bV_take, List.getElem?_take] at hu
  split at hu
  · exact hu
  · cases hu
theorem Byts.cut {w : World} {B : Nat} {A : Option Addr} {l : List Int} (h : Byts w B A l) {k cap : Nat} (hk : k ≤ l.length) (hc : l.length ≤ cap) :
    Byts w B (if cap = k then A else A.map (·.add k)) (l.drop k) := by
  have := Reads.cut (k := k) (cap := cap) h hk hc
  simp only [Nat.mul_one] at this
  unfold Byts
  rw [List.length_drop, bV_drop]
  exact this

/-- A reader at block g: its bytes lie below it. -/
structure Rdr (w : World) (g : Nat) (l : List Int) (at_ : Int) : Prop where
  ex : ∃ (t : TypeId) (A : Option Addr) (c : Nat), w.heap[g]? = some (.cells #[.slice A l.length c, .int .i64 at_] t (0, 0)) ∧ l.length ≤ c ∧ c ≤ maxLen ∧ Byts w g A l

theorem Rdr.keep {w w' : World} {g : Nat} {l : List Int} {at_ : Int} (h : Rdr w g l at_) (hk : ∀ b, b ≤ g → w'.heap[b]? = w.heap[b]?) : Rdr w' g l at_ := by
  obtain ⟨t, A, c, hg, h1, h2, hr⟩ := h.ex
  exact ⟨t, A, c, (hk g (Nat.le_refl _)).trans hg, h1, h2, hr.keep fun p hp => World.cell?_of_block (hk p.block (by omega))⟩
theorem Rdr.lt {w : World} {g : Nat} {l : List Int} {at_ : Int} (h : Rdr w g l at_) : g < w.heap.size := by
  obtain ⟨t, A, c, hg, _⟩ := h.ex; exact lt_of_block hg
theorem Rdr.below {w w' : World} {g : Nat} {l : List Int} {at_ : Int} (h : Rdr w g l at_) (hb : Below w.heap.size w w') : Rdr w' g l at_ :=
  h.keep fun b hb' => hb.block b (by have := h.lt; omega)
theorem Rdr.drew {w : World} {g : Nat} {l : List Int} {at_ : Int} (h : Rdr w g l at_) : Rdr w.drew g l at_ := h.keep fun _ _ => rfl
theorem Rdr.alloc {w : World} {g : Nat} {l : List Int} {at_ : Int} (h : Rdr w g l at_) (o : Obj) : Rdr (w.alloc o) g l at_ :=
  h.keep fun b hb => Below.heap_alloc w o b (by have := h.lt; omega)

theorem u8_info : (Tryz.prog.info? 5).map (fun i => (i.zero, i.size, i.bytes)) = some (some (.int .u8 0), 1, 1) := by kernel_rfl

set_option maxHeartbeats 400000 in
/-- slices.Clone of bytes: a copy in new memory, or nil. -/
theorem clone_any (A : Option Addr) (c : Nat) (l : List Int) (w : World) (h : Byts w w.heap.size A l) (hn : l.length ≤ 140737488351232) :
    Calls Tryz.prog 69 #[.slice A l.length c] w fun e w' => ∃ A' c', e = .returned (.slice A' l.length c') ∧ l.length ≤ c' ∧ c' ≤ maxLen ∧ Byts w' w'.heap.size A' l ∧ Below w.heap.size w w' := by
  obtain ⟨i0, hi0, hz0, hz1, hz2⟩ := info_parts u8_info
  have qT : ∀ (w : World) (a : Option Addr) (n c n' c' : Nat), (binOp .eql 35 (.slice a n c) (.slice none n' c')).run Tryz.prog w = .ok (.bool a.isNone) w := fun w a n c n' c' => Lib.run_eql_slice_nil w _ _ a n c n' c' Tryz.underlying35
  rcases A with _ | ad
  · have h0 : l = [] := by
      rcases List.eq_nil_or_concat l with e | ⟨l', x, e⟩
      · exact e
      · obtain ⟨ad, e', _⟩ := h.2 (by rw [e]; simp)
        cases e'
    subst h0
    go_enter Tryz.func69, Tryz.ntmps69
    go_wp2
    go_ret
    exact ⟨none, 0, rfl, Nat.le_refl _, by simp [maxLen], Reads.none_, Below.refl _ _⟩
  · go_enter Tryz.func69, Tryz.ntmps69
    go_wp2_with (first
      | (at_builtin
         refine wpList_append_any _ rfl (.tmp 5) (.tmp 6) _ rfl w.heap.size 5 i0 _ 1 1 Tryz.underlying35 hi0 hz0 hz1 hz2 rfl (by omega) _ 0 [] rfl
           (World.ownsRow_lit w #[] 0 (Nat.le_refl _) (by simp [maxLen]) (by simp)) w.heap.size (some ad) l.length c (bV l) rfl ((h.alloc (Nat.le_refl _) _)) (bV_one l) (by simp only [maxLen]; omega) (by omega) (by simp) ?_
         intro v1 w1 hown1 hg1 hat1))
    go_ret
    have hb1 : Below w.heap.size w w1 := ((Below.refl _ _).alloc (Nat.le_refl _) _).grown hg1 (by simp) (fun k hk => by have e : w.heap.size = k := Option.some.inj hk; omega)
    simp only [Nat.zero_add, List.nil_append] at hown1
    rcases hown1.2 with ⟨e, hn0⟩ | ⟨g, cap, cur, e, hb, hh, hc1, hc2, hs, ht⟩
    · subst e
      exact ⟨none, 0, by rw [hn0]; rfl, by omega, by simp [maxLen], Reads.of_own (by rw [hn0] at hown1 ⊢; exact hown1), hb1⟩
    · subst e
      exact ⟨_, cap, rfl, hc1, hc2, Reads.of_own hown1, hb1⟩

def bigI (l : List Int) : Int := l.foldl (fun n y => n * 256 + y) 0
def Bs (l : List Int) : Prop := ∀ x ∈ l, 0 ≤ x ∧ x < 256
theorem Bs.take {l : List Int} (h : Bs l) (n : Nat) : Bs (l.take n) := fun x hx => h x (List.mem_of_mem_take hx)
theorem Bs.drop {l : List Int} (h : Bs l) (n : Nat) : Bs (l.drop n) := fun x hx => h x (List.mem_of_mem_drop hx)
theorem Bs.get {l : List Int} (h : Bs l) {i : Nat} (hi : i < l.length) : 0 ≤ l[i] ∧ l[i] < 256 := h _ (List.getElem_mem hi)
theorem bigI_snoc (l : List Int) (y : Int) : bigI (l ++ [y]) = bigI l * 256 + y := by simp [bigI]
theorem bigI_succ (l : List Int) (i : Nat) (hi : i < l.length) : bigI (l.take (i + 1)) = bigI (l.take i) * 256 + l[i] := by
  rw [List.take_succ_eq_append_getElem hi, bigI_snoc]
theorem bigI_bd0 (l : List Int) (h : Bs l) : ∀ (acc : Int) (m : Nat), 0 ≤ acc → acc < 256 ^ m → 0 ≤ l.foldl (fun n y => n * 256 + y) acc ∧ l.foldl (fun n y => n * 256 + y) acc < 256 ^ (m + l.length) := by
  induction l with
  | nil => intro acc m h0 h1; exact ⟨h0, h1⟩
  | cons y l ih =>
    intro acc m h0 h1
    have hy := h y (by simp)
    have := ih (fun x hx => h x (by simp [hx])) (acc * 256 + y) (m + 1) (by omega) (by rw [Int.pow_succ]; omega)
    rw [List.length_cons, List.foldl_cons, show m + (l.length + 1) = m + 1 + l.length from by omega]
    exact this
theorem bigI_bd (l : List Int) (h : Bs l) : 0 ≤ bigI l ∧ bigI l < 256 ^ l.length := by
  have := bigI_bd0 l h 0 0 (Int.le_refl _) (by decide)
  simpa [bigI] using this
theorem bigI_lt (l : List Int) (h : Bs l) (n : Nat) (hn : l.length ≤ n) : bigI l < 256 ^ n := by
  have h1 := (bigI_bd l h).2
  have h2 : (256 : Nat) ^ l.length ≤ 256 ^ n := Nat.pow_le_pow_right (by decide) hn
  have e1 : ((256 ^ l.length : Nat) : Int) = (256 : Int) ^ l.length := Int.natCast_pow 256 _
  have e2 : ((256 ^ n : Nat) : Int) = (256 : Int) ^ n := Int.natCast_pow 256 _
  omega
theorem u32_join (X y : Int) (h0 : 0 ≤ X) (h1 : X < 16777216) (h2 : 0 ≤ y) (h3 : y < 256) : bits .or .u32 (X * 256) y = X * 256 + y := by
  rw [u32_or _ _ (by omega) (by omega) h2 (by omega), nat_join 8 _ _ (by omega) (by omega)]
  omega

end Go.Proofs.YtnfclcbhehbchaaGreatDoor
