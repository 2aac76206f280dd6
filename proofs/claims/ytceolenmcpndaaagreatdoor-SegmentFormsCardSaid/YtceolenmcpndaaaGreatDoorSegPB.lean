/- octet.Put at 2 and 4 bytes, segment.Bytes: the form of a path. -/
import Derived.Test.YtceolenmcpndaaaGreatDoorEquB
import Derived.Test.YtceolenmcpndaaaGreatDoorSegBL
import Derived.Test.YtceolenmcpndaaaGreatDoorSegC
import Derived.Test.YtceolenmcpndaaaGreatDoorSegV
import Derived.Test.YtceolenmcpndaaaGreatDoorConB
set_option autoImplicit false
namespace Go.Proofs.YtceolenmcpndaaaGreatDoor
open Go.RowKit

theorem beL_cons (k : Nat) : ∀ x : Int, beL (k + 1) x = (x / 256 ^ k % 256) :: beL k x := by
  induction k with
  | zero => intro x; simp [beL]
  | succ k ih =>
    intro x
    rw [beL, ih (x / 256), beL]
    simp only [List.cons_append, List.cons.injEq, and_true]
    rw [Int.ediv_ediv_of_nonneg (by decide), ← Int.pow_succ']
def putTo (k i : Nat) (x : Int) : List Int := List.replicate (k - i) 0 ++ beL i x
theorem putTo_len (k i : Nat) (x : Int) (h : i ≤ k) : (putTo k i x).length = k := by simp [putTo, beL_len]; omega
theorem putTo_zero (k : Nat) (x : Int) : putTo k 0 x = List.replicate k 0 := by simp [putTo, beL]
theorem putTo_all (k : Nat) (x : Int) : putTo k k x = beL k x := by simp [putTo]
theorem putTo_succ (k i : Nat) (x : Int) (h : i < k) : putTo k (i + 1) x = (putTo k i x).set (k - 1 - i) (x / 256 ^ i % 256) := by
  unfold putTo
  rw [beL_cons, List.set_append, if_pos (by simp; omega)]
  obtain ⟨m, hm⟩ : ∃ m, k - i = m + 1 := ⟨k - i - 1, by omega⟩
  rw [hm, show k - (i + 1) = m by omega, show k - 1 - i = m by omega, List.replicate_succ']
  rw [List.set_append, if_neg (by simp)]
  simp
theorem bV_set (l : List Int) (i : Nat) (v : Int) : (bV l).set i (.int .u8 v) = bV (l.set i v) := by simp [bV, List.map_set]
theorem pow_256 (j : Nat) : (2 : Int) ^ (8 * j) = 256 ^ j := by rw [Int.pow_mul]; rfl

set_option maxRecDepth 100000 in
set_option maxHeartbeats 4000000 in
theorem put4_any (x : Int) (w : World) (h0 : 0 ≤ x) (h1 : x < 4294967296) :
    Calls Tryz.prog 17 #[.int .i64 4, .int .u32 x] w fun e w' => ∃ v, e = .returned (.tuple #[v, .bool true]) ∧ w'.ownsRow w.heap.size 5 1 v 4 (bV (beL 4 x)) ∧ Below w.heap.size w w' := by
  obtain ⟨iu, hi0, hi1, hi2, hi3⟩ := info_parts u8_info
  have hmk : ∀ w, (Instr.makeSlice 25 (.int .i64 4) (.int .i64 4)).run Tryz.prog w = .ok (.slice (some ⟨w.heap.size, 0, none⟩) 4 4) (w.alloc (.cells (bV (List.replicate 4 0)).toArray 5)) := fun w => by
    have h := run_make_rowN (P := Tryz.prog) 25 5 iu (.int .u8 0) Tryz.underlying25 hi0 hi1 .i64 .i64 4 4 (Nat.le_refl _) (by rw [hi3]; decide) (by decide) w
    rw [hi2, show madeCells (Value.int .u8 0).cells (4 * 1) = (bV (List.replicate 4 0)).toArray from by
      apply Array.ext
      · simp [madeCells, bV]
      · intro i h1 h2
        have h3 : i < 4 := by simpa [bV] using h2
        rcases i with _ | _ | _ | _ | i <;> first | omega | simp [madeCells, bV, Value.cells, Nat.mod_one]] at h
    exact h
  have hx8 : x < 4294967296 := by omega
  have H1 := hide hi0
  clear hi0 hi1 hi2 hi3 H1
  go_enter Tryz.func17, Tryz.ntmps17
  go_wp2
  have hst : (w.alloc (.cells (bV (List.replicate 4 0)).toArray 5)).ownsRow w.heap.size 5 1 (.slice (some ⟨w.heap.size, 0, none⟩) 4 4) 4 (bV (putTo 4 0 x)) := by
    rw [putTo_zero]
    exact World.ownsRow_lit w (bV (List.replicate 4 0)).toArray 4 (Nat.le_refl _) (by simp [maxLen]) (by simp [bV])
  have HST := hide hst
  clear hst hmk
  go_loopw [26] (fun i wr => ∃ j : Nat, j ≤ 4 ∧ i = .int .i64 j ∧ wr.ownsRow w.heap.size 5 1 (.slice (some ⟨w.heap.size, 0, none⟩) 4 4) 4 (bV (putTo 4 j x)) ∧ Below w.heap.size w wr) (fun i _ => 4 - (intOf i).toNat)
  case atStart => exact ⟨0, by omega, rfl, HST.out, (Below.refl _ _).alloc (Nat.le_refl _) _⟩
  case round =>
    obtain ⟨j, hj, rfl, hown, hbel⟩ := hrel
    by_cases hlt : j < 4
    · have hj0 : (0 : Int) ≤ (j : Int) := Int.natCast_nonneg _
      have hj1 : (j : Int) < 4 := by omega
      have hpl := putTo_len 4 j x (by omega)
      have hcell : ∃ v, wr.cell? ⟨w.heap.size, 3 - j, none⟩ = some v := by
        have hi : 3 - j < (bV (putTo 4 j x)).length := by rw [bV_len, hpl]; omega
        exact ⟨(bV (putTo 4 j x))[3 - j], (hown.cellAt (3 - j) (by omega)).trans (List.getElem?_eq_getElem hi)⟩
      obtain ⟨v0, hc⟩ := hcell
      have hfz : wr.frozen? ⟨w.heap.size, 3 - j, none⟩ = false := hown.frozenAt _
      have hsu := putTo_succ 4 j x hlt
      have hs := hown.stored (3 - j) (.int .u8 (x / 2 ^ (8 * j) % 256))
      have hb2 := fun v => hbel.setCell (p := ⟨w.heap.size, 3 - j, none⟩) (Nat.le_refl _) v
      have hnn : 0 ≤ x / 2 ^ (8 * j) := Int.ediv_nonneg h0 (Int.le_of_lt (Int.pow_pos (by decide)))
      have HSU := Lib.hid hsu
      have HS := hide hs
      have HB2 := hide hb2
      clear hsu hs hb2 hown hbel hpl HST
      go_wp2
      go_roundw
      case rel =>
        refine ⟨j + 1, by omega, by go_num, ?_, HB2.out _⟩
        rw [HSU.out, ← bV_set, ← pow_256]
        exact HS.out.1
      case measure => simp [intOf]; omega
    · have hjk : j = 4 := by omega
      subst hjk
      rw [putTo_all] at hown
      have Q1 := hide hown
      have Q2 := hide hbel
      clear hown hbel HST
      go_wp2
      go_ret2
      exact ⟨_, rfl, Q1.out, Q2.out⟩

set_option maxRecDepth 100000 in
set_option maxHeartbeats 4000000 in
theorem put2_any (x : Int) (w : World) (h0 : 0 ≤ x) (h1 : x < 65536) :
    Calls Tryz.prog 17 #[.int .i64 2, .int .u32 x] w fun e w' => ∃ v, e = .returned (.tuple #[v, .bool true]) ∧ w'.ownsRow w.heap.size 5 1 v 2 (bV (beL 2 x)) ∧ Below w.heap.size w w' := by
  obtain ⟨iu, hi0, hi1, hi2, hi3⟩ := info_parts u8_info
  have hmk : ∀ w, (Instr.makeSlice 25 (.int .i64 2) (.int .i64 2)).run Tryz.prog w = .ok (.slice (some ⟨w.heap.size, 0, none⟩) 2 2) (w.alloc (.cells (bV (List.replicate 2 0)).toArray 5)) := fun w => by
    have h := run_make_rowN (P := Tryz.prog) 25 5 iu (.int .u8 0) Tryz.underlying25 hi0 hi1 .i64 .i64 2 2 (Nat.le_refl _) (by rw [hi3]; decide) (by decide) w
    rw [hi2, show madeCells (Value.int .u8 0).cells (2 * 1) = (bV (List.replicate 2 0)).toArray from by
      apply Array.ext
      · simp [madeCells, bV]
      · intro i h1 h2
        have h3 : i < 2 := by simpa [bV] using h2
        rcases i with _ | _ | _ | _ | i <;> first | omega | simp [madeCells, bV, Value.cells, Nat.mod_one]] at h
    exact h
  have hx8 : x < 4294967296 := by omega
  have H1 := hide hi0
  clear hi0 hi1 hi2 hi3 H1
  go_enter Tryz.func17, Tryz.ntmps17
  go_wp2
  have hst : (w.alloc (.cells (bV (List.replicate 2 0)).toArray 5)).ownsRow w.heap.size 5 1 (.slice (some ⟨w.heap.size, 0, none⟩) 2 2) 2 (bV (putTo 2 0 x)) := by
    rw [putTo_zero]
    exact World.ownsRow_lit w (bV (List.replicate 2 0)).toArray 2 (Nat.le_refl _) (by simp [maxLen]) (by simp [bV])
  have HST := hide hst
  clear hst hmk
  go_loopw [26] (fun i wr => ∃ j : Nat, j ≤ 2 ∧ i = .int .i64 j ∧ wr.ownsRow w.heap.size 5 1 (.slice (some ⟨w.heap.size, 0, none⟩) 2 2) 2 (bV (putTo 2 j x)) ∧ Below w.heap.size w wr) (fun i _ => 2 - (intOf i).toNat)
  case atStart => exact ⟨0, by omega, rfl, HST.out, (Below.refl _ _).alloc (Nat.le_refl _) _⟩
  case round =>
    obtain ⟨j, hj, rfl, hown, hbel⟩ := hrel
    by_cases hlt : j < 2
    · have hj0 : (0 : Int) ≤ (j : Int) := Int.natCast_nonneg _
      have hj1 : (j : Int) < 2 := by omega
      have hpl := putTo_len 2 j x (by omega)
      have hcell : ∃ v, wr.cell? ⟨w.heap.size, 1 - j, none⟩ = some v := by
        have hi : 1 - j < (bV (putTo 2 j x)).length := by rw [bV_len, hpl]; omega
        exact ⟨(bV (putTo 2 j x))[1 - j], (hown.cellAt (1 - j) (by omega)).trans (List.getElem?_eq_getElem hi)⟩
      obtain ⟨v0, hc⟩ := hcell
      have hfz : wr.frozen? ⟨w.heap.size, 1 - j, none⟩ = false := hown.frozenAt _
      have hsu := putTo_succ 2 j x hlt
      have hs := hown.stored (1 - j) (.int .u8 (x / 2 ^ (8 * j) % 256))
      have hb2 := fun v => hbel.setCell (p := ⟨w.heap.size, 1 - j, none⟩) (Nat.le_refl _) v
      have hnn : 0 ≤ x / 2 ^ (8 * j) := Int.ediv_nonneg h0 (Int.le_of_lt (Int.pow_pos (by decide)))
      have HSU := Lib.hid hsu
      have HS := hide hs
      have HB2 := hide hb2
      clear hsu hs hb2 hown hbel hpl HST
      go_wp2
      go_roundw
      case rel =>
        refine ⟨j + 1, by omega, by go_num, ?_, HB2.out _⟩
        rw [HSU.out, ← bV_set, ← pow_256]
        exact HS.out.1
      case measure => simp [intOf]; omega
    · have hjk : j = 2 := by omega
      subst hjk
      rw [putTo_all] at hown
      have Q1 := hide hown
      have Q2 := hide hbel
      clear hown hbel HST
      go_wp2
      go_ret2
      exact ⟨_, rfl, Q1.out, Q2.out⟩

end Go.Proofs.YtceolenmcpndaaaGreatDoor
