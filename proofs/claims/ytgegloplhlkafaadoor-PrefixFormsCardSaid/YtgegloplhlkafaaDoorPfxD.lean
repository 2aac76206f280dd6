/- prefix.Valid at every prefix; prefix.Make at every input; prefix.Bytes. -/
import Derived.Test.YtgegloplhlkafaaDoorPfxC
import Derived.Test.YtgegloplhlkafaaDoorConB
import Derived.Deep.DrawnRows
set_option autoImplicit false
namespace Go.Proofs.YtgegloplhlkafaaDoor
open Go.RowKit

def vF (fam len : Int) (a : List Int) : Bool := rangedF fam len && decide (mTo len 16 a = a)
theorem ranged_bd {fam len : Int} (h : rangedF fam len = true) : (fam = 1 ∨ fam = 2) ∧ 0 ≤ len ∧ len ≤ 8 * widthF fam ∧ len ≤ 128 ∧ 0 < widthF fam ∧ widthF fam ≤ 16 := by
  have h' : 0 < widthF fam ∧ 0 ≤ len ∧ len ≤ 8 * widthF fam := by simpa [rangedF] using h
  have hc := widthF_cases fam
  have hf : fam = 1 ∨ fam = 2 := by
    by_cases h1 : fam = 1
    · exact .inl h1
    · by_cases h2 : fam = 2
      · exact .inr h2
      · exfalso; have := h'.1; simp [widthF, h1, h2] at this
  exact ⟨hf, by omega⟩

set_option maxRecDepth 100000 in
set_option maxHeartbeats 1000000 in
theorem valid_out (fam len : Int) (a : List Int) (w : World) (h : rangedF fam len = false) :
    Calls Tryd.prog 19 #[.agg (pvL fam len a).toArray] w fun e w' => e = .returned (.bool false) ∧ Below w.heap.size w w' := by
  have hr := ranged_any fam len
  rw [h] at hr
  have HR := hide hr
  clear hr h
  have hB : (w.alloc (.cells (pvL fam len a).toArray 26)).heap[w.heap.size]? = some (.cells (pvL fam len a).toArray 26 (0, 0)) := heap_alloc_new _ _
  have hF : (w.alloc (.cells (pvL fam len a).toArray 26)).cell? ⟨w.heap.size, 0, none⟩ = some (.int .i64 fam) := by rw [cell_of_row _ _ 0 _ _ _ hB]; rfl
  have hL : (w.alloc (.cells (pvL fam len a).toArray 26)).cell? ⟨w.heap.size, 1, none⟩ = some (.int .i64 len) := by rw [cell_of_row _ _ 1 _ _ _ hB]; rfl
  have hbe : Below w.heap.size w (w.alloc (.cells (pvL fam len a).toArray 26)) := (Below.refl _ _).alloc (Nat.le_refl _) _
  clear hB
  go_enter Tryd.func19, Tryd.ntmps19
  go_wp2_with fail
  obtain ⟨W, hW⟩ : ∃ W, W = w.alloc (.cells (pvL fam len a).toArray 26) := ⟨_, rfl⟩
  rw [← hW] at hF hL hbe ⊢
  have HF := hide hF
  have HL := hide hL
  clear hW hF hL
  refine wp_region_quietC (fun w' => Below W.heap.size W w') (by kernel_rfl) (by kernel_rfl) (Below.refl _ _ |>.drew) ?_
  repeat (first
    | go_big_quiet_skip
    | (go_big_quiet_want
       first
       | (refine quiet_load _ _ rfl ⟨w.heap.size, 0, none⟩ rfl _ Tryd.underlying3 rfl _ (fun w' hw' => cell_below HF.out hw') ?_; go_big_quiet_on; simp only [Act.put, List.setIfInBounds_toArray, List.set_cons_zero, List.set_cons_succ])
       | (refine quiet_load _ _ rfl ⟨w.heap.size, 1, none⟩ rfl _ Tryd.underlying3 rfl _ (fun w' hw' => cell_below HL.out hw') ?_; go_big_quiet_on; simp only [Act.put, List.setIfInBounds_toArray, List.set_cons_zero, List.set_cons_succ])
       | (go_big_quiet_op
          first
            | go_big_quiet_on
            | (refine ⟨_, fun _ _ => rfl, ?_⟩; go_big_quiet_on)
            | (refine ⟨_, fun _ hw' => (HR.out _).mono (fun e w1 h => ⟨h.1, by rw [← h.2]; exact hw'⟩), ?_⟩; go_big_quiet_on))))
  refine wpQuiet_nil ?_
  intro w' hw'
  go_wp2
  go_ret
  exact ⟨rfl, hbe.trans (hw'.mono hbe.size)⟩

theorem valid_any (fam len : Int) (a : List Int) (ha : a.length = 16) (hb : Bs a) (w : World) :
    Calls Tryd.prog 19 #[.agg (pvL fam len a).toArray] w fun e w' => e = .returned (.bool (vF fam len a)) ∧ Below w.heap.size w w' := by
  by_cases h : rangedF fam len = true
  · obtain ⟨_, h0, _, h1, _⟩ := ranged_bd h
    have := valid_in fam len a ha w h hb h0 h1
    unfold vF; rw [h, Bool.true_and]; exact this
  · have h : rangedF fam len = false := by simpa using h
    unfold vF; rw [h, Bool.false_and]; exact valid_out fam len a w h

theorem zero_pv : (pvL 0 0 zeroA).toArray = #[Value.int .i64 0, .int .i64 0, .int .u8 0, .int .u8 0, .int .u8 0, .int .u8 0, .int .u8 0, .int .u8 0, .int .u8 0, .int .u8 0, .int .u8 0, .int .u8 0, .int .u8 0, .int .u8 0, .int .u8 0, .int .u8 0, .int .u8 0, .int .u8 0] := rfl

set_option maxRecDepth 100000 in
set_option maxHeartbeats 4000000 in
theorem make_no (fam len : Int) (A : Option Addr) (c n : Nat) (w : World) (h : rangedF fam len = false ∨ widthF fam < n) (_hn : n ≤ 140737488351232) :
    Calls Tryd.prog 10 #[.int .i64 fam, .int .i64 len, .slice A n c] w fun e w' => e = .returned (.tuple #[.agg (pvL 0 0 zeroA).toArray, .bool false]) ∧ Below w.heap.size w w' := by
  have fin : ∀ W : World, Below w.heap.size w W → W.heap[w.heap.size]? = some (.cells (pvL 0 0 zeroA).toArray 26 (0, 0)) → ∀ tmps : Array Value, tmps.getD 6 undef = .pointer (some ⟨w.heap.size, 0, none⟩) → tmps.getD 7 undef = .bool false →
      (results Tryd.f10 tmps).run Tryd.prog W = .ok (.tuple #[.agg (pvL 0 0 zeroA).toArray, .bool false]) W := fun W _ hW tmps h6 h7 =>
    results_cell_tmp (p := 6) (t := 7) (ty := 26) rfl _ _ w.heap.size 26 _ (0, 0) _ _ h6 h7 hW Tryd.underlying26 rfl (by rw [pfx_info]; rfl)
  have FIN := hide fin
  clear fin
  have hR := ranged_any fam len
  have hW := width_any fam
  have hwc := widthF_cases fam
  by_cases hr : rangedF fam len = true
  · rw [hr] at hR
    have hlt : widthF fam < n := by
      rcases h with h | h
      · rw [hr] at h; cases h
      · exact h
    have HR := hide hR
    generalize widthF fam = X at *
    have HW := hide hW
    clear hR hW h hr
    go_enter Tryd.func10, Tryd.ntmps10
    go_wp2_with (first
      | (go_at_call 30; refine (HR.out _).mono ?_; rintro e w1 ⟨rfl, rfl⟩)
      | (go_at_call 31; refine (HW.out _).mono ?_; rintro e w1 ⟨rfl, rfl⟩))
    have hB := (Below.refl w.heap.size w).alloc (Nat.le_refl _) (Obj.cells (pvL 0 0 zeroA).toArray 26)
    exact bodyPost_ret (FIN.out _ hB (heap_alloc_new _ _) _ rfl rfl) rfl ⟨rfl, hB⟩
  · have hr : rangedF fam len = false := by simpa using hr
    rw [hr] at hR
    have HR := hide hR
    clear hR hW h hr hwc
    go_enter Tryd.func10, Tryd.ntmps10
    go_wp2_with (go_at_call 30; refine (HR.out _).mono ?_; rintro e w1 ⟨rfl, rfl⟩)
    have hB := (Below.refl w.heap.size w).alloc (Nat.le_refl _) (Obj.cells (pvL 0 0 zeroA).toArray 26)
    exact bodyPost_ret (FIN.out _ hB (heap_alloc_new _ _) _ rfl rfl) rfl ⟨rfl, hB⟩

/-- What Make returns. -/
def mkOk (fam len : Int) (d : List Int) : Bool := rangedF fam len && decide ((d.length : Int) ≤ widthF fam)
def mkP (fam len : Int) (d : List Int) : Int × Int × List Int := if mkOk fam len d = true then (fam, len, mTo len 16 (padA d)) else (0, 0, zeroA)
def pvT (p : Int × Int × List Int) : List Value := pvL p.1 p.2.1 p.2.2
theorem make_any (fam len : Int) (A : Option Addr) (c : Nat) (d : List Int) (w : World) (hb : Byts w w.heap.size A d) (hbs : Bs d) (hn : d.length ≤ 140737488351232) :
    Calls Tryd.prog 10 #[.int .i64 fam, .int .i64 len, .slice A d.length c] w fun e w' => e = .returned (.tuple #[.agg (pvT (mkP fam len d)).toArray, .bool (mkOk fam len d)]) ∧ Below w.heap.size w w' := by
  by_cases h : mkOk fam len d = true
  · have h' : rangedF fam len = true ∧ (d.length : Int) ≤ widthF fam := by simpa [mkOk] using h
    unfold mkP
    rw [h, if_pos rfl]
    exact make_yes fam len A c d w h'.1 h'.2 hb hbs
  · have h : mkOk fam len d = false := by simpa using h
    unfold mkP
    rw [h, if_neg (by decide)]
    refine make_no fam len A c d.length w ?_ hn
    by_cases hr : rangedF fam len = true
    · refine .inr ?_
      simp only [mkOk, hr, Bool.true_and, decide_eq_false_iff_not] at h
      omega
    · exact .inl (by simpa using hr)
end Go.Proofs.YtgegloplhlkafaaDoor
