/- What a script's state asks of a new proxy: Closed, Ready, Options, and the text of no options. -/
import Derived.Test.YtakocncckglboaaGreatDoorHexF
import Derived.Laws.LoneSync
set_option autoImplicit false
namespace Go.Proofs.YtakocncckglboaaGreatDoor
open Go.RowKit

theorem load_any (b off : Nat) (w : World) (h : w.cell? ⟨b, off, none⟩ = some (.int .u32 0)) :
    Calls Tryz.prog 81 #[.pointer (some ⟨b, off, none⟩)] w fun e w' => e = .returned (.bool false) ∧ w' = w := by
  have hl := run_call_load (P := Tryz.prog) Tryz.func129 (by kernel_rfl) (by kernel_rfl) (by kernel_rfl) .u32 (by kernel_rfl) h
  go_enter Tryz.func81, Tryz.ntmps81
  go_wp2
  go_ret
  exact ⟨rfl, rfl⟩
theorem closed_any (b : Nat) (w : World) (h : Prx b w) : Calls Tryz.prog 55 #[.pointer (some ⟨b, 0, none⟩)] w fun e w' => e = .returned (.bool false) ∧ w' = w := by
  obtain ⟨f0, f1, hg⟩ := h
  have HL := hide (load_any b 29 w (by rw [cell_of_row _ _ 29 _ _ _ hg]; rfl))
  clear hg
  go_enter Tryz.func55, Tryz.ntmps55
  go_wp2_with (go_at_call 81; refine HL.out.mono ?_; rintro e w1 ⟨rfl, rfl⟩)
  go_ret
  exact ⟨rfl, rfl⟩
theorem ready_any (b : Nat) (w : World) (h : Prx b w) : Calls Tryz.prog 56 #[.pointer (some ⟨b, 0, none⟩)] w fun e w' => e = .returned (.bool false) ∧ w' = w := by
  obtain ⟨f0, f1, hg⟩ := h
  have c11 : w.cell? ⟨b, 11, none⟩ = some (.bool false) := by rw [cell_of_row _ _ 11 _ _ _ hg]; rfl
  have hlt := lt_of_block hg
  clear hg
  go_enter Tryz.func56, Tryz.ntmps56
  go_wp2
  go_ret
  exact ⟨rfl, rfl⟩
theorem known_any (b : Nat) (k : Int) (hk : k = 0 ∨ k = 1) (w : World) : Calls Tryz.prog 66 #[.pointer (some ⟨b, 0, none⟩), .int .i64 k] w fun e w' => e = .returned (.bool true) ∧ w' = w := by
  rcases hk with rfl | rfl
  · go_enter Tryz.func66, Tryz.ntmps66
    go_wp2
    go_ret
    exact ⟨rfl, rfl⟩
  · go_enter Tryz.func66, Tryz.ntmps66
    go_wp2
    go_ret
    exact ⟨rfl, rfl⟩
set_option maxRecDepth 100000 in
set_option maxHeartbeats 4000000 in
theorem otext_any (w : World) : Calls Tryz.prog 57 #[.agg #[.bool false, .bool false, .bool false, .bool false, .bool false, .bool false]] w fun e w' => e = .returned (.string ⟨#[45]⟩) ∧ Below w.heap.size w w' := by
  go_enter Tryz.func57, Tryz.ntmps57
  go_wp2
  go_ret
  exact ⟨rfl, (Below.refl _ _).alloc (Nat.le_refl _) _⟩
theorem results_cell1 {P : Program} {fn : Func} {p : Tmp} {ty : TypeId} (h : fn.results = #[.cell p ty]) (tmps : Array Value) (w : World) (g : Nat) (t' : TypeId) (cs : Array Value) (fr : Nat × Nat) (d : TypeDesc)
    (hp : tmps.getD p undef = .pointer (some ⟨g, 0, none⟩)) (hg : w.heap[g]? = some (.cells cs t' fr))
    (hu : P.underlying ty = some d) (hd : (match d with | .struct _ | .array _ _ => true | _ => false) = true) (hi : (P.info? ty).map (·.size) = some cs.size) :
    (results fn tmps).run P w = .ok (.agg cs) w := by
  have hp' : tmps[p]?.getD undef = .pointer (some ⟨g, 0, none⟩) := by simpa using hp
  simp [results, h, hp', asAddr, run_loadVar_row w g t' ty cs fr d hg hu hd hi]
set_option maxRecDepth 100000 in
set_option maxHeartbeats 4000000 in
theorem options0_any (b : Nat) (w : World) (h : Prx b w) : Calls Tryz.prog 51 #[.pointer (some ⟨b, 0, none⟩), .int .i64 0] w fun e w' => e = .returned (.agg #[.bool false, .bool false, .bool false, .bool false, .bool false, .bool false]) ∧ Below w.heap.size w w' := by
  obtain ⟨f0, f1, hg⟩ := h
  have HK := hide (fun W => known_any b 0 (.inl rfl) W)
  have hlt := lt_of_block hg
  have d1 : w.cell? ⟨b, 1, none⟩ = some (.bool false) := by rw [cell_of_row _ _ 1 _ _ _ hg]; rfl
  have d2 : w.cell? ⟨b, 2, none⟩ = some (.bool false) := by rw [cell_of_row _ _ 2 _ _ _ hg]; rfl
  have d3 : w.cell? ⟨b, 3, none⟩ = some (.bool false) := by rw [cell_of_row _ _ 3 _ _ _ hg]; rfl
  have d4 : w.cell? ⟨b, 4, none⟩ = some (.bool false) := by rw [cell_of_row _ _ 4 _ _ _ hg]; rfl
  have d5 : w.cell? ⟨b, 5, none⟩ = some (.bool false) := by rw [cell_of_row _ _ 5 _ _ _ hg]; rfl
  have d6 : w.cell? ⟨b, 6, none⟩ = some (.bool false) := by rw [cell_of_row _ _ 6 _ _ _ hg]; rfl
  clear hg
  go_enter Tryz.func51, Tryz.ntmps51
  go_wp2_with (go_at_call 66; refine (HK.out _).mono ?_; rintro e w1 ⟨rfl, rfl⟩)
  exact bodyPost_ret (results_cell1 (p := 4) (ty := 68) rfl _ _ w.heap.size 68 _ (0, 0) _ rfl (heap_alloc_new w _) Tryz.underlying68 rfl opt_info) rfl ⟨rfl, (Below.refl _ _).alloc (Nat.le_refl _) _⟩
set_option maxRecDepth 100000 in
set_option maxHeartbeats 4000000 in
theorem options1_any (b : Nat) (w : World) (h : Prx b w) : Calls Tryz.prog 51 #[.pointer (some ⟨b, 0, none⟩), .int .i64 1] w fun e w' => e = .returned (.agg #[.bool false, .bool false, .bool false, .bool false, .bool false, .bool false]) ∧ Below w.heap.size w w' := by
  obtain ⟨f0, f1, hg⟩ := h
  have HK := hide (fun W => known_any b 1 (.inr rfl) W)
  have hlt := lt_of_block hg
  have d1 : w.cell? ⟨b, 14, none⟩ = some (.bool false) := by rw [cell_of_row _ _ 14 _ _ _ hg]; rfl
  have d2 : w.cell? ⟨b, 15, none⟩ = some (.bool false) := by rw [cell_of_row _ _ 15 _ _ _ hg]; rfl
  have d3 : w.cell? ⟨b, 16, none⟩ = some (.bool false) := by rw [cell_of_row _ _ 16 _ _ _ hg]; rfl
  have d4 : w.cell? ⟨b, 17, none⟩ = some (.bool false) := by rw [cell_of_row _ _ 17 _ _ _ hg]; rfl
  have d5 : w.cell? ⟨b, 18, none⟩ = some (.bool false) := by rw [cell_of_row _ _ 18 _ _ _ hg]; rfl
  have d6 : w.cell? ⟨b, 19, none⟩ = some (.bool false) := by rw [cell_of_row _ _ 19 _ _ _ hg]; rfl
  clear hg
  go_enter Tryz.func51, Tryz.ntmps51
  go_wp2_with (go_at_call 66; refine (HK.out _).mono ?_; rintro e w1 ⟨rfl, rfl⟩)
  exact bodyPost_ret (results_cell1 (p := 4) (ty := 68) rfl _ _ w.heap.size 68 _ (0, 0) _ rfl (heap_alloc_new w _) Tryz.underlying68 rfl opt_info) rfl ⟨rfl, (Below.refl _ _).alloc (Nat.le_refl _) _⟩

set_option maxRecDepth 100000 in
set_option maxHeartbeats 4000000 in
theorem state_any (b : Nat) (v : Value) (w : World) (h : Scr b w) : Calls Tryz.prog 37 #[.pointer (some ⟨b, 0, none⟩), v] w fun e w' => e = .returned (.tuple #[.string ⟨#[119, 97, 105, 116, 105, 110, 103, 44, 32, 45, 44, 32, 45, 10]⟩, .int .i64 0]) ∧ Below w.heap.size w w' := by
  obtain ⟨pb, hg, hp⟩ := h
  have c0 : w.cell? ⟨b, 0, none⟩ = some (.pointer (some ⟨pb, 0, none⟩)) := by rw [cell_of_row _ _ 0 _ _ _ hg]; rfl
  have hlt := lt_of_block hg
  have HC := hide (closed_any pb w hp)
  have HR := hide (ready_any pb w hp)
  have H0 := hide (fun w' (hw : Below w.heap.size w w') => (options0_any pb w' (hp.below hw)).mono fun e w1 (h : e = .returned (.agg #[.bool false, .bool false, .bool false, .bool false, .bool false, .bool false]) ∧ Below w'.heap.size w' w1) => (⟨h.1, hw.trans (h.2.mono hw.size)⟩ : e = .returned (.agg #[.bool false, .bool false, .bool false, .bool false, .bool false, .bool false]) ∧ Below w.heap.size w w1))
  have H1 := hide (fun w' (hw : Below w.heap.size w w') => (options1_any pb w' (hp.below hw)).mono fun e w1 (h : e = .returned (.agg #[.bool false, .bool false, .bool false, .bool false, .bool false, .bool false]) ∧ Below w'.heap.size w' w1) => (⟨h.1, hw.trans (h.2.mono hw.size)⟩ : e = .returned (.agg #[.bool false, .bool false, .bool false, .bool false, .bool false, .bool false]) ∧ Below w.heap.size w w1))
  have HT := hide (fun w' (hw : Below w.heap.size w w') => (otext_any w').mono fun e w1 (h : e = .returned (.string ⟨#[45]⟩) ∧ Below w'.heap.size w' w1) => (⟨h.1, hw.trans (h.2.mono hw.size)⟩ : e = .returned (.string ⟨#[45]⟩) ∧ Below w.heap.size w w1))
  have HC0 := hide c0
  clear hg hp
  go_enter Tryz.func37, Tryz.ntmps37
  go_wp2_with (first
    | (go_at_call 55; refine HC.out.mono ?_; rintro e w1 ⟨rfl, rfl⟩)
    | (go_at_call 56; refine HR.out.mono ?_; rintro e w1 ⟨rfl, rfl⟩))
  refine wp_region_quietC (fun w' => Below w1.heap.size w1 w') (by kernel_rfl) (by kernel_rfl) (Below.refl _ _ |>.drew) ?_
  repeat (first
    | go_big_quiet_skip
    | (go_big_quiet_want
       first
       | (refine quiet_load _ _ rfl ⟨b, 0, none⟩ rfl _ Tryz.underlying52 rfl _ (fun w' hw' => cell_below HC0.out hw') ?_; go_big_quiet_on; simp only [Act.put, List.setIfInBounds_toArray, List.set_cons_zero, List.set_cons_succ])
       | (go_big_quiet_op
          first
            | go_big_quiet_on
            | (refine ⟨_, fun _ _ => rfl, ?_⟩; go_big_quiet_on)
            | ((with_reducible refine ⟨_, fun w' hw' => H0.out w' hw', ?_⟩); go_big_quiet_on)
            | ((with_reducible refine ⟨_, fun w' hw' => H1.out w' hw', ?_⟩); go_big_quiet_on)
            | ((with_reducible refine ⟨_, fun w' hw' => HT.out w' hw', ?_⟩); go_big_quiet_on))))
  refine wpQuiet_nil ?_
  intro w' hw'
  have HW' := hide hw'
  clear hw'
  go_wp2
  go_ret2
  exact ⟨rfl, HW'.out⟩
end Go.Proofs.YtakocncckglboaaGreatDoor
