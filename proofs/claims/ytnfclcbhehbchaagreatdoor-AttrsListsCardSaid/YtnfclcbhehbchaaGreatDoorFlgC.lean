/- basic.Has, community.Group, aggregate.Has, mp.Has, value.of. -/
import Derived.Test.YtnfclcbhehbchaaGreatDoorFlgB
import Derived.Laws.EntriesVeiled
set_option autoImplicit false
namespace Go.Proofs.YtnfclcbhehbchaaGreatDoor
open Go.RowKit

/-- The types that basic has. -/
def hasF (k : Int) : Bool := k == 1 || k == 3 || k == 4 || k == 5 || k == 9 || k == 6
theorem rowsM_keys (p0 q0 p1 q1 p2 q2 p3 q3 p4 q4 : Nat) : ∀ x ∈ (rowsM p0 q0 p1 q1 p2 q2 p3 q3 p4 q4).toList, MapKept.IsKey (.int .i64) x.key := by
  intro x hx
  simp only [rowsM, List.mem_cons, List.not_mem_nil, or_false] at hx
  rcases hx with rfl | rfl | rfl | rfl | rfl | rfl <;> simp [MapKept.IsKey]
theorem rowsM_find (p0 q0 p1 q1 p2 q2 p3 q3 p4 q4 : Nat) (k : Int) :
    (hasF k = false ∧ Instr.findNow (.int .i64) (.int .i64 k) (rowsM p0 q0 p1 q1 p2 q2 p3 q3 p4 q4).toList 0 = some none) ∨
    (hasF k = true ∧ ∃ i a b c g ps, Instr.findNow (.int .i64) (.int .i64 k) (rowsM p0 q0 p1 q1 p2 q2 p3 q3 p4 q4).toList 0 = some (some (i, .agg #[.int .i64 a, .int .u32 b, .int .i64 c, .func (.func g) #[] ps]))) := by
  rcases MapKept.findNow_spec (d := .int .i64) (k := .int .i64 k) (by simp [MapKept.IsKey]) (rowsM p0 q0 p1 q1 p2 q2 p3 q3 p4 q4).toList 0 (rowsM_keys _ _ _ _ _ _ _ _ _ _) with ⟨h1, h2⟩ | ⟨j, e, h1, h2, h3⟩
  · left
    refine ⟨?_, h1⟩
    simp only [rowsM, List.mem_cons, List.not_mem_nil, or_false, forall_eq_or_imp, forall_eq, ne_eq, Value.int.injEq, true_and] at h2
    obtain ⟨a1, a2, a3, a4, a5, a6⟩ := h2
    simp only [hasF, Bool.or_eq_false_iff, beq_eq_false_iff_ne]
    exact ⟨⟨⟨⟨⟨fun h => a1 h.symm, fun h => a2 h.symm⟩, fun h => a3 h.symm⟩, fun h => a4 h.symm⟩, fun h => a5 h.symm⟩, fun h => a6 h.symm⟩
  · right
    have hm := List.mem_of_getElem? h2
    rw [h1]
    simp only [rowsM, List.mem_cons, List.not_mem_nil, or_false] at hm
    rcases hm with rfl | rfl | rfl | rfl | rfl | rfl <;> (injection h3 with _ h3; subst h3; exact ⟨rfl, _, _, _, _, _, _, rfl⟩)
set_option maxRecDepth 100000 in
set_option maxHeartbeats 4000000 in
theorem has_any (k : Int) (w : World) : Calls Tryz.prog 87 #[.int .i64 k] w fun e w' => e = .returned (.bool (hasF k)) ∧ Below w.heap.size w w' := by
  have HR := hide (rows_any w)
  have hzr : ∀ W : World, (zeroValue 131).run Tryz.prog W = .ok (.agg #[.int .i64 0, .int .u32 0, .int .i64 0, .nilFunc]) W := fun W => by kernel_rfl
  go_enter Tryz.func87, Tryz.ntmps87
  go_wp2_with fail
  refine HR.out.mono ?_
  rintro e w1 ⟨rfl, ⟨p0, q0, p1, q1, p2, q2, p3, q3, p4, q4, hm1⟩, hb1⟩
  rcases rowsM_find p0 q0 p1 q1 p2 q2 p3 q3 p4 q4 k with ⟨hk, hf⟩ | ⟨hk, i, a, b, c, g, ps, hf⟩
  · have hlk := run_missI (P := Tryz.prog) w1 133 3 131 _ 6 _ k _ Tryz.underlying133 Tryz.underlying3 (hzr w1) hm1 hf
    have B1 := hide hb1
    have HK := Lib.hid hk
    clear hm1 hf hb1 hzr hk
    go_wp2_with fail
    go_ret
    exact ⟨by rw [HK.out]; rfl, B1.out.alloc B1.out.size _⟩
  · have hlk := run_hitI (P := Tryz.prog) w1 133 3 131 _ 6 i _ k _ Tryz.underlying133 Tryz.underlying3 hm1 hf
    have B1 := hide hb1
    have HK := Lib.hid hk
    clear hm1 hf hb1 hzr hk
    go_wp2_with fail
    go_ret
    exact ⟨by rw [HK.out]; rfl, B1.out.alloc B1.out.size _⟩
set_option maxRecDepth 100000 in
theorem group_some (k : Int) (w : World) : Calls Tryz.prog 88 #[.int .i64 k] w fun e w' => (∃ n, e = .returned (.int .i64 n)) ∧ w' = w := by
  cases h1 : (k == 8) <;> cases h2 : (k == 10) <;> cases h3 : (k == 16) <;> cases h4 : (k == 32)
  all_goals
    go_enter Tryz.func88, Tryz.ntmps88
    go_wp2
    go_ret
    exact ⟨⟨_, rfl⟩, rfl⟩
set_option maxRecDepth 100000 in
theorem aggHas_some (k : Int) (w : World) : Calls Tryz.prog 89 #[.int .i64 k] w fun e w' => (∃ b, e = .returned (.bool b)) ∧ w' = w := by
  cases h1 : (k == 7) <;> cases h2 : (k == 18)
  all_goals
    go_enter Tryz.func89, Tryz.ntmps89
    go_wp2
    go_ret
    exact ⟨⟨_, rfl⟩, rfl⟩
set_option maxRecDepth 100000 in
theorem mpHas_some (k : Int) (w : World) : Calls Tryz.prog 90 #[.int .i64 k] w fun e w' => (∃ b, e = .returned (.bool b)) ∧ w' = w := by
  cases h1 : (k == 14) <;> cases h2 : (k == 15)
  all_goals
    go_enter Tryz.func90, Tryz.ntmps90
    go_wp2
    go_ret
    exact ⟨⟨_, rfl⟩, rfl⟩
def optV (o1 o2 o3 o4 o5 o6 : Bool) : Value := .agg #[.bool o1, .bool o2, .bool o3, .bool o4, .bool o5, .bool o6]
set_option maxRecDepth 100000 in
set_option maxHeartbeats 4000000 in
theorem of_some (o1 o2 o3 o4 o5 o6 : Bool) (k : Int) (w : World) : Calls Tryz.prog 79 #[.agg #[.bool o1, .bool o2, .bool o3, .bool o4, .bool o5, .bool o6], .int .i64 k] w fun e w' => (∃ v, e = .returned v) ∧ Below w.heap.size w w' := by
  obtain ⟨W0, hW0⟩ : ∃ W0, W0 = w.alloc (.cells #[.bool o1, .bool o2, .bool o3, .bool o4, .bool o5, .bool o6] 60) := ⟨_, rfl⟩
  have hb0 : Below w.heap.size w W0 := by rw [hW0]; exact (Below.refl _ _).alloc (Nat.le_refl _) _
  have hg0 : W0.heap[w.heap.size]? = some (.cells #[.bool o1, .bool o2, .bool o3, .bool o4, .bool o5, .bool o6] 60 (0, 0)) := by rw [hW0]; exact heap_alloc_new _ _
  have B0 := hide hb0
  have G0 := Lib.hid hg0
  have HH := hide (has_any k W0)
  have HW0 := Lib.hid hW0
  clear hb0 hg0 hW0
  generalize hasF k = hb at HH
  have HG := hide (fun W => group_some k W)
  have HA := hide (fun W => aggHas_some k W)
  have HM := hide (fun W => mpHas_some k W)
  go_enter Tryz.func79, Tryz.ntmps79
  go_wp2_with fail
  rw [← HW0.out]
  refine HH.out.mono ?_
  rintro e w1 ⟨rfl, hb1⟩
  have g1 := (hb1.block w.heap.size (lt_of_block G0.out)).trans G0.out
  have c0 : w1.cell? ⟨w.heap.size, 0, none⟩ = some (.bool o1) := by rw [cell_of_row _ _ 0 _ _ _ g1]; rfl
  have c1 : w1.cell? ⟨w.heap.size, 1, none⟩ = some (.bool o2) := by rw [cell_of_row _ _ 1 _ _ _ g1]; rfl
  have c2 : w1.cell? ⟨w.heap.size, 2, none⟩ = some (.bool o3) := by rw [cell_of_row _ _ 2 _ _ _ g1]; rfl
  have c3 : w1.cell? ⟨w.heap.size, 3, none⟩ = some (.bool o4) := by rw [cell_of_row _ _ 3 _ _ _ g1]; rfl
  have c4 : w1.cell? ⟨w.heap.size, 4, none⟩ = some (.bool o5) := by rw [cell_of_row _ _ 4 _ _ _ g1]; rfl
  have c5 : w1.cell? ⟨w.heap.size, 5, none⟩ = some (.bool o6) := by rw [cell_of_row _ _ 5 _ _ _ g1]; rfl
  have l0 := lt_of_block g1
  have B1 := hide (B0.out.trans (hb1.mono B0.out.size))
  clear g1 hb1
  cases hb
  · go_wp2_with fail
    refine (HG.out _).mono ?_
    rintro e w2 ⟨⟨n, rfl⟩, rfl⟩
    cases hn : decide (0 < n)
    · have hn1 : ¬ 0 < n := of_decide_eq_false hn
      clear hn
      go_wp2_with fail
      refine (HA.out _).mono ?_
      rintro e w2 ⟨⟨b, rfl⟩, rfl⟩
      cases b
      · go_wp2_with fail
        refine (HM.out _).mono ?_
        rintro e w2 ⟨⟨b, rfl⟩, rfl⟩
        cases b
        · cases h2 : (k == 2) <;> cases h17 : (k == 17)
          all_goals
            go_wp2_with fail
            go_ret
            exact ⟨⟨_, rfl⟩, B1.out⟩
        · go_wp2_with fail
          go_ret
          exact ⟨⟨_, rfl⟩, B1.out⟩
      · go_wp2_with fail
        go_ret
        exact ⟨⟨_, rfl⟩, B1.out⟩
    · have hn1 : 0 < n := of_decide_eq_true hn
      clear hn
      go_wp2_with fail
      go_ret
      exact ⟨⟨_, rfl⟩, B1.out⟩
  · go_wp2_with fail
    go_ret
    exact ⟨⟨_, rfl⟩, B1.out⟩
end Go.Proofs.YtnfclcbhehbchaaGreatDoor
