/- A prefix as an argument: its numbers and its sixteen bytes. -/
import Derived.Test.YtgegloplhlkafaaDoorArgsP
import Derived.Test.YtgegloplhlkafaaDoorPfxB
import Derived.Deep.Strs
set_option autoImplicit false
namespace Go.Proofs.YtgegloplhlkafaaDoor
open Go.RowKit Go.WideShapes Go.ChangeShapes Go.Deep

theorem pfx_fields_q : ∃ f0 f1 f2 : Field, Tryd.prog.underlying 26 = some (.struct #[f0, f1, f2]) ∧ f0.type = 3 ∧ f1.type = 3 ∧ f2.type = 24 ∧ f0.offset = 0 ∧ f1.offset = 1 ∧ f2.offset = 2 :=
  ⟨_, _, _, Tryd.underlying26, rfl, rfl, rfl, rfl, rfl, rfl⟩
theorem cells_pfx_q : Tryd.prog.cellsOf 26 = 18 := by kernel_rfl
theorem cells_int_q : Tryd.prog.cellsOf 3 = 1 := by kernel_rfl
theorem cells_arr_q : Tryd.prog.cellsOf 24 = 16 := by kernel_rfl
theorem cells_u8_q : Tryd.prog.cellsOf 5 = 1 := by kernel_rfl

theorem take1_at_q {α : Type} (l : List α) (i : Nat) (v : α) (h : (l.drop i).take 1 = [v]) : l[i]? = some v := by
  have : ((l.drop i).take 1)[0]? = some v := by rw [h]; rfl
  rw [List.getElem?_take_of_lt (by omega), List.getElem?_drop] at this
  simpa using this

theorem open_pfx {H : Type} {enc : TypeId × Value → H} {w : World} {base fuel : Nat} {sp : Nat → Bool} {held : Bool} {cs : List Value} {x : DataW H × List MemPlace}
    (h : DataW.trod enc Tryd.prog w base sp held fuel 26 cs = some x) :
    ∃ (F L : Int) (a : List Int), cs = pvL F L a ∧ a.length = 16 ∧ Bs a ∧ (-9223372036854775808 ≤ F ∧ F ≤ 9223372036854775807) ∧ -9223372036854775808 ≤ L ∧ L ≤ 9223372036854775807 := by
  obtain ⟨f0, f1, f2, hs, t0, t1, t2, o0, o1, o2⟩ := pfx_fields_q
  obtain ⟨y0, y1, y2, n, _, hl, h0, h1, h2⟩ := trod_struct3 hs h
  rw [t0, o0, cells_int_q] at h0
  rw [t1, o1, cells_int_q] at h1
  rw [t2, o2, cells_arr_q] at h2
  rw [cells_pfx_q] at hl
  obtain ⟨F, e0, _, w0⟩ := DataW.trod_int Tryd.underlying3 h0
  obtain ⟨L, e1, _, w1⟩ := DataW.trod_int Tryd.underlying3 h1
  obtain ⟨xs, m, _, _, hcl, hxl, hel⟩ := DataW.trod_array Tryd.underlying24 h2
  rw [cells_arr_q] at hcl
  simp only [cells_u8_q, Nat.mul_one] at hel
  have q0 := take1_at_q _ _ _ e0
  have q1 := take1_at_q _ _ _ e1
  generalize hc2 : (cs.drop 2).take 16 = cs2 at hcl hel
  have each : ∀ i, i < 16 → ∃ k : Int, cs2[i]? = some (.int .u8 k) ∧ 0 ≤ k ∧ k < 256 := fun i hi => by
    have := hel i hi
    rw [List.getElem?_eq_getElem (by omega)] at this
    obtain ⟨k, e, _, wf⟩ := DataW.trod_int Tryd.underlying5 this
    have hk := bounds_u8 wf
    exact ⟨k, take1_at_q _ _ _ e, by omega, by omega⟩
  refine ⟨F, L, cs2.map (fun v => match v with | .int _ k => k | _ => 0), ?_, by rw [List.length_map, hcl], ?_, bounds_i64 w0, bounds_i64 w1⟩
  · have hb : bV (cs2.map (fun v => match v with | .int _ k => k | _ => 0)) = cs2 := by
      refine List.ext_getElem? fun i => ?_
      by_cases hi : i < 16
      · obtain ⟨k, hk, _⟩ := each i hi
        simp [bV, hk]
      · rw [List.getElem?_eq_none (by rw [bV_len, List.length_map]; omega), List.getElem?_eq_none (by omega)]
    rw [pvL, hb]
    refine List.ext_getElem? fun i => ?_
    match i with
    | 0 => exact q0
    | 1 => exact q1
    | i + 2 =>
      rw [List.getElem?_cons_succ, List.getElem?_cons_succ, ← hc2]
      by_cases hi : i < 16
      · rw [List.getElem?_take_of_lt hi, List.getElem?_drop, Nat.add_comm]
      · rw [List.getElem?_eq_none (by omega), List.getElem?_eq_none (by rw [List.length_take]; omega)]
  · intro z hz
    obtain ⟨v, hv, rfl⟩ := List.mem_map.1 hz
    obtain ⟨i, hi, rfl⟩ := List.getElem_of_mem hv
    obtain ⟨k, hk, h0, h1⟩ := each i (by omega)
    rw [List.getElem?_eq_getElem hi] at hk
    injection hk with hk
    rw [hk]
    exact ⟨h0, h1⟩

theorem agg_of_cells {v : Value} {F L : Int} {a : List Int} (h : v.cells.toList = pvL F L a) : v = .agg (pvL F L a).toArray := by
  have hl := congrArg List.length h
  cases v with
  | agg cs => simp only [Value.cells] at h; rw [← h]
  | _ => simp [Value.cells, pvL, bV_len] at hl
end Go.Proofs.YtgegloplhlkafaaDoor
