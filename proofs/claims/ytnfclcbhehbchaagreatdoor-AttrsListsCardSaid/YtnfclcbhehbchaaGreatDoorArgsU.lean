/- Arguments as the reading gives them: lists of attributes, and updates. -/
import Derived.Test.YtnfclcbhehbchaaGreatDoorArgsV
import Derived.Test.YtnfclcbhehbchaaGreatDoorUpA
import Derived.Test.YtnfclcbhehbchaaGreatDoorUpC
set_option autoImplicit false
namespace Go.Proofs.YtnfclcbhehbchaaGreatDoor
open Go.RowKit Go.WideShapes Go.ChangeShapes Go.Deep

instance : Inhabited AttrD := ⟨⟨0, false, 0, 0, [], [], [], 0, []⟩⟩
theorem bytes_int : Tryz.prog.bytesOf 3 = 8 := by kernel_rfl
theorem bytes_attr : Tryz.prog.bytesOf 38 = 128 := by kernel_rfl
/-- A slice of attributes, as a list. -/
theorem open_attrs {H : Type} {enc : TypeId × Value → H} {w : World} {base fuel : Nat} {held : Bool} {cs : List Value} {x : DataW H × List MemPlace}
    (h : DataW.trod enc Tryz.prog w base (fun _ => true) held fuel 22 cs = some x) (hw : ∀ n ∈ x.1.weights Tryz.prog 22, n ≤ reachBytes) :
    ∃ (A : Option Addr) (c : Nat) (l : List AttrD), cs = [.slice A l.length c] ∧ AttrsC w w.heap.size A l ∧ AttrsOk l := by
  rcases open_slice Tryz.underlying22 h with ⟨rfl, rfl⟩ | ⟨a, len, cap, m, n, D, Pl, rfl, _, hl, hm, hmm, rfl, hel⟩
  · exact ⟨none, 0, [], rfl, AttrsC.nil_, by simp, fun d hd => by cases hd⟩
  · simp only [if_true] at hmm
    subst hmm
    rw [cells_attrV.1] at hel
    have each : ∀ i, i < len → ∃ (d : AttrD), ∃ (cs' : List Value), cs'.length = 9 ∧ (∀ k u, cs'[k]? = some u → w.cell? (a.add (i * 9 + k)) = some u) ∧ AttrC w w.heap.size cs'.toArray d ∧ AttrOk d := by
      intro i hi
      obtain ⟨cs', hc, ht⟩ := hel i (by omega)
      obtain ⟨_, hcl, hat⟩ := World.cells?_some hc
      obtain ⟨d, ha, hok, h9⟩ := open_attr ht (fun n hn => hw n (by
        simp only [DataW.weights, Tryz.underlying22, List.mem_cons, List.mem_append]
        exact .inr (.inl (weightsAll_mem (List.mem_map.2 ⟨i, List.mem_range.2 hi, rfl⟩) n hn))))
      refine ⟨d, cs', h9, fun k u hu => ?_, ha, hok⟩
      have hk : k < cs'.length := (List.getElem?_eq_some_iff.1 hu).1
      have := hat k (by omega)
      rw [Go.Deep.add_add, hu] at this
      exact this
    obtain ⟨L, hL⟩ := choose_lt (α := AttrD) each
    have hlen : ((List.range len).map L).length = len := by simp
    have hcell : ∀ j, j < len * 9 → ∃ u, w.cell? (a.add j) = some u := fun j hj => by
      obtain ⟨cs', h9, hc, _, _⟩ := hL (j / 9) (by omega)
      have e : j / 9 * 9 + j % 9 = j := by omega
      have h1 := hc (j % 9) _ (List.getElem?_eq_getElem (by omega))
      rw [e] at h1
      exact ⟨_, h1⟩
    have hgd : ∀ j v, w.cell? (a.add j) = some v → j < len * 9 → ((List.range (len * 9)).map fun j => (w.cell? (a.add j)).getD (.bool false))[j]? = some v := by
      intro j v hv hj
      rw [List.getElem?_map, List.getElem?_range hj]
      simp [hv]
    refine ⟨some a, m, (List.range len).map L, by rw [hlen], ⟨(List.range (len * 9)).map fun j => (w.cell? (a.add j)).getD (.bool false), ⟨by simp, fun hn => ⟨a, rfl, ?_, fun j u hu => ?_⟩⟩, fun i d hd => ?_⟩, ?_, fun d hd => ?_⟩
    · obtain ⟨u, hu⟩ := hcell 0 (by have : 0 < len := by simpa using hn
                                    omega)
      have := lt_of_cell hu
      rwa [block_of_add] at this
    · have hj : j < len * 9 := by have := (List.getElem?_eq_some_iff.1 hu).1; simpa using this
      obtain ⟨v, hv⟩ := hcell j hj
      rw [hgd j v hv hj] at hu
      rw [← hu]; exact hv
    · have hi : i < len := by have := (List.getElem?_eq_some_iff.1 hd).1; simpa using this
      rw [List.getElem?_map, List.getElem?_range hi] at hd
      have e : L i = d := by simpa using hd
      obtain ⟨cs', h9, hc, ha, _⟩ := hL i hi
      rw [e] at ha
      have hch : chunk ((List.range (len * 9)).map fun j => (w.cell? (a.add j)).getD (.bool false)) i = cs' := by
        refine List.ext_getElem? fun k => ?_
        by_cases hk : k < 9
        · rw [chunk_get hk, hgd (i * 9 + k) _ (hc k _ (List.getElem?_eq_getElem (by omega))) (by omega), List.getElem?_eq_getElem (by omega)]
        · rw [List.getElem?_eq_none (by rw [chunk_len (n := len) (by simp) hi]; omega), List.getElem?_eq_none (by omega)]
      rw [hch]; exact ha
    · have := hw ((len + (m - len)) * 128) (by simp [DataW.weights, Tryz.underlying22, bytes_attr])
      simp only [reachBytes] at this
      simp; omega
    · obtain ⟨i, hi, rfl⟩ := List.mem_map.1 hd
      have hi : i < len := by simpa using hi
      obtain ⟨_, _, _, _, ok⟩ := hL i hi
      exact ok
theorem upd_fieldsU : ∃ f0 f1 f2 : Field, Tryz.prog.underlying 44 = some (.struct #[f0, f1, f2]) ∧ f0.type = 36 ∧ f1.type = 22 ∧ f2.type = 36 ∧ f0.offset = 0 ∧ f1.offset = 1 ∧ f2.offset = 2 :=
  ⟨_, _, _, Tryz.underlying44, rfl, rfl, rfl, rfl, rfl, rfl⟩
theorem cells_updU : Tryz.prog.cellsOf 44 = 3 ∧ Tryz.prog.cellsOf 22 = 1 := by
  refine ⟨?_, ?_⟩ <;> kernel_rfl
/-- An update. -/
theorem open_upd {H : Type} {enc : TypeId × Value → H} {w : World} {base fuel : Nat} {held : Bool} {cs : List Value} {x : DataW H × List MemPlace}
    (h : DataW.trod enc Tryz.prog w base (fun _ => true) held fuel 44 cs = some x) (hw : ∀ n ∈ x.1.weights Tryz.prog 44, n ≤ reachBytes) : ∃ d : UpdD, UpdC w w.heap.size cs.toArray d ∧ UpdOk d ∧ cs.length = 3 := by
  obtain ⟨f0, f1, f2, hs, t0, t1, t2, o0, o1, o2⟩ := upd_fieldsU
  obtain ⟨y0, y1, y2, n, hx, hl, h0, h1, h2⟩ := trod_struct3 hs h
  rw [cells_updU.1] at hl
  rw [t0, o0, cells_attrV.2.2.2.2] at h0
  rw [t1, o1, cells_updU.2] at h1
  rw [t2, o2, cells_attrV.2.2.2.2] at h2
  have hwt : ∀ (j : Nat) (t : TypeId) (y : DataW H), [36, 22, 36][j]? = some t → [y0.1, y1.1, y2.1][j]? = some y → ∀ k ∈ y.weights Tryz.prog t, k ≤ reachBytes := fun j t y ht hy k hk => hw k (by
    rw [hx]
    simp only [DataW.weights, hs, t0, t1, t2, List.map_cons, List.map_nil]
    exact DataW.weights_mem_each (j := j) ht hy k hk)
  obtain ⟨A0, c0, l0, e0, p0, r0, s0⟩ := open_routes h0
  obtain ⟨A1, c1, l1, e1, p1, k1⟩ := open_attrs h1 (hwt 1 _ _ rfl rfl)
  obtain ⟨A2, c2, l2, e2, p2, r2, s2⟩ := open_routes h2
  have hcs : cs = [.slice A0 l0.length c0, .slice A1 l1.length c1, .slice A2 l2.length c2] := by
    refine List.ext_getElem? fun i => ?_
    match i with
    | 0 => exact take1_atF _ _ _ e0
    | 1 => exact take1_atF _ _ _ e1
    | 2 => exact take1_atF _ _ _ e2
    | i + 3 => rw [List.getElem?_eq_none (by omega), List.getElem?_eq_none (by simp)]
  refine ⟨⟨l0, l1, l2⟩, ⟨A0, c0, A1, c1, A2, c2, by rw [hcs], p0, p1, p2⟩, ⟨s0 (hwt 0 _ _ rfl rfl), r0, k1, s2 (hwt 2 _ _ rfl rfl), r2⟩, by rw [hcs]; rfl⟩
end Go.Proofs.YtnfclcbhehbchaaGreatDoor
