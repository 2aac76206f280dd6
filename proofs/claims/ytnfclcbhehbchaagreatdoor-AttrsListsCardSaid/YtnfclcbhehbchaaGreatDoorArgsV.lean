/- Arguments as the reading gives them: attributes; the row's last step for a law that returns true and leaves alone whatever lay there. -/
import Derived.Test.YtnfclcbhehbchaaGreatDoorRtG
import Derived.Deep.Slices
import Derived.Deep.Fields
import Derived.Deep.Strs
import Derived.SizedLaws
import Derived.ReadAgain
import Derived.ProofKit
import Derived.OpenShut
import Derived.ChangeSlices
set_option autoImplicit false
namespace Go.Proofs.YtnfclcbhehbchaaGreatDoor
open Go.RowKit Go.WideShapes Go.ChangeShapes Go.Deep

theorem kids : Kids Tryz.prog (· < Tryz.prog.types.size) := kids_rows (by kernel_rfl) (by kernel_rfl)
theorem full : ∀ t e, t < Tryz.prog.types.size → Tryz.prog.underlying t = some (.slice e) → 0 < Tryz.prog.cellsOf e := slices_full_of Tryz.prog (by kernel_rfl)

theorem trodAll_below {H : Type} {enc : TypeId × Value → H} {P : Program} {W W' : World} (hb : Below W.heap.size W W') {base : Nat} {sp : Nat → Bool} {held : Bool} : ∀ {ts : List TypeId} {vs : List Value} {ds : List (DataW H)} {ps : List MemPlace},
    DataW.TrodAll enc P W base sp held ts vs ds ps → DataW.TrodAll enc P W' base sp held ts vs ds ps
  | [], [], [], _, h => h
  | _ :: _, _ :: _, _ :: _, _, ⟨p, q, ⟨n, h1⟩, h2, e⟩ => ⟨p, q, ⟨n, DataW.trod_carry n _ _ _ h1 fun x hx => hb.same (DataW.trod_lt n _ _ _ h1 x hx)⟩, trodAll_below hb h2, e⟩

set_option maxRecDepth 100000 in
theorem done_true {H : Type} {enc : TypeId × Value → H} {f : Func} {s : ChangeSpec} {W W' : World} {args : Array Value} {ds gs : List (DataW H)} {before : List MemPlace}
    (hW : DataW.Whole enc Tryz.prog f.params.toList s.vars false W args.toList ds gs before) (hv : s.vars = []) (hr : (s.fn H (ds ++ gs)).results = [.lit (.bool true)]) (ha : (s.fn H (ds ++ gs)).args = ds)
    (hx : (s.fn H (ds ++ gs)).vars = []) (ht : f.resultTypes = #[4]) (hp : ∀ t ∈ f.params.toList, t < Tryz.prog.types.size) (hb : Below W.heap.size W W') :
    s.post enc Tryz.prog f false true false false W args (.bool true) W' := by
  have hW' := hW
  obtain ⟨p, q, hA, hV, rfl, hfz, hnd⟩ := hW
  rw [hv] at hV
  obtain ⟨rfl, rfl⟩ := trodVars_none hV
  refine post_of_below (pa := p) (pv := []) hW' (fun _ _ _ => ?_) (fun sp hsp => ?_) (fun _ _ => ?_) rfl hb ?_
  · rw [hr, ht]
    exact trodAll_mk1 (shut_bool Tryz.underlying4 true)
  · rw [ha]
    exact DataW.TrodAll.respare kids full hp (trodAll_below hb hA) (fun x hx => hsp x (by simpa using hx))
  · rw [hv, hx]; rfl
  · have hk : Value.okWide Tryz.prog W' .any 0 4 (.bool true) := okWide_bool_mk Tryz.underlying4 true
    exact ok_one ht rfl hk

theorem lt_of_cell {w : World} {a : Addr} {v : Value} (h : w.cell? a = some v) : a.block < w.heap.size := by
  rcases Nat.lt_or_ge a.block w.heap.size with h' | h'
  · exact h'
  · unfold World.cell? at h
    rw [Array.getElem?_eq_none h'] at h
    simp at h

/-- A slice of integers of one kind, as a list. -/
theorem open_nums {H : Type} {enc : TypeId × Value → H} {P : Program} {w : World} {base fuel : Nat} {held : Bool} {t e : TypeId} {k : IntKind} {cs : List Value} {x : DataW H × List MemPlace} (ht : P.underlying t = some (.slice e))
    (he : P.underlying e = some (.int k)) (hc : P.cellsOf e = 1) (h : DataW.trod enc P w base (fun _ => true) held fuel t cs = some x) :
    ∃ (A : Option Addr) (c : Nat) (zs : List Int), cs = [.slice A zs.length c] ∧ zs.length ≤ c ∧ c ≤ maxLen ∧ Reads w w.heap.size 1 A zs.length (zs.map (Value.int k)) ∧ (∀ n ∈ zs, (Lit.int k n).wf = true) ∧
      (x.1 = .nil ∧ c = 0 ∨ ∃ el sp, x.1 = .slice el sp ∧ el.length + sp.length = c) := by
  rcases open_ints ht he hc h with ⟨rfl, rfl⟩ | ⟨a, len, cap, zs, rfl, _, hl, hm, hz, rfl, hcell, hwf⟩
  · exact ⟨none, 0, [], rfl, Nat.le_refl _, by simp [maxLen], Reads.none_, by simp, .inl ⟨rfl, rfl⟩⟩
  · simp only [if_true] at hz
    have hlen : (zs.take len).length = len := by rw [List.length_take]; omega
    refine ⟨some a, cap, zs.take len, by rw [hlen], by omega, hm, ⟨by simp, fun hn => ⟨a, rfl, ?_, fun j u hu => ?_⟩⟩, fun n hn => hwf n (List.mem_of_mem_take hn), .inr ⟨_, _, rfl, ?_⟩⟩
    · have := lt_of_cell (hcell 0 (by omega))
      rwa [block_of_add] at this
    · have hj : j < len := by
        have := (List.getElem?_eq_some_iff.1 hu).1
        rw [List.length_map, hlen] at this
        exact this
      rw [hcell j (by omega)]
      rw [List.getElem?_map, List.getElem?_take_of_lt hj, List.getElem?_eq_getElem (by omega)] at hu
      simp only [Option.map_some] at hu
      rw [← hu, List.getD_eq_getElem?_getD, List.getElem?_eq_getElem (by omega)]
      rfl
    · simp [lits]; omega

theorem weightsAll_mem {H : Type} {P : Program} {e : TypeId} {d : DataW H} : ∀ {l : List (DataW H)}, d ∈ l → ∀ n ∈ d.weights P e, n ∈ DataW.weightsAll P e l
  | x :: r, hd, n, hn => by
    simp only [DataW.weightsAll, List.mem_append]
    rcases List.mem_cons.1 hd with rfl | hd
    · exact .inl hn
    · exact .inr (weightsAll_mem hd n hn)
  | [], hd, _, _ => by cases hd

theorem cells_u8 : Tryz.prog.cellsOf 5 = 1 := by kernel_rfl
theorem bytes_u8 : Tryz.prog.bytesOf 5 = 1 := by kernel_rfl

theorem take1_atF {α : Type} (l : List α) (i : Nat) (v : α) (h : (l.drop i).take 1 = [v]) : l[i]? = some v := by
  have : ((l.drop i).take 1)[0]? = some v := by rw [h]; rfl
  rw [List.getElem?_take_of_lt (by omega), List.getElem?_drop] at this
  simpa using this
/-- Numbers that can be read: lengths and ranges. -/
def Sound (l : List Sg) : Prop := l.length ≤ 140737488351232 ∧ ∀ s ∈ l, s.2.length ≤ 140737488351232 ∧ Us s.2
theorem seg_fields : ∃ f0 f1 : Field, Tryz.prog.underlying 83 = some (.struct #[f0, f1]) ∧ f0.type = 3 ∧ f1.type = 34 ∧ f0.offset = 0 ∧ f1.offset = 1 :=
  ⟨_, _, Tryz.underlying83, rfl, rfl, rfl, rfl⟩
theorem cells_seg : Tryz.prog.cellsOf 83 = 2 := by kernel_rfl
theorem cells_int : Tryz.prog.cellsOf 3 = 1 := by kernel_rfl
theorem cells_u32s : Tryz.prog.cellsOf 34 = 1 := by kernel_rfl
theorem cells_u32 : Tryz.prog.cellsOf 32 = 1 := by kernel_rfl
theorem bytes_seg : Tryz.prog.bytesOf 83 = 32 := by kernel_rfl
theorem bytes_u32 : Tryz.prog.bytesOf 32 = 4 := by kernel_rfl

/-- A slice of segments, as a list. -/
theorem open_path {H : Type} {enc : TypeId × Value → H} {w : World} {base fuel : Nat} {held : Bool} {cs : List Value} {x : DataW H × List MemPlace}
    (h : DataW.trod enc Tryz.prog w base (fun _ => true) held fuel 33 cs = some x) :
    ∃ (A : Option Addr) (c : Nat) (l : List Sg), cs = [.slice A l.length c] ∧ l.length ≤ c ∧ c ≤ maxLen ∧ Path w w.heap.size A l ∧
      ((∀ n ∈ x.1.weights Tryz.prog 33, n ≤ reachBytes) → Sound l) := by
  rcases open_slice Tryz.underlying33 h with ⟨rfl, rfl⟩ | ⟨a, len, cap, m, n, D, Pl, rfl, _, hl, hm, hmm, rfl, hel⟩
  · exact ⟨none, 0, [], rfl, Nat.le_refl _, by simp [maxLen], Path.nil_, fun _ => ⟨by simp, by simp⟩⟩
  · simp only [if_true] at hmm
    subst hmm
    rw [cells_seg] at hel
    obtain ⟨f0, f1, hs, t0, t1, o0, o1⟩ := seg_fields
    have each : ∀ i, i < len → ∃ (s : Sg), ∃ (A' : Option Addr) (c' : Nat), w.cell? (a.add (i * 2)) = some (.int .i64 s.1) ∧ w.cell? (a.add (i * 2 + 1)) = some (.slice A' s.2.length c') ∧ s.2.length ≤ c' ∧ c' ≤ maxLen ∧
        Reads w w.heap.size 1 A' s.2.length (uV s.2) ∧ Us s.2 ∧ ((∀ n ∈ (D i).weights Tryz.prog 83, n ≤ reachBytes) → s.2.length ≤ 140737488351232) := by
      intro i hi
      obtain ⟨cs', hc, ht⟩ := hel i (by omega)
      obtain ⟨_, hcl, hat⟩ := World.cells?_some hc
      obtain ⟨y0, y1, n', hx, _, h0, h1⟩ := trod_struct2 hs ht
      simp only [Prod.mk.injEq] at hx
      rw [t0, o0, cells_int] at h0
      rw [t1, o1, cells_u32s] at h1
      match cs', hcl with
      | [c0, c1], _ =>
        obtain ⟨K, e0, _, _⟩ := DataW.trod_int Tryz.underlying3 h0
        obtain ⟨A', c', zs, e1, q1, q2, q3, q4, q5⟩ := open_nums Tryz.underlying34 Tryz.underlying32 cells_u32 h1
        have a0 := hat 0 (by omega)
        have a1 := hat 1 (by omega)
        rw [Go.Deep.add_add] at a0 a1
        simp at e0 e1 a0 a1
        subst e0; subst e1
        refine ⟨(K, zs), A', c', a0, a1, q1, q2, q3, fun z hz => ?_, fun hw => ?_⟩
        · have := q4 z hz
          simp [Lit.wf] at this
          have e1 : IntKind.u32.min = 0 := by decide
          have e2 : IntKind.u32.max = 4294967295 := by decide
          rw [e1, e2] at this
          omega
        · rcases q5 with ⟨_, rfl⟩ | ⟨el, sp, e, hlen⟩
          · show zs.length ≤ _; omega
          · have := hw ((el.length + sp.length) * 4) (by
              rw [hx.1]
              simp only [DataW.weights, hs, t0, t1, List.map_cons, List.map_nil, DataW.weightsEach]
              rw [e]
              simp [DataW.weights, Tryz.underlying34, bytes_u32])
            simp only [reachBytes] at this
            show zs.length ≤ _
            omega
    obtain ⟨L, hL⟩ := choose_lt (α := Sg) each
    have hlen : ((List.range len).map L).length = len := by simp
    have hgd : ∀ j v, w.cell? (a.add j) = some v → j < len * 2 → ((List.range (len * 2)).map fun j => (w.cell? (a.add j)).getD (.bool false))[j]? = some v := by
      intro j v hv hj
      rw [List.getElem?_map, List.getElem?_range hj]
      simp [hv]
    refine ⟨some a, m, (List.range len).map L, by rw [hlen], by omega, hm, ⟨(List.range (len * 2)).map fun j => (w.cell? (a.add j)).getD (.bool false), ⟨by simp, fun hn => ⟨a, rfl, ?_, fun j u hu => ?_⟩⟩, by simp, fun i s hs => ?_⟩, fun hw => ⟨?_, fun s hs => ?_⟩⟩
    · obtain ⟨A', c', c0, _⟩ := hL 0 (by simpa using hn)
      have := lt_of_cell c0
      rwa [block_of_add] at this
    · have hj : j < len * 2 := by have := (List.getElem?_eq_some_iff.1 hu).1; simpa using this
      rw [List.getElem?_map, List.getElem?_range hj] at hu
      obtain ⟨A', c', c0, c1, _⟩ := hL (j / 2) (by omega)
      rcases Nat.mod_two_eq_zero_or_one j with hp | hp
      · rw [show j / 2 * 2 = j from by omega] at c0
        simp [c0] at hu
        rw [c0, hu]
      · rw [show j / 2 * 2 + 1 = j from by omega] at c1
        simp [c1] at hu
        rw [c1, hu]
    · have hi : i < len := by have := (List.getElem?_eq_some_iff.1 hs).1; simpa using this
      rw [List.getElem?_map, List.getElem?_range hi] at hs
      have e : L i = s := by simpa using hs
      obtain ⟨A', c', c0, c1, c2, c3, c4, _⟩ := hL i hi
      rw [e] at c0 c1 c2 c4
      exact ⟨_, _, hgd _ _ c0 (by omega), hgd _ _ c1 (by omega), rfl, A', c', rfl, c2, c3, c4⟩
    · have := hw ((len + (m - len)) * 32) (by simp [DataW.weights, Tryz.underlying33, bytes_seg])
      simp only [reachBytes] at this
      simp; omega
    · obtain ⟨i, hi, rfl⟩ := List.mem_map.1 hs
      have hi : i < len := by simpa using hi
      obtain ⟨A', c', _, _, _, _, _, c5, c6⟩ := hL i hi
      refine ⟨c6 fun n hn => hw n ?_, c5⟩
      simp only [DataW.weights, Tryz.underlying33, List.mem_cons, List.mem_append]
      exact .inr (.inl (weightsAll_mem (List.mem_map.2 ⟨i, List.mem_range.2 hi, rfl⟩) n hn))

theorem rt_fieldsV : ∃ f0 f1 : Field, Tryz.prog.underlying 55 = some (.struct #[f0, f1]) ∧ f0.type = 32 ∧ f1.type = 53 ∧ f0.offset = 0 ∧ f1.offset = 1 := ⟨_, _, Tryz.underlying55, rfl, rfl, rfl, rfl⟩
theorem pfx_fieldsV : ∃ f0 f1 f2 : Field, Tryz.prog.underlying 53 = some (.struct #[f0, f1, f2]) ∧ f0.type = 3 ∧ f1.type = 3 ∧ f2.type = 51 ∧ f0.offset = 0 ∧ f1.offset = 1 ∧ f2.offset = 2 :=
  ⟨_, _, _, Tryz.underlying53, rfl, rfl, rfl, rfl, rfl, rfl⟩
set_option maxRecDepth 100000 in
/-- One route. -/
theorem open_route {H : Type} {enc : TypeId × Value → H} {w : World} {base fuel : Nat} {sp : Nat → Bool} {held : Bool} {cs : List Value} {x : DataW H × List MemPlace}
    (h : DataW.trod enc Tryz.prog w base sp held fuel 55 cs = some x) : ∃ r : Rt, cs = rtV r ∧ r.2.2.2.length = 16 ∧ WfR r := by
  obtain ⟨g0, g1, hg, u0, u1, q0, q1⟩ := rt_fieldsV
  obtain ⟨z0, z1, n0, _, hl0, k0, k1⟩ := trod_struct2 hg h
  rw [u0, q0, kl_cells.2.2.2.2.2] at k0
  rw [u1, q1, kl_cells.2.2.1] at k1
  rw [kl_cells.2.2.2.1] at hl0
  obtain ⟨p, ep, _, wp⟩ := DataW.trod_int Tryz.underlying32 k0
  obtain ⟨f0, f1, f2, hs, t0, t1, t2, o0, o1, o2⟩ := pfx_fieldsV
  obtain ⟨y0, y1, y2, n, _, hl, h0, h1, h2⟩ := trod_struct3 hs k1
  rw [t0, o0, kl_cells.2.2.2.2.1] at h0
  rw [t1, o1, kl_cells.2.2.2.2.1] at h1
  rw [t2, o2, kl_cells.2.1] at h2
  obtain ⟨F, e0, _, w0⟩ := DataW.trod_int Tryz.underlying3 h0
  obtain ⟨L, e1, _, w1⟩ := DataW.trod_int Tryz.underlying3 h1
  obtain ⟨xs, m, _, _, hcl, hxl, hel⟩ := DataW.trod_array Tryz.underlying51 h2
  rw [kl_cells.2.1] at hcl
  simp only [kl_cells.1, Nat.mul_one] at hel
  have a0 := take1_atF _ _ _ ep
  have a1 := take1_atF _ _ _ e0
  have a2 := take1_atF _ _ _ e1
  have b1 : cs[1]? = some (.int .i64 F) := by rw [List.getElem?_take_of_lt (by omega), List.getElem?_drop] at a1; simpa using a1
  have b2 : cs[2]? = some (.int .i64 L) := by rw [List.getElem?_take_of_lt (by omega), List.getElem?_drop] at a2; simpa using a2
  have each : ∀ i, i < 16 → ∃ k : Int, cs[i + 3]? = some (.int .u8 k) ∧ (Lit.int .u8 k).wf = true := fun i hi => by
    have := hel i hi
    rw [List.getElem?_eq_getElem (by omega)] at this
    obtain ⟨k, e, _, wf⟩ := DataW.trod_int Tryz.underlying5 this
    have hk := take1_atF _ _ _ e
    rw [List.getElem?_take_of_lt (by omega), List.getElem?_drop, List.getElem?_take_of_lt (by omega), List.getElem?_drop] at hk
    exact ⟨k, by rw [← hk]; congr 1; omega, wf⟩
  obtain ⟨K, hK⟩ := choose_lt (α := Int) each
  refine ⟨(p, F, L, (List.range 16).map K), List.ext_getElem? fun i => ?_, by simp, wp, w0, w1, fun n hn => ?_⟩
  · match i with
    | 0 => exact a0
    | 1 => exact b1
    | 2 => exact b2
    | i + 3 =>
      show cs[i + 3]? = (bV ((List.range 16).map K))[i]?
      by_cases hi : i < 16
      · rw [(hK i hi).1, bV, List.getElem?_map, List.getElem?_map, List.getElem?_range hi]; rfl
      · rw [List.getElem?_eq_none (by omega), List.getElem?_eq_none (by rw [bV_len]; simp; omega)]
  · obtain ⟨i, hi, rfl⟩ := List.mem_map.1 hn
    exact (hK i (by simpa using hi)).2
theorem rtsV_get {l : List Rt} (h : Rts l) {i k : Nat} (hi : i < l.length) (hk : k < 19) {u : Value} (hu : (rtsV l)[i * 19 + k]? = some u) : (rtV l[i])[k]? = some u := by
  have hl := rtV_len (h _ (List.getElem_mem hi)).1
  have h1 : (rtV l[i])[k]? = some ((rtV l[i])[k]'(by omega)) := List.getElem?_eq_getElem (by omega)
  rw [rtsV_at h i hi k _ h1] at hu
  rw [h1]; exact hu
theorem bytes_rt : Tryz.prog.bytesOf 55 = 40 := by kernel_rfl
/-- A slice of routes, as a list. -/
theorem open_routes {H : Type} {enc : TypeId × Value → H} {w : World} {base fuel : Nat} {held : Bool} {cs : List Value} {x : DataW H × List MemPlace}
    (h : DataW.trod enc Tryz.prog w base (fun _ => true) held fuel 36 cs = some x) :
    ∃ (A : Option Addr) (c : Nat) (l : List Rt), cs = [.slice A l.length c] ∧ Reads w w.heap.size 19 A l.length (rtsV l) ∧ Rts l ∧ ((∀ n ∈ x.1.weights Tryz.prog 36, n ≤ reachBytes) → l.length ≤ 140737488351232) := by
  rcases open_slice Tryz.underlying36 h with ⟨rfl, rfl⟩ | ⟨a, len, cap, m, n, D, Pl, rfl, _, hl, hm, hmm, rfl, hel⟩
  · exact ⟨none, 0, [], rfl, Reads.none_, fun r hr => (by cases hr), fun _ => by simp⟩
  · simp only [if_true] at hmm
    subst hmm
    rw [kl_cells.2.2.2.1] at hel
    have each : ∀ i, i < len → ∃ r : Rt, (∀ k u, (rtV r)[k]? = some u → w.cell? (a.add (i * 19 + k)) = some u) ∧ r.2.2.2.length = 16 ∧ WfR r := by
      intro i hi
      obtain ⟨cs', hc, ht⟩ := hel i (by omega)
      obtain ⟨_, hcl, hat⟩ := World.cells?_some hc
      obtain ⟨r, rfl, h16, hw⟩ := open_route ht
      refine ⟨r, fun k u hu => ?_, h16, hw⟩
      have hk : k < (rtV r).length := (List.getElem?_eq_some_iff.1 hu).1
      have := hat k (by rw [rtV_len h16] at hk; exact hk)
      rw [Go.Deep.add_add, hu] at this
      exact this
    obtain ⟨L, hL⟩ := choose_lt (α := Rt) each
    have hlen : ((List.range len).map L).length = len := by simp
    have hr : Rts ((List.range len).map L) := fun r hr => by
      obtain ⟨i, hi, rfl⟩ := List.mem_map.1 hr
      exact ⟨(hL i (by simpa using hi)).2.1, (hL i (by simpa using hi)).2.2⟩
    have hget : ∀ j u, (rtsV ((List.range len).map L))[j]? = some u → w.cell? (a.add j) = some u := fun j u hu => by
      have hj : j < len * 19 := by
        have := (List.getElem?_eq_some_iff.1 hu).1
        rw [rtsV_len hr, hlen] at this; exact this
      have hq : j / 19 < len := by omega
      have e : j = j / 19 * 19 + j % 19 := by omega
      rw [e] at hu
      have h1 := rtsV_get hr (i := j / 19) (k := j % 19) (by rw [hlen]; exact hq) (by omega) hu
      have h2 : ((List.range len).map L)[j / 19]'(by rw [hlen]; exact hq) = L (j / 19) := by simp
      rw [h2] at h1
      have h3 := (hL (j / 19) hq).1 _ _ h1
      rw [← e] at h3
      exact h3
    refine ⟨some a, m, (List.range len).map L, by rw [hlen], ⟨by rw [rtsV_len hr], fun hn => ⟨a, rfl, ?_, hget⟩⟩, hr, fun hw => ?_⟩
    · have h0 : 0 < len := by simpa using hn
      have := lt_of_cell ((hL 0 h0).1 0 _ rfl)
      rwa [block_of_add] at this
    · have := hw ((len + (m - len)) * 40) (by simp [DataW.weights, Tryz.underlying36, bytes_rt])
      simp only [reachBytes] at this
      simp; omega

theorem attr_fieldsV : ∃ f0 f1 f2 f3 f4 f5 f6 f7 f8 : Field, Tryz.prog.underlying 38 = some (.struct #[f0, f1, f2, f3, f4, f5, f6, f7, f8]) ∧
    (f0.type = 3 ∧ f0.offset = 0) ∧ (f1.type = 4 ∧ f1.offset = 1) ∧ (f2.type = 32 ∧ f2.offset = 2) ∧ (f3.type = 32 ∧ f3.offset = 3) ∧ (f4.type = 33 ∧ f4.offset = 4) ∧
    (f5.type = 34 ∧ f5.offset = 5) ∧ (f6.type = 35 ∧ f6.offset = 6) ∧ (f7.type = 3 ∧ f7.offset = 7) ∧ (f8.type = 36 ∧ f8.offset = 8) :=
  ⟨_, _, _, _, _, _, _, _, _, Tryz.underlying38, ⟨rfl, rfl⟩, ⟨rfl, rfl⟩, ⟨rfl, rfl⟩, ⟨rfl, rfl⟩, ⟨rfl, rfl⟩, ⟨rfl, rfl⟩, ⟨rfl, rfl⟩, ⟨rfl, rfl⟩, ⟨rfl, rfl⟩⟩
theorem cells_attrV : Tryz.prog.cellsOf 38 = 9 ∧ Tryz.prog.cellsOf 4 = 1 ∧ Tryz.prog.cellsOf 33 = 1 ∧ Tryz.prog.cellsOf 35 = 1 ∧ Tryz.prog.cellsOf 36 = 1 := by
  refine ⟨?_, ?_, ?_, ?_, ?_⟩ <;> kernel_rfl
/-- An attribute. -/
theorem open_attr {H : Type} {enc : TypeId × Value → H} {w : World} {base fuel : Nat} {held : Bool} {cs : List Value} {x : DataW H × List MemPlace}
    (h : DataW.trod enc Tryz.prog w base (fun _ => true) held fuel 38 cs = some x) (hw : ∀ n ∈ x.1.weights Tryz.prog 38, n ≤ reachBytes) : ∃ d : AttrD, AttrC w w.heap.size cs.toArray d ∧ AttrOk d ∧ cs.length = 9 := by
  obtain ⟨f0, f1, f2, f3, f4, f5, f6, f7, f8, hs, ⟨t0, o0⟩, ⟨t1, o1⟩, ⟨t2, o2⟩, ⟨t3, o3⟩, ⟨t4, o4⟩, ⟨t5, o5⟩, ⟨t6, o6⟩, ⟨t7, o7⟩, ⟨t8, o8⟩⟩ := attr_fieldsV
  obtain ⟨xs, n, _, hx, hl, hlen, hf⟩ := DataW.trod_struct hs h
  rw [cells_attrV.1] at hl
  match xs, hlen with
  | [y0, y1, y2, y3, y4, y5, y6, y7, y8], _ =>
    have g0 := hf 0 f0 rfl
    have g1 := hf 1 f1 rfl
    have g2 := hf 2 f2 rfl
    have g3 := hf 3 f3 rfl
    have g4 := hf 4 f4 rfl
    have g5 := hf 5 f5 rfl
    have g6 := hf 6 f6 rfl
    have g7 := hf 7 f7 rfl
    have g8 := hf 8 f8 rfl
    rw [t0, o0, cells_int] at g0
    rw [t1, o1, cells_attrV.2.1] at g1
    rw [t2, o2, cells_u32] at g2
    rw [t3, o3, cells_u32] at g3
    rw [t4, o4, cells_attrV.2.2.1] at g4
    rw [t5, o5, cells_u32s] at g5
    rw [t6, o6, cells_attrV.2.2.2.1] at g6
    rw [t7, o7, cells_int] at g7
    rw [t8, o8, cells_attrV.2.2.2.2] at g8
    obtain ⟨ty, e0, _, _⟩ := DataW.trod_int Tryz.underlying3 g0
    obtain ⟨pt, e1, _⟩ := DataW.trod_bool Tryz.underlying4 g1
    obtain ⟨nn, e2, _, _⟩ := DataW.trod_int Tryz.underlying32 g2
    obtain ⟨mm, e3, _, _⟩ := DataW.trod_int Tryz.underlying32 g3
    obtain ⟨A4, c4, l4, e4, _, _, p4, s4⟩ := open_path g4
    obtain ⟨A5, c5, l5, e5, q5, _, p5, _, z5⟩ := open_nums Tryz.underlying34 Tryz.underlying32 cells_u32 g5
    obtain ⟨A6, c6, l6, e6, q6, _, p6, w6, z6⟩ := open_nums Tryz.underlying35 Tryz.underlying5 cells_u8 g6
    obtain ⟨fm, e7, _, _⟩ := DataW.trod_int Tryz.underlying3 g7
    obtain ⟨A8, c8, l8, e8, p8, r8, s8⟩ := open_routes g8
    have hwt : ∀ (j : Nat) (t : TypeId) (y : DataW H), [3, 4, 32, 32, 33, 34, 35, 3, 36][j]? = some t → [y0.1, y1.1, y2.1, y3.1, y4.1, y5.1, y6.1, y7.1, y8.1][j]? = some y →
        ∀ k ∈ y.weights Tryz.prog t, k ≤ reachBytes := fun j t y ht hy k hk => hw k (by
      rw [hx]
      simp only [DataW.weights, hs, t0, t1, t2, t3, t4, t5, t6, t7, t8, List.map_cons, List.map_nil]
      exact DataW.weights_mem_each (j := j) ht hy k hk)
    have S4 := s4 (hwt 4 _ _ rfl rfl)
    have S8 := s8 (hwt 8 _ _ rfl rfl)
    have h5 : l5.length ≤ 140737488351232 := by
      rcases z5 with ⟨_, rfl⟩ | ⟨el, sp, e, hle⟩
      · omega
      · have := hwt 5 _ _ rfl rfl ((el.length + sp.length) * 4) (by rw [e]; simp [DataW.weights, Tryz.underlying34, bytes_u32])
        simp only [reachBytes] at this; omega
    have h6 : l6.length ≤ 140737488351232 := by
      rcases z6 with ⟨_, rfl⟩ | ⟨el, sp, e, hle⟩
      · omega
      · have := hwt 6 _ _ rfl rfl ((el.length + sp.length) * 1) (by rw [e]; simp [DataW.weights, Tryz.underlying35, bytes_u8])
        simp only [reachBytes] at this; omega
    have hb6 : Bs l6 := fun x hx => by have := bounds_u8 (w6 x hx); omega
    have hcs : cs = [.int .i64 ty, .bool pt, .int .u32 nn, .int .u32 mm, .slice A4 l4.length c4, .slice A5 l5.length c5, .slice A6 l6.length c6, .int .i64 fm, .slice A8 l8.length c8] := by
      refine List.ext_getElem? fun i => ?_
      match i with
      | 0 => exact take1_atF _ _ _ e0
      | 1 => exact take1_atF _ _ _ e1
      | 2 => exact take1_atF _ _ _ e2
      | 3 => exact take1_atF _ _ _ e3
      | 4 => exact take1_atF _ _ _ e4
      | 5 => exact take1_atF _ _ _ e5
      | 6 => exact take1_atF _ _ _ e6
      | 7 => exact take1_atF _ _ _ e7
      | 8 => exact take1_atF _ _ _ e8
      | i + 9 => rw [List.getElem?_eq_none (by omega), List.getElem?_eq_none (by simp)]
    refine ⟨⟨ty, pt, nn, mm, l4, l5, l6, fm, l8⟩, ⟨A4, c4, A5, c5, A6, c6, A8, c8, by rw [hcs], p4, p5, p6, p8⟩, ⟨S4.1, fun s hs => (S4.2 s hs).1, h5, h6, hb6, S8, r8⟩, by rw [hcs]; rfl⟩
theorem agg_of_cellsF {v : Value} {cs : List Value} (h : v.cells.toList = cs) (hl : cs.length ≠ 1) : v = .agg cs.toArray := by
  cases v with
  | agg xs => simp only [Value.cells] at h; rw [← h]
  | _ => rw [← h] at hl; simp [Value.cells] at hl
end Go.Proofs.YtnfclcbhehbchaaGreatDoor
