/- Arguments as the reading gives them: paths, bytes; the row's last step for a law that returns true and leaves alone whatever lay there. -/
import Derived.Test.YtceolenmcpndaaaGreatDoorLen
import Derived.Deep.Slices
import Derived.Deep.Fields
import Derived.SizedLaws
import Derived.ReadAgain
import Derived.ProofKit
import Derived.OpenShut
import Derived.ChangeSlices
set_option autoImplicit false
namespace Go.Proofs.YtceolenmcpndaaaGreatDoor
open Go.RowKit Go.WideShapes Go.ChangeShapes Go.Deep

theorem kids : Kids Tryz.prog (· < Tryz.prog.types.size) := kids_rows (by kernel_rfl) (by kernel_rfl)
theorem full : ∀ t e, t < Tryz.prog.types.size → Tryz.prog.underlying t = some (.slice e) → 0 < Tryz.prog.cellsOf e := slices_full_of Tryz.prog (by kernel_rfl)

theorem trodAll_below {H : Type} {enc : TypeId × Value → H} {P : Program} {W W' : World} (hb : Below W.heap.size W W') {base : Nat} {sp : Nat → Bool} {held : Bool} : ∀ {ts : List TypeId} {vs : List Value} {ds : List (DataW H)} {ps : List MemPlace},
    DataW.TrodAll enc P W base sp held ts vs ds ps → DataW.TrodAll enc P W' base sp held ts vs ds ps
  | [], [], [], _, h => h
  | _ :: _, _ :: _, _ :: _, _, ⟨p, q, ⟨n, h1⟩, h2, e⟩ => ⟨p, q, ⟨n, DataW.trod_carry n _ _ _ h1 fun x hx => hb.same (DataW.trod_lt n _ _ _ h1 x hx)⟩, trodAll_below hb h2, e⟩

set_option maxRecDepth 100000 in
theorem done_true {H : Type} {enc : TypeId × Value → H} {f : Func} {s : ChangeSpec} {W W' : World} {args : Array Value} {ds gs : List (DataW H)} {before : List MemPlace}
    (hW : DataW.Whole enc Tryz.prog f.params.toList s.vars false W args.toList ds gs before) (hv : s.vars = []) (hr : (s.fn H (ds ++ gs)).results = [.lit (.bool true)]) (ha : (s.fn H (ds ++ gs)).args = ds)
    (hx : (s.fn H (ds ++ gs)).vars = []) (ht : f.resultTypes = #[4]) (hp : ∀ t ∈ f.params.toList, t < Tryz.prog.types.size) (hb : Below W.heap.size W W') :
    s.post enc Tryz.prog f false true false false W args (.bool true) W' := by
  have hW' := hW
  obtain ⟨p, q, hA, hV, rfl, hfz, hnd⟩ := hW
  rw [hv] at hV
  obtain ⟨rfl, rfl⟩ := trodVars_none hV
  refine post_of_below (pa := p) (pv := []) hW' (fun _ _ _ => ?_) (fun sp hsp => ?_) (fun _ _ => ?_) rfl hb ?_
  · rw [hr, ht]
    exact trodAll_mk1 (shut_bool Tryz.underlying4 true)
  · rw [ha]
    exact DataW.TrodAll.respare kids full hp (trodAll_below hb hA) (fun x hx => hsp x (by simpa using hx))
  · rw [hv, hx]; rfl
  · have hk : Value.okWide Tryz.prog W' .any 0 4 (.bool true) := okWide_bool_mk Tryz.underlying4 true
    exact ok_one ht rfl hk

theorem lt_of_cell {w : World} {a : Addr} {v : Value} (h : w.cell? a = some v) : a.block < w.heap.size := by
  rcases Nat.lt_or_ge a.block w.heap.size with h' | h'
  · exact h'
  · unfold World.cell? at h
    rw [Array.getElem?_eq_none h'] at h
    simp at h

/-- A slice of integers of one kind, as a list. -/
theorem open_nums {H : Type} {enc : TypeId × Value → H} {P : Program} {w : World} {base fuel : Nat} {held : Bool} {t e : TypeId} {k : IntKind} {cs : List Value} {x : DataW H × List MemPlace} (ht : P.underlying t = some (.slice e))
    (he : P.underlying e = some (.int k)) (hc : P.cellsOf e = 1) (h : DataW.trod enc P w base (fun _ => true) held fuel t cs = some x) :
    ∃ (A : Option Addr) (c : Nat) (zs : List Int), cs = [.slice A zs.length c] ∧ zs.length ≤ c ∧ c ≤ maxLen ∧ Reads w w.heap.size 1 A zs.length (zs.map (Value.int k)) ∧ (∀ n ∈ zs, (Lit.int k n).wf = true) ∧
      (x.1 = .nil ∧ c = 0 ∨ ∃ el sp, x.1 = .slice el sp ∧ el.length + sp.length = c) := by
  rcases open_ints ht he hc h with ⟨rfl, rfl⟩ | ⟨a, len, cap, zs, rfl, _, hl, hm, hz, rfl, hcell, hwf⟩
  · exact ⟨none, 0, [], rfl, Nat.le_refl _, by simp [maxLen], Reads.none_, by simp, .inl ⟨rfl, rfl⟩⟩
  · simp only [if_true] at hz
    have hlen : (zs.take len).length = len := by rw [List.length_take]; omega
    refine ⟨some a, cap, zs.take len, by rw [hlen], by omega, hm, ⟨by simp, fun hn => ⟨a, rfl, ?_, fun j u hu => ?_⟩⟩, fun n hn => hwf n (List.mem_of_mem_take hn), .inr ⟨_, _, rfl, ?_⟩⟩
    · have := lt_of_cell (hcell 0 (by omega))
      rwa [block_of_add] at this
    · have hj : j < len := by
        have := (List.getElem?_eq_some_iff.1 hu).1
        rw [List.length_map, hlen] at this
        exact this
      rw [hcell j (by omega)]
      rw [List.getElem?_map, List.getElem?_take_of_lt hj, List.getElem?_eq_getElem (by omega)] at hu
      simp only [Option.map_some] at hu
      rw [← hu, List.getD_eq_getElem?_getD, List.getElem?_eq_getElem (by omega)]
      rfl
    · simp [lits]; omega

theorem weightsAll_mem {H : Type} {P : Program} {e : TypeId} {d : DataW H} : ∀ {l : List (DataW H)}, d ∈ l → ∀ n ∈ d.weights P e, n ∈ DataW.weightsAll P e l
  | x :: r, hd, n, hn => by
    simp only [DataW.weightsAll, List.mem_append]
    rcases List.mem_cons.1 hd with rfl | hd
    · exact .inl hn
    · exact .inr (weightsAll_mem hd n hn)
  | [], hd, _, _ => by cases hd

theorem seg_fields : ∃ f0 f1 : Field, Tryz.prog.underlying 40 = some (.struct #[f0, f1]) ∧ f0.type = 3 ∧ f1.type = 38 ∧ f0.offset = 0 ∧ f1.offset = 1 :=
  ⟨_, _, Tryz.underlying40, rfl, rfl, rfl, rfl⟩
theorem cells_seg : Tryz.prog.cellsOf 40 = 2 := by kernel_rfl
theorem cells_int : Tryz.prog.cellsOf 3 = 1 := by kernel_rfl
theorem cells_u32s : Tryz.prog.cellsOf 38 = 1 := by kernel_rfl
theorem cells_u32 : Tryz.prog.cellsOf 41 = 1 := by kernel_rfl
theorem bytes_seg : Tryz.prog.bytesOf 40 = 32 := by kernel_rfl
theorem bytes_u32 : Tryz.prog.bytesOf 41 = 4 := by kernel_rfl

/-- A slice of segments, as a list. -/
theorem open_path {H : Type} {enc : TypeId × Value → H} {w : World} {base fuel : Nat} {held : Bool} {cs : List Value} {x : DataW H × List MemPlace}
    (h : DataW.trod enc Tryz.prog w base (fun _ => true) held fuel 22 cs = some x) :
    ∃ (A : Option Addr) (c : Nat) (l : List Sg), cs = [.slice A l.length c] ∧ l.length ≤ c ∧ c ≤ maxLen ∧ Path w w.heap.size A l ∧
      ((∀ n ∈ x.1.weights Tryz.prog 22, n ≤ reachBytes) → Sound l) := by
  rcases open_slice Tryz.underlying22 h with ⟨rfl, rfl⟩ | ⟨a, len, cap, m, n, D, Pl, rfl, _, hl, hm, hmm, rfl, hel⟩
  · exact ⟨none, 0, [], rfl, Nat.le_refl _, by simp [maxLen], Path.nil_, fun _ => ⟨by simp, by simp⟩⟩
  · simp only [if_true] at hmm
    subst hmm
    rw [cells_seg] at hel
    obtain ⟨f0, f1, hs, t0, t1, o0, o1⟩ := seg_fields
    have each : ∀ i, i < len → ∃ (s : Sg), ∃ (A' : Option Addr) (c' : Nat), w.cell? (a.add (i * 2)) = some (.int .i64 s.1) ∧ w.cell? (a.add (i * 2 + 1)) = some (.slice A' s.2.length c') ∧ s.2.length ≤ c' ∧ c' ≤ maxLen ∧
        Reads w w.heap.size 1 A' s.2.length (uV s.2) ∧ Us s.2 ∧ ((∀ n ∈ (D i).weights Tryz.prog 40, n ≤ reachBytes) → s.2.length ≤ 140737488351232) := by
      intro i hi
      obtain ⟨cs', hc, ht⟩ := hel i (by omega)
      obtain ⟨_, hcl, hat⟩ := World.cells?_some hc
      obtain ⟨y0, y1, n', hx, _, h0, h1⟩ := trod_struct2 hs ht
      simp only [Prod.mk.injEq] at hx
      rw [t0, o0, cells_int] at h0
      rw [t1, o1, cells_u32s] at h1
      match cs', hcl with
      | [c0, c1], _ =>
        obtain ⟨K, e0, _, _⟩ := DataW.trod_int Tryz.underlying3 h0
        obtain ⟨A', c', zs, e1, q1, q2, q3, q4, q5⟩ := open_nums Tryz.underlying38 Tryz.underlying41 cells_u32 h1
        have a0 := hat 0 (by omega)
        have a1 := hat 1 (by omega)
        rw [Go.Deep.add_add] at a0 a1
        simp at e0 e1 a0 a1
        subst e0; subst e1
        refine ⟨(K, zs), A', c', a0, a1, q1, q2, q3, fun z hz => ?_, fun hw => ?_⟩
        · have := q4 z hz
          simp [Lit.wf] at this
          have e1 : IntKind.u32.min = 0 := by decide
          have e2 : IntKind.u32.max = 4294967295 := by decide
          rw [e1, e2] at this
          omega
        · rcases q5 with ⟨_, rfl⟩ | ⟨el, sp, e, hlen⟩
          · show zs.length ≤ _; omega
          · have := hw ((el.length + sp.length) * 4) (by
              rw [hx.1]
              simp only [DataW.weights, hs, t0, t1, List.map_cons, List.map_nil, DataW.weightsEach]
              rw [e]
              simp [DataW.weights, Tryz.underlying38, bytes_u32])
            simp only [reachBytes] at this
            show zs.length ≤ _
            omega
    obtain ⟨L, hL⟩ := choose_lt (α := Sg) each
    have hlen : ((List.range len).map L).length = len := by simp
    have hgd : ∀ j v, w.cell? (a.add j) = some v → j < len * 2 → ((List.range (len * 2)).map fun j => (w.cell? (a.add j)).getD (.bool false))[j]? = some v := by
      intro j v hv hj
      rw [List.getElem?_map, List.getElem?_range hj]
      simp [hv]
    refine ⟨some a, m, (List.range len).map L, by rw [hlen], by omega, hm, ⟨(List.range (len * 2)).map fun j => (w.cell? (a.add j)).getD (.bool false), ⟨by simp, fun hn => ⟨a, rfl, ?_, fun j u hu => ?_⟩⟩, by simp, fun i s hs => ?_⟩, fun hw => ⟨?_, fun s hs => ?_⟩⟩
    · obtain ⟨A', c', c0, _⟩ := hL 0 (by simpa using hn)
      have := lt_of_cell c0
      rwa [block_of_add] at this
    · have hj : j < len * 2 := by have := (List.getElem?_eq_some_iff.1 hu).1; simpa using this
      rw [List.getElem?_map, List.getElem?_range hj] at hu
      obtain ⟨A', c', c0, c1, _⟩ := hL (j / 2) (by omega)
      rcases Nat.mod_two_eq_zero_or_one j with hp | hp
      · rw [show j / 2 * 2 = j from by omega] at c0
        simp [c0] at hu
        rw [c0, hu]
      · rw [show j / 2 * 2 + 1 = j from by omega] at c1
        simp [c1] at hu
        rw [c1, hu]
    · have hi : i < len := by have := (List.getElem?_eq_some_iff.1 hs).1; simpa using this
      rw [List.getElem?_map, List.getElem?_range hi] at hs
      have e : L i = s := by simpa using hs
      obtain ⟨A', c', c0, c1, c2, c3, c4, _⟩ := hL i hi
      rw [e] at c0 c1 c2 c4
      exact ⟨_, _, hgd _ _ c0 (by omega), hgd _ _ c1 (by omega), rfl, A', c', rfl, c2, c3, c4⟩
    · have := hw ((len + (m - len)) * 32) (by simp [DataW.weights, Tryz.underlying22, bytes_seg])
      simp only [reachBytes] at this
      simp; omega
    · obtain ⟨i, hi, rfl⟩ := List.mem_map.1 hs
      have hi : i < len := by simpa using hi
      obtain ⟨A', c', _, _, _, _, _, c5, c6⟩ := hL i hi
      refine ⟨c6 fun n hn => hw n ?_, c5⟩
      simp only [DataW.weights, Tryz.underlying22, List.mem_cons, List.mem_append]
      exact .inr (.inl (weightsAll_mem (List.mem_map.2 ⟨i, List.mem_range.2 hi, rfl⟩) n hn))
end Go.Proofs.YtceolenmcpndaaaGreatDoor
