/- Arguments as the reading gives them: options, two bytes, bytes; the row's last step for a law that returns true and leaves alone whatever lay there. -/
import Derived.Test.YtplgbpcjbjaloaaGreatDoorFlgQ
import Derived.Deep.Slices
import Derived.Deep.Fields
import Derived.SizedLaws
import Derived.ReadAgain
import Derived.ProofKit
import Derived.OpenShut
import Derived.ChangeSlices
set_option autoImplicit false
namespace Go.Proofs.YtplgbpcjbjaloaaGreatDoor
open Go.RowKit Go.WideShapes Go.ChangeShapes Go.Deep

theorem kids : Kids Tryz.prog (· < Tryz.prog.types.size) := kids_rows (by kernel_rfl) (by kernel_rfl)
theorem full : ∀ t e, t < Tryz.prog.types.size → Tryz.prog.underlying t = some (.slice e) → 0 < Tryz.prog.cellsOf e := slices_full_of Tryz.prog (by kernel_rfl)

theorem trodAll_below {H : Type} {enc : TypeId × Value → H} {P : Program} {W W' : World} (hb : Below W.heap.size W W') {base : Nat} {sp : Nat → Bool} {held : Bool} : ∀ {ts : List TypeId} {vs : List Value} {ds : List (DataW H)} {ps : List MemPlace},
    DataW.TrodAll enc P W base sp held ts vs ds ps → DataW.TrodAll enc P W' base sp held ts vs ds ps
  | [], [], [], _, h => h
  | _ :: _, _ :: _, _ :: _, _, ⟨p, q, ⟨n, h1⟩, h2, e⟩ => ⟨p, q, ⟨n, DataW.trod_carry n _ _ _ h1 fun x hx => hb.same (DataW.trod_lt n _ _ _ h1 x hx)⟩, trodAll_below hb h2, e⟩

set_option maxRecDepth 100000 in
theorem done_true {H : Type} {enc : TypeId × Value → H} {f : Func} {s : ChangeSpec} {W W' : World} {args : Array Value} {ds gs : List (DataW H)} {before : List MemPlace}
    (hW : DataW.Whole enc Tryz.prog f.params.toList s.vars false W args.toList ds gs before) (hv : s.vars = []) (hr : (s.fn H (ds ++ gs)).results = [.lit (.bool true)]) (ha : (s.fn H (ds ++ gs)).args = ds)
    (hx : (s.fn H (ds ++ gs)).vars = []) (ht : f.resultTypes = #[4]) (hp : ∀ t ∈ f.params.toList, t < Tryz.prog.types.size) (hb : Below W.heap.size W W') :
    s.post enc Tryz.prog f false true false false W args (.bool true) W' := by
  have hW' := hW
  obtain ⟨p, q, hA, hV, rfl, hfz, hnd⟩ := hW
  rw [hv] at hV
  obtain ⟨rfl, rfl⟩ := trodVars_none hV
  refine post_of_below (pa := p) (pv := []) hW' (fun _ _ _ => ?_) (fun sp hsp => ?_) (fun _ _ => ?_) rfl hb ?_
  · rw [hr, ht]
    exact trodAll_mk1 (shut_bool Tryz.underlying4 true)
  · rw [ha]
    exact DataW.TrodAll.respare kids full hp (trodAll_below hb hA) (fun x hx => hsp x (by simpa using hx))
  · rw [hv, hx]; rfl
  · have hk : Value.okWide Tryz.prog W' .any 0 4 (.bool true) := okWide_bool_mk Tryz.underlying4 true
    exact ok_one ht rfl hk

theorem lt_of_cell {w : World} {a : Addr} {v : Value} (h : w.cell? a = some v) : a.block < w.heap.size := by
  rcases Nat.lt_or_ge a.block w.heap.size with h' | h'
  · exact h'
  · unfold World.cell? at h
    rw [Array.getElem?_eq_none h'] at h
    simp at h

/-- A slice of integers of one kind, as a list. -/
theorem open_nums {H : Type} {enc : TypeId × Value → H} {P : Program} {w : World} {base fuel : Nat} {held : Bool} {t e : TypeId} {k : IntKind} {cs : List Value} {x : DataW H × List MemPlace} (ht : P.underlying t = some (.slice e))
    (he : P.underlying e = some (.int k)) (hc : P.cellsOf e = 1) (h : DataW.trod enc P w base (fun _ => true) held fuel t cs = some x) :
    ∃ (A : Option Addr) (c : Nat) (zs : List Int), cs = [.slice A zs.length c] ∧ zs.length ≤ c ∧ c ≤ maxLen ∧ Reads w w.heap.size 1 A zs.length (zs.map (Value.int k)) ∧ (∀ n ∈ zs, (Lit.int k n).wf = true) ∧
      (x.1 = .nil ∧ c = 0 ∨ ∃ el sp, x.1 = .slice el sp ∧ el.length + sp.length = c) := by
  rcases open_ints ht he hc h with ⟨rfl, rfl⟩ | ⟨a, len, cap, zs, rfl, _, hl, hm, hz, rfl, hcell, hwf⟩
  · exact ⟨none, 0, [], rfl, Nat.le_refl _, by simp [maxLen], Reads.none_, by simp, .inl ⟨rfl, rfl⟩⟩
  · simp only [if_true] at hz
    have hlen : (zs.take len).length = len := by rw [List.length_take]; omega
    refine ⟨some a, cap, zs.take len, by rw [hlen], by omega, hm, ⟨by simp, fun hn => ⟨a, rfl, ?_, fun j u hu => ?_⟩⟩, fun n hn => hwf n (List.mem_of_mem_take hn), .inr ⟨_, _, rfl, ?_⟩⟩
    · have := lt_of_cell (hcell 0 (by omega))
      rwa [block_of_add] at this
    · have hj : j < len := by
        have := (List.getElem?_eq_some_iff.1 hu).1
        rw [List.length_map, hlen] at this
        exact this
      rw [hcell j (by omega)]
      rw [List.getElem?_map, List.getElem?_take_of_lt hj, List.getElem?_eq_getElem (by omega)] at hu
      simp only [Option.map_some] at hu
      rw [← hu, List.getD_eq_getElem?_getD, List.getElem?_eq_getElem (by omega)]
      rfl
    · simp [lits]; omega

theorem weightsAll_mem {H : Type} {P : Program} {e : TypeId} {d : DataW H} : ∀ {l : List (DataW H)}, d ∈ l → ∀ n ∈ d.weights P e, n ∈ DataW.weightsAll P e l
  | x :: r, hd, n, hn => by
    simp only [DataW.weightsAll, List.mem_append]
    rcases List.mem_cons.1 hd with rfl | hd
    · exact .inl hn
    · exact .inr (weightsAll_mem hd n hn)
  | [], hd, _, _ => by cases hd

theorem cells_u8 : Tryz.prog.cellsOf 5 = 1 := by kernel_rfl
theorem bytes_u8 : Tryz.prog.bytesOf 5 = 1 := by kernel_rfl

theorem take1_atF {α : Type} (l : List α) (i : Nat) (v : α) (h : (l.drop i).take 1 = [v]) : l[i]? = some v := by
  have : ((l.drop i).take 1)[0]? = some v := by rw [h]; rfl
  rw [List.getElem?_take_of_lt (by omega), List.getElem?_drop] at this
  simpa using this
theorem opt_fields : ∃ f0 f1 f2 f3 f4 f5 : Field, Tryz.prog.underlying 41 = some (.struct #[f0, f1, f2, f3, f4, f5]) ∧ (f0.type = 4 ∧ f0.offset = 0) ∧ (f1.type = 4 ∧ f1.offset = 1) ∧ (f2.type = 4 ∧ f2.offset = 2) ∧
    (f3.type = 4 ∧ f3.offset = 3) ∧ (f4.type = 4 ∧ f4.offset = 4) ∧ (f5.type = 4 ∧ f5.offset = 5) :=
  ⟨_, _, _, _, _, _, Tryz.underlying41, ⟨rfl, rfl⟩, ⟨rfl, rfl⟩, ⟨rfl, rfl⟩, ⟨rfl, rfl⟩, ⟨rfl, rfl⟩, ⟨rfl, rfl⟩⟩
theorem cells_optF : Tryz.prog.cellsOf 41 = 6 := by kernel_rfl
theorem cells_boolF : Tryz.prog.cellsOf 4 = 1 := by kernel_rfl
theorem cells_twoF : Tryz.prog.cellsOf 42 = 2 := by kernel_rfl
theorem open_opts {H : Type} {enc : TypeId × Value → H} {w : World} {base fuel : Nat} {sp : Nat → Bool} {held : Bool} {cs : List Value} {x : DataW H × List MemPlace}
    (h : DataW.trod enc Tryz.prog w base sp held fuel 41 cs = some x) :
    ∃ o1 o2 o3 o4 o5 o6 : Bool, cs = [.bool o1, .bool o2, .bool o3, .bool o4, .bool o5, .bool o6] := by
  obtain ⟨f0, f1, f2, f3, f4, f5, hs, ⟨t0, p0⟩, ⟨t1, p1⟩, ⟨t2, p2⟩, ⟨t3, p3⟩, ⟨t4, p4⟩, ⟨t5, p5⟩⟩ := opt_fields
  obtain ⟨xs, n, _, _, hl, hlen, hf⟩ := DataW.trod_struct hs h
  rw [cells_optF] at hl
  have hx : xs.length = 6 := by simpa using hlen
  have each : ∀ (i : Nat) (f : Field), #[f0, f1, f2, f3, f4, f5][i]? = some f → f.type = 4 → f.offset = i → i < 6 → ∃ b, cs[i]? = some (.bool b) := by
    intro i f hi ht ho hi6
    have := hf i f hi
    rw [ht, ho, cells_boolF, List.getElem?_eq_getElem (by omega)] at this
    obtain ⟨b, e, _⟩ := DataW.trod_bool Tryz.underlying4 this
    exact ⟨b, take1_atF _ _ _ e⟩
  obtain ⟨b0, e0⟩ := each 0 f0 rfl t0 p0 (by omega)
  obtain ⟨b1, e1⟩ := each 1 f1 rfl t1 p1 (by omega)
  obtain ⟨b2, e2⟩ := each 2 f2 rfl t2 p2 (by omega)
  obtain ⟨b3, e3⟩ := each 3 f3 rfl t3 p3 (by omega)
  obtain ⟨b4, e4⟩ := each 4 f4 rfl t4 p4 (by omega)
  obtain ⟨b5, e5⟩ := each 5 f5 rfl t5 p5 (by omega)
  refine ⟨b0, b1, b2, b3, b4, b5, List.ext_getElem? fun i => ?_⟩
  match i with
  | 0 => exact e0
  | 1 => exact e1
  | 2 => exact e2
  | 3 => exact e3
  | 4 => exact e4
  | 5 => exact e5
  | i + 6 => rw [List.getElem?_eq_none (by omega), List.getElem?_eq_none (by simp)]
theorem open_two {H : Type} {enc : TypeId × Value → H} {w : World} {base fuel : Nat} {sp : Nat → Bool} {held : Bool} {cs : List Value} {x : DataW H × List MemPlace}
    (h : DataW.trod enc Tryz.prog w base sp held fuel 42 cs = some x) :
    ∃ a b : Int, cs = [.int .u8 a, .int .u8 b] ∧ 0 ≤ a ∧ a < 256 ∧ 0 ≤ b ∧ b < 256 := by
  obtain ⟨xs, n, _, _, hl, hlen, hf⟩ := DataW.trod_array Tryz.underlying42 h
  rw [cells_twoF] at hl
  simp only [cells_u8, Nat.mul_one] at hf
  have each : ∀ i, i < 2 → ∃ k : Int, cs[i]? = some (.int .u8 k) ∧ 0 ≤ k ∧ k < 256 := fun i hi => by
    have := hf i hi
    rw [List.getElem?_eq_getElem (by omega)] at this
    obtain ⟨k, e, _, wf⟩ := DataW.trod_int Tryz.underlying5 this
    have hk := bounds_u8 wf
    exact ⟨k, take1_atF _ _ _ e, by omega, by omega⟩
  obtain ⟨a, ea, a0, a1⟩ := each 0 (by omega)
  obtain ⟨b, eb, b0, b1⟩ := each 1 (by omega)
  refine ⟨a, b, List.ext_getElem? fun i => ?_, a0, a1, b0, b1⟩
  match i with
  | 0 => exact ea
  | 1 => exact eb
  | i + 2 => rw [List.getElem?_eq_none (by omega), List.getElem?_eq_none (by simp)]
theorem agg_of_cellsF {v : Value} {cs : List Value} (h : v.cells.toList = cs) (hl : cs.length ≠ 1) : v = .agg cs.toArray := by
  cases v with
  | agg xs => simp only [Value.cells] at h; rw [← h]
  | _ => rw [← h] at hl; simp [Value.cells] at hl
end Go.Proofs.YtplgbpcjbjaloaaGreatDoor
