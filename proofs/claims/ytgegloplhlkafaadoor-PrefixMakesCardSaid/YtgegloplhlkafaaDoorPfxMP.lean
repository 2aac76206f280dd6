/- PrefixMakes returns true at every input that the row admits: the row's statement and its card; the tables of the packages strconv and bits start as the program's text lays them. -/
import Derived.Test.YtgegloplhlkafaaDoorPfxM
import Derived.Test.YtgegloplhlkafaaDoorWorldP
set_option autoImplicit false
namespace Go.Proofs.YtgegloplhlkafaaDoor
open Go.ChangeShapes Go.WideShapes Go.ChangeAt Go.RowKit

set_option maxRecDepth 100000 in
theorem pmakes_contract (H : Type) (enc : TypeId × Value → H) (W : World) (base : Nat) (args : Array Value) (ds gs : List (DataW H)) (before : List MemPlace)
    (hval : ∀ (j : Nat) t v, Tryd.f3.params[j]? = some t → args[j]? = some v → Value.okWide Tryd.prog W .any base t v)
    (hW : DataW.Whole enc Tryd.prog Tryd.f3.params.toList Rows.prefixMakesSpec.vars false W args.toList ds gs before)
    (hz : (DataW.weightsEach Tryd.prog (Tryd.f3.params.toList ++ []) (ds ++ gs)).all (· ≤ reachBytes) = true) (hL : laidMetH Tryd.prog Rows.prefixMakesRow.laid W) :
    Calls Tryd.prog 3 args W fun e W' => ∃ v, e = .returned v ∧ Rows.prefixMakesSpec.post enc Tryd.prog Tryd.f3 false true false false W args v W' := by
  have hW' := hW
  obtain ⟨p, q, hA0, hV, rfl, hfz, hnd⟩ := hW
  obtain ⟨rfl, rfl⟩ := trodVars_none hV
  have hA : DataW.TrodAll enc Tryd.prog W 0 (fun _ => true) true Tryd.f3.params.toList args.toList ds p := hA0
  rw [Tryd.params3] at hA hval hz
  obtain ⟨v0, vs0, d0, ds0, p0, q0, hargs, rfl, rfl, h0, r0⟩ := trodAll_cons hA
  obtain ⟨v1, vs1, d1, ds1, p1, q1, rfl, rfl, rfl, h1, r1⟩ := trodAll_cons r0
  obtain ⟨v2, vs2, d2, ds2, p2, q2, rfl, rfl, rfl, h2, r2⟩ := trodAll_cons r1
  obtain ⟨rfl, rfl, rfl⟩ := trodAll_nil r2
  obtain rfl : args = #[v0, v1, v2] := by cases args; simp_all
  obtain ⟨n0, rfl⟩ := okWide_int Tryd.underlying3 (hval 0 3 v0 rfl rfl)
  obtain ⟨fuel0, hf0⟩ := h0
  obtain ⟨K0, eq0, _, hwf0⟩ := DataW.trod_int Tryd.underlying3 hf0
  have e0 : n0 = K0 := by simpa [Value.cells] using eq0
  subst e0
  have hb0 := bounds_i64 hwf0
  obtain ⟨n1, rfl⟩ := okWide_int Tryd.underlying3 (hval 1 3 v1 rfl rfl)
  obtain ⟨fuel1, hf1⟩ := h1
  obtain ⟨K1, eq1, _, hwf1⟩ := DataW.trod_int Tryd.underlying3 hf1
  have e1 : n1 = K1 := by simpa [Value.cells] using eq1
  subst e1
  have hb1 := bounds_i64 hwf1
  obtain ⟨a2, len2, cap2, rfl⟩ := okWide_slice Tryd.underlying22 (hval 2 22 v2 rfl rfl)
  obtain ⟨fuel2, hf2⟩ := h2
  obtain ⟨A2, c2, l2, hcs2, hlc2, hcm2, hp2, hwf2, hsz2⟩ := open_nums (x := (d2, p2)) Tryd.underlying22 Tryd.underlying5 cells_u8 hf2
  have hbs2 : Bs l2 := fun x hx => by have := bounds_u8 (hwf2 x hx); omega
  have hln2 : l2.length ≤ 140737488351232 := by
    rcases hsz2 with ⟨_, h0⟩ | ⟨el, sp, hd, hl⟩
    · omega
    · have := List.all_eq_true.1 hz ((el.length + sp.length) * 1) (DataW.weights_mem_each (j := 2) rfl rfl _ (by
        have hd' : d2 = .slice el sp := hd
        rw [hd']
        simp [DataW.weights, Tryd.underlying22, bytes_u8]))
      simp [reachBytes] at this
      omega
  have e2 : Value.slice a2 len2 cap2 = .slice A2 l2.length c2 := by simpa [Value.cells] using hcs2
  rw [e2] at hW' ⊢
  refine (makes_any n0 n1 A2 c2 l2 W hp2 hbs2 hln2 hb1.1 hb1.2 (tabs_of_laid hL)).mono fun e W' ⟨he, hb⟩ => ⟨_, he, ?_⟩
  exact done_true hW' rfl rfl rfl rfl (by kernel_rfl) (by rw [Tryd.params3]; decide +kernel) hb

theorem pmakes_laid_met (os : Os) : laidMet Tryd.prog Rows.prefixMakesRow.laid ((laidWorld os).forCall (fun _ _ => 0) ⟨#[], #[.int .i64 0, .int .i64 0, .slice none 0 0], []⟩).memory :=
  laidMet_of_run' 8 (by kernel_rfl) (by kernel_rfl)
theorem pmakes_reads (os : Os) {H : Type} (enc : TypeId × Value → H) : ∃ places, DataW.whole enc Tryd.prog ((laidWorld os).forCall (fun _ _ => 0) ⟨#[], #[.int .i64 0, .int .i64 0, .slice none 0 0], []⟩).memory Tryd.f3.params.toList Rows.prefixMakesSpec.vars false (#[.int .i64 0, .int .i64 0, .slice none 0 0] : Array Value).toList 8 = some ([.lit (.int .i64 0), .lit (.int .i64 0), .nil], [], places) :=
  ⟨[], by kernel_rfl⟩

set_option maxRecDepth 100000 in
theorem pmakes_lifted (os : Os) (started : os.Started) (H : Type) (enc : TypeId × Value → H) (F : Stop.Interp) :
    ReturnsInHanded {} Tryd.checked os 3 .any ((OpenSpec.ofChange Rows.prefixMakesSpec).preRow enc Tryd.prog Tryd.f3 Rows.prefixMakesRow.domain false Rows.prefixMakesRow.laid) (((OpenSpec.ofChange Rows.prefixMakesSpec).at F).post enc Tryd.prog Tryd.f3 false true false false) := by
  obtain ⟨places, hx⟩ := pmakes_reads os enc
  refine returnsInHanded_of_row (C := Tryd.checked) (s := OpenSpec.ofChange Rows.prefixMakesSpec) ownK started (by kernel_rfl) Tryd.func3
    (witness_row_at (enc := enc) (C := Tryd.checked) false (laidWorld os) #[.int .i64 0, .int .i64 0, .slice none 0 0] rfl (by kernel_rfl) (by kernel_rfl) (by kernel_rfl)
      (OpenSpec.preRow_of_cond 8 hx (by kernel_rfl) (fun k hk => by cases hk) (by kernel_rfl) (pmakes_laid_met os))) ?_
  intro W base args ds gs before hval hW _ _ hz hL _ _
  exact pmakes_contract H enc W base args ds gs before hval hW hz hL

theorem pmakes_said : Rows.PrefixMakesSaid :=
  OpenClaim.holds_of_cond 3 Tryd.f3 rfl rfl rfl rfl rfl rfl rfl ⟨rfl, rfl, rfl, rfl, rfl⟩ rfl rfl rfl rfl rfl (by kernel_rfl) Tryd.func3 (by kernel_rfl)
    (of_decide_eq_true (by kernel_rfl)) (by unfold Func.isWrapper; first | (rw [if_pos (by decide +kernel)]; kernel_rfl) | (rw [if_neg (by decide +kernel)]; exact ⟨rfl, rfl⟩))
    (fun os started H enc _ F => by rw [OpenClaim.pre_eq_preRow]; exact pmakes_lifted os started H enc F)

theorem pmakes_plain (f : FuncId) (fn : Func) (hf : Tryd.pinned.checked.prog.funcNamed "peerage/peeragelaw02.PrefixMakes" = some f) (hfn : Tryd.pinned.checked.prog.funcs[f]? = some fn) :
    true = Tryd.pinned.checked.prog.looks [] ∧ ∀ (j : Nat) t, fn.params[j]? = some t → Tryd.pinned.checked.prog.wantsStandIn t = false := by
  obtain rfl : f = 3 := Option.some.inj ((show Tryd.prog.funcNamed "peerage/peeragelaw02.PrefixMakes" = some 3 by kernel_rfl).symm.trans hf) |>.symm
  obtain rfl : fn = Tryd.f3 := (Option.some.inj (Tryd.func3.symm.trans hfn)).symm
  refine ⟨by kernel_rfl, fun j t ht => ?_⟩
  rw [Tryd.params3] at ht
  have hm := Array.mem_of_getElem? ht
  simp only [List.mem_toArray, List.mem_cons, List.not_mem_nil, or_false] at hm
  rcases hm with rfl | rfl | rfl
  all_goals exact (show Tryd.prog.wantsStandIn _ = false by kernel_rfl)

theorem pmakes_card : Rows.PrefixMakesCardSaid :=
  Claim7.holds_tied_plain_at .later [] _ _ _ _ pmakes_said (fun _ h => by cases h) (by kernel_rfl) (fun _ h => by cases h) prefixMakes_row_tie rfl ⟨rfl, rfl⟩ (by kernel_rfl) rfl pmakes_plain (by kernel_rfl)
#print axioms pmakes_card
end Go.Proofs.YtgegloplhlkafaaDoor
