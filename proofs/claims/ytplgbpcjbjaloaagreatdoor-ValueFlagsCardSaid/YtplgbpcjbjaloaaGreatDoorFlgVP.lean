/- ValueFlags returns true at every input that the row admits: the row's statement and its card. -/
import Derived.Test.YtplgbpcjbjaloaaGreatDoorFlgQ
import Derived.Test.YtplgbpcjbjaloaaGreatDoorArgsF
import Derived.Test.YtplgbpcjbjaloaaGreatDoorWorldF
import Derived.Test.YtplgbpcjbjaloaaGreatDoorFlgX
set_option autoImplicit false
namespace Go.Proofs.YtplgbpcjbjaloaaGreatDoor
open Go.ChangeShapes Go.WideShapes Go.ChangeAt Go.RowKit

set_option maxRecDepth 100000 in
theorem vflags_contract (H : Type) (enc : TypeId × Value → H) (W : World) (base : Nat) (args : Array Value) (ds gs : List (DataW H)) (before : List MemPlace)
    (hval : ∀ (j : Nat) t v, Tryz.f4.params[j]? = some t → args[j]? = some v → Value.okWide Tryz.prog W .any base t v)
    (hW : DataW.Whole enc Tryz.prog Tryz.f4.params.toList Rows.valueFlagsSpec.vars false W args.toList ds gs before)
    (hz : (DataW.weightsEach Tryz.prog (Tryz.f4.params.toList ++ []) (ds ++ gs)).all (· ≤ reachBytes) = true) (_ : laidMetH Tryz.prog Rows.valueFlagsRow.laid W) (_ : W.ShapedOpen Tryz.prog) :
    Calls Tryz.prog 4 args W fun e W' => ∃ v, e = .returned v ∧ Rows.valueFlagsSpec.post enc Tryz.prog Tryz.f4 false true false false W args v W' := by
  have hW' := hW
  obtain ⟨p, q, hA0, hV, rfl, hfz, hnd⟩ := hW
  obtain ⟨rfl, rfl⟩ := trodVars_none hV
  have hA : DataW.TrodAll enc Tryz.prog W 0 (fun _ => true) true Tryz.f4.params.toList args.toList ds p := hA0
  rw [Tryz.params4] at hA hval hz
  obtain ⟨v0, vs0, d0, ds0, p0, q0, hargs, rfl, rfl, h0, r0⟩ := trodAll_cons hA
  obtain ⟨v1, vs1, d1, ds1, p1, q1, rfl, rfl, rfl, h1, r1⟩ := trodAll_cons r0
  obtain ⟨v2, vs2, d2, ds2, p2, q2, rfl, rfl, rfl, h2, r2⟩ := trodAll_cons r1
  obtain ⟨rfl, rfl, rfl⟩ := trodAll_nil r2
  obtain rfl : args = #[v0, v1, v2] := by cases args; simp_all
  obtain ⟨fuel0, hf0⟩ := h0
  obtain ⟨o1, o2, o3, o4, o5, o6, hcs0⟩ := open_opts (x := (d0, p0)) hf0
  obtain rfl := agg_of_cellsF hcs0 (by simp)
  obtain ⟨fuel1, hf1⟩ := h1
  obtain ⟨aa1, ab1, hcs1, a01, a11, b01, b11⟩ := open_two (x := (d1, p1)) hf1
  obtain rfl := agg_of_cellsF hcs1 (by simp)
  obtain ⟨a2, len2, cap2, rfl⟩ := okWide_slice Tryz.underlying25 (hval 2 25 v2 rfl rfl)
  obtain ⟨fuel2, hf2⟩ := h2
  obtain ⟨A2, c2, l2, hcs2, hlc2, hcm2, hp2, hwf2, hsz2⟩ := open_nums (x := (d2, p2)) Tryz.underlying25 Tryz.underlying5 cells_u8 hf2
  have hbs2 : Bs l2 := fun x hx => by have := bounds_u8 (hwf2 x hx); omega
  have hln2 : l2.length ≤ 140737488351232 := by
    rcases hsz2 with ⟨_, h0⟩ | ⟨el, sp, hd, hl⟩
    · omega
    · have := List.all_eq_true.1 hz ((el.length + sp.length) * 1) (DataW.weights_mem_each (j := 2) rfl rfl _ (by
        have hd' : d2 = .slice el sp := hd
        rw [hd']
        simp [DataW.weights, Tryz.underlying25, bytes_u8]))
      simp [reachBytes] at this
      omega
  have e2 : Value.slice a2 len2 cap2 = .slice A2 l2.length c2 := by simpa [Value.cells] using hcs2
  rw [e2] at hW' ⊢
  refine (flags_any o1 o2 o3 o4 o5 o6 aa1 ab1 A2 c2 l2 W a01 a11 b01 b11 hp2).mono fun e W' ⟨he, hb⟩ => ⟨_, he, ?_⟩
  exact done_true hW' rfl rfl rfl rfl (by kernel_rfl) (by rw [Tryz.params4]; decide +kernel) hb

theorem vflags_laid_met (os : Os) : laidMet Tryz.prog Rows.valueFlagsRow.laid ((laidWorldF os).forCall (fun _ _ => 0) ⟨#[], #[.agg #[.bool false, .bool false, .bool false, .bool false, .bool false, .bool false], .agg #[.int .u8 0, .int .u8 0], .slice none 0 0], []⟩).memory :=
  laidMet_of_run' 8 (by kernel_rfl) (by kernel_rfl)
theorem vflags_reads (os : Os) {H : Type} (enc : TypeId × Value → H) : ∃ places, DataW.whole enc Tryz.prog ((laidWorldF os).forCall (fun _ _ => 0) ⟨#[], #[.agg #[.bool false, .bool false, .bool false, .bool false, .bool false, .bool false], .agg #[.int .u8 0, .int .u8 0], .slice none 0 0], []⟩).memory Tryz.f4.params.toList Rows.valueFlagsSpec.vars false (#[.agg #[.bool false, .bool false, .bool false, .bool false, .bool false, .bool false], .agg #[.int .u8 0, .int .u8 0], .slice none 0 0] : Array Value).toList 8 = some ([.agg [.lit (.bool false), .lit (.bool false), .lit (.bool false), .lit (.bool false), .lit (.bool false), .lit (.bool false)], .agg [.lit (.int .u8 0), .lit (.int .u8 0)], .nil], [], places) :=
  ⟨[], by kernel_rfl⟩

set_option maxRecDepth 100000 in
theorem vflags_lifted (os : Os) (started : os.Started) (H : Type) (enc : TypeId × Value → H) (F : Stop.Interp) :
    ReturnsInHanded {} Tryz.checked os 4 .any ((OpenSpec.ofChange Rows.valueFlagsSpec).preRow enc Tryz.prog Tryz.f4 Rows.valueFlagsRow.domain false Rows.valueFlagsRow.laid) (((OpenSpec.ofChange Rows.valueFlagsSpec).at F).post enc Tryz.prog Tryz.f4 false true false false) := by
  obtain ⟨places, hx⟩ := vflags_reads os enc
  refine returnsInHanded_of_row (C := Tryz.checked) (s := OpenSpec.ofChange Rows.valueFlagsSpec) ownK started (by kernel_rfl) Tryz.func4
    (witness_row_atRef (enc := enc) (C := Tryz.checked) false (laidWorldF os) #[.agg #[.bool false, .bool false, .bool false, .bool false, .bool false, .bool false], .agg #[.int .u8 0, .int .u8 0], .slice none 0 0] rfl (by kernel_rfl) (by kernel_rfl) (by kernel_rfl)
      (OpenSpec.preRow_of_cond 8 hx (by kernel_rfl) (fun k hk => by cases hk) (by kernel_rfl) (vflags_laid_met os))) ?_
  intro W base args ds gs before hval hW _ _ hz hL hsh _
  exact vflags_contract H enc W base args ds gs before hval hW hz hL hsh

theorem vflags_said : Rows.ValueFlagsSaid :=
  OpenClaim.holds_of_cond 4 Tryz.f4 rfl rfl rfl rfl rfl rfl rfl ⟨rfl, rfl, rfl, rfl, rfl⟩ rfl rfl rfl rfl rfl (by kernel_rfl) Tryz.func4 vflags_facts
    (of_decide_eq_true (by kernel_rfl)) (by unfold Func.isWrapper; first | (rw [if_pos (by decide +kernel)]; kernel_rfl) | (rw [if_neg (by decide +kernel)]; exact ⟨rfl, rfl⟩))
    (fun os started H enc _ F => by rw [OpenClaim.pre_eq_preRow]; exact vflags_lifted os started H enc F)

theorem vflags_plain (f : FuncId) (fn : Func) (hf : Tryz.pinned.checked.prog.funcNamed "peerage/peeragelaw13.ValueFlags" = some f) (hfn : Tryz.pinned.checked.prog.funcs[f]? = some fn) :
    true = Tryz.pinned.checked.prog.looks [] ∧ ∀ (j : Nat) t, fn.params[j]? = some t → Tryz.pinned.checked.prog.wantsStandIn t = false := by
  obtain rfl : f = 4 := Option.some.inj ((show Tryz.prog.funcNamed "peerage/peeragelaw13.ValueFlags" = some 4 by kernel_rfl).symm.trans hf) |>.symm
  obtain rfl : fn = Tryz.f4 := (Option.some.inj (Tryz.func4.symm.trans hfn)).symm
  refine ⟨by kernel_rfl, fun j t ht => ?_⟩
  rw [Tryz.params4] at ht
  have hm := Array.mem_of_getElem? ht
  simp only [List.mem_toArray, List.mem_cons, List.not_mem_nil, or_false] at hm
  rcases hm with rfl | rfl | rfl
  all_goals exact (show Tryz.prog.wantsStandIn _ = false by kernel_rfl)

theorem vflags_card : Rows.ValueFlagsCardSaid :=
  Claim7.holds_tied_plain_at .later [] _ _ _ _ vflags_said (fun _ h => by cases h) (by kernel_rfl) (fun _ h => by cases h) valueFlags_row_tie rfl ⟨rfl, rfl⟩ (by kernel_rfl) rfl vflags_plain (by kernel_rfl)
#print axioms vflags_card
end Go.Proofs.YtplgbpcjbjaloaaGreatDoor
