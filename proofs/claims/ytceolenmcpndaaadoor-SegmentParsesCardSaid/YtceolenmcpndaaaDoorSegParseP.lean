/- SegmentParses returns true at every input that the row admits: the row's statement and its card; the tables of the packages segment, strconv, bits and utf8 and the errors of strconv start as the program's text lays them. -/
import Derived.Test.YtceolenmcpndaaaDoorSegParseW
import Derived.Test.YtceolenmcpndaaaDoorWorldE
set_option autoImplicit false
namespace Go.Proofs.YtceolenmcpndaaaDoor
open Go.ChangeShapes Go.WideShapes Go.ChangeAt Go.RowKit

set_option maxRecDepth 100000 in
theorem sparses_contract (H : Type) (enc : TypeId × Value → H) (W : World) (base : Nat) (args : Array Value) (ds gs : List (DataW H)) (before : List MemPlace)
    (hval : ∀ (j : Nat) t v, Tryd.f6.params[j]? = some t → args[j]? = some v → Value.okWide Tryd.prog W .any base t v)
    (hW : DataW.Whole enc Tryd.prog Tryd.f6.params.toList Rows.segmentParsesSpec.vars false W args.toList ds gs before)
    (hz : (DataW.weightsEach Tryd.prog (Tryd.f6.params.toList ++ []) (ds ++ gs)).all (· ≤ reachBytes) = true) (hL : laidMetH Tryd.prog Rows.segmentParsesRow.laid W) (hsh : W.ShapedOpen Tryd.prog) :
    Calls Tryd.prog 6 args W fun e W' => ∃ v, e = .returned v ∧ Rows.segmentParsesSpec.post enc Tryd.prog Tryd.f6 false true false false W args v W' := by
  have hW' := hW
  obtain ⟨p, q, hA0, hV, rfl, hfz, hnd⟩ := hW
  obtain ⟨rfl, rfl⟩ := trodVars_none hV
  have hA : DataW.TrodAll enc Tryd.prog W 0 (fun _ => true) true Tryd.f6.params.toList args.toList ds p := hA0
  rw [Tryd.params6] at hA hval hz
  obtain ⟨v0, vs0, d0, ds0, p0, q0, hargs, rfl, rfl, h0, r0⟩ := trodAll_cons hA
  obtain ⟨rfl, rfl, rfl⟩ := trodAll_nil r0
  obtain rfl : args = #[v0] := by cases args; simp_all
  obtain ⟨s0, rfl⟩ := okWide_string Tryd.underlying9 (hval 0 9 v0 rfl rfl)
  obtain ⟨fuel0, hf0⟩ := h0
  obtain ⟨x0, hc0, _, hm0⟩ := DataW.trod_string Tryd.underlying9 hf0
  have e0 : s0 = x0 := by simpa [Value.cells] using hc0
  subst e0
  have hln0 : s0.size ≤ 9223372036854775807 := by unfold maxLen at hm0; omega
  refine (segparses_str s0 W hln0 (tabsQ_of_laid hL hsh)).mono fun e W' ⟨he, hb⟩ => ⟨_, he, ?_⟩
  exact done_true hW' rfl rfl rfl rfl (by kernel_rfl) (by rw [Tryd.params6]; decide +kernel) hb

theorem sparses_laid_met (os : Os) : laidMet Tryd.prog Rows.segmentParsesRow.laid ((laidWorldE os).forCall (fun _ _ => 0) ⟨#[], #[.string ⟨#[]⟩], []⟩).memory :=
  laidMet_of_run' 8 (by kernel_rfl) (by kernel_rfl)
theorem sparses_reads (os : Os) {H : Type} (enc : TypeId × Value → H) : ∃ places, DataW.whole enc Tryd.prog ((laidWorldE os).forCall (fun _ _ => 0) ⟨#[], #[.string ⟨#[]⟩], []⟩).memory Tryd.f6.params.toList Rows.segmentParsesSpec.vars false (#[.string ⟨#[]⟩] : Array Value).toList 8 = some ([.lit (.string [])], [], places) :=
  ⟨[], by kernel_rfl⟩

set_option maxRecDepth 100000 in
theorem sparses_lifted (os : Os) (started : os.Started) (H : Type) (enc : TypeId × Value → H) (F : Stop.Interp) :
    ReturnsInHanded {} Tryd.checked os 6 .any ((OpenSpec.ofChange Rows.segmentParsesSpec).preRow enc Tryd.prog Tryd.f6 Rows.segmentParsesRow.domain false Rows.segmentParsesRow.laid) (((OpenSpec.ofChange Rows.segmentParsesSpec).at F).post enc Tryd.prog Tryd.f6 false true false false) := by
  obtain ⟨places, hx⟩ := sparses_reads os enc
  refine returnsInHanded_of_row (C := Tryd.checked) (s := OpenSpec.ofChange Rows.segmentParsesSpec) ownK started (by kernel_rfl) Tryd.func6
    (witness_row_atRef (enc := enc) (C := Tryd.checked) false (laidWorldE os) #[.string ⟨#[]⟩] rfl (by kernel_rfl) (by kernel_rfl) (by kernel_rfl)
      (OpenSpec.preRow_of_cond 8 hx (by kernel_rfl) (fun k hk => by cases hk) (by kernel_rfl) (sparses_laid_met os))) ?_
  intro W base args ds gs before hval hW _ _ hz hL hsh _
  exact sparses_contract H enc W base args ds gs before hval hW hz hL hsh

theorem sparses_said : Rows.SegmentParsesSaid :=
  OpenClaim.holds_of_cond 6 Tryd.f6 rfl rfl rfl rfl rfl rfl rfl ⟨rfl, rfl, rfl, rfl, rfl⟩ rfl rfl rfl rfl rfl (by kernel_rfl) Tryd.func6 (by kernel_rfl)
    (of_decide_eq_true (by kernel_rfl)) (by unfold Func.isWrapper; first | (rw [if_pos (by decide +kernel)]; kernel_rfl) | (rw [if_neg (by decide +kernel)]; exact ⟨rfl, rfl⟩))
    (fun os started H enc _ F => by rw [OpenClaim.pre_eq_preRow]; exact sparses_lifted os started H enc F)

theorem sparses_plain (f : FuncId) (fn : Func) (hf : Tryd.pinned.checked.prog.funcNamed "peerage/peeragelaw06.SegmentParses" = some f) (hfn : Tryd.pinned.checked.prog.funcs[f]? = some fn) :
    true = Tryd.pinned.checked.prog.looks [] ∧ ∀ (j : Nat) t, fn.params[j]? = some t → Tryd.pinned.checked.prog.wantsStandIn t = false := by
  obtain rfl : f = 6 := Option.some.inj ((show Tryd.prog.funcNamed "peerage/peeragelaw06.SegmentParses" = some 6 by kernel_rfl).symm.trans hf) |>.symm
  obtain rfl : fn = Tryd.f6 := (Option.some.inj (Tryd.func6.symm.trans hfn)).symm
  refine ⟨by kernel_rfl, fun j t ht => ?_⟩
  rw [Tryd.params6] at ht
  have hm := Array.mem_of_getElem? ht
  simp only [List.mem_toArray, List.mem_cons, List.not_mem_nil, or_false] at hm
  rcases hm with rfl
  all_goals exact (show Tryd.prog.wantsStandIn _ = false by kernel_rfl)

theorem sparses_card : Rows.SegmentParsesCardSaid :=
  Claim7.holds_tied_plain_at .later [] _ _ _ _ sparses_said (fun _ h => by cases h) (by kernel_rfl) (fun _ h => by cases h) segmentParses_row_tie rfl ⟨rfl, rfl⟩ (by kernel_rfl) rfl sparses_plain (by kernel_rfl)
#print axioms sparses_card
end Go.Proofs.YtceolenmcpndaaaDoor
