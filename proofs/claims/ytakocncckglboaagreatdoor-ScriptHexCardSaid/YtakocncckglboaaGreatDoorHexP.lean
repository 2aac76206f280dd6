/- ScriptHex returns true at every input that the row admits: the row's statement and its card. -/
import Derived.Test.YtakocncckglboaaGreatDoorHexW
import Derived.Test.YtakocncckglboaaGreatDoorArgsH
import Derived.Test.YtakocncckglboaaGreatDoorWorldH
import Derived.Test.YtakocncckglboaaGreatDoorHexX
set_option autoImplicit false
namespace Go.Proofs.YtakocncckglboaaGreatDoor
open Go.ChangeShapes Go.WideShapes Go.ChangeAt Go.RowKit

set_option maxRecDepth 100000 in
theorem shex_contract (H : Type) (enc : TypeId × Value → H) (W : World) (base : Nat) (args : Array Value) (ds gs : List (DataW H)) (before : List MemPlace)
    (hval : ∀ (j : Nat) t v, Tryz.f3.params[j]? = some t → args[j]? = some v → Value.okWide Tryz.prog W .any base t v)
    (hW : DataW.Whole enc Tryz.prog Tryz.f3.params.toList Rows.scriptHexSpec.vars false W args.toList ds gs before)
    (hz : (DataW.weightsEach Tryz.prog (Tryz.f3.params.toList ++ []) (ds ++ gs)).all (· ≤ reachBytes) = true) (_ : laidMetH Tryz.prog Rows.scriptHexRow.laid W) (hsh : W.ShapedOpen Tryz.prog) :
    Calls Tryz.prog 3 args W fun e W' => ∃ v, e = .returned v ∧ Rows.scriptHexSpec.post enc Tryz.prog Tryz.f3 false true false false W args v W' := by
  have hW' := hW
  obtain ⟨p, q, hA0, hV, rfl, hfz, hnd⟩ := hW
  obtain ⟨rfl, rfl⟩ := trodVars_none hV
  have hA : DataW.TrodAll enc Tryz.prog W 0 (fun _ => true) true Tryz.f3.params.toList args.toList ds p := hA0
  rw [Tryz.params3] at hA hval hz
  obtain ⟨v0, vs0, d0, ds0, p0, q0, hargs, rfl, rfl, h0, r0⟩ := trodAll_cons hA
  obtain ⟨v1, vs1, d1, ds1, p1, q1, rfl, rfl, rfl, h1, r1⟩ := trodAll_cons r0
  obtain ⟨rfl, rfl, rfl⟩ := trodAll_nil r1
  obtain rfl : args = #[v0, v1] := by cases args; simp_all
  obtain ⟨a0, len0, cap0, rfl⟩ := okWide_slice Tryz.underlying22 (hval 0 22 v0 rfl rfl)
  obtain ⟨fuel0, hf0⟩ := h0
  obtain ⟨A0, c0, l0, hcs0, hlc0, hcm0, hp0, hwf0, hsz0⟩ := open_nums (x := (d0, p0)) Tryz.underlying22 Tryz.underlying5 cells_u8 hf0
  have hbs0 : Bs l0 := fun x hx => by have := bounds_u8 (hwf0 x hx); omega
  have hln0 : l0.length ≤ 140737488351232 := by
    rcases hsz0 with ⟨_, h0⟩ | ⟨el, sp, hd, hl⟩
    · omega
    · have := List.all_eq_true.1 hz ((el.length + sp.length) * 1) (DataW.weights_mem_each (j := 0) rfl rfl _ (by
        have hd' : d0 = .slice el sp := hd
        rw [hd']
        simp [DataW.weights, Tryz.underlying22, bytes_u8]))
      simp [reachBytes] at this
      omega
  have e0 : Value.slice a0 len0 cap0 = .slice A0 l0.length c0 := by simpa [Value.cells] using hcs0
  obtain ⟨s1, rfl⟩ := okWide_string Tryz.underlying9 (hval 1 9 v1 rfl rfl)
  obtain ⟨fuel1, hf1⟩ := h1
  obtain ⟨x1, hc1, _, hm1⟩ := DataW.trod_string Tryz.underlying9 hf1
  have e1 : s1 = x1 := by simpa [Value.cells] using hc1
  subst e1
  have hln1 : s1.size ≤ 9223372036854775807 := by unfold maxLen at hm1; omega
  rw [e0] at hW' ⊢
  refine (scripthex_str A0 c0 l0 s1 W hp0 hbs0 hln0 hln1 hsh).mono fun e W' ⟨he, hb⟩ => ⟨_, he, ?_⟩
  exact done_true hW' rfl rfl rfl rfl (by kernel_rfl) (by rw [Tryz.params3]; decide +kernel) hb

theorem shex_laid_met (os : Os) : laidMet Tryz.prog Rows.scriptHexRow.laid ((laidWorldH os).forCall (fun _ _ => 0) ⟨#[], #[.slice none 0 0, .string ⟨#[]⟩], []⟩).memory :=
  laidMet_of_run' 8 (by kernel_rfl) (by kernel_rfl)
theorem shex_reads (os : Os) {H : Type} (enc : TypeId × Value → H) : ∃ places, DataW.whole enc Tryz.prog ((laidWorldH os).forCall (fun _ _ => 0) ⟨#[], #[.slice none 0 0, .string ⟨#[]⟩], []⟩).memory Tryz.f3.params.toList Rows.scriptHexSpec.vars false (#[.slice none 0 0, .string ⟨#[]⟩] : Array Value).toList 8 = some ([.nil, .lit (.string [])], [], places) :=
  ⟨[], by kernel_rfl⟩

set_option maxRecDepth 100000 in
theorem shex_lifted (os : Os) (started : os.Started) (H : Type) (enc : TypeId × Value → H) (F : Stop.Interp) :
    ReturnsInHanded {} Tryz.checked os 3 .any ((OpenSpec.ofChange Rows.scriptHexSpec).preRow enc Tryz.prog Tryz.f3 Rows.scriptHexRow.domain false Rows.scriptHexRow.laid) (((OpenSpec.ofChange Rows.scriptHexSpec).at F).post enc Tryz.prog Tryz.f3 false true false false) := by
  obtain ⟨places, hx⟩ := shex_reads os enc
  refine returnsInHanded_of_row (C := Tryz.checked) (s := OpenSpec.ofChange Rows.scriptHexSpec) ownK started (by kernel_rfl) Tryz.func3
    (witness_row_atRef (enc := enc) (C := Tryz.checked) false (laidWorldH os) #[.slice none 0 0, .string ⟨#[]⟩] rfl (by kernel_rfl) (by kernel_rfl) (by kernel_rfl)
      (OpenSpec.preRow_of_cond 8 hx (by kernel_rfl) (fun k hk => by cases hk) (by kernel_rfl) (shex_laid_met os))) ?_
  intro W base args ds gs before hval hW _ _ hz hL hsh _
  exact shex_contract H enc W base args ds gs before hval hW hz hL hsh

theorem shex_said : Rows.ScriptHexSaid :=
  OpenClaim.holds_of_cond 3 Tryz.f3 rfl rfl rfl rfl rfl rfl rfl ⟨rfl, rfl, rfl, rfl, rfl⟩ rfl rfl rfl rfl rfl (by kernel_rfl) Tryz.func3 shex_facts
    (of_decide_eq_true (by kernel_rfl)) (by unfold Func.isWrapper; first | (rw [if_pos (by decide +kernel)]; kernel_rfl) | (rw [if_neg (by decide +kernel)]; exact ⟨rfl, rfl⟩))
    (fun os started H enc _ F => by rw [OpenClaim.pre_eq_preRow]; exact shex_lifted os started H enc F)

theorem shex_plain (f : FuncId) (fn : Func) (hf : Tryz.pinned.checked.prog.funcNamed "peerage/peeragelaw26.ScriptHex" = some f) (hfn : Tryz.pinned.checked.prog.funcs[f]? = some fn) :
    true = Tryz.pinned.checked.prog.looks [] ∧ ∀ (j : Nat) t, fn.params[j]? = some t → Tryz.pinned.checked.prog.wantsStandIn t = false := by
  obtain rfl : f = 3 := Option.some.inj ((show Tryz.prog.funcNamed "peerage/peeragelaw26.ScriptHex" = some 3 by kernel_rfl).symm.trans hf) |>.symm
  obtain rfl : fn = Tryz.f3 := (Option.some.inj (Tryz.func3.symm.trans hfn)).symm
  refine ⟨by kernel_rfl, fun j t ht => ?_⟩
  rw [Tryz.params3] at ht
  have hm := Array.mem_of_getElem? ht
  simp only [List.mem_toArray, List.mem_cons, List.not_mem_nil, or_false] at hm
  rcases hm with rfl | rfl
  all_goals exact (show Tryz.prog.wantsStandIn _ = false by kernel_rfl)

theorem shex_card : Rows.ScriptHexCardSaid :=
  Claim7.holds_tied_plain_at .later [] _ _ _ _ shex_said (fun _ h => by cases h) (by kernel_rfl) (fun _ h => by cases h) scriptHex_row_tie rfl ⟨rfl, rfl⟩ (by kernel_rfl) rfl shex_plain (by kernel_rfl)
#print axioms shex_card
end Go.Proofs.YtakocncckglboaaGreatDoor
