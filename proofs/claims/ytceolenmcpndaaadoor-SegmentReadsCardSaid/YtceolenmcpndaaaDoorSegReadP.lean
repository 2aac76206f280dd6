/- SegmentReads returns true at every input that the row admits: the row's statement and its card; the tables of the packages segment, strconv and bits start as the program's text lays them. -/
import Derived.Test.YtceolenmcpndaaaDoorSegReadW
import Derived.Test.YtceolenmcpndaaaDoorWorld
set_option autoImplicit false
namespace Go.Proofs.YtceolenmcpndaaaDoor
open Go.ChangeShapes Go.WideShapes Go.ChangeAt Go.RowKit

set_option maxRecDepth 100000 in
theorem sreads_contract (H : Type) (enc : TypeId × Value → H) (W : World) (base : Nat) (args : Array Value) (ds gs : List (DataW H)) (before : List MemPlace)
    (hval : ∀ (j : Nat) t v, Tryd.f5.params[j]? = some t → args[j]? = some v → Value.okWide Tryd.prog W .any base t v)
    (hW : DataW.Whole enc Tryd.prog Tryd.f5.params.toList Rows.segmentReadsSpec.vars false W args.toList ds gs before)
    (hz : (DataW.weightsEach Tryd.prog (Tryd.f5.params.toList ++ []) (ds ++ gs)).all (· ≤ reachBytes) = true) (hL : laidMetH Tryd.prog Rows.segmentReadsRow.laid W) :
    Calls Tryd.prog 5 args W fun e W' => ∃ v, e = .returned v ∧ Rows.segmentReadsSpec.post enc Tryd.prog Tryd.f5 false true false false W args v W' := by
  have hW' := hW
  obtain ⟨p, q, hA0, hV, rfl, hfz, hnd⟩ := hW
  obtain ⟨rfl, rfl⟩ := trodVars_none hV
  have hA : DataW.TrodAll enc Tryd.prog W 0 (fun _ => true) true Tryd.f5.params.toList args.toList ds p := hA0
  rw [Tryd.params5] at hA hval hz
  obtain ⟨v0, vs0, d0, ds0, p0, q0, hargs, rfl, rfl, h0, r0⟩ := trodAll_cons hA
  obtain ⟨v1, vs1, d1, ds1, p1, q1, rfl, rfl, rfl, h1, r1⟩ := trodAll_cons r0
  obtain ⟨rfl, rfl, rfl⟩ := trodAll_nil r1
  obtain rfl : args = #[v0, v1] := by cases args; simp_all
  obtain ⟨n0, rfl⟩ := okWide_int Tryd.underlying3 (hval 0 3 v0 rfl rfl)
  obtain ⟨fuel0, hf0⟩ := h0
  obtain ⟨K0, eq0, _, _⟩ := DataW.trod_int Tryd.underlying3 hf0
  have e0 : n0 = K0 := by simpa [Value.cells] using eq0
  subst e0
  obtain ⟨a1, len1, cap1, rfl⟩ := okWide_slice Tryd.underlying37 (hval 1 37 v1 rfl rfl)
  obtain ⟨fuel1, hf1⟩ := h1
  obtain ⟨A1, c1, l1, hcs1, hlc1, hcm1, hp1, hwf1, hsz1⟩ := open_nums (x := (d1, p1)) Tryd.underlying37 Tryd.underlying5 cells_u8 hf1
  have hbs1 : Bs l1 := fun x hx => by have := bounds_u8 (hwf1 x hx); omega
  have hln1 : l1.length ≤ 140737488351232 := by
    rcases hsz1 with ⟨_, h0⟩ | ⟨el, sp, hd, hl⟩
    · omega
    · have := List.all_eq_true.1 hz ((el.length + sp.length) * 1) (DataW.weights_mem_each (j := 1) rfl rfl _ (by
        have hd' : d1 = .slice el sp := hd
        rw [hd']
        simp [DataW.weights, Tryd.underlying37, bytes_u8]))
      simp [reachBytes] at this
      omega
  have e1 : Value.slice a1 len1 cap1 = .slice A1 l1.length c1 := by simpa [Value.cells] using hcs1
  rw [e1] at hW' ⊢
  refine (segreads_any n0 A1 c1 l1 W hp1 hlc1 hcm1 hln1 hbs1 (tabs_of_laid hL)).mono fun e W' ⟨he, hb⟩ => ⟨_, he, ?_⟩
  exact done_true hW' rfl rfl rfl rfl (by kernel_rfl) (by rw [Tryd.params5]; decide +kernel) hb

theorem sreads_laid_met (os : Os) : laidMet Tryd.prog Rows.segmentReadsRow.laid ((laidWorld os).forCall (fun _ _ => 0) ⟨#[], #[.int .i64 0, .slice none 0 0], []⟩).memory :=
  laidMet_of_run' 8 (by kernel_rfl) (by kernel_rfl)
theorem sreads_reads (os : Os) {H : Type} (enc : TypeId × Value → H) : ∃ places, DataW.whole enc Tryd.prog ((laidWorld os).forCall (fun _ _ => 0) ⟨#[], #[.int .i64 0, .slice none 0 0], []⟩).memory Tryd.f5.params.toList Rows.segmentReadsSpec.vars false (#[.int .i64 0, .slice none 0 0] : Array Value).toList 8 = some ([.lit (.int .i64 0), .nil], [], places) :=
  ⟨[], by kernel_rfl⟩

set_option maxRecDepth 100000 in
theorem sreads_lifted (os : Os) (started : os.Started) (H : Type) (enc : TypeId × Value → H) (F : Stop.Interp) :
    ReturnsInHanded {} Tryd.checked os 5 .any ((OpenSpec.ofChange Rows.segmentReadsSpec).preRow enc Tryd.prog Tryd.f5 Rows.segmentReadsRow.domain false Rows.segmentReadsRow.laid) (((OpenSpec.ofChange Rows.segmentReadsSpec).at F).post enc Tryd.prog Tryd.f5 false true false false) := by
  obtain ⟨places, hx⟩ := sreads_reads os enc
  refine returnsInHanded_of_row (C := Tryd.checked) (s := OpenSpec.ofChange Rows.segmentReadsSpec) ownK started (by kernel_rfl) Tryd.func5
    (witness_row_at (enc := enc) (C := Tryd.checked) false (laidWorld os) #[.int .i64 0, .slice none 0 0] rfl (by kernel_rfl) (by kernel_rfl) (by kernel_rfl)
      (OpenSpec.preRow_of_cond 8 hx (by kernel_rfl) (fun k hk => by cases hk) (by kernel_rfl) (sreads_laid_met os))) ?_
  intro W base args ds gs before hval hW _ _ hz hL _ _
  exact sreads_contract H enc W base args ds gs before hval hW hz hL

theorem sreads_said : Rows.SegmentReadsSaid :=
  OpenClaim.holds_of_cond 5 Tryd.f5 rfl rfl rfl rfl rfl rfl rfl ⟨rfl, rfl, rfl, rfl, rfl⟩ rfl rfl rfl rfl rfl (by kernel_rfl) Tryd.func5 (by kernel_rfl)
    (of_decide_eq_true (by kernel_rfl)) (by unfold Func.isWrapper; first | (rw [if_pos (by decide +kernel)]; kernel_rfl) | (rw [if_neg (by decide +kernel)]; exact ⟨rfl, rfl⟩))
    (fun os started H enc _ F => by rw [OpenClaim.pre_eq_preRow]; exact sreads_lifted os started H enc F)

theorem sreads_plain (f : FuncId) (fn : Func) (hf : Tryd.pinned.checked.prog.funcNamed "peerage/peeragelaw06.SegmentReads" = some f) (hfn : Tryd.pinned.checked.prog.funcs[f]? = some fn) :
    true = Tryd.pinned.checked.prog.looks [] ∧ ∀ (j : Nat) t, fn.params[j]? = some t → Tryd.pinned.checked.prog.wantsStandIn t = false := by
  obtain rfl : f = 5 := Option.some.inj ((show Tryd.prog.funcNamed "peerage/peeragelaw06.SegmentReads" = some 5 by kernel_rfl).symm.trans hf) |>.symm
  obtain rfl : fn = Tryd.f5 := (Option.some.inj (Tryd.func5.symm.trans hfn)).symm
  refine ⟨by kernel_rfl, fun j t ht => ?_⟩
  rw [Tryd.params5] at ht
  have hm := Array.mem_of_getElem? ht
  simp only [List.mem_toArray, List.mem_cons, List.not_mem_nil, or_false] at hm
  rcases hm with rfl | rfl
  all_goals exact (show Tryd.prog.wantsStandIn _ = false by kernel_rfl)

theorem sreads_card : Rows.SegmentReadsCardSaid :=
  Claim7.holds_tied_plain_at .later [] _ _ _ _ sreads_said (fun _ h => by cases h) (by kernel_rfl) (fun _ h => by cases h) segmentReads_row_tie rfl ⟨rfl, rfl⟩ (by kernel_rfl) rfl sreads_plain (by kernel_rfl)
#print axioms sreads_card
end Go.Proofs.YtceolenmcpndaaaDoor
