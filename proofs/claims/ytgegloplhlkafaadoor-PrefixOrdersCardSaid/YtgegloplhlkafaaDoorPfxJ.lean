/- The program's Compare. -/
import Derived.Test.YtgegloplhlkafaaDoorPfxI
import Derived.StillTailTactics
set_option autoImplicit false
namespace Go.Proofs.YtgegloplhlkafaaDoor
open Go.RowKit
set_option maxRecDepth 100000 in
set_option maxHeartbeats 4000000 in
theorem compare_prog (fa la : Int) (a : List Int) (fb lb : Int) (b : List Int) (ha : a.length = 16) (hb : b.length = 16) (hba : Bs a) (hbb : Bs b) (w : World) :
    Calls Tryd.prog 20 #[.agg (pvL fa la a).toArray, .agg (pvL fb lb b).toArray] w fun e w' => e = .returned (.int .i64 (cmpP (fa, la, a) (fb, lb, b))) ∧ Below w.heap.size w w' := by
  obtain ⟨W, hW⟩ : ∃ W, W = (w.alloc (.cells (pvL fa la a).toArray 26)).alloc (.cells (pvL fb lb b).toArray 26) := ⟨_, rfl⟩
  have hT : Two W w.heap.size fa la a fb lb b := by rw [hW]; exact two_new w fa la a fb lb b
  have hB : Below w.heap.size w W := by rw [hW]; exact ((Below.refl _ _).alloc (Nat.le_refl _) _).alloc (by simp) _
  have f1 := hT.fa0
  have f2 := hT.fb0
  have f3 := hT.la1
  have f4 := hT.lb1
  have hres : cmpP (fa, la, a) (fb, lb, b) = firstF [cmpI fa fb, lexC a b, cmpI la lb] := by
    have : orF (cmpI la lb) 0 = cmpI la lb := by unfold orF; split <;> simp_all
    simp only [cmpP, firstF, this]
  rw [hres]
  have HT := hide hT
  have HB := hide hB
  have HC := hide cmpint_any
  have hadd : ∀ (g j : Nat), (⟨g, 2, none⟩ : Addr).add j = ⟨g, 2 + j, none⟩ := fun g j => by unfold Addr.add; split <;> simp_all
  have hbc : Calls Tryd.prog 43 #[.slice (some ⟨w.heap.size, 2, none⟩) 16 16, .slice (some ⟨w.heap.size + 1, 2, none⟩) 16 16] W.drew (RetI (lexC a b) W.drew) := by
    have := bytescmp_any W.drew ⟨w.heap.size, 2, none⟩ ⟨w.heap.size + 1, 2, none⟩ a b 16 16 hba hbb (fun j x hx => by rw [hadd]; exact hT.aa j _ (by simp [bV, hx])) (fun j x hx => by rw [hadd]; exact hT.ab j _ (by simp [bV, hx]))
    rwa [ha, hb] at this
  have HBC := hide hbc
  clear hT hB hres hbc hadd
  go_enter Tryd.func20, Tryd.ntmps20
  go_wp2_with fail
  rw [← hW]
  clear hW
  go_still_tail 15, (by kernel_rfl)
  still_call ((HC.out fa fb _).mono (fun e w h => ⟨h.1, h.2.symm⟩))
  repeat still_step
  still_call (HBC.out.mono (fun e w h => ⟨h.1, h.2.symm⟩))
  repeat still_step
  still_call ((HC.out la lb _).mono (fun e w h => ⟨h.1, h.2.symm⟩))
  refine wpStill_nil ?_
  change wpList _ _ _ _ _ W.drew
  have hOr : ∀ W2, W2 = W.drew.alloc (.cells #[.int .i64 (cmpI fa fb), .int .i64 (lexC a b), .int .i64 (cmpI la lb)] 3) → Calls Tryd.prog 41 #[.slice (some ⟨W.heap.size, 0, none⟩) 3 3] W2 (RetI (firstF [cmpI fa fb, lexC a b, cmpI la lb]) W2) := by
    rintro W2 rfl
    have hg : (W.drew.alloc (.cells #[.int .i64 (cmpI fa fb), .int .i64 (lexC a b), .int .i64 (cmpI la lb)] 3)).heap[W.heap.size]? = some (.cells #[.int .i64 (cmpI fa fb), .int .i64 (lexC a b), .int .i64 (cmpI la lb)] 3 (0, 0)) := heap_alloc_new W.drew _
    exact or_any _ (some ⟨W.heap.size, 0, none⟩) [cmpI fa fb, lexC a b, cmpI la lb] 3 (by simp) ⟨by simp, fun _ => ⟨_, rfl, lt_of_block hg, fun j u hu => World.news_of_block hg j u (by simpa using hu)⟩⟩
  have HOR := hide hOr
  clear hOr
  go_wp2_with (go_at_call 41; refine (HOR.out _ rfl).mono ?_; rintro e w2 ⟨rfl, rfl⟩)
  go_ret
  exact ⟨rfl, (HB.out.alloc HB.out.size _).drew⟩
end Go.Proofs.YtgegloplhlkafaaDoor
