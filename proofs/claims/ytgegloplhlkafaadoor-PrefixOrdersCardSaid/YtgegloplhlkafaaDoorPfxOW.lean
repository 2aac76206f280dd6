/- The walk of the law PrefixOrders: it returns true. -/
import Derived.Test.YtgegloplhlkafaaDoorPfxJ
import Derived.Test.YtgegloplhlkafaaDoorPfxCW
import Derived.Test.YtgegloplhlkafaaDoorPfxEq
set_option autoImplicit false
namespace Go.Proofs.YtgegloplhlkafaaDoor
open Go.RowKit Go.Sort Go.Shelf

structure Three (W : World) (g : Nat) (PA PB PC : List Value) : Prop where
  g0 : W.heap[g]? = some (.cells PA.toArray 26 (0, 0))
  g1 : W.heap[g + 1]? = some (.cells PB.toArray 26 (0, 0))
  g2 : W.heap[g + 1 + 1]? = some (.cells PC.toArray 26 (0, 0))
theorem Three.below {W W' : World} {g : Nat} {PA PB PC : List Value} (h : Three W g PA PB PC) (hb : RowKit.Below W.heap.size W W') : Three W' g PA PB PC :=
  ⟨(hb.block _ (lt_of_block h.g0)).trans h.g0, (hb.block _ (lt_of_block h.g1)).trans h.g1, (hb.block _ (lt_of_block h.g2)).trans h.g2⟩

set_option maxRecDepth 100000 in
set_option maxHeartbeats 4000000 in
theorem orders_core (PA PB PC : List Value) (n m l : Int) (eq : Bool) (w : World) (ht : Tab w) (hpa : (Tryd.prog.info? 26).map (·.size) = some PA.toArray.size) (hpb : (Tryd.prog.info? 26).map (·.size) = some PB.toArray.size) (hpc : (Tryd.prog.info? 26).map (·.size) = some PC.toArray.size)
    (hAB : ∀ w, Calls Tryd.prog 20 #[.agg PA.toArray, .agg PB.toArray] w fun e w' => e = .returned (.int .i64 n) ∧ RowKit.Below w.heap.size w w')
    (hBA : ∀ w, Calls Tryd.prog 20 #[.agg PB.toArray, .agg PA.toArray] w fun e w' => e = .returned (.int .i64 (-n)) ∧ RowKit.Below w.heap.size w w')
    (hBC : ∀ w, Calls Tryd.prog 20 #[.agg PB.toArray, .agg PC.toArray] w fun e w' => e = .returned (.int .i64 m) ∧ RowKit.Below w.heap.size w w')
    (hAC : ∀ w, Calls Tryd.prog 20 #[.agg PA.toArray, .agg PC.toArray] w fun e w' => e = .returned (.int .i64 l) ∧ RowKit.Below w.heap.size w w')
    (hRAB : ∀ w, Calls Tryd.prog 21 #[.agg PA.toArray, .agg PB.toArray] w fun e w' => e = .returned (.int .i64 n) ∧ RowKit.Below w.heap.size w w')
    (heq : ∀ w, (binOp .eql 26 (.agg PA.toArray) (.agg PB.toArray)).run Tryd.prog w = .ok (.bool eq) w)
    (hn : -1 ≤ n ∧ n ≤ 1) (hne : (n == 0) = eq) (htr : ¬ 0 < n → ¬ 0 < m → l ≤ 0) :
    Calls Tryd.prog 6 #[.agg PA.toArray, .agg PB.toArray, .agg PC.toArray] w fun e w' => e = .returned (.bool true) ∧ RowKit.Below w.heap.size w w' := by
  obtain ⟨n0, n1, n2, _⟩ := three_new w (.cells PA.toArray 26) (.cells PB.toArray 26) (.cells PC.toArray 26)
  have HT := hide (Three.mk n0 n1 n2)
  have HB : Hid (RowKit.Below w.heap.size w (((w.alloc (.cells PA.toArray 26)).alloc (.cells PB.toArray 26)).alloc (.cells PC.toArray 26))) := hide ((((Below.refl _ _).alloc (Nat.le_refl _) _).alloc (by simp) _).alloc (by simp; omega) _)
  have HAL := hide (fun w' (hb : RowKit.Below w.heap.size w w') => alive2_any w' (ht.below hb))
  have HPA := Lib.hid hpa
  have HPB := Lib.hid hpb
  have HPC := Lib.hid hpc
  have HAB := hide hAB
  have HBA := hide hBA
  have HBC := hide hBC
  have HAC := hide hAC
  have HRAB := hide hRAB
  have HTR := hide htr
  obtain ⟨hn0, hn1⟩ := hn
  have t1 : (n != n) = false := by simp
  have t2 : (-n != -n) = false := by simp
  have t3 : (eq != eq) = false := by simp
  clear n0 n1 n2 hpa hpb hpc hAB hBA hBC hAC hRAB htr ht
  by_cases h1 : 0 < n
  · have d1 : decide (0 < n) = true := by simpa using h1
    go_enter Tryd.func6, Tryd.ntmps6
    go_wp2_with (first
      | ((with_reducible refine wpList_load_wholeG _ ?_ _ (.tmp 3) ?_ w.heap.size 26 PA.toArray _ ?_ HT.out.g0 Tryd.underlying26 ?_ HPA.out ?_); rfl; rfl; rfl; rfl)
      | ((with_reducible refine wpList_load_wholeG _ ?_ _ (.tmp 4) ?_ (w.heap.size + 1) 26 PB.toArray _ ?_ HT.out.g1 Tryd.underlying26 ?_ HPB.out ?_); rfl; rfl; rfl; rfl)
      | ((with_reducible refine wpList_load_wholeG _ ?_ _ (.tmp 5) ?_ (w.heap.size + 1 + 1) 26 PC.toArray _ ?_ HT.out.g2 Tryd.underlying26 ?_ HPC.out ?_); rfl; rfl; rfl; rfl)
      | (go_at_call 20
         with_reducible refine (HAB.out _).mono ?_
         rintro e w9 ⟨rfl, hb9⟩
         have HT := hide (HT.out.below hb9)
         have HB := hide (HB.out.trans (hb9.mono HB.out.size))
         clear hb9)
      | (go_at_call 20
         with_reducible refine (HBA.out _).mono ?_
         rintro e w9 ⟨rfl, hb9⟩
         have HT := hide (HT.out.below hb9)
         have HB := hide (HB.out.trans (hb9.mono HB.out.size))
         clear hb9)
      | (go_at_call 20
         with_reducible refine (HBC.out _).mono ?_
         rintro e w9 ⟨rfl, hb9⟩
         have HT := hide (HT.out.below hb9)
         have HB := hide (HB.out.trans (hb9.mono HB.out.size))
         clear hb9)
      | (go_at_call 20
         with_reducible refine (HAC.out _).mono ?_
         rintro e w9 ⟨rfl, hb9⟩
         have HT := hide (HT.out.below hb9)
         have HB := hide (HB.out.trans (hb9.mono HB.out.size))
         clear hb9)
      | (go_at_call 21
         with_reducible refine (HRAB.out _).mono ?_
         rintro e w9 ⟨rfl, hb9⟩
         have HT := hide (HT.out.below hb9)
         have HB := hide (HB.out.trans (hb9.mono HB.out.size))
         clear hb9)
      | (go_at_call 9
         with_reducible refine (HAL.out _ HB.out).mono ?_
         rintro e w9 ⟨rfl, hb9⟩
         have HT := hide (HT.out.below hb9)
         have HB := hide (HB.out.trans (hb9.mono HB.out.size))
         clear hb9))
    go_ret
    exact ⟨rfl, HB.out⟩
  · have d1 : decide (0 < n) = false := by simpa using h1
    by_cases h2 : 0 < m
    · have d2 : decide (0 < m) = true := by simpa using h2
      go_enter Tryd.func6, Tryd.ntmps6
      go_wp2_with (first
        | ((with_reducible refine wpList_load_wholeG _ ?_ _ (.tmp 3) ?_ w.heap.size 26 PA.toArray _ ?_ HT.out.g0 Tryd.underlying26 ?_ HPA.out ?_); rfl; rfl; rfl; rfl)
        | ((with_reducible refine wpList_load_wholeG _ ?_ _ (.tmp 4) ?_ (w.heap.size + 1) 26 PB.toArray _ ?_ HT.out.g1 Tryd.underlying26 ?_ HPB.out ?_); rfl; rfl; rfl; rfl)
        | ((with_reducible refine wpList_load_wholeG _ ?_ _ (.tmp 5) ?_ (w.heap.size + 1 + 1) 26 PC.toArray _ ?_ HT.out.g2 Tryd.underlying26 ?_ HPC.out ?_); rfl; rfl; rfl; rfl)
        | (go_at_call 20
           with_reducible refine (HAB.out _).mono ?_
           rintro e w9 ⟨rfl, hb9⟩
           have HT := hide (HT.out.below hb9)
           have HB := hide (HB.out.trans (hb9.mono HB.out.size))
           clear hb9)
        | (go_at_call 20
           with_reducible refine (HBA.out _).mono ?_
           rintro e w9 ⟨rfl, hb9⟩
           have HT := hide (HT.out.below hb9)
           have HB := hide (HB.out.trans (hb9.mono HB.out.size))
           clear hb9)
        | (go_at_call 20
           with_reducible refine (HBC.out _).mono ?_
           rintro e w9 ⟨rfl, hb9⟩
           have HT := hide (HT.out.below hb9)
           have HB := hide (HB.out.trans (hb9.mono HB.out.size))
           clear hb9)
        | (go_at_call 20
           with_reducible refine (HAC.out _).mono ?_
           rintro e w9 ⟨rfl, hb9⟩
           have HT := hide (HT.out.below hb9)
           have HB := hide (HB.out.trans (hb9.mono HB.out.size))
           clear hb9)
        | (go_at_call 21
           with_reducible refine (HRAB.out _).mono ?_
           rintro e w9 ⟨rfl, hb9⟩
           have HT := hide (HT.out.below hb9)
           have HB := hide (HB.out.trans (hb9.mono HB.out.size))
           clear hb9)
        | (go_at_call 9
           with_reducible refine (HAL.out _ HB.out).mono ?_
           rintro e w9 ⟨rfl, hb9⟩
           have HT := hide (HT.out.below hb9)
           have HB := hide (HB.out.trans (hb9.mono HB.out.size))
           clear hb9))
      go_ret
      exact ⟨rfl, HB.out⟩
    · have hl := HTR.out h1 h2
      have d2 : decide (0 < m) = false := by simpa using h2
      have d3 : decide (l ≤ 0) = true := by simpa using hl
      go_enter Tryd.func6, Tryd.ntmps6
      go_wp2_with (first
        | ((with_reducible refine wpList_load_wholeG _ ?_ _ (.tmp 3) ?_ w.heap.size 26 PA.toArray _ ?_ HT.out.g0 Tryd.underlying26 ?_ HPA.out ?_); rfl; rfl; rfl; rfl)
        | ((with_reducible refine wpList_load_wholeG _ ?_ _ (.tmp 4) ?_ (w.heap.size + 1) 26 PB.toArray _ ?_ HT.out.g1 Tryd.underlying26 ?_ HPB.out ?_); rfl; rfl; rfl; rfl)
        | ((with_reducible refine wpList_load_wholeG _ ?_ _ (.tmp 5) ?_ (w.heap.size + 1 + 1) 26 PC.toArray _ ?_ HT.out.g2 Tryd.underlying26 ?_ HPC.out ?_); rfl; rfl; rfl; rfl)
        | (go_at_call 20
           with_reducible refine (HAB.out _).mono ?_
           rintro e w9 ⟨rfl, hb9⟩
           have HT := hide (HT.out.below hb9)
           have HB := hide (HB.out.trans (hb9.mono HB.out.size))
           clear hb9)
        | (go_at_call 20
           with_reducible refine (HBA.out _).mono ?_
           rintro e w9 ⟨rfl, hb9⟩
           have HT := hide (HT.out.below hb9)
           have HB := hide (HB.out.trans (hb9.mono HB.out.size))
           clear hb9)
        | (go_at_call 20
           with_reducible refine (HBC.out _).mono ?_
           rintro e w9 ⟨rfl, hb9⟩
           have HT := hide (HT.out.below hb9)
           have HB := hide (HB.out.trans (hb9.mono HB.out.size))
           clear hb9)
        | (go_at_call 20
           with_reducible refine (HAC.out _).mono ?_
           rintro e w9 ⟨rfl, hb9⟩
           have HT := hide (HT.out.below hb9)
           have HB := hide (HB.out.trans (hb9.mono HB.out.size))
           clear hb9)
        | (go_at_call 21
           with_reducible refine (HRAB.out _).mono ?_
           rintro e w9 ⟨rfl, hb9⟩
           have HT := hide (HT.out.below hb9)
           have HB := hide (HB.out.trans (hb9.mono HB.out.size))
           clear hb9)
        | (go_at_call 9
           with_reducible refine (HAL.out _ HB.out).mono ?_
           rintro e w9 ⟨rfl, hb9⟩
           have HT := hide (HT.out.below hb9)
           have HB := hide (HB.out.trans (hb9.mono HB.out.size))
           clear hb9))
      go_ret
      exact ⟨rfl, HB.out⟩

theorem cmpI_bd (x y : Int) : -1 ≤ cmpI x y ∧ cmpI x y ≤ 1 := by unfold cmpI; split <;> (try split) <;> omega
theorem lexC_bd : ∀ a b, -1 ≤ lexC a b ∧ lexC a b ≤ 1
  | [], [] => by simp [lexC]
  | [], _ :: _ => by simp [lexC]
  | _ :: _, [] => by simp [lexC]
  | x :: a, y :: b => by
    simp only [lexC]
    split
    · exact lexC_bd a b
    · exact cmpI_bd x y
theorem orF_bd (x y : Int) (hx : -1 ≤ x ∧ x ≤ 1) (hy : -1 ≤ y ∧ y ≤ 1) : -1 ≤ orF x y ∧ orF x y ≤ 1 := by unfold orF; split <;> assumption
theorem cmpP_bd (p q : Int × Int × List Int) : -1 ≤ cmpP p q ∧ cmpP p q ≤ 1 := orF_bd _ _ (cmpI_bd _ _) (orF_bd _ _ (lexC_bd _ _) (cmpI_bd _ _))
theorem orders_any (fa la : Int) (a : List Int) (fb lb : Int) (b : List Int) (fc lc : Int) (c : List Int) (w : World) (ha : a.length = 16) (hb : b.length = 16) (hc : c.length = 16) (hba : Bs a) (hbb : Bs b) (hbc : Bs c) (ht : Tab w) :
    Calls Tryd.prog 6 #[.agg (pvL fa la a).toArray, .agg (pvL fb lb b).toArray, .agg (pvL fc lc c).toArray] w fun e w' => e = .returned (.bool true) ∧ RowKit.Below w.heap.size w w' :=
  orders_core (pvL fa la a) (pvL fb lb b) (pvL fc lc c) (cmpP (fa, la, a) (fb, lb, b)) (cmpP (fb, lb, b) (fc, lc, c)) (cmpP (fa, la, a) (fc, lc, c)) (decide ((fa, la, a) = (fb, lb, b))) w ht
    (by rw [pfx_info]; simp [pvL_len, ha]) (by rw [pfx_info]; simp [pvL_len, hb]) (by rw [pfx_info]; simp [pvL_len, hc])
    (compare_prog fa la a fb lb b ha hb hba hbb) (fun w => by have := compare_prog fb lb b fa la a hb ha hbb hba w; rwa [cmpP_neg] at this) (compare_prog fb lb b fc lc c hb hc hbb hbc)
    (compare_prog fa la a fc lc c ha hc hba hbc) (compare_ref fa la a fb lb b ha hb hba hbb) (eq_pfx (fa, la, a) (fb, lb, b) ha hb) (cmpP_bd _ _)
    (by have := cmpP_zero (fa, la, a) (fb, lb, b); by_cases h : cmpP (fa, la, a) (fb, lb, b) = 0 <;> simp [h, this.symm])
    (fun h1 h2 => (cmpP_trans (fa, la, a) (fb, lb, b) (fc, lc, c) (by omega) (by omega)))
end Go.Proofs.YtgegloplhlkafaaDoor
