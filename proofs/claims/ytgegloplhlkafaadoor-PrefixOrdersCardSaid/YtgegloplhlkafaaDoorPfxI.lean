/- The reference's Compare. -/
import Derived.Test.YtgegloplhlkafaaDoorPfxH
set_option autoImplicit false
namespace Go.Proofs.YtgegloplhlkafaaDoor
open Go.RowKit

theorem lexC_at : ∀ (k : Nat) (a b : List Int) (x y : Int), a[k]? = some x → b[k]? = some y → x ≠ y → (∀ t : Nat, t < k → a[t]? = b[t]?) → lexC a b = cmpI x y
  | 0, u :: a, v :: b, x, y, hx, hy, hne, _ => by
    have e1 : u = x := by simpa using hx
    have e2 : v = y := by simpa using hy
    subst e1; subst e2
    simp only [lexC]; rw [if_neg hne]
  | k + 1, u :: a, v :: b, x, y, hx, hy, hne, hz => by
    have e : u = v := by have := hz 0 (by omega); simpa using this
    subst e
    simp only [lexC]; rw [if_pos trivial]
    exact lexC_at k a b x y (by simpa using hx) (by simpa using hy) hne (fun t ht => by have := hz (t + 1) (by omega); simpa using this)
  | _, [], _, x, _, h, _, _, _ => by simp at h
  | _, _ :: _, [], _, y, _, h, _, _ => by simp at h

set_option maxRecDepth 100000 in
set_option maxHeartbeats 4000000 in
theorem compare_ref (fa la : Int) (a : List Int) (fb lb : Int) (b : List Int) (ha : a.length = 16) (hb : b.length = 16) (hba : Bs a) (hbb : Bs b) (w : World) :
    Calls Tryd.prog 21 #[.agg (pvL fa la a).toArray, .agg (pvL fb lb b).toArray] w fun e w' => e = .returned (.int .i64 (cmpP (fa, la, a) (fb, lb, b))) ∧ Below w.heap.size w w' := by
  obtain ⟨W, hW⟩ : ∃ W, W = (w.alloc (.cells (pvL fa la a).toArray 26)).alloc (.cells (pvL fb lb b).toArray 26) := ⟨_, rfl⟩
  have hT : Two W w.heap.size fa la a fb lb b := by rw [hW]; exact two_new w fa la a fb lb b
  have hB : Below w.heap.size w W := by rw [hW]; exact ((Below.refl _ _).alloc (Nat.le_refl _) _).alloc (by simp) _
  have HT := hide hT
  have HB := hide hB
  have HO := hide order_any
  by_cases hf : fa = fb
  · have hres0 : cmpP (fa, la, a) (fb, lb, b) = orF (lexC a b) (cmpI la lb) := by
      have : cmpI fa fb = 0 := (cmpI_zero fa fb).2 hf
      simp only [cmpP, this]; simp [orF]
    have HR0 := Lib.hid hres0
    have f1 : ((w.alloc (.cells (pvL fa la a).toArray 26)).alloc (.cells (pvL fb lb b).toArray 26)).cell? ⟨w.heap.size, 0, none⟩ = some (.int .i64 fa) := (two_new w fa la a fb lb b).fa0
    have f2 : ((w.alloc (.cells (pvL fa la a).toArray 26)).alloc (.cells (pvL fb lb b).toArray 26)).cell? ⟨w.heap.size + 1, 0, none⟩ = some (.int .i64 fb) := (two_new w fa la a fb lb b).fb0
    subst hf
    have hff : (fa != fa) = false := by simp
    clear hres0 hT hB
    go_enter Tryd.func21, Tryd.ntmps21
    go_wp2
    rw [← hW]
    clear f1 f2 hff hW
    go_loopw [5] (fun i wr => ∃ k : Nat, k ≤ 16 ∧ i = .int .i64 k ∧ (∀ t : Nat, t < k → a[t]? = b[t]?) ∧ Hid (Two wr w.heap.size fa la a fa lb b) ∧ Below w.heap.size w wr) (fun i _ => 16 - (intOf i).toNat)
    case atStart => exact ⟨0, by omega, rfl, fun t h => by omega, HT, HB.out⟩
    case round =>
      obtain ⟨k, hk, rfl, hz, hT, hbel⟩ := hrel
      have HBL := hide hbel
      have HZ := hide hz
      have hk2 : (0 : Int) ≤ (k : Int) := Int.natCast_nonneg _
      clear hbel hz
      by_cases hlt : k < 16
      · have hlt' : (k : Int) < 16 := by omega
        have hka : k < a.length := by omega
        have hkb : k < b.length := by omega
        have CX := hide (hT.out.aa k (.int .u8 a[k]) (by simp [bV, hka]))
        have CY := hide (hT.out.ab k (.int .u8 b[k]) (by simp [bV, hkb]))
        have hax := List.getElem?_eq_getElem hka
        have hby := List.getElem?_eq_getElem hkb
        have hxb := hba.get hka
        have hyb := hbb.get hkb
        by_cases hxy : a[k] = b[k]
        · have HK := Lib.hid (show a[k]? = b[k]? by rw [hax, hby, hxy])
          rw [← hxy] at CY
          have hne : (a[k] != a[k]) = false := by simp
          clear hax hby hxy hyb
          generalize a[k] = x at CX CY hne hxb
          go_wp2_with fail
          refine wp_region_quietC (fun w' => Below wr.heap.size wr w') (by kernel_rfl) (by kernel_rfl) (Below.refl _ _ |>.drew) ?_
          repeat (first
            | go_big_quiet_skip
            | (go_big_quiet_want
               first
               | (refine quiet_load _ _ rfl ⟨w.heap.size, 2 + k, none⟩ rfl _ Tryd.underlying5 rfl _ (fun w' hw' => cell_below CX.out hw') ?_; go_big_quiet_on; simp only [Act.put, List.setIfInBounds_toArray, List.set_cons_zero, List.set_cons_succ])
               | (refine quiet_load _ _ rfl ⟨w.heap.size + 1, 2 + k, none⟩ rfl _ Tryd.underlying5 rfl _ (fun w' hw' => cell_below CY.out hw') ?_; go_big_quiet_on; simp only [Act.put, List.setIfInBounds_toArray, List.set_cons_zero, List.set_cons_succ])
               | (go_big_quiet_op
                  first
                    | go_big_quiet_on
                    | (refine ⟨_, fun _ _ => rfl, ?_⟩; go_big_quiet_on))))
          refine wpQuiet_nil ?_
          intro w' hw'
          go_wp2
          go_roundw
          case rel => exact ⟨k + 1, by omega, by go_num, fun t h1 => by
            by_cases e : t = k
            · subst e; exact HK.out
            · exact HZ.out t (by omega), hide (hT.out.below hw'), HBL.out.trans (hw'.mono HBL.out.size)⟩
          case measure => simp [intOf]; omega
        · have hlx := lexC_at k a b a[k] b[k] hax hby hxy HZ.out
          have hres : cmpP (fa, la, a) (fa, lb, b) = cmpI a[k] b[k] := by
            rw [HR0.out, hlx]
            have : cmpI a[k] b[k] ≠ 0 := fun h => hxy ((cmpI_zero _ _).1 h)
            simp [orF, this]
          have HR := Lib.hid hres
          have hne : (a[k] != b[k]) = true := by simpa using hxy
          clear hax hby hxy hlx hres
          generalize a[k] = x at CX hne hxb HR
          generalize b[k] = y at CY hne hyb HR
          go_wp2_with fail
          refine wp_region_quietC (fun w' => Below wr.heap.size wr w') (by kernel_rfl) (by kernel_rfl) (Below.refl _ _ |>.drew) ?_
          repeat (first
            | go_big_quiet_skip
            | (go_big_quiet_want
               first
               | (refine quiet_load _ _ rfl ⟨w.heap.size, 2 + k, none⟩ rfl _ Tryd.underlying5 rfl _ (fun w' hw' => cell_below CX.out hw') ?_; go_big_quiet_on; simp only [Act.put, List.setIfInBounds_toArray, List.set_cons_zero, List.set_cons_succ])
               | (refine quiet_load _ _ rfl ⟨w.heap.size + 1, 2 + k, none⟩ rfl _ Tryd.underlying5 rfl _ (fun w' hw' => cell_below CY.out hw') ?_; go_big_quiet_on; simp only [Act.put, List.setIfInBounds_toArray, List.set_cons_zero, List.set_cons_succ])
               | (go_big_quiet_op
                  first
                    | go_big_quiet_on
                    | (refine ⟨_, fun _ _ => rfl, ?_⟩; go_big_quiet_on))))
          refine wpQuiet_nil ?_
          intro w' hw'
          have HBW := hide hw'
          have CX' := hide (cell_below CX.out hw')
          have CY' := hide (cell_below CY.out hw')
          obtain ⟨W2, hW2⟩ : ∃ W2, W2 = w' := ⟨_, rfl⟩
          rw [← hW2] at HBW CX' CY' ⊢
          clear hW2 hw' CX CY
          have HOXY := hide (order_any x y)
          go_wp2_with fail
          refine wp_region_quietC (fun w' => Below W2.heap.size W2 w') (by kernel_rfl) (by kernel_rfl) (Below.refl _ _ |>.drew) ?_
          repeat (first
            | go_big_quiet_skip
            | (go_big_quiet_want
               first
               | (refine quiet_load _ _ rfl ⟨w.heap.size, 2 + k, none⟩ rfl _ Tryd.underlying5 rfl _ (fun w' hw' => cell_below CX'.out hw') ?_; go_big_quiet_on; simp only [Act.put, List.setIfInBounds_toArray, List.set_cons_zero, List.set_cons_succ])
               | (refine quiet_load _ _ rfl ⟨w.heap.size + 1, 2 + k, none⟩ rfl _ Tryd.underlying5 rfl _ (fun w' hw' => cell_below CY'.out hw') ?_; go_big_quiet_on; simp only [Act.put, List.setIfInBounds_toArray, List.set_cons_zero, List.set_cons_succ])
               | (go_big_quiet_op
                  first
                    | go_big_quiet_on
                    | (refine ⟨_, fun _ _ => rfl, ?_⟩; go_big_quiet_on)
                    | (refine ⟨_, fun w' hw' => (HOXY.out _).mono (fun e w1 h => ⟨h.1, by rw [← h.2]; exact hw'⟩), ?_⟩; go_big_quiet_on))))
          refine wpQuiet_nil ?_
          intro w' hw'
          go_wp2
          go_ret
          exact ⟨by rw [HR.out]; rfl, HBL.out.trans ((HBW.out.trans (hw'.mono HBW.out.size)).mono HBL.out.size)⟩
      · have hab : a = b := List.ext_getElem? fun i => by
          by_cases hi : i < 16
          · exact HZ.out i (by omega)
          · rw [List.getElem?_eq_none (by omega), List.getElem?_eq_none (by omega)]
        have hres : cmpP (fa, la, a) (fa, lb, b) = cmpI la lb := by
          rw [HR0.out, (lexC_zero a b).2 hab]; simp [orF]
        have HR := Lib.hid hres
        have f1 := hT.out.la1
        have f2 := hT.out.lb1
        clear hres hab
        go_wp2_with (go_at_call 44; refine (HO.out _ _ _).mono ?_; rintro e w1 ⟨rfl, rfl⟩)
        go_ret
        exact ⟨by rw [HR.out]; rfl, HBL.out⟩
  · have hres0 : cmpP (fa, la, a) (fb, lb, b) = cmpI fa fb := by
      have : cmpI fa fb ≠ 0 := fun h => hf ((cmpI_zero fa fb).1 h)
      simp [cmpP, orF, this]
    have f1 : ((w.alloc (.cells (pvL fa la a).toArray 26)).alloc (.cells (pvL fb lb b).toArray 26)).cell? ⟨w.heap.size, 0, none⟩ = some (.int .i64 fa) := (two_new w fa la a fb lb b).fa0
    have f2 : ((w.alloc (.cells (pvL fa la a).toArray 26)).alloc (.cells (pvL fb lb b).toArray 26)).cell? ⟨w.heap.size + 1, 0, none⟩ = some (.int .i64 fb) := (two_new w fa la a fb lb b).fb0
    have hff : (fa != fb) = true := by simpa using hf
    rw [hres0]
    clear hres0 hT hB hf
    go_enter Tryd.func21, Tryd.ntmps21
    go_wp2_with (go_at_call 44; refine (HO.out _ _ _).mono ?_; rintro e w1 ⟨rfl, rfl⟩)
    go_ret
    rw [hW] at HB
    exact ⟨rfl, HB.out⟩
end Go.Proofs.YtgegloplhlkafaaDoor
