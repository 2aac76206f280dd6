import Derived.Test.YtgegloplhlkafaaDoorPfxA
set_option autoImplicit false
namespace Go.Proofs.YtgegloplhlkafaaDoor
open Go.RowKit

def pvL (fam len : Int) (a : List Int) : List Value := .int .i64 fam :: .int .i64 len :: bV a
theorem arr_desc : Tryd.prog.underlying 24 = some (.array 16 5) := Tryd.underlying24
theorem bV_inj (a b : List Int) (h : bV a = bV b) : a = b := by
  have := congrArg (List.map (fun v => match v with | Value.int _ n => n | _ => 0)) h
  simpa [bV, Function.comp_def] using this

theorem eq_loop {P : Program} (w : World) (d : Nat) (t e : TypeId) (n : Nat) (a b : List Int) (ht : P.underlying t = some (.array n e)) (he : P.underlying e = some (.int .u8)) (hi : (P.info? e).map (·.size) = some 1) (ha : a.length = n) (hb : b.length = n) :
    (Op.equalIn (d + 2) t (.agg (bytesV a)) (.agg (bytesV b))).run P w = .ok (decide (a = b)) w := by
  unfold Op.equalIn
  rw [Sem.run_bind, run_underlying ht]
  simp only [Result.andThen_ok]
  rw [Sem.run_bind]
  have hs : (sizeOf e).run P w = .ok 1 w := by
    cases hq : P.info? e with
    | none => simp [hq] at hi
    | some i => have : i.size = 1 := by simpa [hq] using hi
                simp [sizeOf, typeInfo, hq, this]
  rw [hs]
  simp only [Result.andThen_ok, Nat.mul_one]
  have hp : ∀ (l : List Int) (i : Nat) (x : Int), l[i]? = some x → (part e (bytesV l) i).run P w = .ok (.int .u8 x) w := by
    intro l i x hx
    have hagg : (isAgg e).run P w = .ok false w := by
      unfold isAgg; rw [Sem.run_bind, run_underlying he w]; rfl
    have hg : (bytesV l)[i]? = some (.int .u8 x) := by simp [bytesV, bV, hx]
    simp [part, Sem.run_bind, hagg, hg]
  have he1 : ∀ x y, (Op.equalIn (d + 1) e (.int .u8 x) (.int .u8 y)).run P w = .ok (x == y) w := fun x y => run_equalIn_int w d e .u8 .u8 x y he
  rw [Std.Legacy.Range.forIn_eq_forIn_range']
  have key : ∀ (m k : Nat), k + m = n → (forIn (List.range' k m) ((none : Option Bool), ()) fun i __s => do
                let __do_lift ← part e (bytesV a) i
                let __do_lift_1 ← part e (bytesV b) i
                let __do_lift ← Op.equalIn (d + 1) e __do_lift __do_lift_1
                if (!__do_lift) = true then pure (ForInStep.done (some false, ()))
                  else pure (ForInStep.yield (none, ()))).run P w = .ok (if a.drop k = b.drop k then (none, ()) else (some false, ())) w := by
    intro m
    induction m with
    | zero =>
      intro k hk
      rw [List.drop_eq_nil_of_le (by omega), List.drop_eq_nil_of_le (by omega)]
      simp
    | succ m ih =>
      intro k hk
      have h1 : k < a.length := by omega
      have h2 : k < b.length := by omega
      rw [List.range'_succ, List.forIn_cons, Sem.run_bind, Sem.run_bind, hp a k a[k] (List.getElem?_eq_getElem h1)]
      simp only [Result.andThen_ok]
      rw [Sem.run_bind, hp b k b[k] (List.getElem?_eq_getElem h2)]
      simp only [Result.andThen_ok]
      rw [Sem.run_bind, he1]
      simp only [Result.andThen_ok]
      rw [List.drop_eq_getElem_cons h1, List.drop_eq_getElem_cons h2]
      by_cases hx : a[k] = b[k]
      · simp only [hx, beq_self_eq_true, Bool.not_true, Bool.false_eq_true, if_false, Sem.run_pure, Result.andThen_ok]
        rw [ih (k + 1) (by omega)]
        by_cases hq : a.drop (k + 1) = b.drop (k + 1)
        · rw [if_pos hq, hq, if_pos rfl]
        · rw [if_neg hq, if_neg (fun h => hq (List.cons.inj h).2)]
      · have hx' : (a[k] == b[k]) = false := by simpa using hx
        simp only [hx', Bool.not_false, if_true, Sem.run_pure, Result.andThen_ok]
        rw [if_neg (by intro h; injection h; contradiction)]
  rw [Sem.run_bind]
  have := key n 0 (by omega)
  simp only [Std.Legacy.Range.size, Nat.sub_zero, Nat.add_sub_cancel, Nat.div_one]
  rw [this]
  simp only [List.drop_zero, Result.andThen_ok]
  by_cases hab : a = b
  · simp [hab]
  · simp [hab]

theorem u8_one : (Tryd.prog.info? 5).map (·.size) = some 1 := by kernel_rfl
theorem eq_arr (a b : List Int) (ha : a.length = 16) (hb : b.length = 16) (w : World) :
    (binOp .eql 24 (.agg (bytesV a)) (.agg (bytesV b))).run Tryd.prog w = .ok (.bool (decide (a = b))) w := by
  rw [run_eql_struct, eq_loop w 9998 24 5 16 a b arr_desc Tryd.underlying5 u8_one ha hb]
  rfl

set_option maxRecDepth 100000 in
set_option maxHeartbeats 400000 in
theorem valid_in (fam len : Int) (a : List Int) (ha : a.length = 16) (w : World) (h : rangedF fam len = true) (hb : Bs a) (h0 : 0 ≤ len) (h1 : len ≤ 128) :
    Calls Tryd.prog 19 #[.agg (pvL fam len a).toArray] w fun e w' => e = .returned (.bool (decide (mTo len 16 a = a))) ∧ Below w.heap.size w w' := by
  have hr := ranged_any fam len
  rw [h] at hr
  have HR := hide hr
  clear hr h
  have hm := masked_any a ha len h0 h1 hb
  have HM := hide hm
  clear hm
  have d2 : (Tryd.prog.info? 24).map (·.size) = some (bV a).length := by rw [arr_info, bV_len, ha]
  have hB : (w.alloc (.cells (pvL fam len a).toArray 26)).heap[w.heap.size]? = some (.cells (pvL fam len a).toArray 26 (0, 0)) := heap_alloc_new _ _
  have hA : (w.alloc (.cells (pvL fam len a).toArray 26)).rangeAt w.heap.size 2 (bV a) := rangeAt_row (xs := [.int .i64 fam, .int .i64 len]) (ys := []) (by rw [List.append_nil]; exact hB)
  have hF : (w.alloc (.cells (pvL fam len a).toArray 26)).cell? ⟨w.heap.size, 0, none⟩ = some (.int .i64 fam) := by rw [cell_of_row _ _ 0 _ _ _ hB]; rfl
  have hL : (w.alloc (.cells (pvL fam len a).toArray 26)).cell? ⟨w.heap.size, 1, none⟩ = some (.int .i64 len) := by rw [cell_of_row _ _ 1 _ _ _ hB]; rfl
  have hq : ∀ w, (binOp .eql 24 (.agg (bytesV (mTo len 16 a))) (.agg (bV a).toArray)).run Tryd.prog w = .ok (.bool (decide (mTo len 16 a = a))) w := eq_arr (mTo len 16 a) a (by rw [mTo_length, ha]) ha
  have hbe : Below w.heap.size w (w.alloc (.cells (pvL fam len a).toArray 26)) := (Below.refl _ _).alloc (Nat.le_refl _) _
  generalize decide (mTo len 16 a = a) = RES at hq ⊢
  clear ha hb hB
  go_enter Tryd.func19, Tryd.ntmps19
  go_wp2_with fail
  obtain ⟨W, hW⟩ : ∃ W, W = w.alloc (.cells (pvL fam len a).toArray 26) := ⟨_, rfl⟩
  rw [← hW] at hA hF hL hbe ⊢
  have HW := hide hW
  have HA := hide hA
  have HF := hide hF
  have HL := hide hL
  clear hW hA hF hL
  refine wp_region_quietC (fun w' => Below W.heap.size W w') (by kernel_rfl) (by kernel_rfl) (Below.refl _ _ |>.drew) ?_
  repeat (first
    | go_big_quiet_skip
    | (go_big_quiet_want
       first
       | (refine quiet_loadR _ _ rfl w.heap.size 2 rfl _ arr_desc rfl (bV a) d2 (fun w' hw' => rangeAt_below HA.out hw') ?_; go_big_quiet_on; simp only [Act.put, List.setIfInBounds_toArray, List.set_cons_zero, List.set_cons_succ])
       | (refine quiet_load _ _ rfl ⟨w.heap.size, 0, none⟩ rfl _ Tryd.underlying3 rfl _ (fun w' hw' => cell_below HF.out hw') ?_; go_big_quiet_on; simp only [Act.put, List.setIfInBounds_toArray, List.set_cons_zero, List.set_cons_succ])
       | (refine quiet_load _ _ rfl ⟨w.heap.size, 1, none⟩ rfl _ Tryd.underlying3 rfl _ (fun w' hw' => cell_below HL.out hw') ?_; go_big_quiet_on; simp only [Act.put, List.setIfInBounds_toArray, List.set_cons_zero, List.set_cons_succ])
       | (go_big_quiet_op
          first
            | go_big_quiet_on
            | (refine ⟨_, fun _ _ => rfl, ?_⟩; go_big_quiet_on)
            | (refine ⟨_, fun _ hw' => (HR.out _).mono (fun e w1 h => ⟨h.1, by rw [← h.2]; exact hw'⟩), ?_⟩; go_big_quiet_on)
            | (refine ⟨_, fun _ hw' => (HM.out _).mono (fun e w1 h => ⟨h.1, hw'.trans (h.2.mono hw'.size)⟩), ?_⟩; go_big_quiet_on))))
  refine wpQuiet_nil ?_
  intro w' hw'
  go_wp2
  go_ret
  exact ⟨rfl, hbe.trans (hw'.mono hbe.size)⟩
end Go.Proofs.YtgegloplhlkafaaDoor
