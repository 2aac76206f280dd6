/- The example of chapter 15 holds: the form of an empty update is four zero bytes. -/
import Derived.Test.YtnfclcbhehbchaaGreatDoorUpF
import Derived.Test.YtnfclcbhehbchaaGreatDoorFlgI
import Derived.Test.YtnfclcbhehbchaaGreatDoorEquB
set_option autoImplicit false
namespace Go.Proofs.YtnfclcbhehbchaaGreatDoor
open Go.RowKit
section
variable {P : Program} {ops : Array Oper} {Q : Exit → Act → World → Prop}
theorem step_call_clos {o : Oper} {a : Act} {K : Act → World → Prop} {E : Prop} {w : World} {f : FuncId} {fn : Func} {c : Code} {x : Operand} {cap : Array Value} {xs : Array Operand} {ts : Array TypeId} {args : Array Value} {R : Ending → World → Prop} (hgd : o.guard = none)
    (ho : o.op = .call { callee := .value x, args := xs, argTypes := ts }) (hv : a.eval x = .func (.func f) #[] cap) (hf : P.funcs[f]? = some fn) (hname : (fn.name == "runtime.NumGoroutine") = false) (hb : fn.body = some c) (hx : #[] ++ xs.map a.eval ++ cap = args)
    (hR : Calls P f args w R) (h : ∀ e w', R e w' → ∃ v, e = .returned v ∧ K (a.put o.dst v) w') :
    if Region.wanted o (yielded ops a.tmps) = true then Oper.wp P o a w K Q else E := by
  have hw : Region.wanted o (yielded ops a.tmps) = true := by simp [Region.wanted, hgd]
  rw [if_pos hw]
  have he : (execOp a.eval o).run P w = .ok (.enter f args) w := by
    unfold execOp
    simp only [ho, resolve, Deferred.ofValue, hv, invoke, Sem.run_bind, Sem.run_pure, Result.andThen_ok, hx]
    exact run_callFunc_known hf hname hb args w
  unfold Oper.wp
  rw [he]
  refine hR.mono fun e w' h' => ?_
  obtain ⟨v, rfl, hk⟩ := h e w' h'
  exact hk
end
theorem wpList_wantedG {P : Program} {ops : Array Oper} {Q : Exit → Act → World → Prop} {a : Act} {w : World} {rest : List Oper} {o : Oper} (hg : Region.wanted o (yielded ops a.tmps) = true)
    (h : ∀ K : Act → World → Prop, (∀ a w, wpList P ops Q rest a w → K a w) → o.wp P a w K Q) : wpList P ops Q (o :: rest) a w :=
  wpList_step fun K hK => by simp only [hg, if_true]; exact h K hK
theorem wpList_load_wholeG {P : Program} {ops : Array Oper} {rest : List Oper} {o : Oper} {a : Act} {Q : Exit → Act → World → Prop} (w : World) (hgd : Region.wanted o (yielded ops a.tmps) = true) (ty : TypeId) (x : Operand) (ho : o.op = .load ty x)
    (g : Nat) (t : TypeId) (cs : Array Value) (d : TypeDesc) (hx : a.eval x = .pointer (some ⟨g, 0, none⟩)) (hg : w.heap[g]? = some (.cells cs t (0, 0))) (hu : P.underlying ty = some d)
    (hd : (match d with | .struct _ | .array _ _ => true | _ => false) = true) (hi : (P.info? ty).map (·.size) = some cs.size)
    (h : wpList P ops Q rest (a.put o.dst (.agg cs)) w) : wpList P ops Q (o :: rest) a w :=
  wpList_wantedG hgd fun _ hK => by
    unfold Oper.wp execOp
    simp only [ho, hx, Instr.loadAt, Instr.sureAddr, Sem.run_bind, Sem.run_pure, Result.andThen_ok, run_loadVar_rowF w g t ty cs (0, 0) d hg hu hd hi]
    exact hK _ _ h
theorem options_size : (Tryz.prog.info? 60).map (·.size) = some 6 := by kernel_rfl
theorem upd_sizeG : (Tryz.prog.info? 46).map (·.size) = some 3 := by kernel_rfl
theorem slice_of_ownG {w : World} {base n : Nat} {e : TypeId} {size : Nat} {v : Value} {xs : List Value} (h : w.ownsRow base e size v n xs) :
    ∃ A c, v = .slice A n c ∧ n ≤ c ∧ c ≤ maxLen := by
  rcases h.2 with ⟨e, hn⟩ | ⟨g, cap, cur, e, _, _, h1, h2, _⟩
  · subst e; subst hn; exact ⟨none, 0, rfl, Nat.le_refl _, by simp [maxLen]⟩
  · exact ⟨_, cap, e, h1, h2⟩
set_option maxRecDepth 100000 in
set_option maxHeartbeats 4000000 in
/-- octet.Put of 0 in two bytes. -/
theorem put2_zero (w : World) : Calls Tryz.prog 73 #[.int .i64 2, .int .u32 0] w fun e w' => ∃ v, e = .returned (.tuple #[v, .bool true]) ∧ w'.ownsRow w.heap.size 5 1 v 2 (bV [0, 0]) ∧ Below w.heap.size w w' := by
  obtain ⟨iu, hi0, hi1, hi2, hi3⟩ := info_parts u8_info
  have hmk : ∀ w, (Instr.makeSlice 35 (.int .i64 2) (.int .i64 2)).run Tryz.prog w = .ok (.slice (some ⟨w.heap.size, 0, none⟩) 2 2) (w.alloc (.cells #[.int .u8 0, .int .u8 0] 5)) := fun w => by
    have h := run_make_rowN (P := Tryz.prog) 35 5 iu (.int .u8 0) Tryz.underlying35 hi0 hi1 .i64 .i64 2 2 (Nat.le_refl _) (by rw [hi3]; decide) (by decide) w
    rw [hi2, show madeCells (Value.int .u8 0).cells (2 * 1) = #[.int .u8 0, .int .u8 0] from by
      apply Array.ext
      · simp [madeCells]
      · intro i h1 h2
        have h3 : i < 2 := by simpa using h2
        rcases i with _ | _ | i <;> first | omega | simp [madeCells, Value.cells, Nat.mod_one]] at h
    exact h
  clear hi0 hi1 hi2 hi3
  go_enter Tryz.func73, Tryz.ntmps73
  go_wp2
  have hst : (w.alloc (.cells #[.int .u8 0, .int .u8 0] 5)).ownsRow w.heap.size 5 1 (.slice (some ⟨w.heap.size, 0, none⟩) 2 2) 2 (bV [0, 0]) := World.ownsRow_lit w #[.int .u8 0, .int .u8 0] 2 (Nat.le_refl _) (by simp [maxLen]) (by simp)
  have HST := hide hst
  clear hst hmk
  go_loopw [26] (fun i wr => ∃ j : Nat, j ≤ 2 ∧ i = .int .i64 j ∧ wr.ownsRow w.heap.size 5 1 (.slice (some ⟨w.heap.size, 0, none⟩) 2 2) 2 (bV [0, 0]) ∧ Below w.heap.size w wr) (fun i _ => 2 - (intOf i).toNat)
  case atStart => exact ⟨0, by omega, rfl, HST.out, (Below.refl _ _).alloc (Nat.le_refl _) _⟩
  case round =>
    obtain ⟨j, hj, rfl, hown, hbel⟩ := hrel
    by_cases hlt : j < 2
    · rcases (show j = 0 ∨ j = 1 by omega) with rfl | rfl
      · have hcell : ∃ v, wr.cell? ⟨w.heap.size, 1, none⟩ = some v := ⟨_, hown.cellAt 1 (by omega)⟩
        obtain ⟨v0, hc⟩ := hcell
        have hfz : wr.frozen? ⟨w.heap.size, 1, none⟩ = false := hown.frozenAt _
        have hs := hown.stored 1 (.int .u8 0)
        have hb2 := fun v => hbel.setCell (p := ⟨w.heap.size, 1, none⟩) (Nat.le_refl _) v
        have HS := hide hs
        have HB2 := hide hb2
        clear hs hb2 hown hbel HST
        go_wp2
        go_roundw
        case rel => exact ⟨1, by omega, by go_num, HS.out.1, HB2.out _⟩
        case measure => simp [intOf]
      · have hcell : ∃ v, wr.cell? ⟨w.heap.size, 0, none⟩ = some v := ⟨_, hown.cellAt 0 (by omega)⟩
        obtain ⟨v0, hc⟩ := hcell
        have hfz : wr.frozen? ⟨w.heap.size, 0, none⟩ = false := hown.frozenAt _
        have hs := hown.stored 0 (.int .u8 0)
        have hb2 := fun v => hbel.setCell (p := ⟨w.heap.size, 0, none⟩) (Nat.le_refl _) v
        have HS := hide hs
        have HB2 := hide hb2
        clear hs hb2 hown hbel HST
        go_wp2
        go_roundw
        case rel => exact ⟨2, by omega, by go_num, HS.out.1, HB2.out _⟩
        case measure => simp [intOf]
    · obtain rfl : j = 2 := by omega
      have HO := hide hown
      have HB := hide hbel
      clear hown hbel
      go_wp2
      refine bodyPost_ret (v := .tuple #[.slice (some ⟨w.heap.size, 0, none⟩) 2 2, .bool true]) (by simp [results, Tryz.results73, go_sem]) rfl ?_
      exact ⟨_, rfl, HO.out, HB.out⟩
set_option maxRecDepth 100000 in
set_option maxHeartbeats 4000000 in
theorem measured_nil (w : World) : Calls Tryz.prog 56 #[.slice none 0 0] w fun e w' => ∃ v, e = .returned v ∧ w'.ownsRow w.heap.size 5 1 v 2 (bV [0, 0]) ∧ Below w.heap.size w w' := by
  go_enter Tryz.func56, Tryz.ntmps56
  go_wp2_with (go_at_call 73; refine (put2_zero w).mono ?_; rintro e w1 ⟨v, rfl, ho1, hb1⟩
               obtain ⟨A, c, rfl, hc1, hc2⟩ := slice_of_ownG ho1
               have HO1 := hide ho1
               have B1 := hide hb1
               clear hb1 ho1)
  have hct := cat_two w1 (Value.slice A 2 c) (.slice none 0 0) [0, 0] [] (src_of_own HO1.out rfl) ⟨none, 0, rfl, Reads.none_, bV_one []⟩ (by simp)
  refine hct.mono ?_
  rintro e w4 ⟨v, rfl, ho, hb4⟩
  have HO := hide (own_base ho B1.out.size)
  have B4 := hide (B1.out.trans (hb4.mono B1.out.size))
  clear ho hb4 hct
  go_wp2_with fail
  go_ret
  exact ⟨_, rfl, HO.out, B4.out⟩
set_option maxRecDepth 100000 in
set_option maxHeartbeats 4000000 in
theorem bclos (g k : Nat) (w : World) (hO : w.heap[g]? = some (.cells #[.bool false, .bool false, .bool false, .bool false, .bool false, .bool false] 60 (0, 0))) (hK : w.heap[k]? = some (.cells #[.bool true] 4 (0, 0))) :
    Calls Tryz.prog 52 #[.slice none 0 0, .pointer (some ⟨g, 0, none⟩), .pointer (some ⟨k, 0, none⟩)] w fun e w' => e = .returned (.slice none 0 0) ∧ w.grownBy w' (some k) ∧ w'.heap[k]? = some (.cells #[.bool true] 4 (0, 0)) := by
  have H0 := Lib.hid hO
  have HK := Lib.hid hK
  have has := options_size
  have HAS := Lib.hid has
  clear hO hK has
  go_enter Tryz.func52, Tryz.ntmps52
  go_wp2_with (first
    | ((with_reducible refine wpList_load_wholeG w ?hgd1 60 (.tmp 1) ?ho1 g 60 #[.bool false, .bool false, .bool false, .bool false, .bool false, .bool false] _ ?hx1 H0.out Tryz.underlying60 ?hd1 ?hi1 ?_); (case hgd1 => rfl); (case ho1 => rfl); (case hx1 => rfl); (case hd1 => rfl); (case hi1 => exact HAS.out))
    | (go_at_call 54; refine (add_no w).mono ?_; rintro e w1 ⟨rfl, hb1⟩
       have k1 := (hb1.block _ (lt_of_heapF HK.out)).trans HK.out
       have B1 := hide hb1
       have K1 := Lib.hid k1
       clear hb1 k1)
    | (go_at_call 53; refine (nbytes_nil w1).mono ?_; rintro e w2 ⟨rfl, hb2⟩
       have k2 := (hb2.block _ (lt_of_heapF K1.out)).trans K1.out
       have c2 : w2.cell? ⟨k, 0, none⟩ = some (.bool true) := by rw [cell_of_row _ _ 0 _ _ _ k2]; rfl
       have f2 : w2.frozen? ⟨k, 0, none⟩ = false := by unfold World.frozen?; simp [k2]
       have l2 := lt_of_heapF k2
       have B2 := hide (B1.out.trans (hb2.mono B1.out.size))
       have K2 := Lib.hid k2
       clear hb2 k2))
  go_ret
  refine ⟨rfl, only_setCell (p := ⟨k, 0, none⟩) (only_of_below B2.out _) (.inl rfl) _, ?_⟩
  rw [heap_setCell_same _ _ _ _ _ _ K2.out]
  rfl
/-- The blocks of update.Bytes. -/
structure BU (w V : World) : Prop where
  g0 : V.heap[w.heap.size]? = some (.cells #[.bool false, .bool false, .bool false, .bool false, .bool false, .bool false] 60 (0, 0))
  g1 : V.heap[w.heap.size + 1]? = some (.cells #[.slice none 0 0, .slice none 0 0, .slice none 0 0] 46 (0, 0))
  g2 : V.heap[w.heap.size + 2]? = some (.cells #[.bool true] 4 (0, 0))
  be : Below w.heap.size w V
theorem BU.more {w V V' : World} (h : BU w V) (hb : Below V.heap.size V V') : BU w V' := ⟨(hb.block _ (lt_of_heapF h.g0)).trans h.g0, (hb.block _ (lt_of_heapF h.g1)).trans h.g1, (hb.block _ (lt_of_heapF h.g2)).trans h.g2, h.be.trans (hb.mono h.be.size)⟩
theorem BU.ok {w V V' : World} (h : BU w V) (hg : V.grownBy V' (some (w.heap.size + 2))) (h2 : V'.heap[w.heap.size + 2]? = some (.cells #[.bool true] 4 (0, 0))) : BU w V' :=
  ⟨(hg.block _ (lt_of_heapF h.g0) (by intro e; injection e; omega)).trans h.g0, (hg.block _ (lt_of_heapF h.g1) (by intro e; injection e; omega)).trans h.g1, h2, h.be.grown hg h.be.size (fun k hk => by injection hk; omega)⟩
theorem BU.start (w : World) : BU w (((w.alloc (.cells #[.bool false, .bool false, .bool false, .bool false, .bool false, .bool false] 60)).alloc (.cells #[.slice none 0 0, .slice none 0 0, .slice none 0 0] 46)).alloc (.cells #[.bool true] 4)) := by
  have b0 : Below w.heap.size w (((w.alloc (.cells #[.bool false, .bool false, .bool false, .bool false, .bool false, .bool false] 60)).alloc (.cells #[.slice none 0 0, .slice none 0 0, .slice none 0 0] 46)).alloc (.cells #[.bool true] 4)) := (((Below.refl _ _).alloc (Nat.le_refl _) _).alloc (by simp) _).alloc (by simp; omega) _
  refine ⟨?_, ?_, ?_, b0⟩
  · rw [Below.heap_alloc _ _ _ (by simp; omega)]; exact heap_alloc2_old _ _ _
  · rw [Below.heap_alloc _ _ _ (by simp)]; exact heap_alloc2_new _ _ _
  · have := heap_alloc_new ((w.alloc (.cells #[.bool false, .bool false, .bool false, .bool false, .bool false, .bool false] 60)).alloc (.cells #[.slice none 0 0, .slice none 0 0, .slice none 0 0] 46)) (.cells #[.bool true] 4)
    simpa using this
/-- octet.Cat of three slices. -/
theorem cat_three (V : World) (v1 v2 v3 : Value) (l1 l2 l3 : List Int) (h1 : SrcB V V.heap.size v1 (l1.length, bV l1)) (h2 : SrcB V V.heap.size v2 (l2.length, bV l2)) (h3 : SrcB V V.heap.size v3 (l3.length, bV l3)) (hn : l1.length + l2.length + l3.length ≤ 100000000) :
    Calls Tryz.prog 45 #[.slice (some ⟨V.heap.size, 0, none⟩) 3 3] (V.alloc (.cells #[v1, v2, v3] 35)) fun e w' => ∃ v, e = .returned v ∧ w'.ownsRow V.heap.size 5 1 v (l1.length + (l2.length + l3.length)) (bV (l1 ++ (l2 ++ l3))) ∧ Below V.heap.size V w' := by
  have hb : Below V.heap.size V (V.alloc (.cells #[v1, v2, v3] 35)) := (Below.refl _ _).alloc (Nat.le_refl _) _
  have hg : (V.alloc (.cells #[v1, v2, v3] 35)).heap[V.heap.size]? = some (.cells #[v1, v2, v3] 35 (0, 0)) := heap_alloc_new _ _
  have hsz : (V.alloc (.cells #[v1, v2, v3] 35)).heap.size = V.heap.size + 1 := by simp
  have hc := cat_any (some ⟨V.heap.size, 0, none⟩) 3 [v1, v2, v3] [(l1.length, bV l1), (l2.length, bV l2), (l3.length, bV l3)] (V.alloc (.cells #[v1, v2, v3] 35))
    ⟨by simp, fun _ => ⟨_, rfl, by show V.heap.size < _; rw [hsz]; omega, fun j u hu => World.news_of_block (cs := #[v1, v2, v3]) hg j u (by simpa using hu)⟩⟩ rfl (by simp)
    (fun i v p hv hp => by
      rcases i with _ | _ | _ | i
      · simp at hv hp; subst hv; subst hp; exact (h1.keep hb).more hb.size
      · simp at hv hp; subst hv; subst hp; exact (h2.keep hb).more hb.size
      · simp at hv hp; subst hv; subst hp; exact (h3.keep hb).more hb.size
      · simp at hv) (by simp [totB]; omega)
  refine hc.mono ?_
  rintro e w' ⟨v, rfl, ho, hb2⟩
  refine ⟨v, rfl, ?_, hb.trans (hb2.mono hb.size)⟩
  have ho2 := own_base ho hb.size
  have e1 : totB [(l1.length, bV l1), (l2.length, bV l2), (l3.length, bV l3)] = l1.length + (l2.length + l3.length) := by simp [totB]
  have e2 : catB [(l1.length, bV l1), (l2.length, bV l2), (l3.length, bV l3)] = bV (l1 ++ (l2 ++ l3)) := by simp [catB, bV]
  rw [e1, e2] at ho2
  exact ho2
end Go.Proofs.YtnfclcbhehbchaaGreatDoor
