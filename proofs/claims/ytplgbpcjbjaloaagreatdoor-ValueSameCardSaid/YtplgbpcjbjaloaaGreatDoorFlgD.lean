/- Laws for struct results; value.Read$1: an attribute that is none, and a verdict. -/
import Derived.Test.YtplgbpcjbjaloaaGreatDoorFlgC
set_option autoImplicit false
namespace Go.Proofs.YtplgbpcjbjaloaaGreatDoor
open Go.RowKit

theorem extract_all {α : Type} (a : Array α) (n : Nat) (h : a.size = n) : a.extract 0 (0 + n) = a := by subst h; simp
theorem whole_store (cs vs : Array Value) (h : cs.size = vs.size) : (cs.toList.take 0 ++ vs.toList ++ cs.toList.drop (0 + vs.size)).toArray = vs := by
  have e : cs.toList.drop (0 + vs.size) = [] := List.drop_eq_nil_of_le (by simp; omega)
  rw [e]; simp
/-- An aggregate stored over a whole block. -/
theorem wpList_store_whole {P : Program} {ops : Array Oper} {rest : List Oper} {o : Oper} {a : Act} {Q : Exit → Act → World → Prop} (W : World) (hgd : o.guard = none) (ty : TypeId) (p x : Operand) (ho : o.op = .store ty p x)
    (g : Nat) (t : TypeId) (cs vs : Array Value) (hx : a.eval x = .agg vs) (hp : a.eval p = .pointer (some ⟨g, 0, none⟩)) (hg : W.heap[g]? = some (.cells cs t (0, 0)))
    (hi : (P.info? ty).map (·.size) = some vs.size) (hsz : cs.size = vs.size) (h1 : ∀ v ∈ vs.toList, v.oneCell' = true)
    (h : ∀ W', Hid (W'.heap[g]? = some (.cells vs t (0, 0))) → Hid (W.grownBy W' (some g)) → wpList P ops Q rest (a.put o.dst undef) W') :
    wpList P ops Q (o :: rest) a W := by
  refine wpList_store_mid hgd ty p x ho g 0 hp t cs vs hx hg hi (by omega) h1 ?_
  rw [whole_store cs vs hsz]
  refine h _ (hide (setRow_heap W g cs vs _ _ hg)) (hide ?_)
  exact ⟨rfl, rfl, rfl, by simp [World.setRow], fun i hi hne => setRow_other W g i vs (by rintro rfl; exact hne rfl)⟩
theorem step_store_whole {P : Program} {ops : Array Oper} {o : Oper} {a : Act} {K : Act → World → Prop} {Q : Exit → Act → World → Prop} {E : Prop} (W : World) (hgd : o.guard = none) (ty : TypeId) (p x : Operand) (ho : o.op = .store ty p x)
    (g : Nat) (t : TypeId) (cs vs : Array Value) (hx : a.eval x = .agg vs) (hp : a.eval p = .pointer (some ⟨g, 0, none⟩)) (hg : W.heap[g]? = some (.cells cs t (0, 0)))
    (hi : (P.info? ty).map (·.size) = some vs.size) (hsz : cs.size = vs.size) (h1 : ∀ v ∈ vs.toList, v.oneCell' = true)
    (h : ∀ W', Hid (W'.heap[g]? = some (.cells vs t (0, 0))) → Hid (W.grownBy W' (some g)) → K (a.put o.dst undef) W') :
    if Region.wanted o (yielded ops a.tmps) = true then Oper.wp P o a W K Q else E := by
  have hw : Region.wanted o (yielded ops a.tmps) = true := by simp [Region.wanted, hgd]
  rw [if_pos hw]
  unfold Oper.wp execOp
  simp only [ho, hx, hp, Instr.storeAt, Instr.sureAddr, Sem.run_bind, Sem.run_pure, Result.andThen_ok, run_storeVar_mid W g 0 t ty cs vs hg hi (by omega) h1]
  rw [whole_store cs vs hsz]
  refine h _ (hide (setRow_heap W g cs vs _ _ hg)) (hide ?_)
  exact ⟨rfl, rfl, rfl, by simp [World.setRow], fun i hi hne => setRow_other W g i vs (by rintro rfl; exact hne rfl)⟩
theorem step_load_whole {P : Program} {ops : Array Oper} {o : Oper} {a : Act} {K : Act → World → Prop} {Q : Exit → Act → World → Prop} {E : Prop} (w : World) (hgd : o.guard = none) (ty : TypeId) (x : Operand) (ho : o.op = .load ty x)
    (g : Nat) (t : TypeId) (cs : Array Value) (d : TypeDesc) (hx : a.eval x = .pointer (some ⟨g, 0, none⟩)) (hg : w.heap[g]? = some (.cells cs t (0, 0))) (hu : P.underlying ty = some d)
    (hd : (match d with | .struct _ | .array _ _ => true | _ => false) = true) (hi : (P.info? ty).map (·.size) = some cs.size)
    (h : K (a.put o.dst (.agg cs)) w) : if Region.wanted o (yielded ops a.tmps) = true then Oper.wp P o a w K Q else E := by
  have hw : Region.wanted o (yielded ops a.tmps) = true := by simp [Region.wanted, hgd]
  rw [if_pos hw]
  unfold Oper.wp execOp
  simp only [ho, hx, Instr.loadAt, Instr.sureAddr, Sem.run_bind, Sem.run_pure, Result.andThen_ok, run_loadVar_mid w g 0 cs.size t ty cs (0, 0) d hg hu hd hi (by omega)]
  rw [extract_all cs _ rfl]
  exact h
theorem step_load_cell {P : Program} {ops : Array Oper} {o : Oper} {a : Act} {K : Act → World → Prop} {Q : Exit → Act → World → Prop} {E : Prop} (w : World) (hgd : o.guard = none) (ty : TypeId) (x : Operand) (ho : o.op = .load ty x)
    (p : Addr) (d : TypeDesc) (v : Value) (hx : a.eval x = .pointer (some p)) (hc : w.cell? p = some v) (hu : P.underlying ty = some d) (hd : (match d with | .struct _ | .array _ _ => true | _ => false) = false)
    (h : K (a.put o.dst v) w) : if Region.wanted o (yielded ops a.tmps) = true then Oper.wp P o a w K Q else E := by
  have hw : Region.wanted o (yielded ops a.tmps) = true := by simp [Region.wanted, hgd]
  rw [if_pos hw]
  have hagg : (isAgg ty).run P w = .ok false w := by
    unfold isAgg
    rw [Sem.run_bind, run_underlying hu w]
    cases d <;> simp_all
  have hl : (loadVar ty p).run P w = .ok v w := by
    simp [loadVar, Sem.run_bind, hagg, load, Sem.run, hc]
  unfold Oper.wp execOp
  simp only [ho, hx, Instr.loadAt, Instr.sureAddr, Sem.run_bind, Sem.run_pure, Result.andThen_ok, hl]
  exact h

theorem run_loadVar_rowF {P : Program} (w : World) (g : Nat) (t ty : TypeId) (cs : Array Value) (fr : Nat × Nat) (d : TypeDesc) (hg : w.heap[g]? = some (.cells cs t fr)) (hu : P.underlying ty = some d)
    (hd : (match d with | .struct _ | .array _ _ => true | _ => false) = true) (hi : (P.info? ty).map (·.size) = some cs.size) : (loadVar ty ⟨g, 0, none⟩).run P w = .ok (.agg cs) w := by
  rw [run_loadVar_mid w g 0 cs.size t ty cs fr d hg hu hd hi (by omega), extract_all cs _ rfl]
/-- Two struct results in variables. -/
theorem results_cell2 {P : Program} {f : Func} {p q : Tmp} {ty ty' : TypeId} (h : f.results = #[.cell p ty, .cell q ty']) (tmps : Array Value) (w : World) (g g' : Nat) (tt tt' : TypeId) (cs cs' : Array Value)
    (hp : tmps.getD p undef = .pointer (some ⟨g, 0, none⟩)) (hq : tmps.getD q undef = .pointer (some ⟨g', 0, none⟩)) (hg : w.heap[g]? = some (.cells cs tt (0, 0))) (hg' : w.heap[g']? = some (.cells cs' tt' (0, 0)))
    {d d' : TypeDesc} (hu : P.underlying ty = some d) (hu' : P.underlying ty' = some d')
    (hd : (match d with | .struct _ | .array _ _ => true | _ => false) = true) (hd' : (match d' with | .struct _ | .array _ _ => true | _ => false) = true)
    (hi : (P.info? ty).map (·.size) = some cs.size) (hi' : (P.info? ty').map (·.size) = some cs'.size) :
    (results f tmps).run P w = .ok (.tuple #[.agg cs, .agg cs']) w := by
  have hp' : tmps[p]?.getD undef = .pointer (some ⟨g, 0, none⟩) := by simpa using hp
  have hq' : tmps[q]?.getD undef = .pointer (some ⟨g', 0, none⟩) := by simpa using hq
  simp [results, h, hp', hq', asAddr, run_loadVar_rowF w g tt ty cs _ d hg hu hd hi, run_loadVar_rowF w g' tt' ty' cs' _ d' hg' hu' hd' hi']
/-- A struct result in a variable, then a plain one. -/
theorem results_cellT {P : Program} {fn : Func} {p t : Tmp} {ty : TypeId} (h : fn.results = #[.cell p ty, .tmp t]) (tmps : Array Value) (w : World) (g : Nat) (t' : TypeId) (cs : Array Value) (x : Value)
    (hp : tmps.getD p undef = .pointer (some ⟨g, 0, none⟩)) (ht : tmps.getD t undef = x) (hg : w.heap[g]? = some (.cells cs t' (0, 0))) {d : TypeDesc} (hu : P.underlying ty = some d)
    (hd : (match d with | .struct _ | .array _ _ => true | _ => false) = true) (hi : (P.info? ty).map (·.size) = some cs.size) :
    (results fn tmps).run P w = .ok (.tuple #[.agg cs, x]) w := by
  subst ht
  have hp' : tmps[p]?.getD undef = .pointer (some ⟨g, 0, none⟩) := by simpa using hp
  simp [results, h, hp', asAddr, run_loadVar_rowF w g t' ty cs _ d hg hu hd hi]
theorem attr_size : (Tryz.prog.info? 28).map (·.size) = some 9 := by kernel_rfl
theorem verdict_size : (Tryz.prog.info? 49).map (·.size) = some 5 := by kernel_rfl
/-- Two fresh blocks, one behind the other, and a variable. -/
structure St (w W : World) (b : Nat) (at_ : Int) (vs1 vs2 : Array Value) : Prop where
  g1 : W.heap[w.heap.size]? = some (.cells vs1 28 (0, 0))
  g2 : W.heap[w.heap.size + 1]? = some (.cells vs2 49 (0, 0))
  cb : W.cell? ⟨b, 0, none⟩ = some (.int .i64 at_)
  lt : b < w.heap.size
  be : Below w.heap.size w W
theorem St.drew {w W : World} {b : Nat} {at_ : Int} {vs1 vs2 : Array Value} (h : St w W b at_ vs1 vs2) : St w W.drew b at_ vs1 vs2 := ⟨h.g1, h.g2, h.cb, h.lt, below_drewN h.be 1⟩
theorem St.one {w W W' : World} {b : Nat} {at_ : Int} {vs1 vs2 us : Array Value} (h : St w W b at_ vs1 vs2) (hg : W'.heap[w.heap.size]? = some (.cells us 28 (0, 0))) (ho : W.grownBy W' (some w.heap.size)) : St w W' b at_ us vs2 := by
  have hb : Below w.heap.size w W' := h.be.grown ho h.be.size (fun k hk => by injection hk; omega)
  have h2 := lt_of_heapF h.g2
  exact ⟨hg, (ho.block _ h2 (by intro e; injection e; omega)).trans h.g2, (hb.cell (p := ⟨b, 0, none⟩) h.lt).trans (((h.be.cell (p := ⟨b, 0, none⟩) h.lt).symm).trans h.cb), h.lt, hb⟩
theorem St.two {w W W' : World} {b : Nat} {at_ : Int} {vs1 vs2 us : Array Value} (h : St w W b at_ vs1 vs2) (hg : W'.heap[w.heap.size + 1]? = some (.cells us 49 (0, 0))) (ho : W.grownBy W' (some (w.heap.size + 1))) : St w W' b at_ vs1 us := by
  have hb : Below w.heap.size w W' := h.be.grown ho h.be.size (fun k hk => by injection hk; omega)
  have h1 := lt_of_heapF h.g1
  exact ⟨(ho.block _ h1 (by intro e; injection e; omega)).trans h.g1, hg, (hb.cell (p := ⟨b, 0, none⟩) h.lt).trans (((h.be.cell (p := ⟨b, 0, none⟩) h.lt).symm).trans h.cb), h.lt, hb⟩
theorem St.start {w : World} {b : Nat} {at_ : Int} (hc : w.cell? ⟨b, 0, none⟩ = some (.int .i64 at_)) :
    St w ((w.alloc (.cells #[.int .i64 0, .bool false, .int .u32 0, .int .u32 0, .slice none 0 0, .slice none 0 0, .slice none 0 0, .int .i64 0, .slice none 0 0] 28)).alloc (.cells #[.int .i64 0, .int .i64 0, .int .i64 0, .slice none 0 0, .int .i64 0] 49)) b at_ #[.int .i64 0, .bool false, .int .u32 0, .int .u32 0, .slice none 0 0, .slice none 0 0, .slice none 0 0, .int .i64 0, .slice none 0 0] #[.int .i64 0, .int .i64 0, .int .i64 0, .slice none 0 0, .int .i64 0] := by
  have hb : b < w.heap.size := by
    rcases Nat.lt_or_ge b w.heap.size with h | h
    · exact h
    · unfold World.cell? at hc; rw [Array.getElem?_eq_none h] at hc; simp at hc
  have hb2 : Below w.heap.size w ((w.alloc (.cells #[.int .i64 0, .bool false, .int .u32 0, .int .u32 0, .slice none 0 0, .slice none 0 0, .slice none 0 0, .int .i64 0, .slice none 0 0] 28)).alloc (.cells #[.int .i64 0, .int .i64 0, .int .i64 0, .slice none 0 0, .int .i64 0] 49)) := ((Below.refl _ _).alloc (Nat.le_refl _) _).alloc (by simp) _
  refine ⟨(Below.heap_alloc _ _ _ (by simp)).trans (heap_alloc_new _ _), ?_, (hb2.cell (p := ⟨b, 0, none⟩) hb).trans hc, hb, hb2⟩
  have := heap_alloc_new (w.alloc (.cells #[.int .i64 0, .bool false, .int .u32 0, .int .u32 0, .slice none 0 0, .slice none 0 0, .slice none 0 0, .int .i64 0, .slice none 0 0] 28)) (.cells #[.int .i64 0, .int .i64 0, .int .i64 0, .slice none 0 0, .int .i64 0] 49)
  simpa using this

set_option maxRecDepth 100000 in
set_option maxHeartbeats 4000000 in
theorem fail_any (kd at_ : Int) (b : Nat) (w : World) (hc : w.cell? ⟨b, 0, none⟩ = some (.int .i64 at_)) : Calls Tryz.prog 31 #[.int .i64 kd, .pointer (some ⟨b, 0, none⟩)] w fun e w' => e = .returned (.tuple #[.agg #[.int .i64 0, .bool false, .int .u32 0, .int .u32 0, .slice none 0 0, .slice none 0 0, .slice none 0 0, .int .i64 0, .slice none 0 0], .agg #[.int .i64 kd, .int .i64 0, .int .i64 0, .slice none 0 0, .int .i64 at_]]) ∧ Below w.heap.size w w' := by
  obtain ⟨W2, hW2⟩ : ∃ W2, W2 = (w.alloc (.cells #[.int .i64 0, .bool false, .int .u32 0, .int .u32 0, .slice none 0 0, .slice none 0 0, .slice none 0 0, .int .i64 0, .slice none 0 0] 28)).alloc (.cells #[.int .i64 0, .int .i64 0, .int .i64 0, .slice none 0 0, .int .i64 0] 49) := ⟨_, rfl⟩
  have hst : St w W2 b at_ #[.int .i64 0, .bool false, .int .u32 0, .int .u32 0, .slice none 0 0, .slice none 0 0, .slice none 0 0, .int .i64 0, .slice none 0 0] #[.int .i64 0, .int .i64 0, .int .i64 0, .slice none 0 0, .int .i64 0] := by rw [hW2]; exact St.start hc
  have MD := hide hst.drew
  have HW2 := Lib.hid hW2
  have has := attr_size
  have HAS := Lib.hid has
  have hvs := verdict_size
  have HVS := Lib.hid hvs
  clear hW2 hst hc has hvs
  go_enter Tryz.func31, Tryz.ntmps31
  go_wp2_with fail
  rw [← HW2.out]
  refine wp_region_any (by kernel_rfl) ?_
  change wpAny _ _ _ _ _ _ _ W2.drew
  refine wpAny_ready (rs := [0, 1, 2]) (by kernel_rfl) (by simp) ?_
  refine (AllReady.cons rfl (fun K_ hK => ?_) (AllReady.cons rfl (fun K_ hK => ?_) (AllReady.cons rfl (fun K_ hK => ?_) AllReady.nil)))
  · go_simp
    refine hK _ _ ?_
    refine wpAny_ready (rs := [1, 2, 4]) (by kernel_rfl) (by simp) ?_
    refine (AllReady.cons rfl (fun K_ hK => ?_) (AllReady.cons rfl (fun K_ hK => ?_) (AllReady.cons rfl (fun K_ hK => ?_) AllReady.nil)))
    · go_simp
      refine hK _ _ ?_
      refine wpAny_ready (rs := [2, 4]) (by kernel_rfl) (by simp) ?_
      refine (AllReady.cons rfl (fun K_ hK => ?_) (AllReady.cons rfl (fun K_ hK => ?_) AllReady.nil))
      · refine step_load_cell W2.drew ?hgd103 _ (.tmp 1) ?ho103 ⟨b, 0, none⟩ _ (.int .i64 at_) ?hx103 MD.out.cb Tryz.underlying3 ?hd103 ?_; (case hgd103 => rfl); (case ho103 => rfl); (case hx103 => rfl); (case hd103 => rfl)
        refine hK _ _ ?_
        refine wpAny_ready (rs := [3, 4]) (by kernel_rfl) (by simp) ?_
        refine (AllReady.cons rfl (fun K_ hK => ?_) (AllReady.cons rfl (fun K_ hK => ?_) AllReady.nil))
        · go_simp
          refine hK _ _ ?_
          refine wpAny_ready (rs := [4]) (by kernel_rfl) (by simp) ?_
          refine (AllReady.cons rfl (fun K_ hK => ?_) AllReady.nil)
          refine step_store_whole W2.drew ?hgd105 _ (.tmp 3) (.tmp 5) ?ho105 w.heap.size 28 #[.int .i64 0, .bool false, .int .u32 0, .int .u32 0, .slice none 0 0, .slice none 0 0, .slice none 0 0, .int .i64 0, .slice none 0 0] #[.int .i64 0, .bool false, .int .u32 0, .int .u32 0, .slice none 0 0, .slice none 0 0, .slice none 0 0, .int .i64 0, .slice none 0 0] ?hx105 ?hp105 MD.out.g1 HAS.out ?hs105 ?hq105 ?_; (case hgd105 => rfl); (case ho105 => rfl); (case hx105 => rfl); (case hp105 => rfl); (case hs105 => rfl); (case hq105 => simp [Value.oneCell'])
          intro W105 F105 O105
          have M105 := hide (MD.out.one F105.out O105.out)
          refine hK _ _ ?_
          refine wpAny_ready (rs := [5]) (by kernel_rfl) (by simp) ?_
          refine (AllReady.cons rfl (fun K_ hK => ?_) AllReady.nil)
          refine step_store_whole W105 ?hgd106 _ (.tmp 4) (.tmp 8) ?ho106 (w.heap.size + 1) 49 #[.int .i64 0, .int .i64 0, .int .i64 0, .slice none 0 0, .int .i64 0] #[.int .i64 kd, .int .i64 0, .int .i64 0, .slice none 0 0, .int .i64 at_] ?hx106 ?hp106 M105.out.g2 HVS.out ?hs106 ?hq106 ?_; (case hgd106 => rfl); (case ho106 => rfl); (case hx106 => rfl); (case hp106 => rfl); (case hs106 => rfl); (case hq106 => simp [Value.oneCell'])
          intro W106 F106 O106
          have M106 := hide (M105.out.two F106.out O106.out)
          refine hK _ _ ?_
          refine wpAny_done (by kernel_rfl) ?_ _
          go_wp2
          exact bodyPost_ret (v := .tuple #[.agg #[.int .i64 0, .bool false, .int .u32 0, .int .u32 0, .slice none 0 0, .slice none 0 0, .slice none 0 0, .int .i64 0, .slice none 0 0], .agg #[.int .i64 kd, .int .i64 0, .int .i64 0, .slice none 0 0, .int .i64 at_]]) (results_cell2 (p := 3) (q := 4) rfl _ _ w.heap.size (w.heap.size + 1) 28 49 _ _ rfl rfl M106.out.g1 M106.out.g2 Tryz.underlying28 Tryz.underlying49 rfl rfl HAS.out HVS.out) rfl ⟨rfl, M106.out.be⟩
        · refine step_store_whole W2.drew ?hgd107 _ (.tmp 3) (.tmp 5) ?ho107 w.heap.size 28 #[.int .i64 0, .bool false, .int .u32 0, .int .u32 0, .slice none 0 0, .slice none 0 0, .slice none 0 0, .int .i64 0, .slice none 0 0] #[.int .i64 0, .bool false, .int .u32 0, .int .u32 0, .slice none 0 0, .slice none 0 0, .slice none 0 0, .int .i64 0, .slice none 0 0] ?hx107 ?hp107 MD.out.g1 HAS.out ?hs107 ?hq107 ?_; (case hgd107 => rfl); (case ho107 => rfl); (case hx107 => rfl); (case hp107 => rfl); (case hs107 => rfl); (case hq107 => simp [Value.oneCell'])
          intro W107 F107 O107
          have M107 := hide (MD.out.one F107.out O107.out)
          refine hK _ _ ?_
          refine wpAny_ready (rs := [3]) (by kernel_rfl) (by simp) ?_
          refine (AllReady.cons rfl (fun K_ hK => ?_) AllReady.nil)
          go_simp
          refine hK _ _ ?_
          refine wpAny_ready (rs := [5]) (by kernel_rfl) (by simp) ?_
          refine (AllReady.cons rfl (fun K_ hK => ?_) AllReady.nil)
          refine step_store_whole W107 ?hgd109 _ (.tmp 4) (.tmp 8) ?ho109 (w.heap.size + 1) 49 #[.int .i64 0, .int .i64 0, .int .i64 0, .slice none 0 0, .int .i64 0] #[.int .i64 kd, .int .i64 0, .int .i64 0, .slice none 0 0, .int .i64 at_] ?hx109 ?hp109 M107.out.g2 HVS.out ?hs109 ?hq109 ?_; (case hgd109 => rfl); (case ho109 => rfl); (case hx109 => rfl); (case hp109 => rfl); (case hs109 => rfl); (case hq109 => simp [Value.oneCell'])
          intro W109 F109 O109
          have M109 := hide (M107.out.two F109.out O109.out)
          refine hK _ _ ?_
          refine wpAny_done (by kernel_rfl) ?_ _
          go_wp2
          exact bodyPost_ret (v := .tuple #[.agg #[.int .i64 0, .bool false, .int .u32 0, .int .u32 0, .slice none 0 0, .slice none 0 0, .slice none 0 0, .int .i64 0, .slice none 0 0], .agg #[.int .i64 kd, .int .i64 0, .int .i64 0, .slice none 0 0, .int .i64 at_]]) (results_cell2 (p := 3) (q := 4) rfl _ _ w.heap.size (w.heap.size + 1) 28 49 _ _ rfl rfl M109.out.g1 M109.out.g2 Tryz.underlying28 Tryz.underlying49 rfl rfl HAS.out HVS.out) rfl ⟨rfl, M109.out.be⟩
      · refine step_store_whole W2.drew ?hgd110 _ (.tmp 3) (.tmp 5) ?ho110 w.heap.size 28 #[.int .i64 0, .bool false, .int .u32 0, .int .u32 0, .slice none 0 0, .slice none 0 0, .slice none 0 0, .int .i64 0, .slice none 0 0] #[.int .i64 0, .bool false, .int .u32 0, .int .u32 0, .slice none 0 0, .slice none 0 0, .slice none 0 0, .int .i64 0, .slice none 0 0] ?hx110 ?hp110 MD.out.g1 HAS.out ?hs110 ?hq110 ?_; (case hgd110 => rfl); (case ho110 => rfl); (case hx110 => rfl); (case hp110 => rfl); (case hs110 => rfl); (case hq110 => simp [Value.oneCell'])
        intro W110 F110 O110
        have M110 := hide (MD.out.one F110.out O110.out)
        refine hK _ _ ?_
        refine wpAny_ready (rs := [2]) (by kernel_rfl) (by simp) ?_
        refine (AllReady.cons rfl (fun K_ hK => ?_) AllReady.nil)
        refine step_load_cell W110 ?hgd111 _ (.tmp 1) ?ho111 ⟨b, 0, none⟩ _ (.int .i64 at_) ?hx111 M110.out.cb Tryz.underlying3 ?hd111 ?_; (case hgd111 => rfl); (case ho111 => rfl); (case hx111 => rfl); (case hd111 => rfl)
        refine hK _ _ ?_
        refine wpAny_ready (rs := [3]) (by kernel_rfl) (by simp) ?_
        refine (AllReady.cons rfl (fun K_ hK => ?_) AllReady.nil)
        go_simp
        refine hK _ _ ?_
        refine wpAny_ready (rs := [5]) (by kernel_rfl) (by simp) ?_
        refine (AllReady.cons rfl (fun K_ hK => ?_) AllReady.nil)
        refine step_store_whole W110 ?hgd113 _ (.tmp 4) (.tmp 8) ?ho113 (w.heap.size + 1) 49 #[.int .i64 0, .int .i64 0, .int .i64 0, .slice none 0 0, .int .i64 0] #[.int .i64 kd, .int .i64 0, .int .i64 0, .slice none 0 0, .int .i64 at_] ?hx113 ?hp113 M110.out.g2 HVS.out ?hs113 ?hq113 ?_; (case hgd113 => rfl); (case ho113 => rfl); (case hx113 => rfl); (case hp113 => rfl); (case hs113 => rfl); (case hq113 => simp [Value.oneCell'])
        intro W113 F113 O113
        have M113 := hide (M110.out.two F113.out O113.out)
        refine hK _ _ ?_
        refine wpAny_done (by kernel_rfl) ?_ _
        go_wp2
        exact bodyPost_ret (v := .tuple #[.agg #[.int .i64 0, .bool false, .int .u32 0, .int .u32 0, .slice none 0 0, .slice none 0 0, .slice none 0 0, .int .i64 0, .slice none 0 0], .agg #[.int .i64 kd, .int .i64 0, .int .i64 0, .slice none 0 0, .int .i64 at_]]) (results_cell2 (p := 3) (q := 4) rfl _ _ w.heap.size (w.heap.size + 1) 28 49 _ _ rfl rfl M113.out.g1 M113.out.g2 Tryz.underlying28 Tryz.underlying49 rfl rfl HAS.out HVS.out) rfl ⟨rfl, M113.out.be⟩
    · refine step_load_cell W2.drew ?hgd114 _ (.tmp 1) ?ho114 ⟨b, 0, none⟩ _ (.int .i64 at_) ?hx114 MD.out.cb Tryz.underlying3 ?hd114 ?_; (case hgd114 => rfl); (case ho114 => rfl); (case hx114 => rfl); (case hd114 => rfl)
      refine hK _ _ ?_
      refine wpAny_ready (rs := [1, 4]) (by kernel_rfl) (by simp) ?_
      refine (AllReady.cons rfl (fun K_ hK => ?_) (AllReady.cons rfl (fun K_ hK => ?_) AllReady.nil))
      · go_simp
        refine hK _ _ ?_
        refine wpAny_ready (rs := [3, 4]) (by kernel_rfl) (by simp) ?_
        refine (AllReady.cons rfl (fun K_ hK => ?_) (AllReady.cons rfl (fun K_ hK => ?_) AllReady.nil))
        · go_simp
          refine hK _ _ ?_
          refine wpAny_ready (rs := [4]) (by kernel_rfl) (by simp) ?_
          refine (AllReady.cons rfl (fun K_ hK => ?_) AllReady.nil)
          refine step_store_whole W2.drew ?hgd117 _ (.tmp 3) (.tmp 5) ?ho117 w.heap.size 28 #[.int .i64 0, .bool false, .int .u32 0, .int .u32 0, .slice none 0 0, .slice none 0 0, .slice none 0 0, .int .i64 0, .slice none 0 0] #[.int .i64 0, .bool false, .int .u32 0, .int .u32 0, .slice none 0 0, .slice none 0 0, .slice none 0 0, .int .i64 0, .slice none 0 0] ?hx117 ?hp117 MD.out.g1 HAS.out ?hs117 ?hq117 ?_; (case hgd117 => rfl); (case ho117 => rfl); (case hx117 => rfl); (case hp117 => rfl); (case hs117 => rfl); (case hq117 => simp [Value.oneCell'])
          intro W117 F117 O117
          have M117 := hide (MD.out.one F117.out O117.out)
          refine hK _ _ ?_
          refine wpAny_ready (rs := [5]) (by kernel_rfl) (by simp) ?_
          refine (AllReady.cons rfl (fun K_ hK => ?_) AllReady.nil)
          refine step_store_whole W117 ?hgd118 _ (.tmp 4) (.tmp 8) ?ho118 (w.heap.size + 1) 49 #[.int .i64 0, .int .i64 0, .int .i64 0, .slice none 0 0, .int .i64 0] #[.int .i64 kd, .int .i64 0, .int .i64 0, .slice none 0 0, .int .i64 at_] ?hx118 ?hp118 M117.out.g2 HVS.out ?hs118 ?hq118 ?_; (case hgd118 => rfl); (case ho118 => rfl); (case hx118 => rfl); (case hp118 => rfl); (case hs118 => rfl); (case hq118 => simp [Value.oneCell'])
          intro W118 F118 O118
          have M118 := hide (M117.out.two F118.out O118.out)
          refine hK _ _ ?_
          refine wpAny_done (by kernel_rfl) ?_ _
          go_wp2
          exact bodyPost_ret (v := .tuple #[.agg #[.int .i64 0, .bool false, .int .u32 0, .int .u32 0, .slice none 0 0, .slice none 0 0, .slice none 0 0, .int .i64 0, .slice none 0 0], .agg #[.int .i64 kd, .int .i64 0, .int .i64 0, .slice none 0 0, .int .i64 at_]]) (results_cell2 (p := 3) (q := 4) rfl _ _ w.heap.size (w.heap.size + 1) 28 49 _ _ rfl rfl M118.out.g1 M118.out.g2 Tryz.underlying28 Tryz.underlying49 rfl rfl HAS.out HVS.out) rfl ⟨rfl, M118.out.be⟩
        · refine step_store_whole W2.drew ?hgd119 _ (.tmp 3) (.tmp 5) ?ho119 w.heap.size 28 #[.int .i64 0, .bool false, .int .u32 0, .int .u32 0, .slice none 0 0, .slice none 0 0, .slice none 0 0, .int .i64 0, .slice none 0 0] #[.int .i64 0, .bool false, .int .u32 0, .int .u32 0, .slice none 0 0, .slice none 0 0, .slice none 0 0, .int .i64 0, .slice none 0 0] ?hx119 ?hp119 MD.out.g1 HAS.out ?hs119 ?hq119 ?_; (case hgd119 => rfl); (case ho119 => rfl); (case hx119 => rfl); (case hp119 => rfl); (case hs119 => rfl); (case hq119 => simp [Value.oneCell'])
          intro W119 F119 O119
          have M119 := hide (MD.out.one F119.out O119.out)
          refine hK _ _ ?_
          refine wpAny_ready (rs := [3]) (by kernel_rfl) (by simp) ?_
          refine (AllReady.cons rfl (fun K_ hK => ?_) AllReady.nil)
          go_simp
          refine hK _ _ ?_
          refine wpAny_ready (rs := [5]) (by kernel_rfl) (by simp) ?_
          refine (AllReady.cons rfl (fun K_ hK => ?_) AllReady.nil)
          refine step_store_whole W119 ?hgd121 _ (.tmp 4) (.tmp 8) ?ho121 (w.heap.size + 1) 49 #[.int .i64 0, .int .i64 0, .int .i64 0, .slice none 0 0, .int .i64 0] #[.int .i64 kd, .int .i64 0, .int .i64 0, .slice none 0 0, .int .i64 at_] ?hx121 ?hp121 M119.out.g2 HVS.out ?hs121 ?hq121 ?_; (case hgd121 => rfl); (case ho121 => rfl); (case hx121 => rfl); (case hp121 => rfl); (case hs121 => rfl); (case hq121 => simp [Value.oneCell'])
          intro W121 F121 O121
          have M121 := hide (M119.out.two F121.out O121.out)
          refine hK _ _ ?_
          refine wpAny_done (by kernel_rfl) ?_ _
          go_wp2
          exact bodyPost_ret (v := .tuple #[.agg #[.int .i64 0, .bool false, .int .u32 0, .int .u32 0, .slice none 0 0, .slice none 0 0, .slice none 0 0, .int .i64 0, .slice none 0 0], .agg #[.int .i64 kd, .int .i64 0, .int .i64 0, .slice none 0 0, .int .i64 at_]]) (results_cell2 (p := 3) (q := 4) rfl _ _ w.heap.size (w.heap.size + 1) 28 49 _ _ rfl rfl M121.out.g1 M121.out.g2 Tryz.underlying28 Tryz.underlying49 rfl rfl HAS.out HVS.out) rfl ⟨rfl, M121.out.be⟩
      · refine step_store_whole W2.drew ?hgd122 _ (.tmp 3) (.tmp 5) ?ho122 w.heap.size 28 #[.int .i64 0, .bool false, .int .u32 0, .int .u32 0, .slice none 0 0, .slice none 0 0, .slice none 0 0, .int .i64 0, .slice none 0 0] #[.int .i64 0, .bool false, .int .u32 0, .int .u32 0, .slice none 0 0, .slice none 0 0, .slice none 0 0, .int .i64 0, .slice none 0 0] ?hx122 ?hp122 MD.out.g1 HAS.out ?hs122 ?hq122 ?_; (case hgd122 => rfl); (case ho122 => rfl); (case hx122 => rfl); (case hp122 => rfl); (case hs122 => rfl); (case hq122 => simp [Value.oneCell'])
        intro W122 F122 O122
        have M122 := hide (MD.out.one F122.out O122.out)
        refine hK _ _ ?_
        refine wpAny_ready (rs := [1]) (by kernel_rfl) (by simp) ?_
        refine (AllReady.cons rfl (fun K_ hK => ?_) AllReady.nil)
        go_simp
        refine hK _ _ ?_
        refine wpAny_ready (rs := [3]) (by kernel_rfl) (by simp) ?_
        refine (AllReady.cons rfl (fun K_ hK => ?_) AllReady.nil)
        go_simp
        refine hK _ _ ?_
        refine wpAny_ready (rs := [5]) (by kernel_rfl) (by simp) ?_
        refine (AllReady.cons rfl (fun K_ hK => ?_) AllReady.nil)
        refine step_store_whole W122 ?hgd125 _ (.tmp 4) (.tmp 8) ?ho125 (w.heap.size + 1) 49 #[.int .i64 0, .int .i64 0, .int .i64 0, .slice none 0 0, .int .i64 0] #[.int .i64 kd, .int .i64 0, .int .i64 0, .slice none 0 0, .int .i64 at_] ?hx125 ?hp125 M122.out.g2 HVS.out ?hs125 ?hq125 ?_; (case hgd125 => rfl); (case ho125 => rfl); (case hx125 => rfl); (case hp125 => rfl); (case hs125 => rfl); (case hq125 => simp [Value.oneCell'])
        intro W125 F125 O125
        have M125 := hide (M122.out.two F125.out O125.out)
        refine hK _ _ ?_
        refine wpAny_done (by kernel_rfl) ?_ _
        go_wp2
        exact bodyPost_ret (v := .tuple #[.agg #[.int .i64 0, .bool false, .int .u32 0, .int .u32 0, .slice none 0 0, .slice none 0 0, .slice none 0 0, .int .i64 0, .slice none 0 0], .agg #[.int .i64 kd, .int .i64 0, .int .i64 0, .slice none 0 0, .int .i64 at_]]) (results_cell2 (p := 3) (q := 4) rfl _ _ w.heap.size (w.heap.size + 1) 28 49 _ _ rfl rfl M125.out.g1 M125.out.g2 Tryz.underlying28 Tryz.underlying49 rfl rfl HAS.out HVS.out) rfl ⟨rfl, M125.out.be⟩
    · refine step_store_whole W2.drew ?hgd126 _ (.tmp 3) (.tmp 5) ?ho126 w.heap.size 28 #[.int .i64 0, .bool false, .int .u32 0, .int .u32 0, .slice none 0 0, .slice none 0 0, .slice none 0 0, .int .i64 0, .slice none 0 0] #[.int .i64 0, .bool false, .int .u32 0, .int .u32 0, .slice none 0 0, .slice none 0 0, .slice none 0 0, .int .i64 0, .slice none 0 0] ?hx126 ?hp126 MD.out.g1 HAS.out ?hs126 ?hq126 ?_; (case hgd126 => rfl); (case ho126 => rfl); (case hx126 => rfl); (case hp126 => rfl); (case hs126 => rfl); (case hq126 => simp [Value.oneCell'])
      intro W126 F126 O126
      have M126 := hide (MD.out.one F126.out O126.out)
      refine hK _ _ ?_
      refine wpAny_ready (rs := [1, 2]) (by kernel_rfl) (by simp) ?_
      refine (AllReady.cons rfl (fun K_ hK => ?_) (AllReady.cons rfl (fun K_ hK => ?_) AllReady.nil))
      · go_simp
        refine hK _ _ ?_
        refine wpAny_ready (rs := [2]) (by kernel_rfl) (by simp) ?_
        refine (AllReady.cons rfl (fun K_ hK => ?_) AllReady.nil)
        refine step_load_cell W126 ?hgd128 _ (.tmp 1) ?ho128 ⟨b, 0, none⟩ _ (.int .i64 at_) ?hx128 M126.out.cb Tryz.underlying3 ?hd128 ?_; (case hgd128 => rfl); (case ho128 => rfl); (case hx128 => rfl); (case hd128 => rfl)
        refine hK _ _ ?_
        refine wpAny_ready (rs := [3]) (by kernel_rfl) (by simp) ?_
        refine (AllReady.cons rfl (fun K_ hK => ?_) AllReady.nil)
        go_simp
        refine hK _ _ ?_
        refine wpAny_ready (rs := [5]) (by kernel_rfl) (by simp) ?_
        refine (AllReady.cons rfl (fun K_ hK => ?_) AllReady.nil)
        refine step_store_whole W126 ?hgd130 _ (.tmp 4) (.tmp 8) ?ho130 (w.heap.size + 1) 49 #[.int .i64 0, .int .i64 0, .int .i64 0, .slice none 0 0, .int .i64 0] #[.int .i64 kd, .int .i64 0, .int .i64 0, .slice none 0 0, .int .i64 at_] ?hx130 ?hp130 M126.out.g2 HVS.out ?hs130 ?hq130 ?_; (case hgd130 => rfl); (case ho130 => rfl); (case hx130 => rfl); (case hp130 => rfl); (case hs130 => rfl); (case hq130 => simp [Value.oneCell'])
        intro W130 F130 O130
        have M130 := hide (M126.out.two F130.out O130.out)
        refine hK _ _ ?_
        refine wpAny_done (by kernel_rfl) ?_ _
        go_wp2
        exact bodyPost_ret (v := .tuple #[.agg #[.int .i64 0, .bool false, .int .u32 0, .int .u32 0, .slice none 0 0, .slice none 0 0, .slice none 0 0, .int .i64 0, .slice none 0 0], .agg #[.int .i64 kd, .int .i64 0, .int .i64 0, .slice none 0 0, .int .i64 at_]]) (results_cell2 (p := 3) (q := 4) rfl _ _ w.heap.size (w.heap.size + 1) 28 49 _ _ rfl rfl M130.out.g1 M130.out.g2 Tryz.underlying28 Tryz.underlying49 rfl rfl HAS.out HVS.out) rfl ⟨rfl, M130.out.be⟩
      · refine step_load_cell W126 ?hgd131 _ (.tmp 1) ?ho131 ⟨b, 0, none⟩ _ (.int .i64 at_) ?hx131 M126.out.cb Tryz.underlying3 ?hd131 ?_; (case hgd131 => rfl); (case ho131 => rfl); (case hx131 => rfl); (case hd131 => rfl)
        refine hK _ _ ?_
        refine wpAny_ready (rs := [1]) (by kernel_rfl) (by simp) ?_
        refine (AllReady.cons rfl (fun K_ hK => ?_) AllReady.nil)
        go_simp
        refine hK _ _ ?_
        refine wpAny_ready (rs := [3]) (by kernel_rfl) (by simp) ?_
        refine (AllReady.cons rfl (fun K_ hK => ?_) AllReady.nil)
        go_simp
        refine hK _ _ ?_
        refine wpAny_ready (rs := [5]) (by kernel_rfl) (by simp) ?_
        refine (AllReady.cons rfl (fun K_ hK => ?_) AllReady.nil)
        refine step_store_whole W126 ?hgd134 _ (.tmp 4) (.tmp 8) ?ho134 (w.heap.size + 1) 49 #[.int .i64 0, .int .i64 0, .int .i64 0, .slice none 0 0, .int .i64 0] #[.int .i64 kd, .int .i64 0, .int .i64 0, .slice none 0 0, .int .i64 at_] ?hx134 ?hp134 M126.out.g2 HVS.out ?hs134 ?hq134 ?_; (case hgd134 => rfl); (case ho134 => rfl); (case hx134 => rfl); (case hp134 => rfl); (case hs134 => rfl); (case hq134 => simp [Value.oneCell'])
        intro W134 F134 O134
        have M134 := hide (M126.out.two F134.out O134.out)
        refine hK _ _ ?_
        refine wpAny_done (by kernel_rfl) ?_ _
        go_wp2
        exact bodyPost_ret (v := .tuple #[.agg #[.int .i64 0, .bool false, .int .u32 0, .int .u32 0, .slice none 0 0, .slice none 0 0, .slice none 0 0, .int .i64 0, .slice none 0 0], .agg #[.int .i64 kd, .int .i64 0, .int .i64 0, .slice none 0 0, .int .i64 at_]]) (results_cell2 (p := 3) (q := 4) rfl _ _ w.heap.size (w.heap.size + 1) 28 49 _ _ rfl rfl M134.out.g1 M134.out.g2 Tryz.underlying28 Tryz.underlying49 rfl rfl HAS.out HVS.out) rfl ⟨rfl, M134.out.be⟩
  · go_simp
    refine hK _ _ ?_
    refine wpAny_ready (rs := [0, 2]) (by kernel_rfl) (by simp) ?_
    refine (AllReady.cons rfl (fun K_ hK => ?_) (AllReady.cons rfl (fun K_ hK => ?_) AllReady.nil))
    · go_simp
      refine hK _ _ ?_
      refine wpAny_ready (rs := [2, 4]) (by kernel_rfl) (by simp) ?_
      refine (AllReady.cons rfl (fun K_ hK => ?_) (AllReady.cons rfl (fun K_ hK => ?_) AllReady.nil))
      · refine step_load_cell W2.drew ?hgd137 _ (.tmp 1) ?ho137 ⟨b, 0, none⟩ _ (.int .i64 at_) ?hx137 MD.out.cb Tryz.underlying3 ?hd137 ?_; (case hgd137 => rfl); (case ho137 => rfl); (case hx137 => rfl); (case hd137 => rfl)
        refine hK _ _ ?_
        refine wpAny_ready (rs := [3, 4]) (by kernel_rfl) (by simp) ?_
        refine (AllReady.cons rfl (fun K_ hK => ?_) (AllReady.cons rfl (fun K_ hK => ?_) AllReady.nil))
        · go_simp
          refine hK _ _ ?_
          refine wpAny_ready (rs := [4]) (by kernel_rfl) (by simp) ?_
          refine (AllReady.cons rfl (fun K_ hK => ?_) AllReady.nil)
          refine step_store_whole W2.drew ?hgd139 _ (.tmp 3) (.tmp 5) ?ho139 w.heap.size 28 #[.int .i64 0, .bool false, .int .u32 0, .int .u32 0, .slice none 0 0, .slice none 0 0, .slice none 0 0, .int .i64 0, .slice none 0 0] #[.int .i64 0, .bool false, .int .u32 0, .int .u32 0, .slice none 0 0, .slice none 0 0, .slice none 0 0, .int .i64 0, .slice none 0 0] ?hx139 ?hp139 MD.out.g1 HAS.out ?hs139 ?hq139 ?_; (case hgd139 => rfl); (case ho139 => rfl); (case hx139 => rfl); (case hp139 => rfl); (case hs139 => rfl); (case hq139 => simp [Value.oneCell'])
          intro W139 F139 O139
          have M139 := hide (MD.out.one F139.out O139.out)
          refine hK _ _ ?_
          refine wpAny_ready (rs := [5]) (by kernel_rfl) (by simp) ?_
          refine (AllReady.cons rfl (fun K_ hK => ?_) AllReady.nil)
          refine step_store_whole W139 ?hgd140 _ (.tmp 4) (.tmp 8) ?ho140 (w.heap.size + 1) 49 #[.int .i64 0, .int .i64 0, .int .i64 0, .slice none 0 0, .int .i64 0] #[.int .i64 kd, .int .i64 0, .int .i64 0, .slice none 0 0, .int .i64 at_] ?hx140 ?hp140 M139.out.g2 HVS.out ?hs140 ?hq140 ?_; (case hgd140 => rfl); (case ho140 => rfl); (case hx140 => rfl); (case hp140 => rfl); (case hs140 => rfl); (case hq140 => simp [Value.oneCell'])
          intro W140 F140 O140
          have M140 := hide (M139.out.two F140.out O140.out)
          refine hK _ _ ?_
          refine wpAny_done (by kernel_rfl) ?_ _
          go_wp2
          exact bodyPost_ret (v := .tuple #[.agg #[.int .i64 0, .bool false, .int .u32 0, .int .u32 0, .slice none 0 0, .slice none 0 0, .slice none 0 0, .int .i64 0, .slice none 0 0], .agg #[.int .i64 kd, .int .i64 0, .int .i64 0, .slice none 0 0, .int .i64 at_]]) (results_cell2 (p := 3) (q := 4) rfl _ _ w.heap.size (w.heap.size + 1) 28 49 _ _ rfl rfl M140.out.g1 M140.out.g2 Tryz.underlying28 Tryz.underlying49 rfl rfl HAS.out HVS.out) rfl ⟨rfl, M140.out.be⟩
        · refine step_store_whole W2.drew ?hgd141 _ (.tmp 3) (.tmp 5) ?ho141 w.heap.size 28 #[.int .i64 0, .bool false, .int .u32 0, .int .u32 0, .slice none 0 0, .slice none 0 0, .slice none 0 0, .int .i64 0, .slice none 0 0] #[.int .i64 0, .bool false, .int .u32 0, .int .u32 0, .slice none 0 0, .slice none 0 0, .slice none 0 0, .int .i64 0, .slice none 0 0] ?hx141 ?hp141 MD.out.g1 HAS.out ?hs141 ?hq141 ?_; (case hgd141 => rfl); (case ho141 => rfl); (case hx141 => rfl); (case hp141 => rfl); (case hs141 => rfl); (case hq141 => simp [Value.oneCell'])
          intro W141 F141 O141
          have M141 := hide (MD.out.one F141.out O141.out)
          refine hK _ _ ?_
          refine wpAny_ready (rs := [3]) (by kernel_rfl) (by simp) ?_
          refine (AllReady.cons rfl (fun K_ hK => ?_) AllReady.nil)
          go_simp
          refine hK _ _ ?_
          refine wpAny_ready (rs := [5]) (by kernel_rfl) (by simp) ?_
          refine (AllReady.cons rfl (fun K_ hK => ?_) AllReady.nil)
          refine step_store_whole W141 ?hgd143 _ (.tmp 4) (.tmp 8) ?ho143 (w.heap.size + 1) 49 #[.int .i64 0, .int .i64 0, .int .i64 0, .slice none 0 0, .int .i64 0] #[.int .i64 kd, .int .i64 0, .int .i64 0, .slice none 0 0, .int .i64 at_] ?hx143 ?hp143 M141.out.g2 HVS.out ?hs143 ?hq143 ?_; (case hgd143 => rfl); (case ho143 => rfl); (case hx143 => rfl); (case hp143 => rfl); (case hs143 => rfl); (case hq143 => simp [Value.oneCell'])
          intro W143 F143 O143
          have M143 := hide (M141.out.two F143.out O143.out)
          refine hK _ _ ?_
          refine wpAny_done (by kernel_rfl) ?_ _
          go_wp2
          exact bodyPost_ret (v := .tuple #[.agg #[.int .i64 0, .bool false, .int .u32 0, .int .u32 0, .slice none 0 0, .slice none 0 0, .slice none 0 0, .int .i64 0, .slice none 0 0], .agg #[.int .i64 kd, .int .i64 0, .int .i64 0, .slice none 0 0, .int .i64 at_]]) (results_cell2 (p := 3) (q := 4) rfl _ _ w.heap.size (w.heap.size + 1) 28 49 _ _ rfl rfl M143.out.g1 M143.out.g2 Tryz.underlying28 Tryz.underlying49 rfl rfl HAS.out HVS.out) rfl ⟨rfl, M143.out.be⟩
      · refine step_store_whole W2.drew ?hgd144 _ (.tmp 3) (.tmp 5) ?ho144 w.heap.size 28 #[.int .i64 0, .bool false, .int .u32 0, .int .u32 0, .slice none 0 0, .slice none 0 0, .slice none 0 0, .int .i64 0, .slice none 0 0] #[.int .i64 0, .bool false, .int .u32 0, .int .u32 0, .slice none 0 0, .slice none 0 0, .slice none 0 0, .int .i64 0, .slice none 0 0] ?hx144 ?hp144 MD.out.g1 HAS.out ?hs144 ?hq144 ?_; (case hgd144 => rfl); (case ho144 => rfl); (case hx144 => rfl); (case hp144 => rfl); (case hs144 => rfl); (case hq144 => simp [Value.oneCell'])
        intro W144 F144 O144
        have M144 := hide (MD.out.one F144.out O144.out)
        refine hK _ _ ?_
        refine wpAny_ready (rs := [2]) (by kernel_rfl) (by simp) ?_
        refine (AllReady.cons rfl (fun K_ hK => ?_) AllReady.nil)
        refine step_load_cell W144 ?hgd145 _ (.tmp 1) ?ho145 ⟨b, 0, none⟩ _ (.int .i64 at_) ?hx145 M144.out.cb Tryz.underlying3 ?hd145 ?_; (case hgd145 => rfl); (case ho145 => rfl); (case hx145 => rfl); (case hd145 => rfl)
        refine hK _ _ ?_
        refine wpAny_ready (rs := [3]) (by kernel_rfl) (by simp) ?_
        refine (AllReady.cons rfl (fun K_ hK => ?_) AllReady.nil)
        go_simp
        refine hK _ _ ?_
        refine wpAny_ready (rs := [5]) (by kernel_rfl) (by simp) ?_
        refine (AllReady.cons rfl (fun K_ hK => ?_) AllReady.nil)
        refine step_store_whole W144 ?hgd147 _ (.tmp 4) (.tmp 8) ?ho147 (w.heap.size + 1) 49 #[.int .i64 0, .int .i64 0, .int .i64 0, .slice none 0 0, .int .i64 0] #[.int .i64 kd, .int .i64 0, .int .i64 0, .slice none 0 0, .int .i64 at_] ?hx147 ?hp147 M144.out.g2 HVS.out ?hs147 ?hq147 ?_; (case hgd147 => rfl); (case ho147 => rfl); (case hx147 => rfl); (case hp147 => rfl); (case hs147 => rfl); (case hq147 => simp [Value.oneCell'])
        intro W147 F147 O147
        have M147 := hide (M144.out.two F147.out O147.out)
        refine hK _ _ ?_
        refine wpAny_done (by kernel_rfl) ?_ _
        go_wp2
        exact bodyPost_ret (v := .tuple #[.agg #[.int .i64 0, .bool false, .int .u32 0, .int .u32 0, .slice none 0 0, .slice none 0 0, .slice none 0 0, .int .i64 0, .slice none 0 0], .agg #[.int .i64 kd, .int .i64 0, .int .i64 0, .slice none 0 0, .int .i64 at_]]) (results_cell2 (p := 3) (q := 4) rfl _ _ w.heap.size (w.heap.size + 1) 28 49 _ _ rfl rfl M147.out.g1 M147.out.g2 Tryz.underlying28 Tryz.underlying49 rfl rfl HAS.out HVS.out) rfl ⟨rfl, M147.out.be⟩
    · refine step_load_cell W2.drew ?hgd148 _ (.tmp 1) ?ho148 ⟨b, 0, none⟩ _ (.int .i64 at_) ?hx148 MD.out.cb Tryz.underlying3 ?hd148 ?_; (case hgd148 => rfl); (case ho148 => rfl); (case hx148 => rfl); (case hd148 => rfl)
      refine hK _ _ ?_
      refine wpAny_ready (rs := [0, 3]) (by kernel_rfl) (by simp) ?_
      refine (AllReady.cons rfl (fun K_ hK => ?_) (AllReady.cons rfl (fun K_ hK => ?_) AllReady.nil))
      · go_simp
        refine hK _ _ ?_
        refine wpAny_ready (rs := [3, 4]) (by kernel_rfl) (by simp) ?_
        refine (AllReady.cons rfl (fun K_ hK => ?_) (AllReady.cons rfl (fun K_ hK => ?_) AllReady.nil))
        · go_simp
          refine hK _ _ ?_
          refine wpAny_ready (rs := [4]) (by kernel_rfl) (by simp) ?_
          refine (AllReady.cons rfl (fun K_ hK => ?_) AllReady.nil)
          refine step_store_whole W2.drew ?hgd151 _ (.tmp 3) (.tmp 5) ?ho151 w.heap.size 28 #[.int .i64 0, .bool false, .int .u32 0, .int .u32 0, .slice none 0 0, .slice none 0 0, .slice none 0 0, .int .i64 0, .slice none 0 0] #[.int .i64 0, .bool false, .int .u32 0, .int .u32 0, .slice none 0 0, .slice none 0 0, .slice none 0 0, .int .i64 0, .slice none 0 0] ?hx151 ?hp151 MD.out.g1 HAS.out ?hs151 ?hq151 ?_; (case hgd151 => rfl); (case ho151 => rfl); (case hx151 => rfl); (case hp151 => rfl); (case hs151 => rfl); (case hq151 => simp [Value.oneCell'])
          intro W151 F151 O151
          have M151 := hide (MD.out.one F151.out O151.out)
          refine hK _ _ ?_
          refine wpAny_ready (rs := [5]) (by kernel_rfl) (by simp) ?_
          refine (AllReady.cons rfl (fun K_ hK => ?_) AllReady.nil)
          refine step_store_whole W151 ?hgd152 _ (.tmp 4) (.tmp 8) ?ho152 (w.heap.size + 1) 49 #[.int .i64 0, .int .i64 0, .int .i64 0, .slice none 0 0, .int .i64 0] #[.int .i64 kd, .int .i64 0, .int .i64 0, .slice none 0 0, .int .i64 at_] ?hx152 ?hp152 M151.out.g2 HVS.out ?hs152 ?hq152 ?_; (case hgd152 => rfl); (case ho152 => rfl); (case hx152 => rfl); (case hp152 => rfl); (case hs152 => rfl); (case hq152 => simp [Value.oneCell'])
          intro W152 F152 O152
          have M152 := hide (M151.out.two F152.out O152.out)
          refine hK _ _ ?_
          refine wpAny_done (by kernel_rfl) ?_ _
          go_wp2
          exact bodyPost_ret (v := .tuple #[.agg #[.int .i64 0, .bool false, .int .u32 0, .int .u32 0, .slice none 0 0, .slice none 0 0, .slice none 0 0, .int .i64 0, .slice none 0 0], .agg #[.int .i64 kd, .int .i64 0, .int .i64 0, .slice none 0 0, .int .i64 at_]]) (results_cell2 (p := 3) (q := 4) rfl _ _ w.heap.size (w.heap.size + 1) 28 49 _ _ rfl rfl M152.out.g1 M152.out.g2 Tryz.underlying28 Tryz.underlying49 rfl rfl HAS.out HVS.out) rfl ⟨rfl, M152.out.be⟩
        · refine step_store_whole W2.drew ?hgd153 _ (.tmp 3) (.tmp 5) ?ho153 w.heap.size 28 #[.int .i64 0, .bool false, .int .u32 0, .int .u32 0, .slice none 0 0, .slice none 0 0, .slice none 0 0, .int .i64 0, .slice none 0 0] #[.int .i64 0, .bool false, .int .u32 0, .int .u32 0, .slice none 0 0, .slice none 0 0, .slice none 0 0, .int .i64 0, .slice none 0 0] ?hx153 ?hp153 MD.out.g1 HAS.out ?hs153 ?hq153 ?_; (case hgd153 => rfl); (case ho153 => rfl); (case hx153 => rfl); (case hp153 => rfl); (case hs153 => rfl); (case hq153 => simp [Value.oneCell'])
          intro W153 F153 O153
          have M153 := hide (MD.out.one F153.out O153.out)
          refine hK _ _ ?_
          refine wpAny_ready (rs := [3]) (by kernel_rfl) (by simp) ?_
          refine (AllReady.cons rfl (fun K_ hK => ?_) AllReady.nil)
          go_simp
          refine hK _ _ ?_
          refine wpAny_ready (rs := [5]) (by kernel_rfl) (by simp) ?_
          refine (AllReady.cons rfl (fun K_ hK => ?_) AllReady.nil)
          refine step_store_whole W153 ?hgd155 _ (.tmp 4) (.tmp 8) ?ho155 (w.heap.size + 1) 49 #[.int .i64 0, .int .i64 0, .int .i64 0, .slice none 0 0, .int .i64 0] #[.int .i64 kd, .int .i64 0, .int .i64 0, .slice none 0 0, .int .i64 at_] ?hx155 ?hp155 M153.out.g2 HVS.out ?hs155 ?hq155 ?_; (case hgd155 => rfl); (case ho155 => rfl); (case hx155 => rfl); (case hp155 => rfl); (case hs155 => rfl); (case hq155 => simp [Value.oneCell'])
          intro W155 F155 O155
          have M155 := hide (M153.out.two F155.out O155.out)
          refine hK _ _ ?_
          refine wpAny_done (by kernel_rfl) ?_ _
          go_wp2
          exact bodyPost_ret (v := .tuple #[.agg #[.int .i64 0, .bool false, .int .u32 0, .int .u32 0, .slice none 0 0, .slice none 0 0, .slice none 0 0, .int .i64 0, .slice none 0 0], .agg #[.int .i64 kd, .int .i64 0, .int .i64 0, .slice none 0 0, .int .i64 at_]]) (results_cell2 (p := 3) (q := 4) rfl _ _ w.heap.size (w.heap.size + 1) 28 49 _ _ rfl rfl M155.out.g1 M155.out.g2 Tryz.underlying28 Tryz.underlying49 rfl rfl HAS.out HVS.out) rfl ⟨rfl, M155.out.be⟩
      · go_simp
        refine hK _ _ ?_
        refine wpAny_ready (rs := [0]) (by kernel_rfl) (by simp) ?_
        refine (AllReady.cons rfl (fun K_ hK => ?_) AllReady.nil)
        go_simp
        refine hK _ _ ?_
        refine wpAny_ready (rs := [4]) (by kernel_rfl) (by simp) ?_
        refine (AllReady.cons rfl (fun K_ hK => ?_) AllReady.nil)
        refine step_store_whole W2.drew ?hgd158 _ (.tmp 3) (.tmp 5) ?ho158 w.heap.size 28 #[.int .i64 0, .bool false, .int .u32 0, .int .u32 0, .slice none 0 0, .slice none 0 0, .slice none 0 0, .int .i64 0, .slice none 0 0] #[.int .i64 0, .bool false, .int .u32 0, .int .u32 0, .slice none 0 0, .slice none 0 0, .slice none 0 0, .int .i64 0, .slice none 0 0] ?hx158 ?hp158 MD.out.g1 HAS.out ?hs158 ?hq158 ?_; (case hgd158 => rfl); (case ho158 => rfl); (case hx158 => rfl); (case hp158 => rfl); (case hs158 => rfl); (case hq158 => simp [Value.oneCell'])
        intro W158 F158 O158
        have M158 := hide (MD.out.one F158.out O158.out)
        refine hK _ _ ?_
        refine wpAny_ready (rs := [5]) (by kernel_rfl) (by simp) ?_
        refine (AllReady.cons rfl (fun K_ hK => ?_) AllReady.nil)
        refine step_store_whole W158 ?hgd159 _ (.tmp 4) (.tmp 8) ?ho159 (w.heap.size + 1) 49 #[.int .i64 0, .int .i64 0, .int .i64 0, .slice none 0 0, .int .i64 0] #[.int .i64 kd, .int .i64 0, .int .i64 0, .slice none 0 0, .int .i64 at_] ?hx159 ?hp159 M158.out.g2 HVS.out ?hs159 ?hq159 ?_; (case hgd159 => rfl); (case ho159 => rfl); (case hx159 => rfl); (case hp159 => rfl); (case hs159 => rfl); (case hq159 => simp [Value.oneCell'])
        intro W159 F159 O159
        have M159 := hide (M158.out.two F159.out O159.out)
        refine hK _ _ ?_
        refine wpAny_done (by kernel_rfl) ?_ _
        go_wp2
        exact bodyPost_ret (v := .tuple #[.agg #[.int .i64 0, .bool false, .int .u32 0, .int .u32 0, .slice none 0 0, .slice none 0 0, .slice none 0 0, .int .i64 0, .slice none 0 0], .agg #[.int .i64 kd, .int .i64 0, .int .i64 0, .slice none 0 0, .int .i64 at_]]) (results_cell2 (p := 3) (q := 4) rfl _ _ w.heap.size (w.heap.size + 1) 28 49 _ _ rfl rfl M159.out.g1 M159.out.g2 Tryz.underlying28 Tryz.underlying49 rfl rfl HAS.out HVS.out) rfl ⟨rfl, M159.out.be⟩
  · refine step_load_cell W2.drew ?hgd160 _ (.tmp 1) ?ho160 ⟨b, 0, none⟩ _ (.int .i64 at_) ?hx160 MD.out.cb Tryz.underlying3 ?hd160 ?_; (case hgd160 => rfl); (case ho160 => rfl); (case hx160 => rfl); (case hd160 => rfl)
    refine hK _ _ ?_
    refine wpAny_ready (rs := [0, 1]) (by kernel_rfl) (by simp) ?_
    refine (AllReady.cons rfl (fun K_ hK => ?_) (AllReady.cons rfl (fun K_ hK => ?_) AllReady.nil))
    · go_simp
      refine hK _ _ ?_
      refine wpAny_ready (rs := [1, 4]) (by kernel_rfl) (by simp) ?_
      refine (AllReady.cons rfl (fun K_ hK => ?_) (AllReady.cons rfl (fun K_ hK => ?_) AllReady.nil))
      · go_simp
        refine hK _ _ ?_
        refine wpAny_ready (rs := [3, 4]) (by kernel_rfl) (by simp) ?_
        refine (AllReady.cons rfl (fun K_ hK => ?_) (AllReady.cons rfl (fun K_ hK => ?_) AllReady.nil))
        · go_simp
          refine hK _ _ ?_
          refine wpAny_ready (rs := [4]) (by kernel_rfl) (by simp) ?_
          refine (AllReady.cons rfl (fun K_ hK => ?_) AllReady.nil)
          refine step_store_whole W2.drew ?hgd164 _ (.tmp 3) (.tmp 5) ?ho164 w.heap.size 28 #[.int .i64 0, .bool false, .int .u32 0, .int .u32 0, .slice none 0 0, .slice none 0 0, .slice none 0 0, .int .i64 0, .slice none 0 0] #[.int .i64 0, .bool false, .int .u32 0, .int .u32 0, .slice none 0 0, .slice none 0 0, .slice none 0 0, .int .i64 0, .slice none 0 0] ?hx164 ?hp164 MD.out.g1 HAS.out ?hs164 ?hq164 ?_; (case hgd164 => rfl); (case ho164 => rfl); (case hx164 => rfl); (case hp164 => rfl); (case hs164 => rfl); (case hq164 => simp [Value.oneCell'])
          intro W164 F164 O164
          have M164 := hide (MD.out.one F164.out O164.out)
          refine hK _ _ ?_
          refine wpAny_ready (rs := [5]) (by kernel_rfl) (by simp) ?_
          refine (AllReady.cons rfl (fun K_ hK => ?_) AllReady.nil)
          refine step_store_whole W164 ?hgd165 _ (.tmp 4) (.tmp 8) ?ho165 (w.heap.size + 1) 49 #[.int .i64 0, .int .i64 0, .int .i64 0, .slice none 0 0, .int .i64 0] #[.int .i64 kd, .int .i64 0, .int .i64 0, .slice none 0 0, .int .i64 at_] ?hx165 ?hp165 M164.out.g2 HVS.out ?hs165 ?hq165 ?_; (case hgd165 => rfl); (case ho165 => rfl); (case hx165 => rfl); (case hp165 => rfl); (case hs165 => rfl); (case hq165 => simp [Value.oneCell'])
          intro W165 F165 O165
          have M165 := hide (M164.out.two F165.out O165.out)
          refine hK _ _ ?_
          refine wpAny_done (by kernel_rfl) ?_ _
          go_wp2
          exact bodyPost_ret (v := .tuple #[.agg #[.int .i64 0, .bool false, .int .u32 0, .int .u32 0, .slice none 0 0, .slice none 0 0, .slice none 0 0, .int .i64 0, .slice none 0 0], .agg #[.int .i64 kd, .int .i64 0, .int .i64 0, .slice none 0 0, .int .i64 at_]]) (results_cell2 (p := 3) (q := 4) rfl _ _ w.heap.size (w.heap.size + 1) 28 49 _ _ rfl rfl M165.out.g1 M165.out.g2 Tryz.underlying28 Tryz.underlying49 rfl rfl HAS.out HVS.out) rfl ⟨rfl, M165.out.be⟩
        · refine step_store_whole W2.drew ?hgd166 _ (.tmp 3) (.tmp 5) ?ho166 w.heap.size 28 #[.int .i64 0, .bool false, .int .u32 0, .int .u32 0, .slice none 0 0, .slice none 0 0, .slice none 0 0, .int .i64 0, .slice none 0 0] #[.int .i64 0, .bool false, .int .u32 0, .int .u32 0, .slice none 0 0, .slice none 0 0, .slice none 0 0, .int .i64 0, .slice none 0 0] ?hx166 ?hp166 MD.out.g1 HAS.out ?hs166 ?hq166 ?_; (case hgd166 => rfl); (case ho166 => rfl); (case hx166 => rfl); (case hp166 => rfl); (case hs166 => rfl); (case hq166 => simp [Value.oneCell'])
          intro W166 F166 O166
          have M166 := hide (MD.out.one F166.out O166.out)
          refine hK _ _ ?_
          refine wpAny_ready (rs := [3]) (by kernel_rfl) (by simp) ?_
          refine (AllReady.cons rfl (fun K_ hK => ?_) AllReady.nil)
          go_simp
          refine hK _ _ ?_
          refine wpAny_ready (rs := [5]) (by kernel_rfl) (by simp) ?_
          refine (AllReady.cons rfl (fun K_ hK => ?_) AllReady.nil)
          refine step_store_whole W166 ?hgd168 _ (.tmp 4) (.tmp 8) ?ho168 (w.heap.size + 1) 49 #[.int .i64 0, .int .i64 0, .int .i64 0, .slice none 0 0, .int .i64 0] #[.int .i64 kd, .int .i64 0, .int .i64 0, .slice none 0 0, .int .i64 at_] ?hx168 ?hp168 M166.out.g2 HVS.out ?hs168 ?hq168 ?_; (case hgd168 => rfl); (case ho168 => rfl); (case hx168 => rfl); (case hp168 => rfl); (case hs168 => rfl); (case hq168 => simp [Value.oneCell'])
          intro W168 F168 O168
          have M168 := hide (M166.out.two F168.out O168.out)
          refine hK _ _ ?_
          refine wpAny_done (by kernel_rfl) ?_ _
          go_wp2
          exact bodyPost_ret (v := .tuple #[.agg #[.int .i64 0, .bool false, .int .u32 0, .int .u32 0, .slice none 0 0, .slice none 0 0, .slice none 0 0, .int .i64 0, .slice none 0 0], .agg #[.int .i64 kd, .int .i64 0, .int .i64 0, .slice none 0 0, .int .i64 at_]]) (results_cell2 (p := 3) (q := 4) rfl _ _ w.heap.size (w.heap.size + 1) 28 49 _ _ rfl rfl M168.out.g1 M168.out.g2 Tryz.underlying28 Tryz.underlying49 rfl rfl HAS.out HVS.out) rfl ⟨rfl, M168.out.be⟩
      · refine step_store_whole W2.drew ?hgd169 _ (.tmp 3) (.tmp 5) ?ho169 w.heap.size 28 #[.int .i64 0, .bool false, .int .u32 0, .int .u32 0, .slice none 0 0, .slice none 0 0, .slice none 0 0, .int .i64 0, .slice none 0 0] #[.int .i64 0, .bool false, .int .u32 0, .int .u32 0, .slice none 0 0, .slice none 0 0, .slice none 0 0, .int .i64 0, .slice none 0 0] ?hx169 ?hp169 MD.out.g1 HAS.out ?hs169 ?hq169 ?_; (case hgd169 => rfl); (case ho169 => rfl); (case hx169 => rfl); (case hp169 => rfl); (case hs169 => rfl); (case hq169 => simp [Value.oneCell'])
        intro W169 F169 O169
        have M169 := hide (MD.out.one F169.out O169.out)
        refine hK _ _ ?_
        refine wpAny_ready (rs := [1]) (by kernel_rfl) (by simp) ?_
        refine (AllReady.cons rfl (fun K_ hK => ?_) AllReady.nil)
        go_simp
        refine hK _ _ ?_
        refine wpAny_ready (rs := [3]) (by kernel_rfl) (by simp) ?_
        refine (AllReady.cons rfl (fun K_ hK => ?_) AllReady.nil)
        go_simp
        refine hK _ _ ?_
        refine wpAny_ready (rs := [5]) (by kernel_rfl) (by simp) ?_
        refine (AllReady.cons rfl (fun K_ hK => ?_) AllReady.nil)
        refine step_store_whole W169 ?hgd172 _ (.tmp 4) (.tmp 8) ?ho172 (w.heap.size + 1) 49 #[.int .i64 0, .int .i64 0, .int .i64 0, .slice none 0 0, .int .i64 0] #[.int .i64 kd, .int .i64 0, .int .i64 0, .slice none 0 0, .int .i64 at_] ?hx172 ?hp172 M169.out.g2 HVS.out ?hs172 ?hq172 ?_; (case hgd172 => rfl); (case ho172 => rfl); (case hx172 => rfl); (case hp172 => rfl); (case hs172 => rfl); (case hq172 => simp [Value.oneCell'])
        intro W172 F172 O172
        have M172 := hide (M169.out.two F172.out O172.out)
        refine hK _ _ ?_
        refine wpAny_done (by kernel_rfl) ?_ _
        go_wp2
        exact bodyPost_ret (v := .tuple #[.agg #[.int .i64 0, .bool false, .int .u32 0, .int .u32 0, .slice none 0 0, .slice none 0 0, .slice none 0 0, .int .i64 0, .slice none 0 0], .agg #[.int .i64 kd, .int .i64 0, .int .i64 0, .slice none 0 0, .int .i64 at_]]) (results_cell2 (p := 3) (q := 4) rfl _ _ w.heap.size (w.heap.size + 1) 28 49 _ _ rfl rfl M172.out.g1 M172.out.g2 Tryz.underlying28 Tryz.underlying49 rfl rfl HAS.out HVS.out) rfl ⟨rfl, M172.out.be⟩
    · go_simp
      refine hK _ _ ?_
      refine wpAny_ready (rs := [0, 3]) (by kernel_rfl) (by simp) ?_
      refine (AllReady.cons rfl (fun K_ hK => ?_) (AllReady.cons rfl (fun K_ hK => ?_) AllReady.nil))
      · go_simp
        refine hK _ _ ?_
        refine wpAny_ready (rs := [3, 4]) (by kernel_rfl) (by simp) ?_
        refine (AllReady.cons rfl (fun K_ hK => ?_) (AllReady.cons rfl (fun K_ hK => ?_) AllReady.nil))
        · go_simp
          refine hK _ _ ?_
          refine wpAny_ready (rs := [4]) (by kernel_rfl) (by simp) ?_
          refine (AllReady.cons rfl (fun K_ hK => ?_) AllReady.nil)
          refine step_store_whole W2.drew ?hgd176 _ (.tmp 3) (.tmp 5) ?ho176 w.heap.size 28 #[.int .i64 0, .bool false, .int .u32 0, .int .u32 0, .slice none 0 0, .slice none 0 0, .slice none 0 0, .int .i64 0, .slice none 0 0] #[.int .i64 0, .bool false, .int .u32 0, .int .u32 0, .slice none 0 0, .slice none 0 0, .slice none 0 0, .int .i64 0, .slice none 0 0] ?hx176 ?hp176 MD.out.g1 HAS.out ?hs176 ?hq176 ?_; (case hgd176 => rfl); (case ho176 => rfl); (case hx176 => rfl); (case hp176 => rfl); (case hs176 => rfl); (case hq176 => simp [Value.oneCell'])
          intro W176 F176 O176
          have M176 := hide (MD.out.one F176.out O176.out)
          refine hK _ _ ?_
          refine wpAny_ready (rs := [5]) (by kernel_rfl) (by simp) ?_
          refine (AllReady.cons rfl (fun K_ hK => ?_) AllReady.nil)
          refine step_store_whole W176 ?hgd177 _ (.tmp 4) (.tmp 8) ?ho177 (w.heap.size + 1) 49 #[.int .i64 0, .int .i64 0, .int .i64 0, .slice none 0 0, .int .i64 0] #[.int .i64 kd, .int .i64 0, .int .i64 0, .slice none 0 0, .int .i64 at_] ?hx177 ?hp177 M176.out.g2 HVS.out ?hs177 ?hq177 ?_; (case hgd177 => rfl); (case ho177 => rfl); (case hx177 => rfl); (case hp177 => rfl); (case hs177 => rfl); (case hq177 => simp [Value.oneCell'])
          intro W177 F177 O177
          have M177 := hide (M176.out.two F177.out O177.out)
          refine hK _ _ ?_
          refine wpAny_done (by kernel_rfl) ?_ _
          go_wp2
          exact bodyPost_ret (v := .tuple #[.agg #[.int .i64 0, .bool false, .int .u32 0, .int .u32 0, .slice none 0 0, .slice none 0 0, .slice none 0 0, .int .i64 0, .slice none 0 0], .agg #[.int .i64 kd, .int .i64 0, .int .i64 0, .slice none 0 0, .int .i64 at_]]) (results_cell2 (p := 3) (q := 4) rfl _ _ w.heap.size (w.heap.size + 1) 28 49 _ _ rfl rfl M177.out.g1 M177.out.g2 Tryz.underlying28 Tryz.underlying49 rfl rfl HAS.out HVS.out) rfl ⟨rfl, M177.out.be⟩
        · refine step_store_whole W2.drew ?hgd178 _ (.tmp 3) (.tmp 5) ?ho178 w.heap.size 28 #[.int .i64 0, .bool false, .int .u32 0, .int .u32 0, .slice none 0 0, .slice none 0 0, .slice none 0 0, .int .i64 0, .slice none 0 0] #[.int .i64 0, .bool false, .int .u32 0, .int .u32 0, .slice none 0 0, .slice none 0 0, .slice none 0 0, .int .i64 0, .slice none 0 0] ?hx178 ?hp178 MD.out.g1 HAS.out ?hs178 ?hq178 ?_; (case hgd178 => rfl); (case ho178 => rfl); (case hx178 => rfl); (case hp178 => rfl); (case hs178 => rfl); (case hq178 => simp [Value.oneCell'])
          intro W178 F178 O178
          have M178 := hide (MD.out.one F178.out O178.out)
          refine hK _ _ ?_
          refine wpAny_ready (rs := [3]) (by kernel_rfl) (by simp) ?_
          refine (AllReady.cons rfl (fun K_ hK => ?_) AllReady.nil)
          go_simp
          refine hK _ _ ?_
          refine wpAny_ready (rs := [5]) (by kernel_rfl) (by simp) ?_
          refine (AllReady.cons rfl (fun K_ hK => ?_) AllReady.nil)
          refine step_store_whole W178 ?hgd180 _ (.tmp 4) (.tmp 8) ?ho180 (w.heap.size + 1) 49 #[.int .i64 0, .int .i64 0, .int .i64 0, .slice none 0 0, .int .i64 0] #[.int .i64 kd, .int .i64 0, .int .i64 0, .slice none 0 0, .int .i64 at_] ?hx180 ?hp180 M178.out.g2 HVS.out ?hs180 ?hq180 ?_; (case hgd180 => rfl); (case ho180 => rfl); (case hx180 => rfl); (case hp180 => rfl); (case hs180 => rfl); (case hq180 => simp [Value.oneCell'])
          intro W180 F180 O180
          have M180 := hide (M178.out.two F180.out O180.out)
          refine hK _ _ ?_
          refine wpAny_done (by kernel_rfl) ?_ _
          go_wp2
          exact bodyPost_ret (v := .tuple #[.agg #[.int .i64 0, .bool false, .int .u32 0, .int .u32 0, .slice none 0 0, .slice none 0 0, .slice none 0 0, .int .i64 0, .slice none 0 0], .agg #[.int .i64 kd, .int .i64 0, .int .i64 0, .slice none 0 0, .int .i64 at_]]) (results_cell2 (p := 3) (q := 4) rfl _ _ w.heap.size (w.heap.size + 1) 28 49 _ _ rfl rfl M180.out.g1 M180.out.g2 Tryz.underlying28 Tryz.underlying49 rfl rfl HAS.out HVS.out) rfl ⟨rfl, M180.out.be⟩
      · go_simp
        refine hK _ _ ?_
        refine wpAny_ready (rs := [0]) (by kernel_rfl) (by simp) ?_
        refine (AllReady.cons rfl (fun K_ hK => ?_) AllReady.nil)
        go_simp
        refine hK _ _ ?_
        refine wpAny_ready (rs := [4]) (by kernel_rfl) (by simp) ?_
        refine (AllReady.cons rfl (fun K_ hK => ?_) AllReady.nil)
        refine step_store_whole W2.drew ?hgd183 _ (.tmp 3) (.tmp 5) ?ho183 w.heap.size 28 #[.int .i64 0, .bool false, .int .u32 0, .int .u32 0, .slice none 0 0, .slice none 0 0, .slice none 0 0, .int .i64 0, .slice none 0 0] #[.int .i64 0, .bool false, .int .u32 0, .int .u32 0, .slice none 0 0, .slice none 0 0, .slice none 0 0, .int .i64 0, .slice none 0 0] ?hx183 ?hp183 MD.out.g1 HAS.out ?hs183 ?hq183 ?_; (case hgd183 => rfl); (case ho183 => rfl); (case hx183 => rfl); (case hp183 => rfl); (case hs183 => rfl); (case hq183 => simp [Value.oneCell'])
        intro W183 F183 O183
        have M183 := hide (MD.out.one F183.out O183.out)
        refine hK _ _ ?_
        refine wpAny_ready (rs := [5]) (by kernel_rfl) (by simp) ?_
        refine (AllReady.cons rfl (fun K_ hK => ?_) AllReady.nil)
        refine step_store_whole W183 ?hgd184 _ (.tmp 4) (.tmp 8) ?ho184 (w.heap.size + 1) 49 #[.int .i64 0, .int .i64 0, .int .i64 0, .slice none 0 0, .int .i64 0] #[.int .i64 kd, .int .i64 0, .int .i64 0, .slice none 0 0, .int .i64 at_] ?hx184 ?hp184 M183.out.g2 HVS.out ?hs184 ?hq184 ?_; (case hgd184 => rfl); (case ho184 => rfl); (case hx184 => rfl); (case hp184 => rfl); (case hs184 => rfl); (case hq184 => simp [Value.oneCell'])
        intro W184 F184 O184
        have M184 := hide (M183.out.two F184.out O184.out)
        refine hK _ _ ?_
        refine wpAny_done (by kernel_rfl) ?_ _
        go_wp2
        exact bodyPost_ret (v := .tuple #[.agg #[.int .i64 0, .bool false, .int .u32 0, .int .u32 0, .slice none 0 0, .slice none 0 0, .slice none 0 0, .int .i64 0, .slice none 0 0], .agg #[.int .i64 kd, .int .i64 0, .int .i64 0, .slice none 0 0, .int .i64 at_]]) (results_cell2 (p := 3) (q := 4) rfl _ _ w.heap.size (w.heap.size + 1) 28 49 _ _ rfl rfl M184.out.g1 M184.out.g2 Tryz.underlying28 Tryz.underlying49 rfl rfl HAS.out HVS.out) rfl ⟨rfl, M184.out.be⟩
end Go.Proofs.YtplgbpcjbjaloaaGreatDoor
