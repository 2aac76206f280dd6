/- Laws for struct results; value.Read$1: an attribute that is none, and a verdict. -/
import Derived.Test.YtnfclcbhehbchaaGreatDoorFlgC
set_option autoImplicit false
namespace Go.Proofs.YtnfclcbhehbchaaGreatDoor
open Go.RowKit

theorem extract_all {α : Type} (a : Array α) (n : Nat) (h : a.size = n) : a.extract 0 (0 + n) = a := by subst h; simp
theorem whole_store (cs vs : Array Value) (h : cs.size = vs.size) : (cs.toList.take 0 ++ vs.toList ++ cs.toList.drop (0 + vs.size)).toArray = vs := by
  have e : cs.toList.drop (0 + vs.size) = [] := List.drop_eq_nil_of_le (by simp; omega)
  rw [e]; simp
/-- An aggregate stored over a whole block. -/
theorem wpList_store_whole {P : Program} {ops : Array Oper} {rest : List Oper} {o : Oper} {a : Act} {Q : Exit → Act → World → Prop} (W : World) (hgd : o.guard = none) (ty : TypeId) (p x : Operand) (ho : o.op = .store ty p x)
    (g : Nat) (t : TypeId) (cs vs : Array Value) (hx : a.eval x = .agg vs) (hp : a.eval p = .pointer (some ⟨g, 0, none⟩)) (hg : W.heap[g]? = some (.cells cs t (0, 0)))
    (hi : (P.info? ty).map (·.size) = some vs.size) (hsz : cs.size = vs.size) (h1 : ∀ v ∈ vs.toList, v.oneCell' = true)
    (h : ∀ W', Hid (W'.heap[g]? = some (.cells vs t (0, 0))) → Hid (W.grownBy W' (some g)) → wpList P ops Q rest (a.put o.dst undef) W') :
    wpList P ops Q (o :: rest) a W := by
  refine wpList_store_mid hgd ty p x ho g 0 hp t cs vs hx hg hi (by omega) h1 ?_
  rw [whole_store cs vs hsz]
  refine h _ (hide (setRow_heap W g cs vs _ _ hg)) (hide ?_)
  exact ⟨rfl, rfl, rfl, by simp [World.setRow], fun i hi hne => setRow_other W g i vs (by rintro rfl; exact hne rfl)⟩
theorem step_store_whole {P : Program} {ops : Array Oper} {o : Oper} {a : Act} {K : Act → World → Prop} {Q : Exit → Act → World → Prop} {E : Prop} (W : World) (hgd : o.guard = none) (ty : TypeId) (p x : Operand) (ho : o.op = .store ty p x)
    (g : Nat) (t : TypeId) (cs vs : Array Value) (hx : a.eval x = .agg vs) (hp : a.eval p = .pointer (some ⟨g, 0, none⟩)) (hg : W.heap[g]? = some (.cells cs t (0, 0)))
    (hi : (P.info? ty).map (·.size) = some vs.size) (hsz : cs.size = vs.size) (h1 : ∀ v ∈ vs.toList, v.oneCell' = true)
    (h : ∀ W', Hid (W'.heap[g]? = some (.cells vs t (0, 0))) → Hid (W.grownBy W' (some g)) → K (a.put o.dst undef) W') :
    if Region.wanted o (yielded ops a.tmps) = true then Oper.wp P o a W K Q else E := by
  have hw : Region.wanted o (yielded ops a.tmps) = true := by simp [Region.wanted, hgd]
  rw [if_pos hw]
  unfold Oper.wp execOp
  simp only [ho, hx, hp, Instr.storeAt, Instr.sureAddr, Sem.run_bind, Sem.run_pure, Result.andThen_ok, run_storeVar_mid W g 0 t ty cs vs hg hi (by omega) h1]
  rw [whole_store cs vs hsz]
  refine h _ (hide (setRow_heap W g cs vs _ _ hg)) (hide ?_)
  exact ⟨rfl, rfl, rfl, by simp [World.setRow], fun i hi hne => setRow_other W g i vs (by rintro rfl; exact hne rfl)⟩
theorem step_load_whole {P : Program} {ops : Array Oper} {o : Oper} {a : Act} {K : Act → World → Prop} {Q : Exit → Act → World → Prop} {E : Prop} (w : World) (hgd : o.guard = none) (ty : TypeId) (x : Operand) (ho : o.op = .load ty x)
    (g : Nat) (t : TypeId) (cs : Array Value) (d : TypeDesc) (hx : a.eval x = .pointer (some ⟨g, 0, none⟩)) (hg : w.heap[g]? = some (.cells cs t (0, 0))) (hu : P.underlying ty = some d)
    (hd : (match d with | .struct _ | .array _ _ => true | _ => false) = true) (hi : (P.info? ty).map (·.size) = some cs.size)
    (h : K (a.put o.dst (.agg cs)) w) : if Region.wanted o (yielded ops a.tmps) = true then Oper.wp P o a w K Q else E := by
  have hw : Region.wanted o (yielded ops a.tmps) = true := by simp [Region.wanted, hgd]
  rw [if_pos hw]
  unfold Oper.wp execOp
  simp only [ho, hx, Instr.loadAt, Instr.sureAddr, Sem.run_bind, Sem.run_pure, Result.andThen_ok, run_loadVar_mid w g 0 cs.size t ty cs (0, 0) d hg hu hd hi (by omega)]
  rw [extract_all cs _ rfl]
  exact h
theorem step_load_cell {P : Program} {ops : Array Oper} {o : Oper} {a : Act} {K : Act → World → Prop} {Q : Exit → Act → World → Prop} {E : Prop} (w : World) (hgd : o.guard = none) (ty : TypeId) (x : Operand) (ho : o.op = .load ty x)
    (p : Addr) (d : TypeDesc) (v : Value) (hx : a.eval x = .pointer (some p)) (hc : w.cell? p = some v) (hu : P.underlying ty = some d) (hd : (match d with | .struct _ | .array _ _ => true | _ => false) = false)
    (h : K (a.put o.dst v) w) : if Region.wanted o (yielded ops a.tmps) = true then Oper.wp P o a w K Q else E := by
  have hw : Region.wanted o (yielded ops a.tmps) = true := by simp [Region.wanted, hgd]
  rw [if_pos hw]
  have hagg : (isAgg ty).run P w = .ok false w := by
    unfold isAgg
    rw [Sem.run_bind, run_underlying hu w]
    cases d <;> simp_all
  have hl : (loadVar ty p).run P w = .ok v w := by
    simp [loadVar, Sem.run_bind, hagg, load, Sem.run, hc]
  unfold Oper.wp execOp
  simp only [ho, hx, Instr.loadAt, Instr.sureAddr, Sem.run_bind, Sem.run_pure, Result.andThen_ok, hl]
  exact h

theorem run_loadVar_rowF {P : Program} (w : World) (g : Nat) (t ty : TypeId) (cs : Array Value) (fr : Nat × Nat) (d : TypeDesc) (hg : w.heap[g]? = some (.cells cs t fr)) (hu : P.underlying ty = some d)
    (hd : (match d with | .struct _ | .array _ _ => true | _ => false) = true) (hi : (P.info? ty).map (·.size) = some cs.size) : (loadVar ty ⟨g, 0, none⟩).run P w = .ok (.agg cs) w := by
  rw [run_loadVar_mid w g 0 cs.size t ty cs fr d hg hu hd hi (by omega), extract_all cs _ rfl]
/-- Two struct results in variables. -/
theorem results_cell2 {P : Program} {f : Func} {p q : Tmp} {ty ty' : TypeId} (h : f.results = #[.cell p ty, .cell q ty']) (tmps : Array Value) (w : World) (g g' : Nat) (tt tt' : TypeId) (cs cs' : Array Value)
    (hp : tmps.getD p undef = .pointer (some ⟨g, 0, none⟩)) (hq : tmps.getD q undef = .pointer (some ⟨g', 0, none⟩)) (hg : w.heap[g]? = some (.cells cs tt (0, 0))) (hg' : w.heap[g']? = some (.cells cs' tt' (0, 0)))
    {d d' : TypeDesc} (hu : P.underlying ty = some d) (hu' : P.underlying ty' = some d')
    (hd : (match d with | .struct _ | .array _ _ => true | _ => false) = true) (hd' : (match d' with | .struct _ | .array _ _ => true | _ => false) = true)
    (hi : (P.info? ty).map (·.size) = some cs.size) (hi' : (P.info? ty').map (·.size) = some cs'.size) :
    (results f tmps).run P w = .ok (.tuple #[.agg cs, .agg cs']) w := by
  have hp' : tmps[p]?.getD undef = .pointer (some ⟨g, 0, none⟩) := by simpa using hp
  have hq' : tmps[q]?.getD undef = .pointer (some ⟨g', 0, none⟩) := by simpa using hq
  simp [results, h, hp', hq', asAddr, run_loadVar_rowF w g tt ty cs _ d hg hu hd hi, run_loadVar_rowF w g' tt' ty' cs' _ d' hg' hu' hd' hi']
/-- A struct result in a variable, then a plain one. -/
theorem results_cellT {P : Program} {fn : Func} {p t : Tmp} {ty : TypeId} (h : fn.results = #[.cell p ty, .tmp t]) (tmps : Array Value) (w : World) (g : Nat) (t' : TypeId) (cs : Array Value) (x : Value)
    (hp : tmps.getD p undef = .pointer (some ⟨g, 0, none⟩)) (ht : tmps.getD t undef = x) (hg : w.heap[g]? = some (.cells cs t' (0, 0))) {d : TypeDesc} (hu : P.underlying ty = some d)
    (hd : (match d with | .struct _ | .array _ _ => true | _ => false) = true) (hi : (P.info? ty).map (·.size) = some cs.size) :
    (results fn tmps).run P w = .ok (.tuple #[.agg cs, x]) w := by
  subst ht
  have hp' : tmps[p]?.getD undef = .pointer (some ⟨g, 0, none⟩) := by simpa using hp
  simp [results, h, hp', asAddr, run_loadVar_rowF w g t' ty cs _ d hg hu hd hi]
theorem attr_size : (Tryz.prog.info? 38).map (·.size) = some 9 := by kernel_rfl
end Go.Proofs.YtnfclcbhehbchaaGreatDoor
