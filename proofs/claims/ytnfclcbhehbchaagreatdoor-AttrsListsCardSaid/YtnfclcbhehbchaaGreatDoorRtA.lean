/- Routes as lists: their cells, '==' at two of them, one of them loaded, slices.Clone of them. -/
import Derived.Test.YtnfclcbhehbchaaGreatDoorOctet
import Derived.DeepKeys
import Derived.Test.YtnfclcbhehbchaaGreatDoorFlgI
set_option autoImplicit false
namespace Go.Proofs.YtnfclcbhehbchaaGreatDoor
open Go.RowKit

abbrev Rt := Int × Int × Int × List Int
def rtV (r : Rt) : List Value := .int .u32 r.1 :: .int .i64 r.2.1 :: .int .i64 r.2.2.1 :: bV r.2.2.2
def rtsV (l : List Rt) : List Value := l.flatMap rtV
/-- The numbers of a route lie in their ranges. -/
def WfR (r : Rt) : Prop := (Lit.int .u32 r.1).wf = true ∧ (Lit.int .i64 r.2.1).wf = true ∧ (Lit.int .i64 r.2.2.1).wf = true ∧ ∀ n ∈ r.2.2.2, (Lit.int .u8 n).wf = true
def Rts (l : List Rt) : Prop := ∀ r ∈ l, r.2.2.2.length = 16 ∧ WfR r
theorem rtV_len {r : Rt} (h : r.2.2.2.length = 16) : (rtV r).length = 19 := by simp [rtV, bV_len, h]
theorem rtV_one (r : Rt) : ∀ u ∈ rtV r, u.oneCell' = true := by
  intro u hu
  simp only [rtV, List.mem_cons] at hu
  rcases hu with rfl | rfl | rfl | hu
  · rfl
  · rfl
  · rfl
  · exact bV_one _ u hu
theorem rtsV_one (l : List Rt) : ∀ u ∈ rtsV l, u.oneCell' = true := by
  intro u hu
  simp only [rtsV, List.mem_flatMap] at hu
  obtain ⟨r, _, hu⟩ := hu
  exact rtV_one r u hu
theorem rtsV_len : ∀ {l : List Rt}, Rts l → (rtsV l).length = l.length * 19
  | [], _ => rfl
  | r :: l, h => by
    have h1 := rtV_len (h r (by simp)).1
    have h2 := rtsV_len (l := l) (fun x hx => h x (by simp [hx]))
    simp only [rtsV, List.flatMap_cons, List.length_append, List.length_cons] at h2 ⊢
    rw [h1, h2]; omega
theorem rtsV_at : ∀ {l : List Rt}, Rts l → ∀ (k : Nat) (hk : k < l.length) (j : Nat) (u : Value), (rtV l[k])[j]? = some u → (rtsV l)[k * 19 + j]? = some u
  | r :: l, h, 0, _, j, u, hu => by
    have hj : j < (rtV r).length := (List.getElem?_eq_some_iff.1 hu).1
    simp only [rtsV, List.flatMap_cons, Nat.zero_mul, Nat.zero_add]
    rw [List.getElem?_append_left hj]; exact hu
  | r :: l, h, k + 1, hk, j, u, hu => by
    have h1 := rtV_len (h r (by simp)).1
    have ih := rtsV_at (l := l) (fun x hx => h x (by simp [hx])) k (by simpa using hk) j u hu
    simp only [rtsV, List.flatMap_cons]
    rw [List.getElem?_append_right (by omega), h1, show (k + 1) * 19 + j - 19 = k * 19 + j by omega]
    exact ih
theorem rtV_inj {a b : Rt} (h : rtV a = rtV b) : a = b := by
  obtain ⟨p, f, l, x⟩ := a
  obtain ⟨p', f', l', x'⟩ := b
  simp only [rtV, List.cons.injEq, Value.int.injEq, true_and] at h
  obtain ⟨rfl, rfl, rfl, h⟩ := h
  have : x = x' := by
    have := congrArg (List.map (fun v => match v with | Value.int _ n => n | _ => 0)) h
    simpa [bV, Function.comp_def] using this
  rw [this]

/-- The literals of a route. -/
def litsOf (cs : List Value) : List Lit := cs.map fun | .int k n => .int k n | _ => .bool false
theorem kl_int {d : Nat} {t : TypeId} {q : IntKind} {n : Int} (hu : Tryz.prog.underlying t = some (.int q)) (hw : (Lit.int q n).wf = true) : Tryz.prog.keyLits (d + 1) t [.int q n] = some [.int q n] := by
  unfold Program.keyLits
  rw [hu]
  simp [hw]
theorem kl_u8 {d : Nat} {n : Int} (hw : (Lit.int .u8 n).wf = true) : Tryz.prog.keyLits (d + 1) 5 [.int .u8 n] = some [.int .u8 n] := kl_int Tryz.underlying5 hw
theorem kl_cells : Tryz.prog.cellsOf 5 = 1 ∧ Tryz.prog.cellsOf 51 = 16 ∧ Tryz.prog.cellsOf 53 = 18 ∧ Tryz.prog.cellsOf 55 = 19 ∧ Tryz.prog.cellsOf 3 = 1 ∧ Tryz.prog.cellsOf 32 = 1 := by
  refine ⟨?_, ?_, ?_, ?_, ?_, ?_⟩ <;> kernel_rfl
set_option maxRecDepth 100000 in
theorem kl_arr {d : Nat} {x0 x1 x2 x3 x4 x5 x6 x7 x8 x9 y0 y1 y2 y3 y4 y5 : Int} (hw : ∀ n ∈ [x0, x1, x2, x3, x4, x5, x6, x7, x8, x9, y0, y1, y2, y3, y4, y5], (Lit.int .u8 n).wf = true) :
    Tryz.prog.keyLits (d + 2) 51 [.int .u8 x0, .int .u8 x1, .int .u8 x2, .int .u8 x3, .int .u8 x4, .int .u8 x5, .int .u8 x6, .int .u8 x7, .int .u8 x8, .int .u8 x9, .int .u8 y0, .int .u8 y1, .int .u8 y2, .int .u8 y3, .int .u8 y4, .int .u8 y5] =
      some [.int .u8 x0, .int .u8 x1, .int .u8 x2, .int .u8 x3, .int .u8 x4, .int .u8 x5, .int .u8 x6, .int .u8 x7, .int .u8 x8, .int .u8 x9, .int .u8 y0, .int .u8 y1, .int .u8 y2, .int .u8 y3, .int .u8 y4, .int .u8 y5] := by
  simp only [List.mem_cons, List.not_mem_nil, or_false, forall_eq_or_imp, forall_eq] at hw
  obtain ⟨w0, w1, w2, w3, w4, w5, w6, w7, w8, w9, v0, v1, v2, v3, v4, v5⟩ := hw
  unfold Program.keyLits
  rw [Tryz.underlying51]
  simp only [kl_cells.1, kl_cells.2.1]
  simp [List.range, List.range.loop, kl_u8 w0, kl_u8 w1, kl_u8 w2, kl_u8 w3, kl_u8 w4, kl_u8 w5, kl_u8 w6, kl_u8 w7, kl_u8 w8, kl_u8 w9, kl_u8 v0, kl_u8 v1, kl_u8 v2, kl_u8 v3, kl_u8 v4, kl_u8 v5]
theorem pfx_fieldsR : ∃ f0 f1 f2 : Field, Tryz.prog.underlying 53 = some (.struct #[f0, f1, f2]) ∧ (f0.type = 3 ∧ f1.type = 3 ∧ f2.type = 51) ∧ (f0.offset = 0 ∧ f1.offset = 1 ∧ f2.offset = 2) ∧
    (f0.name != "_") = true ∧ (f1.name != "_") = true ∧ (f2.name != "_") = true := ⟨_, _, _, Tryz.underlying53, ⟨rfl, rfl, rfl⟩, ⟨rfl, rfl, rfl⟩, by decide, by decide, by decide⟩
theorem rt_fieldsR : ∃ f0 f1 : Field, Tryz.prog.underlying 55 = some (.struct #[f0, f1]) ∧ (f0.type = 32 ∧ f1.type = 53) ∧ (f0.offset = 0 ∧ f1.offset = 1) ∧
    (f0.name != "_") = true ∧ (f1.name != "_") = true := ⟨_, _, Tryz.underlying55, ⟨rfl, rfl⟩, ⟨rfl, rfl⟩, by decide, by decide⟩
set_option maxRecDepth 100000 in
theorem rt_lits {p f l x0 x1 x2 x3 x4 x5 x6 x7 x8 x9 y0 y1 y2 y3 y4 y5 : Int} (hp : (Lit.int .u32 p).wf = true) (hf : (Lit.int .i64 f).wf = true) (hl : (Lit.int .i64 l).wf = true) (hw : ∀ n ∈ [x0, x1, x2, x3, x4, x5, x6, x7, x8, x9, y0, y1, y2, y3, y4, y5], (Lit.int .u8 n).wf = true) :
    Tryz.prog.keyLits 8 55 [.int .u32 p, .int .i64 f, .int .i64 l, .int .u8 x0, .int .u8 x1, .int .u8 x2, .int .u8 x3, .int .u8 x4, .int .u8 x5, .int .u8 x6, .int .u8 x7, .int .u8 x8, .int .u8 x9, .int .u8 y0, .int .u8 y1, .int .u8 y2, .int .u8 y3, .int .u8 y4, .int .u8 y5] =
      some [.int .u32 p, .int .i64 f, .int .i64 l, .int .u8 x0, .int .u8 x1, .int .u8 x2, .int .u8 x3, .int .u8 x4, .int .u8 x5, .int .u8 x6, .int .u8 x7, .int .u8 x8, .int .u8 x9, .int .u8 y0, .int .u8 y1, .int .u8 y2, .int .u8 y3, .int .u8 y4, .int .u8 y5] := by
  have ha := kl_arr (d := 4) hw
  obtain ⟨g0, g1, g2, hg, ⟨t0, t1, t2⟩, ⟨o0, o1, o2⟩, n0, n1, n2⟩ := pfx_fieldsR
  obtain ⟨r0, r1, hr, ⟨u0, u1⟩, ⟨q0, q1⟩, m0, m1⟩ := rt_fieldsR
  have hpf : Tryz.prog.keyLits 7 53 [.int .i64 f, .int .i64 l, .int .u8 x0, .int .u8 x1, .int .u8 x2, .int .u8 x3, .int .u8 x4, .int .u8 x5, .int .u8 x6, .int .u8 x7, .int .u8 x8, .int .u8 x9, .int .u8 y0, .int .u8 y1, .int .u8 y2, .int .u8 y3, .int .u8 y4, .int .u8 y5] =
      some [.int .i64 f, .int .i64 l, .int .u8 x0, .int .u8 x1, .int .u8 x2, .int .u8 x3, .int .u8 x4, .int .u8 x5, .int .u8 x6, .int .u8 x7, .int .u8 x8, .int .u8 x9, .int .u8 y0, .int .u8 y1, .int .u8 y2, .int .u8 y3, .int .u8 y4, .int .u8 y5] := by
    unfold Program.keyLits
    rw [hg]
    simp only [kl_cells.2.2.1]
    have k0 := kl_int (d := 5) Tryz.underlying3 hf
    have k1 := kl_int (d := 5) Tryz.underlying3 hl
    simp [n0, n1, n2, t0, t1, t2, o0, o1, o2, kl_cells.2.1, kl_cells.2.2.2.2.1, k0, k1, ha]
  unfold Program.keyLits
  rw [hr]
  simp only [kl_cells.2.2.2.1]
  have k0 := kl_int (d := 6) Tryz.underlying32 hp
  simp [m0, m1, u0, u1, q0, q1, kl_cells.2.2.1, kl_cells.2.2.2.2.2, k0, hpf]
theorem list16 {x : List Int} (h : x.length = 16) : ∃ x0 x1 x2 x3 x4 x5 x6 x7 x8 x9 y0 y1 y2 y3 y4 y5, x = [x0, x1, x2, x3, x4, x5, x6, x7, x8, x9, y0, y1, y2, y3, y4, y5] := by
  match x, h with
  | [x0, x1, x2, x3, x4, x5, x6, x7, x8, x9, y0, y1, y2, y3, y4, y5], _ => exact ⟨x0, x1, x2, x3, x4, x5, x6, x7, x8, x9, y0, y1, y2, y3, y4, y5, rfl⟩
theorem rt_key (r : Rt) (h : r.2.2.2.length = 16) (hw : WfR r) : Tryz.prog.keyLits 8 55 (rtV r) = some (litsOf (rtV r)) := by
  obtain ⟨p, f, l, x⟩ := r
  obtain ⟨x0, x1, x2, x3, x4, x5, x6, x7, x8, x9, y0, y1, y2, y3, y4, y5, rfl⟩ := list16 h
  exact rt_lits hw.1 hw.2.1 hw.2.2.1 hw.2.2.2
theorem lits_inj {a b : Rt} (h : litsOf (rtV a) = litsOf (rtV b)) : a = b := by
  refine rtV_inj ?_
  have key : ∀ r : Rt, (litsOf (rtV r)).map (fun | .int k n => Value.int k n | _ => .nilIface) = rtV r := by
    intro r
    simp [litsOf, rtV, bV, Function.comp_def]
  rw [← key a, h, key b]
theorem rt_type : Tryz.prog.keyTypeAt 4 55 = true := by kernel_rfl
theorem rt_formed (r : Rt) (h : r.2.2.2.length = 16) : (Value.agg (rtV r).toArray).formed Tryz.prog 55 = true := by
  have hl := rtV_len h
  unfold Value.formed
  rw [Tryz.underlying55]
  simp only [kl_cells.2.2.2.1]
  simp [hl]
theorem rt_eq (a b : Rt) (ha : a.2.2.2.length = 16 ∧ WfR a) (hb : b.2.2.2.length = 16 ∧ WfR b) (w : World) :
    (Op.equalIn 10000 55 (.agg (rtV a).toArray) (.agg (rtV b).toArray)).run Tryz.prog w = .ok (decide (a = b)) w := by
  have hde := fun d => run_equalIn_deep (P := Tryz.prog) d 4 55 rt_type
  obtain ⟨r, hr, hiff⟩ := hde 9996 w 8 8 (.agg (rtV a).toArray) (.agg (rtV b).toArray) _ _ (rt_formed a ha.1) (rt_formed b hb.1) (rt_key a ha.1 ha.2) (rt_key b hb.1 hb.2)
  have hr2 : (Op.equalIn 10000 55 (.agg (rtV a).toArray) (.agg (rtV b).toArray)).run Tryz.prog w = .ok r w := hr
  have e : r = decide (a = b) := by
    cases r
    · symm; rw [decide_eq_false_iff_not]; intro e; exact absurd (hiff.2 (by rw [e])) (by simp)
    · symm; rw [decide_eq_true_eq]; exact lits_inj (hiff.1 rfl)
  exact hr2.trans (by rw [e])
theorem rt_size : (Tryz.prog.info? 55).map (·.size) = some 19 := by kernel_rfl
/-- A variable of several cells, read at any address. -/
theorem run_loadVar_at {P : Program} (w : World) (p : Addr) (ty : TypeId) (cs : List Value) (d : TypeDesc) (hc : ∀ j v, cs[j]? = some v → w.cell? (p.add j) = some v)
    (hu : P.underlying ty = some d) (hd : d.isRow = true) (hi : (P.info? ty).map (·.size) = some cs.length) : (loadVar ty p).run P w = .ok (.agg cs.toArray) w := by
  have hl : (loadCells p cs.length).run P w = .ok cs.toArray w := run_loadCells_list (P := P) w p cs hc
  cases hq : P.info? ty with
  | none => simp [hq] at hi
  | some i =>
    have hs : i.size = cs.length := by simpa [hq] using hi
    have hagg : (isAgg ty).run P w = .ok true w := by
      unfold isAgg
      rw [Sem.run_bind, run_underlying hu w]
      cases d <;> simp_all
    simp [loadVar, Sem.run_bind, hagg, sizeOf, typeInfo, hq, hs, hl]
theorem step_load_at {P : Program} {ops : Array Oper} {o : Oper} {a : Act} {K : Act → World → Prop} {Q : Exit → Act → World → Prop} {E : Prop} (w : World) (hgd : o.guard = none) (ty : TypeId) (x : Operand) (ho : o.op = .load ty x)
    (p : Addr) (cs : List Value) (d : TypeDesc) (hx : a.eval x = .pointer (some p)) (hc : ∀ j v, cs[j]? = some v → w.cell? (p.add j) = some v) (hu : P.underlying ty = some d) (hd : d.isRow = true) (hi : (P.info? ty).map (·.size) = some cs.length)
    (h : K (a.put o.dst (.agg cs.toArray)) w) : if Region.wanted o (yielded ops a.tmps) = true then Oper.wp P o a w K Q else E := by
  have hw : Region.wanted o (yielded ops a.tmps) = true := by simp [Region.wanted, hgd]
  rw [if_pos hw]
  unfold Oper.wp execOp
  simp only [ho, hx, Instr.loadAt, Instr.sureAddr, Sem.run_bind, Sem.run_pure, Result.andThen_ok, run_loadVar_at w p ty cs d hc hu hd hi]
  exact h
/-- In a region that only reads: a variable of several cells at any address; '!=' at two such values. -/
theorem quiet_loadA {P : Program} {o : Oper} {a : Act} {C : World → Prop} {K : Act → Prop} (ty : TypeId) (x : Operand) (ho : o.op = .load ty x) (p : Addr) (hx : a.eval x = .pointer (some p)) (v : Value)
    (hl : ∀ w, C w → (loadVar ty p).run P w = .ok v w) (hk : K (a.put o.dst v)) : o.quiet P a C K := by
  refine ⟨v, fun w hw => ?_, hk⟩
  unfold Oper.quietAt execOp
  simp only [ho, hx, Instr.loadAt, Instr.sureAddr, Sem.run_bind, Sem.run_pure, Result.andThen_ok, hl w hw]
  exact ⟨rfl, rfl⟩
theorem quiet_neqA {P : Program} {o : Oper} {a : Act} {C : World → Prop} {K : Act → Prop} (ty ty' : TypeId) (x y : Operand) (ho : o.op = .binOp .neq ty x y ty') (xs ys : Array Value) (hx : a.eval x = .agg xs) (hy : a.eval y = .agg ys) (e : Bool) (hm : P.eqGuardType P.depth ty = false)
    (hl : ∀ w, C w → (Op.equalIn 10000 ty (.agg xs) (.agg ys)).run P w = .ok e w) (hk : K (a.put o.dst (.bool (!e)))) : o.quiet P a C K := by
  refine ⟨.bool (!e), fun w hw => ?_, hk⟩
  unfold Oper.quietAt execOp
  simp only [ho, hx, hy, Sem.run_bind, Sem.run_pure, Result.andThen_ok, run_eqGuard_agg (P := P) _ _ ty _ _ _ _ hm, run_neq_struct, hl w hw]
  exact ⟨rfl, rfl⟩
/-- The route at k of a slice of routes. -/
theorem Reads.rt {w : World} {B : Nat} {A : Option Addr} {l : List Rt} (h : Reads w B 19 A l.length (rtsV l)) (hl : Rts l) {k : Nat} (hk : k < l.length) :
    ∃ ad, A = some ad ∧ ad.block < B ∧ (∀ j v, (rtV l[k])[j]? = some v → w.cell? ((ad.add (k * 19)).add j) = some v) ∧ (rtV l[k]).length = 19 := by
  obtain ⟨ad, e, hb, hc⟩ := h.2 (by omega)
  refine ⟨ad, e, hb, fun j v hv => ?_, rtV_len (hl _ (List.getElem_mem hk)).1⟩
  rw [add_of_add]
  exact hc _ _ (rtsV_at hl k hk j v hv)
end Go.Proofs.YtnfclcbhehbchaaGreatDoor
