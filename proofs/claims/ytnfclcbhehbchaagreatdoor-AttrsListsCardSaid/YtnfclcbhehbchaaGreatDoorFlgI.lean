/- A region that draws its order, once and for all orders: a condition on what is listed, kept by every operation; no program. -/
import Derived.Test.YtnfclcbhehbchaaGreatDoorFlgD
set_option autoImplicit false
namespace Go.Proofs.YtnfclcbhehbchaaGreatDoor
open Go.RowKit

theorem filter_lt {α : Type} (p q : α → Bool) (x : α) (hp : p x = true) (hq : q x = false) : ∀ l : List α, (∀ y, q y = true → p y = true) → x ∈ l → (l.filter q).length < (l.filter p).length
  | [], _, hx => by cases hx
  | y :: l, h, hx => by
    have hle : ∀ l : List α, (l.filter q).length ≤ (l.filter p).length := by
      intro l
      induction l with
      | nil => simp
      | cons z l ih =>
        by_cases hz : q z = true
        · rw [List.filter_cons_of_pos hz, List.filter_cons_of_pos (h z hz)]; simp; exact ih
        · rw [List.filter_cons_of_neg hz]
          by_cases hz2 : p z = true
          · rw [List.filter_cons_of_pos hz2]; simp; omega
          · rw [List.filter_cons_of_neg hz2]; exact ih
    rcases List.mem_cons.1 hx with rfl | hx
    · rw [List.filter_cons_of_pos hp, List.filter_cons_of_neg (by simp [hq])]
      have := hle l
      simp; omega
    · have ih := filter_lt p q x hp hq l h hx
      by_cases hz : q y = true
      · rw [List.filter_cons_of_pos hz, List.filter_cons_of_pos (h y hz)]; simp; exact ih
      · rw [List.filter_cons_of_neg hz]
        by_cases hz2 : p y = true
        · rw [List.filter_cons_of_pos hz2]; simp; omega
        · rw [List.filter_cons_of_neg hz2]; exact ih

/-- How many are left. -/
def leftN (n : Nat) (L : Array Bool) : Nat := ((List.range n).filter (fun i => !L.getD i true)).length
theorem getD_set {L : Array Bool} {i j : Nat} {d : Bool} (h : (L.setIfInBounds i true).getD j d = true) : j = i ∨ L.getD j d = true := by
  by_cases hij : j = i
  · exact .inl hij
  · refine .inr ?_
    rw [Array.getD_eq_getD_getElem?, Array.getElem?_setIfInBounds_ne (Ne.symm hij)] at h
    rw [Array.getD_eq_getD_getElem?]; exact h
theorem getD_set_ne {L : Array Bool} {i j : Nat} {d : Bool} (hij : j ≠ i) : (L.setIfInBounds i true).getD j d = L.getD j d := by
  rw [Array.getD_eq_getD_getElem?, Array.getElem?_setIfInBounds_ne (Ne.symm hij), Array.getD_eq_getD_getElem?]
theorem lt_of_left {L : Array Bool} {i : Nat} (h : L.getD i true = false) : i < L.size := by
  rcases Nat.lt_or_ge i L.size with h1 | h1
  · exact h1
  · rw [Array.getD_eq_getD_getElem?, Array.getElem?_eq_none h1] at h; cases h
theorem getD_set_eq {L : Array Bool} {i : Nat} {d : Bool} (h : i < L.size) : (L.setIfInBounds i true).getD i d = true := by
  rw [Array.getD_eq_getD_getElem?, Array.getElem?_setIfInBounds_self_of_lt h]; rfl
theorem left_set {n i : Nat} {L : Array Bool} (hi : i < n) (h : L.getD i true = false) : leftN n (L.setIfInBounds i true) < leftN n L := by
  refine filter_lt _ _ i (by simp [h]) (by simp [getD_set_eq (lt_of_left h)]) _ (fun y hy => ?_) (List.mem_range.2 hi)
  have hy1 : (L.setIfInBounds i true).getD y true = false := by simpa using hy
  have hne : y ≠ i := by rintro rfl; rw [getD_set_eq (lt_of_left h)] at hy1; cases hy1
  rw [getD_set_ne hne] at hy1
  simp [hy1]

section
variable {P : Program} {ops : Array Oper} {Q : Exit → Act → World → Prop} {md : Region.Mode}
theorem ready_iff {L : Array Bool} {i : Nat} : i ∈ Region.ready md ops L ↔ i < ops.size ∧ L.getD i true = false ∧ ∃ o, ops[i]? = some o ∧ ∀ e ∈ o.after, Region.binds md e = true → L.getD e.on false = true := by
  unfold Region.ready
  rw [List.mem_filter, List.mem_range]
  constructor
  · rintro ⟨h1, h2⟩
    rw [Bool.and_eq_true] at h2
    refine ⟨h1, by simpa using h2.1, ops[i], Array.getElem?_eq_getElem h1, ?_⟩
    have h3 := h2.2
    rw [Array.getElem?_eq_getElem h1] at h3
    simp only [Option.map_some, Option.getD_some, Array.all_eq_true'] at h3
    intro e he hb
    have := h3 e he
    simpa [hb] using this
  · rintro ⟨h1, h2, o, h3, h4⟩
    refine ⟨h1, ?_⟩
    rw [Bool.and_eq_true]
    refine ⟨by simp [h2], ?_⟩
    rw [h3]
    simp only [Option.map_some, Option.getD_some, Array.all_eq_true']
    intro e he
    by_cases hb : Region.binds md e = true
    · simp [h4 e he hb]
    · simp [hb]

/-- Where every operation keeps the condition and the condition at the end gives what follows, every order does. -/
theorem wpAny_inv (Inv : Array Bool → Act → World → Prop)
    (hstep : ∀ L a w i o, Inv L a w → ops[i]? = some o → L.getD i true = false → (∀ e ∈ o.after, Region.binds md e = true → L.getD e.on false = true) →
      if Region.wanted o (yielded ops a.tmps) = true then Oper.wp P o a w (Inv (L.setIfInBounds i true)) Q else Inv (L.setIfInBounds i true) (a.put o.dst undef) w)
    (hdone : ∀ L a w, Inv L a w → Region.ready md ops L = [] → Q .normal a w) :
    ∀ (fuel : Nat) (L : Array Bool) (a : Act) (w : World), Inv L a w → leftN ops.size L ≤ fuel → wpAny P md ops Q fuel L a w := by
  intro fuel
  induction fuel with
  | zero =>
    intro L a w hI hf
    have hr : Region.ready md ops L = [] := by
      cases h : Region.ready md ops L with
      | nil => rfl
      | cons i rs =>
        have hi : i ∈ Region.ready md ops L := by rw [h]; simp
        obtain ⟨h1, h2, _⟩ := ready_iff.1 hi
        have hm : i ∈ (List.range ops.size).filter (fun i => !L.getD i true) := by rw [List.mem_filter]; exact ⟨List.mem_range.2 h1, by simp [h2]⟩
        have := List.length_pos_of_mem hm
        unfold leftN at hf
        omega
    exact ⟨hr, hdone L a w hI hr⟩
  | succ fuel ih =>
    intro L a w hI hf
    refine ⟨fun hr => hdone L a w hI hr, fun i hi => ?_⟩
    obtain ⟨h1, h2, o, h3, h4⟩ := ready_iff.1 hi
    have hs := hstep L a w i o hI h3 h2 h4
    have hl := left_set h1 h2
    have hK : ∀ a w, Inv (L.setIfInBounds i true) a w → wpAny P md ops Q fuel (L.setIfInBounds i true) a w := fun a w h => ih _ a w h (by omega)
    unfold wpOp
    simp only [h3]
    split
    · rename_i hw
      rw [if_pos hw] at hs
      exact .inl (Oper.wp_mono hK hs)
    · rename_i hw
      rw [if_neg hw] at hs
      exact hK _ _ hs

/-- Each operation comes after earlier ones: then none is ready only when all are listed. -/
theorem all_listed (hA : ∀ i o, ops[i]? = some o → ∀ e ∈ o.after, Region.binds md e = true → e.on < i) {L : Array Bool} (hr : Region.ready md ops L = []) : ∀ i, i < ops.size → L.getD i true = true := by
  intro i
  induction i using Nat.strongRecOn with
  | _ i ih =>
    intro hi
    cases h : L.getD i true with
    | true => rfl
    | false =>
      have : i ∈ Region.ready md ops L := ready_iff.2 ⟨hi, h, ops[i], Array.getElem?_eq_getElem hi, fun e he hb => by
        have h1 := hA i ops[i] (Array.getElem?_eq_getElem hi) e he hb
        have h2 := ih e.on h1 (by omega)
        have h3 : e.on < L.size ∨ L.size ≤ e.on := Nat.lt_or_ge _ _
        have hL := lt_of_left h
        rw [Array.getD_eq_getD_getElem?, Array.getElem?_eq_getElem (by omega)] at h2 ⊢
        exact h2⟩
      rw [hr] at this
      cases this

/-- A condition for each operation, one after the other. -/
def AllSteps (S : Nat → Oper → Prop) : Nat → List Oper → Prop
  | _, [] => True
  | k, o :: l => S k o ∧ AllSteps S (k + 1) l
theorem AllSteps.at_ {S : Nat → Oper → Prop} : ∀ (l : List Oper) (k i : Nat) (o : Oper), AllSteps S k l → l[i]? = some o → S (k + i) o
  | [], _, _, _, _, h => by simp at h
  | o' :: l, k, 0, o, hS, h => by
    simp at h; subst h; exact hS.1
  | o' :: l, k, i + 1, o, hS, h => by
    have := AllSteps.at_ l (k + 1) i o hS.2 (by simpa using h)
    rw [show k + (i + 1) = k + 1 + i by omega]; exact this
/-- One operation in any order: the condition is kept. -/
def Keeps (P : Program) (md : Region.Mode) (ops : Array Oper) (Q : Exit → Act → World → Prop) (Inv : Array Bool → Act → World → Prop) (i : Nat) (o : Oper) : Prop :=
  ∀ L a w, Inv L a w → L.getD i true = false → (∀ e ∈ o.after, Region.binds md e = true → L.getD e.on false = true) →
    ∀ K : Act → World → Prop, (∀ a w, Inv (L.setIfInBounds i true) a w → K a w) → if Region.wanted o (yielded ops a.tmps) = true then Oper.wp P o a w K Q else K (a.put o.dst undef) w
theorem wp_region_inv {l : List Oper} {id : Nat} {a : Act} {w : World} (hm : P.follows .mixedOrders = true) (Inv : Array Bool → Act → World → Prop)
    (hA : (l.zipIdx.all fun x => x.1.after.all fun e => !Region.binds .any e || decide (e.on < x.2)) = true)
    (hS : AllSteps (Keeps P .any l.toArray Q Inv) 0 l)
    (h0 : Inv (Array.replicate l.length false) a w.drew)
    (hdone : ∀ L a w, Inv L a w → (∀ i, i < l.length → L.getD i false = true) → Q .normal a w) : (Code.region id l.toArray true).wp P Q a w := by
  refine wp_region_any hm ?_
  refine wpAny_inv (fun L a w => L.size = l.length ∧ Inv L a w) (fun L a w i o hI ho hl ha => ?_) (fun L a w hI hr => hdone L a w hI.2 fun i hi => ?_) _ _ _ _ ⟨by simp, h0⟩ ?_
  · have hk := AllSteps.at_ l 0 i o hS (by simpa using ho)
    rw [Nat.zero_add] at hk
    exact hk L a w hI.2 hl ha _ fun _ _ h => ⟨by simpa using hI.1, h⟩
  · have h1 := all_listed (md := .any) (ops := l.toArray) ?_ hr i (by simpa using hi)
    · have hL := hI.1
      rw [Array.getD_eq_getD_getElem?, Array.getElem?_eq_getElem (by omega)] at h1 ⊢
      exact h1
    · intro i o ho e he hb
      rw [List.all_eq_true] at hA
      have h1 := hA (o, i) (by rw [List.mem_zipIdx_iff_getElem?]; simpa using ho)
      rw [Array.all_eq_true'] at h1
      have h2 := h1 e he
      simp [hb] at h2
      exact h2
  · unfold leftN
    refine Nat.le_trans (List.length_filter_le _ _) (by simp)

theorem step_run {o : Oper} {a : Act} {K : Act → World → Prop} {E : Prop} {w w' : World} {v : Value} (hgd : o.guard = none) (hr : (execOp a.eval o).run P w = .ok (.value v) w') (h : K (a.put o.dst v) w') :
    if Region.wanted o (yielded ops a.tmps) = true then Oper.wp P o a w K Q else E := by
  have hw : Region.wanted o (yielded ops a.tmps) = true := by simp [Region.wanted, hgd]
  rw [if_pos hw]
  unfold Oper.wp
  rw [hr]
  exact h
theorem run_callFunc_known {f : FuncId} {fn : Func} {c : Code} (hf : P.funcs[f]? = some fn) (hname : (fn.name == "runtime.NumGoroutine") = false) (hb : fn.body = some c) (args : Array Value) (w : World) :
    (callFunc f args).run P w = .ok (.enter f args) w := by
  have h1 : fn.name ≠ "runtime.NumGoroutine" := by simpa using hname
  simp [callFunc, hf, h1, hb]
theorem step_call_fn {o : Oper} {a : Act} {K : Act → World → Prop} {E : Prop} {w : World} {f : FuncId} {fn : Func} {c : Code} {xs : Array Operand} {ts : Array TypeId} {args : Array Value} {R : Ending → World → Prop} (hgd : o.guard = none)
    (ho : o.op = .call { callee := .value (.func f), args := xs, argTypes := ts }) (hf : P.funcs[f]? = some fn) (hname : (fn.name == "runtime.NumGoroutine") = false) (hb : fn.body = some c) (hx : #[] ++ xs.map a.eval ++ #[] = args)
    (hR : Calls P f args w R) (h : ∀ e w', R e w' → ∃ v, e = .returned v ∧ K (a.put o.dst v) w') :
    if Region.wanted o (yielded ops a.tmps) = true then Oper.wp P o a w K Q else E := by
  have hw : Region.wanted o (yielded ops a.tmps) = true := by simp [Region.wanted, hgd]
  rw [if_pos hw]
  have he : (execOp a.eval o).run P w = .ok (.enter f args) w := by
    obtain ⟨dst, op, type, pos, after, guard⟩ := o
    simp only at ho
    subst ho
    rw [execOp_call_go, hx]
    exact run_callFunc_known hf hname hb args w
  unfold Oper.wp
  rw [he]
  refine hR.mono fun e w' h' => ?_
  obtain ⟨v, rfl, hk⟩ := h e w' h'
  exact hk
theorem step_invoke {o : Oper} {a : Act} {K : Act → World → Prop} {E : Prop} {w : World} {f : FuncId} {r : Operand} {name : String} {xs : Array Operand} {ts : Array TypeId} {rv : Value} {ys : Array Value} {args : Array Value} {R : Ending → World → Prop} (hgd : o.guard = none)
    (ho : o.op = .call { callee := .invoke r name, args := xs, argTypes := ts }) (hx : a.eval r = rv ∧ xs.map a.eval = ys) (he : (callMethod rv name ys).run P w = .ok (.enter f args) w)
    (hR : Calls P f args w R) (h : ∀ e w', R e w' → ∃ v, e = .returned v ∧ K (a.put o.dst v) w') :
    if Region.wanted o (yielded ops a.tmps) = true then Oper.wp P o a w K Q else E := by
  have hw : Region.wanted o (yielded ops a.tmps) = true := by simp [Region.wanted, hgd]
  rw [if_pos hw]
  have he : (execOp a.eval o).run P w = .ok (.enter f args) w := by
    unfold execOp
    simp only [ho, resolve, invoke, Sem.run_bind, Sem.run_pure, Result.andThen_ok, hx.1, hx.2]
    have h0 : (#[rv] ++ ys)[0]? = some rv := by rw [Array.getElem?_append_left (by simp)]; rfl
    rw [h0]
    simpa using he
  unfold Oper.wp
  rw [he]
  refine hR.mono fun e w' h' => ?_
  obtain ⟨v, rfl, hk⟩ := h e w' h'
  exact hk
end
end Go.Proofs.YtnfclcbhehbchaaGreatDoor
