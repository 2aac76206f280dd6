/- value.Read where the flags are not right: no attribute, and its routes are withdrawn. -/
import Derived.Test.YtnfclcbhehbchaaGreatDoorFlgD
set_option autoImplicit false
namespace Go.Proofs.YtnfclcbhehbchaaGreatDoor
open Go.RowKit
theorem wpList_load_wholeF {P : Program} {ops : Array Oper} {rest : List Oper} {o : Oper} {a : Act} {Q : Exit → Act → World → Prop} (w : World) (hgd : o.guard = none) (ty : TypeId) (x : Operand) (ho : o.op = .load ty x)
    (g : Nat) (t : TypeId) (cs : Array Value) (d : TypeDesc) (hx : a.eval x = .pointer (some ⟨g, 0, none⟩)) (hg : w.heap[g]? = some (.cells cs t (0, 0))) (hu : P.underlying ty = some d)
    (hd : (match d with | .struct _ | .array _ _ => true | _ => false) = true) (hi : (P.info? ty).map (·.size) = some cs.size)
    (h : wpList P ops Q rest (a.put o.dst (.agg cs)) w) : wpList P ops Q (o :: rest) a w :=
  wpList_plain hgd fun _ hK => by
    unfold Oper.wp execOp
    simp only [ho, hx, Instr.loadAt, Instr.sureAddr, Sem.run_bind, Sem.run_pure, Result.andThen_ok, run_loadVar_rowF w g t ty cs (0, 0) d hg hu hd hi]
    exact hK _ _ h
theorem head_size : (Tryz.prog.info? 92).map (·.size) = some 3 := by kernel_rfl
theorem opt_size : (Tryz.prog.info? 60).map (·.size) = some 6 := by kernel_rfl
theorem alloc_at {W : World} {o : Obj} {k : Nat} (h : k = W.heap.size) : (W.alloc o).heap[k]? = some o := h ▸ by show (W.heap.push o)[W.heap.size]? = _; simp
theorem alloc_old {W : World} {o o' : Obj} {k : Nat} (h : W.heap[k]? = some o') : (W.alloc o).heap[k]? = some o' := (Below.heap_alloc W o k (lt_of_heapF h)).trans h
end Go.Proofs.YtnfclcbhehbchaaGreatDoor
