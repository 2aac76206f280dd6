/- basic.named, rows, Has. -/
import Derived.Test.YtnfclcbhehbchaaGreatDoorFlgA
set_option autoImplicit false
namespace Go.Proofs.YtnfclcbhehbchaaGreatDoor
open Go.RowKit

theorem lt_of_heapF {w : World} {k : Nat} {o : Obj} (h : w.heap[k]? = some o) : k < w.heap.size := (Array.getElem?_eq_some_iff.1 h).1
set_option maxRecDepth 100000 in
theorem named_any (s : ByteArray) (g : FuncId) (w : World) : Calls Tryz.prog 98 #[.string s, .func (.func g) #[] #[]] w fun e w' => (∃ p q, e = .returned (.func (.func 103) #[] #[.pointer (some ⟨p, 0, none⟩), .pointer (some ⟨q, 0, none⟩)])) ∧ Below w.heap.size w w' := by
  go_enter Tryz.func98, Tryz.ntmps98
  go_wp2_with fail
  go_ret
  exact ⟨⟨_, _, rfl⟩, ((Below.refl _ _).alloc (Nat.le_refl _) _).alloc (by simp) _⟩
def rowsM (p0 q0 p1 q1 p2 q2 p3 q3 p4 q4 : Nat) : Array MapEntry := #[⟨.int .i64 1, .agg #[.int .i64 1, .int .u32 2, .int .i64 2, .func (.func 103) #[] #[.pointer (some ⟨p0, 0, none⟩), .pointer (some ⟨q0, 0, none⟩)]], 0⟩, ⟨.int .i64 3, .agg #[.int .i64 4, .int .u32 4294967295, .int .i64 2, .func (.func 103) #[] #[.pointer (some ⟨p1, 0, none⟩), .pointer (some ⟨q1, 0, none⟩)]], 1⟩, ⟨.int .i64 4, .agg #[.int .i64 4, .int .u32 4294967295, .int .i64 2, .func (.func 103) #[] #[.pointer (some ⟨p2, 0, none⟩), .pointer (some ⟨q2, 0, none⟩)]], 2⟩, ⟨.int .i64 5, .agg #[.int .i64 4, .int .u32 4294967295, .int .i64 2, .func (.func 103) #[] #[.pointer (some ⟨p3, 0, none⟩), .pointer (some ⟨q3, 0, none⟩)]], 3⟩, ⟨.int .i64 9, .agg #[.int .i64 4, .int .u32 4294967295, .int .i64 2, .func (.func 103) #[] #[.pointer (some ⟨p4, 0, none⟩), .pointer (some ⟨q4, 0, none⟩)]], 4⟩, ⟨.int .i64 6, .agg #[.int .i64 0, .int .u32 0, .int .i64 1, .func (.func 102) #[] #[]], 5⟩]
set_option maxRecDepth 100000 in
set_option maxHeartbeats 4000000 in
theorem rows_any (w : World) : Calls Tryz.prog 96 #[] w fun e w' => e = .returned (.map (some w.heap.size)) ∧ (∃ p0 q0 p1 q1 p2 q2 p3 q3 p4 q4, w'.heap[w.heap.size]? = some (.map (rowsM p0 q0 p1 q1 p2 q2 p3 q3 p4 q4) 6)) ∧ Below w.heap.size w w' := by
  have hmk : ∀ w, (Instr.makeMap 133 none).run Tryz.prog w = .ok (.map (some w.heap.size)) (w.alloc (.map #[] 0)) := fun w => run_makeMap_plain w _
  obtain ⟨W0, hW0⟩ : ∃ W0, W0 = w.alloc (.map #[] 0) := ⟨_, rfl⟩
  have hz0 : W0.heap.size = w.heap.size + 1 := by rw [hW0]; simp
  have hmk2 := hmk w
  rw [← hW0] at hmk2
  have hb0 : Below w.heap.size w W0 := by rw [hW0]; exact (Below.refl _ _).alloc (Nat.le_refl _) _
  have hm0 : W0.heap[w.heap.size]? = some (.map #[] 0) := by rw [hW0]; show (w.heap.push _)[w.heap.size]? = _; simp
  have M0 := Lib.hid hm0
  have B0 := hide hb0
  clear hmk hW0 hz0 hb0 hm0
  go_enter Tryz.func96, Tryz.ntmps96
  go_wp2_with (first
    | (go_at_call 98; (with_reducible refine (named_any _ _ W0).mono ?_); rintro e V0 ⟨⟨p0, q0, rfl⟩, hb0⟩
       have n0 := (hb0.block w.heap.size (lt_of_heapF M0.out)).trans M0.out
       have N0 := Lib.hid n0
       have C0 := hide (B0.out.trans (hb0.mono B0.out.size))
       clear n0 hb0)
    | ((with_reducible refine wpList_insertI V0 ?hgd0 133 3 131 (.tmp 1) (.const (.int .i64 1)) (.tmp 3) ?ho0 w.heap.size 0 #[] 1 (.agg #[.int .i64 1, .int .u32 2, .int .i64 2, .func (.func 103) #[] #[.pointer (some ⟨p0, 0, none⟩), .pointer (some ⟨q0, 0, none⟩)]]) ?hu0 ?hk0 N0.out ?hf0 ?em0 ?ek0 ?ex0 ?_); (case hgd0 => rfl); (case ho0 => rfl); (case hu0 => exact Tryz.underlying133); (case hk0 => exact Tryz.underlying3); (case hf0 => rfl); (case em0 => rfl); (case ek0 => rfl); (case ex0 => rfl)
       intro W1 m0 O0 z0
       have M1 : Hid (W1.heap[w.heap.size]? = some (.map #[⟨.int .i64 1, .agg #[.int .i64 1, .int .u32 2, .int .i64 2, .func (.func 103) #[] #[.pointer (some ⟨p0, 0, none⟩), .pointer (some ⟨q0, 0, none⟩)]], 0⟩] 1)) := m0
       have B1 := hide (C0.out.grown O0.out (by have := C0.out.size; omega) (fun x hx => by injection hx; omega))
       clear m0 O0)
    | (go_at_call 98; (with_reducible refine (named_any _ _ W1).mono ?_); rintro e V1 ⟨⟨p1, q1, rfl⟩, hb1⟩
       have n1 := (hb1.block w.heap.size (lt_of_heapF M1.out)).trans M1.out
       have N1 := Lib.hid n1
       have C1 := hide (B1.out.trans (hb1.mono B1.out.size))
       clear n1 hb1)
    | ((with_reducible refine wpList_insertI V1 ?hgd1 133 3 131 (.tmp 1) (.const (.int .i64 3)) (.tmp 5) ?ho1 w.heap.size 1 #[⟨.int .i64 1, .agg #[.int .i64 1, .int .u32 2, .int .i64 2, .func (.func 103) #[] #[.pointer (some ⟨p0, 0, none⟩), .pointer (some ⟨q0, 0, none⟩)]], 0⟩] 3 (.agg #[.int .i64 4, .int .u32 4294967295, .int .i64 2, .func (.func 103) #[] #[.pointer (some ⟨p1, 0, none⟩), .pointer (some ⟨q1, 0, none⟩)]]) ?hu1 ?hk1 N1.out ?hf1 ?em1 ?ek1 ?ex1 ?_); (case hgd1 => rfl); (case ho1 => rfl); (case hu1 => exact Tryz.underlying133); (case hk1 => exact Tryz.underlying3); (case hf1 => rfl); (case em1 => rfl); (case ek1 => rfl); (case ex1 => rfl)
       intro W2 m1 O1 z1
       have M2 : Hid (W2.heap[w.heap.size]? = some (.map #[⟨.int .i64 1, .agg #[.int .i64 1, .int .u32 2, .int .i64 2, .func (.func 103) #[] #[.pointer (some ⟨p0, 0, none⟩), .pointer (some ⟨q0, 0, none⟩)]], 0⟩, ⟨.int .i64 3, .agg #[.int .i64 4, .int .u32 4294967295, .int .i64 2, .func (.func 103) #[] #[.pointer (some ⟨p1, 0, none⟩), .pointer (some ⟨q1, 0, none⟩)]], 1⟩] 2)) := m1
       have B2 := hide (C1.out.grown O1.out (by have := C1.out.size; omega) (fun x hx => by injection hx; omega))
       clear m1 O1)
    | (go_at_call 98; (with_reducible refine (named_any _ _ W2).mono ?_); rintro e V2 ⟨⟨p2, q2, rfl⟩, hb2⟩
       have n2 := (hb2.block w.heap.size (lt_of_heapF M2.out)).trans M2.out
       have N2 := Lib.hid n2
       have C2 := hide (B2.out.trans (hb2.mono B2.out.size))
       clear n2 hb2)
    | ((with_reducible refine wpList_insertI V2 ?hgd2 133 3 131 (.tmp 1) (.const (.int .i64 4)) (.tmp 7) ?ho2 w.heap.size 2 #[⟨.int .i64 1, .agg #[.int .i64 1, .int .u32 2, .int .i64 2, .func (.func 103) #[] #[.pointer (some ⟨p0, 0, none⟩), .pointer (some ⟨q0, 0, none⟩)]], 0⟩, ⟨.int .i64 3, .agg #[.int .i64 4, .int .u32 4294967295, .int .i64 2, .func (.func 103) #[] #[.pointer (some ⟨p1, 0, none⟩), .pointer (some ⟨q1, 0, none⟩)]], 1⟩] 4 (.agg #[.int .i64 4, .int .u32 4294967295, .int .i64 2, .func (.func 103) #[] #[.pointer (some ⟨p2, 0, none⟩), .pointer (some ⟨q2, 0, none⟩)]]) ?hu2 ?hk2 N2.out ?hf2 ?em2 ?ek2 ?ex2 ?_); (case hgd2 => rfl); (case ho2 => rfl); (case hu2 => exact Tryz.underlying133); (case hk2 => exact Tryz.underlying3); (case hf2 => rfl); (case em2 => rfl); (case ek2 => rfl); (case ex2 => rfl)
       intro W3 m2 O2 z2
       have M3 : Hid (W3.heap[w.heap.size]? = some (.map #[⟨.int .i64 1, .agg #[.int .i64 1, .int .u32 2, .int .i64 2, .func (.func 103) #[] #[.pointer (some ⟨p0, 0, none⟩), .pointer (some ⟨q0, 0, none⟩)]], 0⟩, ⟨.int .i64 3, .agg #[.int .i64 4, .int .u32 4294967295, .int .i64 2, .func (.func 103) #[] #[.pointer (some ⟨p1, 0, none⟩), .pointer (some ⟨q1, 0, none⟩)]], 1⟩, ⟨.int .i64 4, .agg #[.int .i64 4, .int .u32 4294967295, .int .i64 2, .func (.func 103) #[] #[.pointer (some ⟨p2, 0, none⟩), .pointer (some ⟨q2, 0, none⟩)]], 2⟩] 3)) := m2
       have B3 := hide (C2.out.grown O2.out (by have := C2.out.size; omega) (fun x hx => by injection hx; omega))
       clear m2 O2)
    | (go_at_call 98; (with_reducible refine (named_any _ _ W3).mono ?_); rintro e V3 ⟨⟨p3, q3, rfl⟩, hb3⟩
       have n3 := (hb3.block w.heap.size (lt_of_heapF M3.out)).trans M3.out
       have N3 := Lib.hid n3
       have C3 := hide (B3.out.trans (hb3.mono B3.out.size))
       clear n3 hb3)
    | ((with_reducible refine wpList_insertI V3 ?hgd3 133 3 131 (.tmp 1) (.const (.int .i64 5)) (.tmp 9) ?ho3 w.heap.size 3 #[⟨.int .i64 1, .agg #[.int .i64 1, .int .u32 2, .int .i64 2, .func (.func 103) #[] #[.pointer (some ⟨p0, 0, none⟩), .pointer (some ⟨q0, 0, none⟩)]], 0⟩, ⟨.int .i64 3, .agg #[.int .i64 4, .int .u32 4294967295, .int .i64 2, .func (.func 103) #[] #[.pointer (some ⟨p1, 0, none⟩), .pointer (some ⟨q1, 0, none⟩)]], 1⟩, ⟨.int .i64 4, .agg #[.int .i64 4, .int .u32 4294967295, .int .i64 2, .func (.func 103) #[] #[.pointer (some ⟨p2, 0, none⟩), .pointer (some ⟨q2, 0, none⟩)]], 2⟩] 5 (.agg #[.int .i64 4, .int .u32 4294967295, .int .i64 2, .func (.func 103) #[] #[.pointer (some ⟨p3, 0, none⟩), .pointer (some ⟨q3, 0, none⟩)]]) ?hu3 ?hk3 N3.out ?hf3 ?em3 ?ek3 ?ex3 ?_); (case hgd3 => rfl); (case ho3 => rfl); (case hu3 => exact Tryz.underlying133); (case hk3 => exact Tryz.underlying3); (case hf3 => rfl); (case em3 => rfl); (case ek3 => rfl); (case ex3 => rfl)
       intro W4 m3 O3 z3
       have M4 : Hid (W4.heap[w.heap.size]? = some (.map #[⟨.int .i64 1, .agg #[.int .i64 1, .int .u32 2, .int .i64 2, .func (.func 103) #[] #[.pointer (some ⟨p0, 0, none⟩), .pointer (some ⟨q0, 0, none⟩)]], 0⟩, ⟨.int .i64 3, .agg #[.int .i64 4, .int .u32 4294967295, .int .i64 2, .func (.func 103) #[] #[.pointer (some ⟨p1, 0, none⟩), .pointer (some ⟨q1, 0, none⟩)]], 1⟩, ⟨.int .i64 4, .agg #[.int .i64 4, .int .u32 4294967295, .int .i64 2, .func (.func 103) #[] #[.pointer (some ⟨p2, 0, none⟩), .pointer (some ⟨q2, 0, none⟩)]], 2⟩, ⟨.int .i64 5, .agg #[.int .i64 4, .int .u32 4294967295, .int .i64 2, .func (.func 103) #[] #[.pointer (some ⟨p3, 0, none⟩), .pointer (some ⟨q3, 0, none⟩)]], 3⟩] 4)) := m3
       have B4 := hide (C3.out.grown O3.out (by have := C3.out.size; omega) (fun x hx => by injection hx; omega))
       clear m3 O3)
    | (go_at_call 98; (with_reducible refine (named_any _ _ W4).mono ?_); rintro e V4 ⟨⟨p4, q4, rfl⟩, hb4⟩
       have n4 := (hb4.block w.heap.size (lt_of_heapF M4.out)).trans M4.out
       have N4 := Lib.hid n4
       have C4 := hide (B4.out.trans (hb4.mono B4.out.size))
       clear n4 hb4)
    | ((with_reducible refine wpList_insertI V4 ?hgd4 133 3 131 (.tmp 1) (.const (.int .i64 9)) (.tmp 11) ?ho4 w.heap.size 4 #[⟨.int .i64 1, .agg #[.int .i64 1, .int .u32 2, .int .i64 2, .func (.func 103) #[] #[.pointer (some ⟨p0, 0, none⟩), .pointer (some ⟨q0, 0, none⟩)]], 0⟩, ⟨.int .i64 3, .agg #[.int .i64 4, .int .u32 4294967295, .int .i64 2, .func (.func 103) #[] #[.pointer (some ⟨p1, 0, none⟩), .pointer (some ⟨q1, 0, none⟩)]], 1⟩, ⟨.int .i64 4, .agg #[.int .i64 4, .int .u32 4294967295, .int .i64 2, .func (.func 103) #[] #[.pointer (some ⟨p2, 0, none⟩), .pointer (some ⟨q2, 0, none⟩)]], 2⟩, ⟨.int .i64 5, .agg #[.int .i64 4, .int .u32 4294967295, .int .i64 2, .func (.func 103) #[] #[.pointer (some ⟨p3, 0, none⟩), .pointer (some ⟨q3, 0, none⟩)]], 3⟩] 9 (.agg #[.int .i64 4, .int .u32 4294967295, .int .i64 2, .func (.func 103) #[] #[.pointer (some ⟨p4, 0, none⟩), .pointer (some ⟨q4, 0, none⟩)]]) ?hu4 ?hk4 N4.out ?hf4 ?em4 ?ek4 ?ex4 ?_); (case hgd4 => rfl); (case ho4 => rfl); (case hu4 => exact Tryz.underlying133); (case hk4 => exact Tryz.underlying3); (case hf4 => rfl); (case em4 => rfl); (case ek4 => rfl); (case ex4 => rfl)
       intro W5 m4 O4 z4
       have M5 : Hid (W5.heap[w.heap.size]? = some (.map #[⟨.int .i64 1, .agg #[.int .i64 1, .int .u32 2, .int .i64 2, .func (.func 103) #[] #[.pointer (some ⟨p0, 0, none⟩), .pointer (some ⟨q0, 0, none⟩)]], 0⟩, ⟨.int .i64 3, .agg #[.int .i64 4, .int .u32 4294967295, .int .i64 2, .func (.func 103) #[] #[.pointer (some ⟨p1, 0, none⟩), .pointer (some ⟨q1, 0, none⟩)]], 1⟩, ⟨.int .i64 4, .agg #[.int .i64 4, .int .u32 4294967295, .int .i64 2, .func (.func 103) #[] #[.pointer (some ⟨p2, 0, none⟩), .pointer (some ⟨q2, 0, none⟩)]], 2⟩, ⟨.int .i64 5, .agg #[.int .i64 4, .int .u32 4294967295, .int .i64 2, .func (.func 103) #[] #[.pointer (some ⟨p3, 0, none⟩), .pointer (some ⟨q3, 0, none⟩)]], 3⟩, ⟨.int .i64 9, .agg #[.int .i64 4, .int .u32 4294967295, .int .i64 2, .func (.func 103) #[] #[.pointer (some ⟨p4, 0, none⟩), .pointer (some ⟨q4, 0, none⟩)]], 4⟩] 5)) := m4
       have B5 := hide (C4.out.grown O4.out (by have := C4.out.size; omega) (fun x hx => by injection hx; omega))
       clear m4 O4)
    | ((with_reducible refine wpList_insertI W5 ?hgd5 133 3 131 (.tmp 1) (.const (.int .i64 6)) (.tmp 12) ?ho5 w.heap.size 5 #[⟨.int .i64 1, .agg #[.int .i64 1, .int .u32 2, .int .i64 2, .func (.func 103) #[] #[.pointer (some ⟨p0, 0, none⟩), .pointer (some ⟨q0, 0, none⟩)]], 0⟩, ⟨.int .i64 3, .agg #[.int .i64 4, .int .u32 4294967295, .int .i64 2, .func (.func 103) #[] #[.pointer (some ⟨p1, 0, none⟩), .pointer (some ⟨q1, 0, none⟩)]], 1⟩, ⟨.int .i64 4, .agg #[.int .i64 4, .int .u32 4294967295, .int .i64 2, .func (.func 103) #[] #[.pointer (some ⟨p2, 0, none⟩), .pointer (some ⟨q2, 0, none⟩)]], 2⟩, ⟨.int .i64 5, .agg #[.int .i64 4, .int .u32 4294967295, .int .i64 2, .func (.func 103) #[] #[.pointer (some ⟨p3, 0, none⟩), .pointer (some ⟨q3, 0, none⟩)]], 3⟩, ⟨.int .i64 9, .agg #[.int .i64 4, .int .u32 4294967295, .int .i64 2, .func (.func 103) #[] #[.pointer (some ⟨p4, 0, none⟩), .pointer (some ⟨q4, 0, none⟩)]], 4⟩] 6 (.agg #[.int .i64 0, .int .u32 0, .int .i64 1, .func (.func 102) #[] #[]]) ?hu5 ?hk5 M5.out ?hf5 ?em5 ?ek5 ?ex5 ?_); (case hgd5 => rfl); (case ho5 => rfl); (case hu5 => exact Tryz.underlying133); (case hk5 => exact Tryz.underlying3); (case hf5 => rfl); (case em5 => rfl); (case ek5 => rfl); (case ex5 => rfl)
       intro W6 m5 O5 z5
       have M6 : Hid (W6.heap[w.heap.size]? = some (.map #[⟨.int .i64 1, .agg #[.int .i64 1, .int .u32 2, .int .i64 2, .func (.func 103) #[] #[.pointer (some ⟨p0, 0, none⟩), .pointer (some ⟨q0, 0, none⟩)]], 0⟩, ⟨.int .i64 3, .agg #[.int .i64 4, .int .u32 4294967295, .int .i64 2, .func (.func 103) #[] #[.pointer (some ⟨p1, 0, none⟩), .pointer (some ⟨q1, 0, none⟩)]], 1⟩, ⟨.int .i64 4, .agg #[.int .i64 4, .int .u32 4294967295, .int .i64 2, .func (.func 103) #[] #[.pointer (some ⟨p2, 0, none⟩), .pointer (some ⟨q2, 0, none⟩)]], 2⟩, ⟨.int .i64 5, .agg #[.int .i64 4, .int .u32 4294967295, .int .i64 2, .func (.func 103) #[] #[.pointer (some ⟨p3, 0, none⟩), .pointer (some ⟨q3, 0, none⟩)]], 3⟩, ⟨.int .i64 9, .agg #[.int .i64 4, .int .u32 4294967295, .int .i64 2, .func (.func 103) #[] #[.pointer (some ⟨p4, 0, none⟩), .pointer (some ⟨q4, 0, none⟩)]], 4⟩, ⟨.int .i64 6, .agg #[.int .i64 0, .int .u32 0, .int .i64 1, .func (.func 102) #[] #[]], 5⟩] 6)) := m5
       have B6 := hide (B5.out.grown O5.out (by have := B5.out.size; omega) (fun x hx => by injection hx; omega))
       clear m5 O5))
  go_ret
  exact ⟨rfl, ⟨_, _, _, _, _, _, _, _, _, _, M6.out⟩, B6.out⟩
end Go.Proofs.YtnfclcbhehbchaaGreatDoor
