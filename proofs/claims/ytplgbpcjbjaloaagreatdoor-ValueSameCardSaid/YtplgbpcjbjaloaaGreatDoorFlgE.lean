/- value.Read where the flags are not right: no attribute, and its routes are withdrawn. -/
import Derived.Test.YtplgbpcjbjaloaaGreatDoorFlgD
set_option autoImplicit false
namespace Go.Proofs.YtplgbpcjbjaloaaGreatDoor
open Go.RowKit
theorem wpList_load_wholeF {P : Program} {ops : Array Oper} {rest : List Oper} {o : Oper} {a : Act} {Q : Exit → Act → World → Prop} (w : World) (hgd : o.guard = none) (ty : TypeId) (x : Operand) (ho : o.op = .load ty x)
    (g : Nat) (t : TypeId) (cs : Array Value) (d : TypeDesc) (hx : a.eval x = .pointer (some ⟨g, 0, none⟩)) (hg : w.heap[g]? = some (.cells cs t (0, 0))) (hu : P.underlying ty = some d)
    (hd : (match d with | .struct _ | .array _ _ => true | _ => false) = true) (hi : (P.info? ty).map (·.size) = some cs.size)
    (h : wpList P ops Q rest (a.put o.dst (.agg cs)) w) : wpList P ops Q (o :: rest) a w :=
  wpList_plain hgd fun _ hK => by
    unfold Oper.wp execOp
    simp only [ho, hx, Instr.loadAt, Instr.sureAddr, Sem.run_bind, Sem.run_pure, Result.andThen_ok, run_loadVar_rowF w g t ty cs (0, 0) d hg hu hd hi]
    exact hK _ _ h
theorem head_size : (Tryz.prog.info? 52).map (·.size) = some 3 := by kernel_rfl
theorem opt_size : (Tryz.prog.info? 41).map (·.size) = some 6 := by kernel_rfl
theorem alloc_at {W : World} {o : Obj} {k : Nat} (h : k = W.heap.size) : (W.alloc o).heap[k]? = some o := h ▸ by show (W.heap.push o)[W.heap.size]? = _; simp
theorem alloc_old {W : World} {o o' : Obj} {k : Nat} (h : W.heap[k]? = some o') : (W.alloc o).heap[k]? = some o' := (Below.heap_alloc W o k (lt_of_heapF h)).trans h
/-- The variables of value.Read. -/
structure RS (w W : World) (o1 o2 o3 o4 o5 o6 : Bool) (at_ f k n : Int) (gr : Nat) : Prop where
  g0 : W.heap[w.heap.size]? = some (.cells #[.bool o1, .bool o2, .bool o3, .bool o4, .bool o5, .bool o6] 41 (0, 0))
  g1 : W.heap[w.heap.size + 1]? = some (.cells #[.int .i64 at_] 3 (0, 0))
  g2 : W.heap[w.heap.size + 1 + 1]? = some (.cells #[.int .i64 f, .int .i64 k, .int .i64 n] 52 (0, 0))
  g3 : W.heap[w.heap.size + 1 + 1 + 1]? = some (.cells #[.pointer (some ⟨gr, 0, none⟩)] 53 (0, 0))
  g4 : W.heap[w.heap.size + 1 + 1 + 1 + 1]? = some (.cells #[.int .i64 0, .bool false, .int .u32 0, .int .u32 0, .slice none 0 0, .slice none 0 0, .slice none 0 0, .int .i64 0, .slice none 0 0] 28 (0, 0))
  g5 : W.heap[w.heap.size + 1 + 1 + 1 + 1 + 1]? = some (.cells #[.int .i64 0, .int .i64 0, .int .i64 0, .slice none 0 0, .int .i64 0] 49 (0, 0))
  be : Below w.heap.size w W
theorem RS.more {w W W' : World} {o1 o2 o3 o4 o5 o6 : Bool} {at_ f k n : Int} {gr : Nat} (h : RS w W o1 o2 o3 o4 o5 o6 at_ f k n gr) (hb : Below W.heap.size W W') : RS w W' o1 o2 o3 o4 o5 o6 at_ f k n gr :=
  ⟨(hb.block _ (lt_of_heapF h.g0)).trans h.g0, (hb.block _ (lt_of_heapF h.g1)).trans h.g1, (hb.block _ (lt_of_heapF h.g2)).trans h.g2, (hb.block _ (lt_of_heapF h.g3)).trans h.g3, (hb.block _ (lt_of_heapF h.g4)).trans h.g4, (hb.block _ (lt_of_heapF h.g5)).trans h.g5, h.be.trans (hb.mono h.be.size)⟩
theorem RS.start (w : World) (o1 o2 o3 o4 o5 o6 : Bool) (at_ f k n : Int) (gr : Nat) : RS w ((((((w.alloc (.cells #[.bool o1, .bool o2, .bool o3, .bool o4, .bool o5, .bool o6] 41)).alloc (.cells #[.int .i64 at_] 3)).alloc (.cells #[.int .i64 f, .int .i64 k, .int .i64 n] 52)).alloc (.cells #[.pointer (some ⟨gr, 0, none⟩)] 53)).alloc (.cells #[.int .i64 0, .bool false, .int .u32 0, .int .u32 0, .slice none 0 0, .slice none 0 0, .slice none 0 0, .int .i64 0, .slice none 0 0] 28)).alloc (.cells #[.int .i64 0, .int .i64 0, .int .i64 0, .slice none 0 0, .int .i64 0] 49)) o1 o2 o3 o4 o5 o6 at_ f k n gr := by
  refine ⟨?_, ?_, ?_, ?_, ?_, ?_, ?_⟩
  · exact alloc_old (alloc_old (alloc_old (alloc_old (alloc_old (alloc_at rfl)))))
  · exact alloc_old (alloc_old (alloc_old (alloc_old (alloc_at (by simp)))))
  · exact alloc_old (alloc_old (alloc_old (alloc_at (by simp))))
  · exact alloc_old (alloc_old (alloc_at (by simp)))
  · exact alloc_old (alloc_at (by simp))
  · exact alloc_at (by simp)
  · exact ((((((Below.refl _ _).alloc (Nat.le_refl _) _).alloc (by simp) _).alloc (by simp; omega) _).alloc (by simp; omega) _).alloc (by simp; omega) _).alloc (by simp; omega) _
set_option maxRecDepth 100000 in
set_option maxHeartbeats 4000000 in
theorem read_flags (o1 o2 o3 o4 o5 o6 : Bool) (at_ f k n c : Int) (gr : Nat) (w : World) (hc : clsF k = some c) (hr : rightB f c = false) :
    Calls Tryz.prog 12 #[.agg #[.bool o1, .bool o2, .bool o3, .bool o4, .bool o5, .bool o6], .int .i64 at_, .agg #[.int .i64 f, .int .i64 k, .int .i64 n], .pointer (some ⟨gr, 0, none⟩)] w fun e w' => e = .returned (.tuple #[.agg #[.int .i64 0, .bool false, .int .u32 0, .int .u32 0, .slice none 0 0, .slice none 0 0, .slice none 0 0, .int .i64 0, .slice none 0 0], .agg #[.int .i64 2, .int .i64 0, .int .i64 0, .slice none 0 0, .int .i64 at_]]) ∧ Below w.heap.size w w' := by
  obtain ⟨W6, hW6⟩ : ∃ W6, W6 = (((((w.alloc (.cells #[.bool o1, .bool o2, .bool o3, .bool o4, .bool o5, .bool o6] 41)).alloc (.cells #[.int .i64 at_] 3)).alloc (.cells #[.int .i64 f, .int .i64 k, .int .i64 n] 52)).alloc (.cells #[.pointer (some ⟨gr, 0, none⟩)] 53)).alloc (.cells #[.int .i64 0, .bool false, .int .u32 0, .int .u32 0, .slice none 0 0, .slice none 0 0, .slice none 0 0, .int .i64 0, .slice none 0 0] 28)).alloc (.cells #[.int .i64 0, .int .i64 0, .int .i64 0, .slice none 0 0, .int .i64 0] 49) := ⟨_, rfl⟩
  have h6 : RS w W6 o1 o2 o3 o4 o5 o6 at_ f k n gr := by rw [hW6]; exact RS.start w o1 o2 o3 o4 o5 o6 at_ f k n gr
  have HO := hide (of_some o1 o2 o3 o4 o5 o6 k W6)
  have HC := hide (fun W => class_any k c W hc)
  have HR := hide (fun W => right_no f k n c W hc hr)
  have H6 := hide h6
  have HW6 := Lib.hid hW6
  have has := attr_size
  have HAS := Lib.hid has
  have hvs := verdict_size
  have HVS := Lib.hid hvs
  have hhs := head_size
  have HHS := Lib.hid hhs
  have hl0 := lt_of_heapF h6.g2
  clear hW6 h6 hc hr has hvs hhs
  go_enter Tryz.func12, Tryz.ntmps12
  go_wp2_with (first
    | (go_at_call 35; rw [← HW6.out]; refine HO.out.mono ?_; rintro e w1 ⟨⟨v, rfl⟩, hb1⟩
       have h1 := H6.out.more hb1
       have c1 : w1.cell? ⟨w.heap.size + 1 + 1, 1, none⟩ = some (.int .i64 k) := by rw [cell_of_row _ _ 1 _ _ _ h1.g2]; rfl
       have l1 := lt_of_heapF h1.g2
       have H1 := hide h1
       clear hb1 h1)
    | (go_at_call 36; refine (HC.out w1).mono ?_; rintro e w2 ⟨rfl, hb2⟩
       have h2 := H1.out.more hb2
       have l2 := lt_of_heapF h2.g2
       have H2 := hide h2
       clear hb2 h2)
    | ((with_reducible refine wpList_load_wholeF w2 ?hgd1 52 (.tmp 6) ?ho1 (w.heap.size + 1 + 1) 52 #[.int .i64 f, .int .i64 k, .int .i64 n] _ ?hx1 H2.out.g2 Tryz.underlying52 ?hd1 ?hi1 ?_); (case hgd1 => rfl); (case ho1 => rfl); (case hx1 => rfl); (case hd1 => rfl); (case hi1 => exact HHS.out))
    | (go_at_call 38; refine (HR.out w2).mono ?_; rintro e w3 ⟨rfl, hb3⟩
       have h3 := H2.out.more hb3
       have l3 := lt_of_heapF h3.g2
       have c3 : w3.cell? ⟨w.heap.size + 1, 0, none⟩ = some (.int .i64 at_) := by rw [cell_of_row _ _ 0 _ _ _ h3.g1]; rfl
       have K3 := hide (fail_any 2 at_ (w.heap.size + 1) w3 c3)
       have H3 := hide h3
       clear hb3 h3)
    | (go_at_call 31; refine K3.out.mono ?_; rintro e w4 ⟨rfl, hb4⟩
       have h4 := H3.out.more hb4
       have H4 := hide h4
       clear hb4 h4)
    | ((with_reducible refine wpList_store_whole w4 ?hgd2 28 (.tmp 8) (.tmp 46) ?ho2 (w.heap.size + 1 + 1 + 1 + 1) 28 #[.int .i64 0, .bool false, .int .u32 0, .int .u32 0, .slice none 0 0, .slice none 0 0, .slice none 0 0, .int .i64 0, .slice none 0 0] #[.int .i64 0, .bool false, .int .u32 0, .int .u32 0, .slice none 0 0, .slice none 0 0, .slice none 0 0, .int .i64 0, .slice none 0 0] ?hx2 ?hp2 H4.out.g4 ?hi2 ?hs2 ?hq2 ?_); (case hgd2 => rfl); (case ho2 => rfl); (case hx2 => rfl); (case hp2 => rfl); (case hs2 => rfl); (case hi2 => exact HAS.out); (case hq2 => simp [Value.oneCell'])
       intro W5 G4 O5
       have g5 := (O5.out.block _ (lt_of_heapF H4.out.g5) (by intro e; injection e; omega)).trans H4.out.g5
       have G5 := Lib.hid g5
       have B5 := hide (H4.out.be.grown O5.out H4.out.be.size (fun x hx => by injection hx; omega))
       clear g5 O5)
    | ((with_reducible refine wpList_store_whole W5 ?hgd3 49 (.tmp 9) (.tmp 47) ?ho3 (w.heap.size + 1 + 1 + 1 + 1 + 1) 49 #[.int .i64 0, .int .i64 0, .int .i64 0, .slice none 0 0, .int .i64 0] #[.int .i64 2, .int .i64 0, .int .i64 0, .slice none 0 0, .int .i64 at_] ?hx3 ?hp3 G5.out ?hi3 ?hs3 ?hq3 ?_); (case hgd3 => rfl); (case ho3 => rfl); (case hx3 => rfl); (case hp3 => rfl); (case hs3 => rfl); (case hi3 => exact HVS.out); (case hq3 => simp [Value.oneCell'])
       intro W6 G5' O6
       have g4 := (O6.out.block _ (lt_of_heapF G4.out) (by intro e; injection e; omega)).trans G4.out
       have G4' := Lib.hid g4
       have B6 := hide (B5.out.grown O6.out B5.out.size (fun x hx => by injection hx; omega))
       clear g4 O6))
  exact bodyPost_ret (v := .tuple #[.agg #[.int .i64 0, .bool false, .int .u32 0, .int .u32 0, .slice none 0 0, .slice none 0 0, .slice none 0 0, .int .i64 0, .slice none 0 0], .agg #[.int .i64 2, .int .i64 0, .int .i64 0, .slice none 0 0, .int .i64 at_]]) (results_cell2 (p := 8) (q := 9) rfl _ _ (w.heap.size + 1 + 1 + 1 + 1) (w.heap.size + 1 + 1 + 1 + 1 + 1) 28 49 _ _ rfl rfl G4'.out G5'.out Tryz.underlying28 Tryz.underlying49 rfl rfl HAS.out HVS.out) rfl ⟨rfl, B6.out⟩
end Go.Proofs.YtplgbpcjbjaloaaGreatDoor
