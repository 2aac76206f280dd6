/- basic.Valid and basic.Bytes at an ORIGIN of 0, and what handles it. -/
import Derived.Test.YtnfclcbhehbchaaGreatDoorLsE
import Derived.Test.YtnfclcbhehbchaaGreatDoorRtF
set_option autoImplicit false
namespace Go.Proofs.YtnfclcbhehbchaaGreatDoor
open Go.RowKit
theorem wpList_wantedL {P : Program} {ops : Array Oper} {Q : Exit → Act → World → Prop} {a : Act} {w : World} {rest : List Oper} {o : Oper} (hg : Region.wanted o (yielded ops a.tmps) = true)
    (h : ∀ K : Act → World → Prop, (∀ a w, wpList P ops Q rest a w → K a w) → o.wp P a w K Q) : wpList P ops Q (o :: rest) a w :=
  wpList_step fun K hK => by simp only [hg, if_true]; exact h K hK
theorem wpList_load_wholeL {P : Program} {ops : Array Oper} {rest : List Oper} {o : Oper} {a : Act} {Q : Exit → Act → World → Prop} (w : World) (hgd : Region.wanted o (yielded ops a.tmps) = true) (ty : TypeId) (x : Operand) (ho : o.op = .load ty x)
    (g : Nat) (t : TypeId) (cs : Array Value) (d : TypeDesc) (hx : a.eval x = .pointer (some ⟨g, 0, none⟩)) (hg : w.heap[g]? = some (.cells cs t (0, 0))) (hu : P.underlying ty = some d)
    (hd : (match d with | .struct _ | .array _ _ => true | _ => false) = true) (hi : (P.info? ty).map (·.size) = some cs.size)
    (h : wpList P ops Q rest (a.put o.dst (.agg cs)) w) : wpList P ops Q (o :: rest) a w :=
  wpList_wantedL hgd fun _ hK => by
    unfold Oper.wp execOp
    simp only [ho, hx, Instr.loadAt, Instr.sureAddr, Sem.run_bind, Sem.run_pure, Result.andThen_ok, run_loadVar_rowF w g t ty cs (0, 0) d hg hu hd hi]
    exact hK _ _ h
/-- What the table has for ORIGIN. -/
def rowC (p q : Nat) : Array Value := #[.int .i64 1, .int .u32 2, .int .i64 2, .func (.func 103) #[] #[.pointer (some ⟨p, 0, none⟩), .pointer (some ⟨q, 0, none⟩)]]
def rowV (p q : Nat) : Value := .agg (rowC p q)
theorem row_size : (Tryz.prog.info? 131).map (·.size) = some 4 := by kernel_rfl
theorem row_find (p0 q0 p1 q1 p2 q2 p3 q3 p4 q4 : Nat) : Instr.findNow (.int .i64) (.int .i64 1) (rowsM p0 q0 p1 q1 p2 q2 p3 q3 p4 q4).toList 0 = some (some (0, rowV p0 q0)) := by
  simp [rowsM, Instr.findNow, Instr.sameNow, rowV, rowC]
theorem run_hitP {P : Program} (w : World) (mty kt et : TypeId) (r clock i : Nat) (es : Array MapEntry) (n : Int) (val : Value) (hm : P.underlying mty = some (.map kt et)) (hk : P.underlying kt = some (.int .i64)) (hb : w.heap[r]? = some (.map es clock))
    (hf : Instr.findNow (.int .i64) (.int .i64 n) es.toList 0 = some (some (i, val))) :
    (Instr.lookup mty (.map (some r)) (.int .i64 n) false).run P w = .ok val w := by
  have hc : ∀ b, (Instr.checkKey b 10000 kt (.int .i64 n)).run P w = .ok () w := fun b => MapKept.run_checkKey (k := .int .i64 n) hk (by simp [MapKept.IsKey]) b 9999
  simp [Instr.lookup, run_underlying hm, MapKept.run_getObj_map hb, hc, MapKept.run_findKey hk hf, Result.andThen]
structure BVs (w : World) (V : World) (L : Array Bool) (x3 x4 x5 x6 x7 x8 x9 x10 x11 : Value) : Prop where
  be : Below w.heap.size w V
  g0 : V.heap[w.heap.size]? = some (.cells #[.int .i64 1, .bool false, .int .u32 0, .int .u32 0, .slice none 0 0, .slice none 0 0, .slice none 0 0, .int .i64 0, .slice none 0 0] 38 (0, 0))
  i8 : L.getD 8 false = true → L.getD 7 false = true
  f0 : L.getD 0 false = true → ∃ r p0 q0 p1 q1 p2 q2 p3 q3 p4 q4, x6 = .map (some r) ∧ V.heap[r]? = some (.map (rowsM p0 q0 p1 q1 p2 q2 p3 q3 p4 q4) 6)
  f1 : L.getD 1 false = true → x7 = .pointer (some ⟨w.heap.size, 0, none⟩)
  f2 : L.getD 2 false = true → x8 = .int .i64 1
  f3 : L.getD 3 false = true → ∃ p q, x9 = .tuple #[rowV p q, .bool true]
  f4 : L.getD 4 false = true → ∃ p q, x5 = .tuple #[rowV p q, .bool true]
  f5 : L.getD 5 false = true → ∃ p q, x10 = rowV p q
  f6 : L.getD 6 false = true → x11 = .bool true
  f7 : L.getD 7 false = true → ∃ g cs, w.heap.size + 1 ≤ g ∧ x3 = .pointer (some ⟨g, 0, none⟩) ∧ V.heap[g]? = some (.cells cs 131 (0, 0)) ∧ cs.size = 4
  f8 : L.getD 8 false = true → ∃ g p q, w.heap.size + 1 ≤ g ∧ x3 = .pointer (some ⟨g, 0, none⟩) ∧ V.heap[g]? = some (.cells (rowC p q) 131 (0, 0))
  f9 : L.getD 9 false = true → x4 = .bool true
theorem BVs.more {w V V' : World} {L : Array Bool} {x3 x4 x5 x6 x7 x8 x9 x10 x11 : Value} (H : BVs w V L x3 x4 x5 x6 x7 x8 x9 x10 x11) (hb : Below V.heap.size V V') : BVs w V' L x3 x4 x5 x6 x7 x8 x9 x10 x11 :=
  ⟨H.be.trans (hb.mono H.be.size), (hb.block _ (lt_of_heapF H.g0)).trans H.g0, H.i8, fun h => by obtain ⟨r, p0, q0, p1, q1, p2, q2, p3, q3, p4, q4, a, b⟩ := H.f0 h; exact ⟨r, p0, q0, p1, q1, p2, q2, p3, q3, p4, q4, a, (hb.block _ (lt_of_heapF b)).trans b⟩, H.f1, H.f2, H.f3, H.f4, H.f5, H.f6,
    fun h => by obtain ⟨g, cs, a, b, c, d⟩ := H.f7 h; exact ⟨g, cs, a, b, (hb.block _ (lt_of_heapF c)).trans c, d⟩, fun h => by obtain ⟨g, p, q, a, b, c⟩ := H.f8 h; exact ⟨g, p, q, a, b, (hb.block _ (lt_of_heapF c)).trans c⟩, H.f9⟩
set_option maxRecDepth 100000 in
set_option maxHeartbeats 4000000 in
theorem bvalid_one (w : World) : Calls Tryz.prog 136 #[.agg #[.int .i64 1, .bool false, .int .u32 0, .int .u32 0, .slice none 0 0, .slice none 0 0, .slice none 0 0, .int .i64 0, .slice none 0 0]] w fun e w' => e = .returned (.bool true) ∧ Below w.heap.size w w' := by
  have hst : BVs w (w.alloc (.cells #[.int .i64 1, .bool false, .int .u32 0, .int .u32 0, .slice none 0 0, .slice none 0 0, .slice none 0 0, .int .i64 0, .slice none 0 0] 38)).drew (Array.replicate 10 false) (undef) (undef) (undef) (undef) (undef) (undef) (undef) (undef) (undef) := ⟨((Below.refl _ _).alloc (Nat.le_refl _) _).drew, heap_alloc_new _ _, fun h => absurd h (by decide), fun h => absurd h (by decide), fun h => absurd h (by decide), fun h => absurd h (by decide), fun h => absurd h (by decide), fun h => absurd h (by decide), fun h => absurd h (by decide), fun h => absurd h (by decide), fun h => absurd h (by decide), fun h => absurd h (by decide), fun h => absurd h (by decide)⟩
  have HST := hide hst
  clear hst
  have hrs := row_size
  have has := attr_size
  go_enter Tryz.func136, Tryz.ntmps136
  go_wp2_with fail
  refine wp_region_inv (by kernel_rfl) (fun L a V => ∃ x3 x4 x5 x6 x7 x8 x9 x10 x11 : Value, a = ⟨List.toArray ((.agg #[.int .i64 1, .bool false, .int .u32 0, .int .u32 0, .slice none 0 0, .slice none 0 0, .slice none 0 0, .int .i64 0, .slice none 0 0]) :: (.pointer (some ⟨w.heap.size, 0, none⟩)) :: (.bool false) :: (x3) :: (x4) :: (x5) :: (x6) :: (x7) :: (x8) :: (x9) :: (x10) :: (x11) :: (undef) :: (undef) :: (undef) :: (undef) :: (undef) :: (undef) :: (undef) :: (undef) :: (undef) :: (undef) :: (undef) :: (undef) :: (undef) :: (undef) :: (undef) :: []), []⟩ ∧ BVs w V L x3 x4 x5 x6 x7 x8 x9 x10 x11) (by kernel_rfl) ?steps ⟨undef, undef, undef, undef, undef, undef, undef, undef, undef, rfl, HST.out⟩ ?done
  case steps =>
    refine ⟨?_, ?_, ?_, ?_, ?_, ?_, ?_, ?_, ?_, ?_, trivial⟩
    · rintro L a V ⟨x3, x4, x5, x6, x7, x8, x9, x10, x11, rfl, H⟩ hl ha K hK
      have hz := H.be.size
      refine step_call_fn (args := #[]) rfl rfl Tryz.func96 (by decide) rfl (by simp) (rows_any V) ?_
      rintro e w' ⟨rfl, ⟨p0, q0, p1, q1, p2, q2, p3, q3, p4, q4, hm⟩, hb⟩
      refine ⟨_, rfl, ?_⟩
      replace H := H.more hb
      exact hK _ _ ⟨_, _, _, _, _, _, _, _, _, rfl, ⟨H.be, H.g0, fun h => getD_mono (H.i8 (by rw [getD_set_ne (by decide)] at h; exact h)), fun _ => ⟨_, p0, q0, p1, q1, p2, q2, p3, q3, p4, q4, rfl, hm⟩, fun h => H.f1 ((getD_set h).resolve_left (by decide)), fun h => H.f2 ((getD_set h).resolve_left (by decide)), fun h => H.f3 ((getD_set h).resolve_left (by decide)), fun h => H.f4 ((getD_set h).resolve_left (by decide)), fun h => H.f5 ((getD_set h).resolve_left (by decide)), fun h => H.f6 ((getD_set h).resolve_left (by decide)), fun h => H.f7 ((getD_set h).resolve_left (by decide)), fun h => H.f8 ((getD_set h).resolve_left (by decide)), fun h => H.f9 ((getD_set h).resolve_left (by decide))⟩⟩
    · rintro L a V ⟨x3, x4, x5, x6, x7, x8, x9, x10, x11, rfl, H⟩ hl ha K hK
      go_simp
      exact hK _ _ ⟨_, _, _, _, _, _, _, _, _, rfl, ⟨H.be, H.g0, fun h => getD_mono (H.i8 (by rw [getD_set_ne (by decide)] at h; exact h)), fun h => H.f0 ((getD_set h).resolve_left (by decide)), fun _ => rfl, fun h => H.f2 ((getD_set h).resolve_left (by decide)), fun h => H.f3 ((getD_set h).resolve_left (by decide)), fun h => H.f4 ((getD_set h).resolve_left (by decide)), fun h => H.f5 ((getD_set h).resolve_left (by decide)), fun h => H.f6 ((getD_set h).resolve_left (by decide)), fun h => H.f7 ((getD_set h).resolve_left (by decide)), fun h => H.f8 ((getD_set h).resolve_left (by decide)), fun h => H.f9 ((getD_set h).resolve_left (by decide))⟩⟩
    · rintro L a V ⟨x3, x4, x5, x6, x7, x8, x9, x10, x11, rfl, H⟩ hl ha K hK
      obtain rfl := H.f1 (ha ⟨1, .data⟩ (by simp) rfl)
      refine step_load_cell V rfl 3 (.tmp 7) rfl ⟨w.heap.size, 0, none⟩ _ (.int .i64 1) rfl (by rw [cell_of_row _ _ 0 _ _ _ H.g0]; rfl) Tryz.underlying3 rfl ?_
      exact hK _ _ ⟨_, _, _, _, _, _, _, _, _, rfl, ⟨H.be, H.g0, fun h => getD_mono (H.i8 (by rw [getD_set_ne (by decide)] at h; exact h)), fun h => H.f0 ((getD_set h).resolve_left (by decide)), fun h => H.f1 ((getD_set h).resolve_left (by decide)), fun _ => rfl, fun h => H.f3 ((getD_set h).resolve_left (by decide)), fun h => H.f4 ((getD_set h).resolve_left (by decide)), fun h => H.f5 ((getD_set h).resolve_left (by decide)), fun h => H.f6 ((getD_set h).resolve_left (by decide)), fun h => H.f7 ((getD_set h).resolve_left (by decide)), fun h => H.f8 ((getD_set h).resolve_left (by decide)), fun h => H.f9 ((getD_set h).resolve_left (by decide))⟩⟩
    · rintro L a V ⟨x3, x4, x5, x6, x7, x8, x9, x10, x11, rfl, H⟩ hl ha K hK
      obtain ⟨r, p0, q0, p1, q1, p2, q2, p3, q3, p4, q4, rfl, hm⟩ := H.f0 (ha ⟨0, .data⟩ (by simp) rfl)
      obtain rfl := H.f2 (ha ⟨2, .data⟩ (by simp) rfl)
      have hlk := run_hitI (P := Tryz.prog) V 133 3 131 r 6 0 _ 1 _ Tryz.underlying133 Tryz.underlying3 hm (row_find p0 q0 p1 q1 p2 q2 p3 q3 p4 q4)
      refine step_run rfl (by unfold execOp; simp only [Act.eval]; simp [hlk]; exact ⟨rfl, rfl⟩) ?_
      exact hK _ _ ⟨_, _, _, _, _, _, _, _, _, rfl, ⟨H.be, H.g0, fun h => getD_mono (H.i8 (by rw [getD_set_ne (by decide)] at h; exact h)), fun h => H.f0 ((getD_set h).resolve_left (by decide)), fun h => H.f1 ((getD_set h).resolve_left (by decide)), fun h => H.f2 ((getD_set h).resolve_left (by decide)), fun _ => ⟨_, _, rfl⟩, fun h => H.f4 ((getD_set h).resolve_left (by decide)), fun h => H.f5 ((getD_set h).resolve_left (by decide)), fun h => H.f6 ((getD_set h).resolve_left (by decide)), fun h => H.f7 ((getD_set h).resolve_left (by decide)), fun h => H.f8 ((getD_set h).resolve_left (by decide)), fun h => H.f9 ((getD_set h).resolve_left (by decide))⟩⟩
    · rintro L a V ⟨x3, x4, x5, x6, x7, x8, x9, x10, x11, rfl, H⟩ hl ha K hK
      obtain ⟨p, q, rfl⟩ := H.f3 (ha ⟨3, .data⟩ (by simp) rfl)
      go_simp
      exact hK _ _ ⟨_, _, _, _, _, _, _, _, _, rfl, ⟨H.be, H.g0, fun h => getD_mono (H.i8 (by rw [getD_set_ne (by decide)] at h; exact h)), fun h => H.f0 ((getD_set h).resolve_left (by decide)), fun h => H.f1 ((getD_set h).resolve_left (by decide)), fun h => H.f2 ((getD_set h).resolve_left (by decide)), fun h => H.f3 ((getD_set h).resolve_left (by decide)), fun _ => ⟨p, q, rfl⟩, fun h => H.f5 ((getD_set h).resolve_left (by decide)), fun h => H.f6 ((getD_set h).resolve_left (by decide)), fun h => H.f7 ((getD_set h).resolve_left (by decide)), fun h => H.f8 ((getD_set h).resolve_left (by decide)), fun h => H.f9 ((getD_set h).resolve_left (by decide))⟩⟩
    · rintro L a V ⟨x3, x4, x5, x6, x7, x8, x9, x10, x11, rfl, H⟩ hl ha K hK
      obtain ⟨p, q, rfl⟩ := H.f4 (ha ⟨4, .data⟩ (by simp) rfl)
      go_simp
      exact hK _ _ ⟨_, _, _, _, _, _, _, _, _, rfl, ⟨H.be, H.g0, fun h => getD_mono (H.i8 (by rw [getD_set_ne (by decide)] at h; exact h)), fun h => H.f0 ((getD_set h).resolve_left (by decide)), fun h => H.f1 ((getD_set h).resolve_left (by decide)), fun h => H.f2 ((getD_set h).resolve_left (by decide)), fun h => H.f3 ((getD_set h).resolve_left (by decide)), fun h => H.f4 ((getD_set h).resolve_left (by decide)), fun _ => ⟨p, q, rfl⟩, fun h => H.f6 ((getD_set h).resolve_left (by decide)), fun h => H.f7 ((getD_set h).resolve_left (by decide)), fun h => H.f8 ((getD_set h).resolve_left (by decide)), fun h => H.f9 ((getD_set h).resolve_left (by decide))⟩⟩
    · rintro L a V ⟨x3, x4, x5, x6, x7, x8, x9, x10, x11, rfl, H⟩ hl ha K hK
      obtain ⟨p, q, rfl⟩ := H.f4 (ha ⟨4, .data⟩ (by simp) rfl)
      go_simp
      exact hK _ _ ⟨_, _, _, _, _, _, _, _, _, rfl, ⟨H.be, H.g0, fun h => getD_mono (H.i8 (by rw [getD_set_ne (by decide)] at h; exact h)), fun h => H.f0 ((getD_set h).resolve_left (by decide)), fun h => H.f1 ((getD_set h).resolve_left (by decide)), fun h => H.f2 ((getD_set h).resolve_left (by decide)), fun h => H.f3 ((getD_set h).resolve_left (by decide)), fun h => H.f4 ((getD_set h).resolve_left (by decide)), fun h => H.f5 ((getD_set h).resolve_left (by decide)), fun _ => rfl, fun h => H.f7 ((getD_set h).resolve_left (by decide)), fun h => H.f8 ((getD_set h).resolve_left (by decide)), fun h => H.f9 ((getD_set h).resolve_left (by decide))⟩⟩
    · rintro L a V ⟨x3, x4, x5, x6, x7, x8, x9, x10, x11, rfl, H⟩ hl ha K hK
      have n8 : L.getD 8 false = false := by
        cases h8 : L.getD 8 false with
        | true => exact absurd (H.i8 h8) (by rw [getD_left hl]; decide)
        | false => rfl
      have hal : Below V.heap.size V (V.alloc (.cells #[.int .i64 0, .int .u32 0, .int .i64 0, .nilFunc] 131)) := (Below.refl _ _).alloc (Nat.le_refl _) _
      have hz := lt_of_heapF H.g0
      replace H := H.more hal
      go_simp
      exact hK _ _ ⟨_, _, _, _, _, _, _, _, _, rfl, ⟨H.be, H.g0, fun h => absurd (by rw [getD_set_ne (by decide)] at h; exact h) (by rw [n8]; decide), fun h => H.f0 ((getD_set h).resolve_left (by decide)), fun h => H.f1 ((getD_set h).resolve_left (by decide)), fun h => H.f2 ((getD_set h).resolve_left (by decide)), fun h => H.f3 ((getD_set h).resolve_left (by decide)), fun h => H.f4 ((getD_set h).resolve_left (by decide)), fun h => H.f5 ((getD_set h).resolve_left (by decide)), fun h => H.f6 ((getD_set h).resolve_left (by decide)), fun _ => ⟨_, _, hz, rfl, heap_alloc_new _ _, rfl⟩, fun h => absurd ((getD_set h).resolve_left (by decide)) (by rw [n8]; decide), fun h => H.f9 ((getD_set h).resolve_left (by decide))⟩⟩
    · rintro L a V ⟨x3, x4, x5, x6, x7, x8, x9, x10, x11, rfl, H⟩ hl ha K hK
      have hi7 := ha ⟨7, .data⟩ (by simp) rfl
      obtain ⟨p, q, rfl⟩ := H.f5 (ha ⟨5, .data⟩ (by simp) rfl)
      obtain ⟨g, cs, hgw, rfl, hg, h4⟩ := H.f7 hi7
      refine step_store_whole V rfl 131 (.tmp 3) (.tmp 10) rfl g 131 cs (rowC p q) rfl rfl hg row_size h4 (by simp [rowC, Value.oneCell']) ?_
      intro V' hg' ho
      have hgr := ho.out
      have be' := H.be.grown hgr H.be.size (fun x hx => by injection hx with hx; omega)
      have g0' := (hgr.block w.heap.size (lt_of_heapF H.g0) (by intro e; injection e with e; omega)).trans H.g0
      have f0' : L.getD 0 false = true → ∃ r p0 q0 p1 q1 p2 q2 p3 q3 p4 q4, x6 = .map (some r) ∧ V'.heap[r]? = some (.map (rowsM p0 q0 p1 q1 p2 q2 p3 q3 p4 q4) 6) := fun h => by
        obtain ⟨r, p0, q0, p1, q1, p2, q2, p3, q3, p4, q4, a, b⟩ := H.f0 h
        exact ⟨r, p0, q0, p1, q1, p2, q2, p3, q3, p4, q4, a, (hgr.block r (lt_of_heapF b) (by intro e; injection e with e; subst e; rw [hg] at b; cases b)).trans b⟩
      exact hK _ _ ⟨_, _, _, _, _, _, _, _, _, rfl, ⟨be', g0', fun _ => getD_mono hi7, fun h => f0' ((getD_set h).resolve_left (by decide)), fun h => H.f1 ((getD_set h).resolve_left (by decide)), fun h => H.f2 ((getD_set h).resolve_left (by decide)), fun h => H.f3 ((getD_set h).resolve_left (by decide)), fun h => H.f4 ((getD_set h).resolve_left (by decide)), fun h => H.f5 ((getD_set h).resolve_left (by decide)), fun h => H.f6 ((getD_set h).resolve_left (by decide)), fun _ => ⟨g, _, hgw, rfl, hg'.out, rfl⟩, fun _ => ⟨g, p, q, hgw, rfl, hg'.out⟩, fun h => H.f9 ((getD_set h).resolve_left (by decide))⟩⟩
    · rintro L a V ⟨x3, x4, x5, x6, x7, x8, x9, x10, x11, rfl, H⟩ hl ha K hK
      obtain rfl := H.f6 (ha ⟨6, .data⟩ (by simp) rfl)
      go_simp
      exact hK _ _ ⟨_, _, _, _, _, _, _, _, _, rfl, ⟨H.be, H.g0, fun h => getD_mono (H.i8 (by rw [getD_set_ne (by decide)] at h; exact h)), fun h => H.f0 ((getD_set h).resolve_left (by decide)), fun h => H.f1 ((getD_set h).resolve_left (by decide)), fun h => H.f2 ((getD_set h).resolve_left (by decide)), fun h => H.f3 ((getD_set h).resolve_left (by decide)), fun h => H.f4 ((getD_set h).resolve_left (by decide)), fun h => H.f5 ((getD_set h).resolve_left (by decide)), fun h => H.f6 ((getD_set h).resolve_left (by decide)), fun h => H.f7 ((getD_set h).resolve_left (by decide)), fun h => H.f8 ((getD_set h).resolve_left (by decide)), fun _ => rfl⟩⟩
  case done =>
    rintro L a V ⟨x3, x4, x5, x6, x7, x8, x9, x10, x11, rfl, H⟩ hall
    obtain ⟨g, p, q, hgw, rfl, hg⟩ := H.f8 (hall 8 (by decide))
    obtain ⟨p', q', rfl⟩ := H.f4 (hall 4 (by decide))
    obtain ⟨p'', q'', rfl⟩ := H.f5 (hall 5 (by decide))
    obtain rfl := H.f9 (hall 9 (by decide))
    have hg0 := H.g0
    have hbe := H.be
    have hl0 := lt_of_heapF hg0
    have hlg := lt_of_heapF hg
    have c2 : V.cell? ⟨w.heap.size, 2, none⟩ = some (.int .u32 0) := by rw [cell_of_row _ _ 2 _ _ _ hg0]; rfl
    have hal : Below V.heap.size V (V.alloc (.cells #[.int .u32 0] 32)) := (Below.refl _ _).alloc (Nat.le_refl _) _
    have hpl := plain_one V.heap.size (V.alloc (.cells #[.int .u32 0] 32)) (by rw [cell_of_row _ _ 0 _ _ _ (heap_alloc_new V _)]; rfl)
    have G0 := Lib.hid hg0
    have GG := Lib.hid hg
    have BE := hide hbe
    have AL := hide hal
    have PL := hide hpl
    have HAS := Lib.hid has
    clear H hall hg0 hg hbe hal hpl hrs has HST
    go_wp2_with (first
      | ((with_reducible refine wpList_load_wholeL V ?hgd1 38 (.tmp 1) ?ho1 w.heap.size 38 #[.int .i64 1, .bool false, .int .u32 0, .int .u32 0, .slice none 0 0, .slice none 0 0, .slice none 0 0, .int .i64 0, .slice none 0 0] _ ?hx1 G0.out Tryz.underlying38 ?hd1 ?hi1 ?_); (case hgd1 => rfl); (case ho1 => rfl); (case hx1 => rfl); (case hd1 => rfl); (case hi1 => exact HAS.out))
      | (go_at_call 137; refine PL.out.mono ?_; rintro e w2 ⟨rfl, hb2⟩
         have k0 := (hb2.block _ (Nat.lt_of_lt_of_le hl0 AL.out.size)).trans ((AL.out.block _ hl0).trans G0.out)
         have kg := (hb2.block _ (Nat.lt_of_lt_of_le hlg AL.out.size)).trans ((AL.out.block _ hlg).trans GG.out)
         have d2 : w2.cell? ⟨w.heap.size, 2, none⟩ = some (.int .u32 0) := by rw [cell_of_row _ _ 2 _ _ _ k0]; rfl
         have e1 : w2.cell? ⟨g, 1, none⟩ = some (.int .u32 2) := by rw [cell_of_row _ _ 1 _ _ _ kg]; rfl
         have lk := lt_of_heapF k0
         have lg := lt_of_heapF kg
         have B2 := hide (BE.out.trans ((AL.out.trans (hb2.mono AL.out.size)).mono BE.out.size))
         clear hb2 k0 kg))
    go_ret
    exact ⟨rfl, B2.out⟩
structure BBs (w W3 : World) (g4 c4 : Nat) (V : World) (L : Array Bool) (x2 x3 x15 x16 x17 x18 x19 x20 x21 x22 : Value) : Prop where
  be : Below W3.heap.size W3 V
  g0 : V.heap[w.heap.size]? = some (.cells #[.int .i64 1, .bool false, .int .u32 0, .int .u32 0, .slice none 0 0, .slice none 0 0, .slice none 0 0, .int .i64 0, .slice none 0 0] 38 (0, 0))
  f0 : L.getD 0 false = true → x15 = .slice (some ⟨g4, 0, none⟩) 4 c4
  f1 : L.getD 1 false = true → ∃ r p0 q0 p1 q1 p2 q2 p3 q3 p4 q4, x16 = .map (some r) ∧ V.heap[r]? = some (.map (rowsM p0 q0 p1 q1 p2 q2 p3 q3 p4 q4) 6)
  f2 : L.getD 2 false = true → x17 = .pointer (some ⟨w.heap.size, 0, none⟩)
  f3 : L.getD 3 false = true → x18 = .int .i64 1
  f4 : L.getD 4 false = true → ∃ p q, x19 = rowV p q
  f5 : L.getD 5 false = true → x20 = .int .i64 1
  f6 : L.getD 6 false = true → x21 = .int .i64 3
  f7 : L.getD 7 false = true → x22 = .slice (some ⟨g4, 3, none⟩) 1 (c4 - 3)
  f8 : L.getD 8 false = true → x2 = .slice (some ⟨g4, 3, none⟩) 1 (c4 - 3)
  f9 : L.getD 9 false = true → x3 = .bool true
theorem BBs.more {w W3 V V' : World} {g4 c4 : Nat} {L : Array Bool} {x2 x3 x15 x16 x17 x18 x19 x20 x21 x22 : Value} (H : BBs w W3 g4 c4 V L x2 x3 x15 x16 x17 x18 x19 x20 x21 x22) (hb : Below V.heap.size V V') : BBs w W3 g4 c4 V' L x2 x3 x15 x16 x17 x18 x19 x20 x21 x22 :=
  ⟨H.be.trans (hb.mono H.be.size), (hb.block _ (lt_of_heapF H.g0)).trans H.g0, H.f0, fun h => by obtain ⟨r, p0, q0, p1, q1, p2, q2, p3, q3, p4, q4, a, b⟩ := H.f1 h; exact ⟨r, p0, q0, p1, q1, p2, q2, p3, q3, p4, q4, a, (hb.block _ (lt_of_heapF b)).trans b⟩, H.f2, H.f3, H.f4, H.f5, H.f6, H.f7, H.f8, H.f9⟩
set_option maxRecDepth 100000 in
set_option maxHeartbeats 4000000 in
theorem bbytes_one (w : World) : Calls Tryz.prog 135 #[.agg #[.int .i64 1, .bool false, .int .u32 0, .int .u32 0, .slice none 0 0, .slice none 0 0, .slice none 0 0, .int .i64 0, .slice none 0 0]] w fun e w' => ∃ v, e = .returned (.tuple #[v, .bool true]) ∧ SrcB w' w'.heap.size v (1, bV [0]) ∧ Below w.heap.size w w' := by
  obtain ⟨W0, hW0⟩ : ∃ W0, W0 = w.alloc (.cells #[.int .i64 1, .bool false, .int .u32 0, .int .u32 0, .slice none 0 0, .slice none 0 0, .slice none 0 0, .int .i64 0, .slice none 0 0] 38) := ⟨_, rfl⟩
  have hg0 : W0.heap[w.heap.size]? = some (.cells #[.int .i64 1, .bool false, .int .u32 0, .int .u32 0, .slice none 0 0, .slice none 0 0, .slice none 0 0, .int .i64 0, .slice none 0 0] 38 (0, 0)) := by rw [hW0]; exact heap_alloc_new _ _
  have hb0 : Below w.heap.size w W0 := by rw [hW0]; exact (Below.refl _ _).alloc (Nat.le_refl _) _
  have G0 := Lib.hid hg0
  have B0 := hide hb0
  have HW0 := Lib.hid hW0
  have has := attr_size
  have HAS := Lib.hid has
  clear hg0 hb0 hW0 has
  go_enter Tryz.func135, Tryz.ntmps135
  go_wp2_with (first
    | (rw [← HW0.out]; (with_reducible refine wpList_load_wholeF W0 ?hgd1 38 (.tmp 1) ?ho1 w.heap.size 38 #[.int .i64 1, .bool false, .int .u32 0, .int .u32 0, .slice none 0 0, .slice none 0 0, .slice none 0 0, .int .i64 0, .slice none 0 0] _ ?hx1 G0.out Tryz.underlying38 ?hd1 ?hi1 ?_); (case hgd1 => rfl); (case ho1 => rfl); (case hx1 => rfl); (case hd1 => rfl); (case hi1 => exact HAS.out))
    | (go_at_call 136; refine (bvalid_one _).mono ?_; rintro e w1 ⟨rfl, hb1⟩
       have g1 := (hb1.block _ (lt_of_heapF G0.out)).trans G0.out
       have G1 := Lib.hid g1
       have c2 : w1.cell? ⟨w.heap.size, 2, none⟩ = some (.int .u32 0) := by rw [cell_of_row _ _ 2 _ _ _ g1]; rfl
       have l1 := lt_of_heapF g1
       have B1 := hide (B0.out.trans (hb1.mono B0.out.size))
       clear g1 hb1)
    | (go_at_call 73; refine (put4_zero _).mono ?_; rintro e W3 ⟨v, rfl, ho, hb3⟩
       have g3 := (hb3.block _ (lt_of_heapF G1.out)).trans G1.out
       have G3 := Lib.hid g3
       have B3 := hide (B1.out.trans (hb3.mono B1.out.size))
       have HO := hide (own_baseF ho B1.out.size)
       clear g3 hb3 ho))
  obtain ⟨g4, c4, rfl, h4, h4m⟩ : ∃ g4 c4, v = .slice (some ⟨g4, 0, none⟩) 4 c4 ∧ 4 ≤ c4 ∧ W3.cell? ⟨g4, 3, none⟩ = some (.int .u8 0) := by
    have h := HO.out
    rcases h.2 with ⟨_, hn⟩ | ⟨g, cap, cur, e, _, _, h1, h2, _⟩
    · cases hn
    · subst e
      exact ⟨g, cap, rfl, h1, h.cellAt 3 (by omega)⟩
  have hst : BBs w W3 g4 c4 W3.drew (Array.replicate 10 false) (.slice none 0 0) (.bool false) (undef) (undef) (undef) (undef) (undef) (undef) (undef) (undef) := ⟨(Below.refl _ _).drew, G3.out, fun h => absurd h (by decide), fun h => absurd h (by decide), fun h => absurd h (by decide), fun h => absurd h (by decide), fun h => absurd h (by decide), fun h => absurd h (by decide), fun h => absurd h (by decide), fun h => absurd h (by decide), fun h => absurd h (by decide), fun h => absurd h (by decide)⟩
  refine wp_region_inv (by kernel_rfl) (fun L a V => ∃ x2 x3 x15 x16 x17 x18 x19 x20 x21 x22 : Value, a = ⟨List.toArray ((.agg #[.int .i64 1, .bool false, .int .u32 0, .int .u32 0, .slice none 0 0, .slice none 0 0, .slice none 0 0, .int .i64 0, .slice none 0 0]) :: (.pointer (some ⟨w.heap.size, 0, none⟩)) :: (x2) :: (x3) :: (.slice (some ⟨g4, 0, none⟩) 4 c4) :: (.bool true) :: (.agg #[.int .i64 1, .bool false, .int .u32 0, .int .u32 0, .slice none 0 0, .slice none 0 0, .slice none 0 0, .int .i64 0, .slice none 0 0]) :: (.bool true) :: (.bool false) :: (.tuple #[.slice (some ⟨g4, 0, none⟩) 4 c4, .bool true]) :: (.pointer (some ⟨w.heap.size, 2, none⟩)) :: (.int .u32 0) :: (.tuple #[.slice (some ⟨g4, 0, none⟩) 4 c4, .bool true]) :: (.slice (some ⟨g4, 0, none⟩) 4 c4) :: (.bool true) :: (x15) :: (x16) :: (x17) :: (x18) :: (x19) :: (x20) :: (x21) :: (x22) :: []), []⟩ ∧ BBs w W3 g4 c4 V L x2 x3 x15 x16 x17 x18 x19 x20 x21 x22) (by kernel_rfl) ?steps ⟨.slice none 0 0, .bool false, undef, undef, undef, undef, undef, undef, undef, undef, rfl, hst⟩ ?done
  case steps =>
    refine ⟨?_, ?_, ?_, ?_, ?_, ?_, ?_, ?_, ?_, ?_, trivial⟩
    · rintro L a V ⟨x2, x3, x15, x16, x17, x18, x19, x20, x21, x22, rfl, H⟩ hl ha K hK
      go_simp
      exact hK _ _ ⟨_, _, _, _, _, _, _, _, _, _, rfl, ⟨H.be, H.g0, fun _ => rfl, fun h => H.f1 ((getD_set h).resolve_left (by decide)), fun h => H.f2 ((getD_set h).resolve_left (by decide)), fun h => H.f3 ((getD_set h).resolve_left (by decide)), fun h => H.f4 ((getD_set h).resolve_left (by decide)), fun h => H.f5 ((getD_set h).resolve_left (by decide)), fun h => H.f6 ((getD_set h).resolve_left (by decide)), fun h => H.f7 ((getD_set h).resolve_left (by decide)), fun h => H.f8 ((getD_set h).resolve_left (by decide)), fun h => H.f9 ((getD_set h).resolve_left (by decide))⟩⟩
    · rintro L a V ⟨x2, x3, x15, x16, x17, x18, x19, x20, x21, x22, rfl, H⟩ hl ha K hK
      refine step_call_fn (args := #[]) rfl rfl Tryz.func96 (by decide) rfl (by simp) (rows_any V) ?_
      rintro e w' ⟨rfl, ⟨p0, q0, p1, q1, p2, q2, p3, q3, p4, q4, hm⟩, hb⟩
      refine ⟨_, rfl, ?_⟩
      replace H := H.more hb
      exact hK _ _ ⟨_, _, _, _, _, _, _, _, _, _, rfl, ⟨H.be, H.g0, fun h => H.f0 ((getD_set h).resolve_left (by decide)), fun _ => ⟨_, p0, q0, p1, q1, p2, q2, p3, q3, p4, q4, rfl, hm⟩, fun h => H.f2 ((getD_set h).resolve_left (by decide)), fun h => H.f3 ((getD_set h).resolve_left (by decide)), fun h => H.f4 ((getD_set h).resolve_left (by decide)), fun h => H.f5 ((getD_set h).resolve_left (by decide)), fun h => H.f6 ((getD_set h).resolve_left (by decide)), fun h => H.f7 ((getD_set h).resolve_left (by decide)), fun h => H.f8 ((getD_set h).resolve_left (by decide)), fun h => H.f9 ((getD_set h).resolve_left (by decide))⟩⟩
    · rintro L a V ⟨x2, x3, x15, x16, x17, x18, x19, x20, x21, x22, rfl, H⟩ hl ha K hK
      go_simp
      exact hK _ _ ⟨_, _, _, _, _, _, _, _, _, _, rfl, ⟨H.be, H.g0, fun h => H.f0 ((getD_set h).resolve_left (by decide)), fun h => H.f1 ((getD_set h).resolve_left (by decide)), fun _ => rfl, fun h => H.f3 ((getD_set h).resolve_left (by decide)), fun h => H.f4 ((getD_set h).resolve_left (by decide)), fun h => H.f5 ((getD_set h).resolve_left (by decide)), fun h => H.f6 ((getD_set h).resolve_left (by decide)), fun h => H.f7 ((getD_set h).resolve_left (by decide)), fun h => H.f8 ((getD_set h).resolve_left (by decide)), fun h => H.f9 ((getD_set h).resolve_left (by decide))⟩⟩
    · rintro L a V ⟨x2, x3, x15, x16, x17, x18, x19, x20, x21, x22, rfl, H⟩ hl ha K hK
      obtain rfl := H.f2 (ha ⟨2, .data⟩ (by simp) rfl)
      refine step_load_cell V rfl 3 (.tmp 17) rfl ⟨w.heap.size, 0, none⟩ _ (.int .i64 1) rfl (by rw [cell_of_row _ _ 0 _ _ _ H.g0]; rfl) Tryz.underlying3 rfl ?_
      exact hK _ _ ⟨_, _, _, _, _, _, _, _, _, _, rfl, ⟨H.be, H.g0, fun h => H.f0 ((getD_set h).resolve_left (by decide)), fun h => H.f1 ((getD_set h).resolve_left (by decide)), fun h => H.f2 ((getD_set h).resolve_left (by decide)), fun _ => rfl, fun h => H.f4 ((getD_set h).resolve_left (by decide)), fun h => H.f5 ((getD_set h).resolve_left (by decide)), fun h => H.f6 ((getD_set h).resolve_left (by decide)), fun h => H.f7 ((getD_set h).resolve_left (by decide)), fun h => H.f8 ((getD_set h).resolve_left (by decide)), fun h => H.f9 ((getD_set h).resolve_left (by decide))⟩⟩
    · rintro L a V ⟨x2, x3, x15, x16, x17, x18, x19, x20, x21, x22, rfl, H⟩ hl ha K hK
      obtain ⟨r, p0, q0, p1, q1, p2, q2, p3, q3, p4, q4, rfl, hm⟩ := H.f1 (ha ⟨1, .data⟩ (by simp) rfl)
      obtain rfl := H.f3 (ha ⟨3, .data⟩ (by simp) rfl)
      have hlk := run_hitP (P := Tryz.prog) V 133 3 131 r 6 0 _ 1 _ Tryz.underlying133 Tryz.underlying3 hm (row_find p0 q0 p1 q1 p2 q2 p3 q3 p4 q4)
      refine step_run rfl (by unfold execOp; simp only [Act.eval]; simp [hlk]; exact ⟨rfl, rfl⟩) ?_
      exact hK _ _ ⟨_, _, _, _, _, _, _, _, _, _, rfl, ⟨H.be, H.g0, fun h => H.f0 ((getD_set h).resolve_left (by decide)), fun h => H.f1 ((getD_set h).resolve_left (by decide)), fun h => H.f2 ((getD_set h).resolve_left (by decide)), fun h => H.f3 ((getD_set h).resolve_left (by decide)), fun _ => ⟨_, _, rfl⟩, fun h => H.f5 ((getD_set h).resolve_left (by decide)), fun h => H.f6 ((getD_set h).resolve_left (by decide)), fun h => H.f7 ((getD_set h).resolve_left (by decide)), fun h => H.f8 ((getD_set h).resolve_left (by decide)), fun h => H.f9 ((getD_set h).resolve_left (by decide))⟩⟩
    · rintro L a V ⟨x2, x3, x15, x16, x17, x18, x19, x20, x21, x22, rfl, H⟩ hl ha K hK
      obtain ⟨p, q, rfl⟩ := H.f4 (ha ⟨4, .data⟩ (by simp) rfl)
      unfold rowV rowC
      go_simp
      exact hK _ _ ⟨_, _, _, _, _, _, _, _, _, _, rfl, ⟨H.be, H.g0, fun h => H.f0 ((getD_set h).resolve_left (by decide)), fun h => H.f1 ((getD_set h).resolve_left (by decide)), fun h => H.f2 ((getD_set h).resolve_left (by decide)), fun h => H.f3 ((getD_set h).resolve_left (by decide)), fun h => H.f4 ((getD_set h).resolve_left (by decide)), fun _ => rfl, fun h => H.f6 ((getD_set h).resolve_left (by decide)), fun h => H.f7 ((getD_set h).resolve_left (by decide)), fun h => H.f8 ((getD_set h).resolve_left (by decide)), fun h => H.f9 ((getD_set h).resolve_left (by decide))⟩⟩
    · rintro L a V ⟨x2, x3, x15, x16, x17, x18, x19, x20, x21, x22, rfl, H⟩ hl ha K hK
      obtain rfl := H.f5 (ha ⟨5, .data⟩ (by simp) rfl)
      go_simp
      exact hK _ _ ⟨_, _, _, _, _, _, _, _, _, _, rfl, ⟨H.be, H.g0, fun h => H.f0 ((getD_set h).resolve_left (by decide)), fun h => H.f1 ((getD_set h).resolve_left (by decide)), fun h => H.f2 ((getD_set h).resolve_left (by decide)), fun h => H.f3 ((getD_set h).resolve_left (by decide)), fun h => H.f4 ((getD_set h).resolve_left (by decide)), fun h => H.f5 ((getD_set h).resolve_left (by decide)), fun _ => rfl, fun h => H.f7 ((getD_set h).resolve_left (by decide)), fun h => H.f8 ((getD_set h).resolve_left (by decide)), fun h => H.f9 ((getD_set h).resolve_left (by decide))⟩⟩
    · rintro L a V ⟨x2, x3, x15, x16, x17, x18, x19, x20, x21, x22, rfl, H⟩ hl ha K hK
      obtain rfl := H.f0 (ha ⟨0, .data⟩ (by simp) rfl)
      obtain rfl := H.f6 (ha ⟨6, .data⟩ (by simp) rfl)
      have hc43 : ¬ c4 = 3 := by omega
      go_simp
      exact hK _ _ ⟨_, _, _, _, _, _, _, _, _, _, rfl, ⟨H.be, H.g0, fun h => H.f0 ((getD_set h).resolve_left (by decide)), fun h => H.f1 ((getD_set h).resolve_left (by decide)), fun h => H.f2 ((getD_set h).resolve_left (by decide)), fun h => H.f3 ((getD_set h).resolve_left (by decide)), fun h => H.f4 ((getD_set h).resolve_left (by decide)), fun h => H.f5 ((getD_set h).resolve_left (by decide)), fun h => H.f6 ((getD_set h).resolve_left (by decide)), fun _ => rfl, fun h => H.f8 ((getD_set h).resolve_left (by decide)), fun h => H.f9 ((getD_set h).resolve_left (by decide))⟩⟩
    · rintro L a V ⟨x2, x3, x15, x16, x17, x18, x19, x20, x21, x22, rfl, H⟩ hl ha K hK
      obtain rfl := H.f7 (ha ⟨7, .data⟩ (by simp) rfl)
      go_simp
      exact hK _ _ ⟨_, _, _, _, _, _, _, _, _, _, rfl, ⟨H.be, H.g0, fun h => H.f0 ((getD_set h).resolve_left (by decide)), fun h => H.f1 ((getD_set h).resolve_left (by decide)), fun h => H.f2 ((getD_set h).resolve_left (by decide)), fun h => H.f3 ((getD_set h).resolve_left (by decide)), fun h => H.f4 ((getD_set h).resolve_left (by decide)), fun h => H.f5 ((getD_set h).resolve_left (by decide)), fun h => H.f6 ((getD_set h).resolve_left (by decide)), fun h => H.f7 ((getD_set h).resolve_left (by decide)), fun _ => rfl, fun h => H.f9 ((getD_set h).resolve_left (by decide))⟩⟩
    · rintro L a V ⟨x2, x3, x15, x16, x17, x18, x19, x20, x21, x22, rfl, H⟩ hl ha K hK
      go_simp
      exact hK _ _ ⟨_, _, _, _, _, _, _, _, _, _, rfl, ⟨H.be, H.g0, fun h => H.f0 ((getD_set h).resolve_left (by decide)), fun h => H.f1 ((getD_set h).resolve_left (by decide)), fun h => H.f2 ((getD_set h).resolve_left (by decide)), fun h => H.f3 ((getD_set h).resolve_left (by decide)), fun h => H.f4 ((getD_set h).resolve_left (by decide)), fun h => H.f5 ((getD_set h).resolve_left (by decide)), fun h => H.f6 ((getD_set h).resolve_left (by decide)), fun h => H.f7 ((getD_set h).resolve_left (by decide)), fun h => H.f8 ((getD_set h).resolve_left (by decide)), fun _ => rfl⟩⟩
  case done =>
    rintro L a V ⟨x2, x3, x15, x16, x17, x18, x19, x20, x21, x22, rfl, H⟩ hall
    obtain rfl := H.f8 (hall 8 (by decide))
    obtain rfl := H.f9 (hall 9 (by decide))
    have hl4 := World.block_lt_of_cell? W3 ⟨g4, 3, none⟩ h4m
    have hc3 : V.cell? ⟨g4, 3, none⟩ = some (.int .u8 0) := (H.be.cell (p := ⟨g4, 3, none⟩) hl4).trans h4m
    have hs : SrcB V V.heap.size (.slice (some ⟨g4, 3, none⟩) 1 (c4 - 3)) (1, bV [0]) := ⟨_, _, rfl, ⟨rfl, fun _ => ⟨_, rfl, World.block_lt_of_cell? V ⟨g4, 3, none⟩ hc3, fun j u hu => by
      rcases j with _ | j
      · have e : u = .int .u8 0 := by simpa [bV] using hu.symm
        subst e
        exact hc3
      · simp [bV] at hu⟩⟩, bV_one _⟩
    have HS := Lib.hid hs
    have BE := hide (B3.out.trans (H.be.mono B3.out.size))
    clear H hall hst hs hc3 h4m
    go_wp2_with fail
    refine bodyPost_ret (v := .tuple #[.slice (some ⟨g4, 3, none⟩) 1 (c4 - 3), .bool true]) (by simp [results, Tryz.results135, go_sem]) rfl ?_
    exact ⟨_, rfl, HS.out, BE.out⟩
set_option maxRecDepth 100000 in
set_option maxHeartbeats 4000000 in
theorem svalid_one (w : World) : Calls Tryz.prog 134 #[.agg #[], .agg #[.int .i64 1, .bool false, .int .u32 0, .int .u32 0, .slice none 0 0, .slice none 0 0, .slice none 0 0, .int .i64 0, .slice none 0 0]] w fun e w' => e = .returned (.bool true) ∧ Below w.heap.size w w' := by
  obtain ⟨W0, hW0⟩ : ∃ W0, W0 = (w.alloc (.cells #[] 117)).alloc (.cells #[.int .i64 1, .bool false, .int .u32 0, .int .u32 0, .slice none 0 0, .slice none 0 0, .slice none 0 0, .int .i64 0, .slice none 0 0] 38) := ⟨_, rfl⟩
  have hg0 : W0.heap[w.heap.size + 1]? = some (.cells #[.int .i64 1, .bool false, .int .u32 0, .int .u32 0, .slice none 0 0, .slice none 0 0, .slice none 0 0, .int .i64 0, .slice none 0 0] 38 (0, 0)) := by rw [hW0]; exact heap_alloc2_new _ _ _
  have hb0 : Below w.heap.size w W0 := by rw [hW0]; exact ((Below.refl _ _).alloc (Nat.le_refl _) _).alloc (by simp) _
  have G0 := Lib.hid hg0
  have B0 := hide hb0
  have HW0 := Lib.hid hW0
  have has := attr_size
  have HAS := Lib.hid has
  clear hg0 hb0 hW0 has
  go_enter Tryz.func134, Tryz.ntmps134
  go_wp2_with (first
    | (rw [← HW0.out]; (with_reducible refine wpList_load_wholeF W0 ?hgd1 38 (.tmp 3) ?ho1 (w.heap.size + 1) 38 #[.int .i64 1, .bool false, .int .u32 0, .int .u32 0, .slice none 0 0, .slice none 0 0, .slice none 0 0, .int .i64 0, .slice none 0 0] _ ?hx1 G0.out Tryz.underlying38 ?hd1 ?hi1 ?_); (case hgd1 => rfl); (case ho1 => rfl); (case hx1 => rfl); (case hd1 => rfl); (case hi1 => exact HAS.out))
    | (go_at_call 136; refine (bvalid_one _).mono ?_; rintro e w1 ⟨rfl, hb1⟩
       have B1 := hide (B0.out.trans (hb1.mono B0.out.size))
       clear hb1))
  go_ret
  exact ⟨rfl, B1.out⟩
set_option maxRecDepth 100000 in
set_option maxHeartbeats 4000000 in
theorem sbytes_one (w : World) : Calls Tryz.prog 132 #[.agg #[], .agg #[.int .i64 1, .bool false, .int .u32 0, .int .u32 0, .slice none 0 0, .slice none 0 0, .slice none 0 0, .int .i64 0, .slice none 0 0]] w fun e w' => ∃ v, e = .returned (.tuple #[v, .bool true]) ∧ SrcB w' w'.heap.size v (1, bV [0]) ∧ Below w.heap.size w w' := by
  obtain ⟨W0, hW0⟩ : ∃ W0, W0 = (w.alloc (.cells #[] 117)).alloc (.cells #[.int .i64 1, .bool false, .int .u32 0, .int .u32 0, .slice none 0 0, .slice none 0 0, .slice none 0 0, .int .i64 0, .slice none 0 0] 38) := ⟨_, rfl⟩
  have hg0 : W0.heap[w.heap.size + 1]? = some (.cells #[.int .i64 1, .bool false, .int .u32 0, .int .u32 0, .slice none 0 0, .slice none 0 0, .slice none 0 0, .int .i64 0, .slice none 0 0] 38 (0, 0)) := by rw [hW0]; exact heap_alloc2_new _ _ _
  have hb0 : Below w.heap.size w W0 := by rw [hW0]; exact ((Below.refl _ _).alloc (Nat.le_refl _) _).alloc (by simp) _
  have G0 := Lib.hid hg0
  have B0 := hide hb0
  have HW0 := Lib.hid hW0
  have has := attr_size
  have HAS := Lib.hid has
  clear hg0 hb0 hW0 has
  go_enter Tryz.func132, Tryz.ntmps132
  go_wp2_with (first
    | (rw [← HW0.out]; (with_reducible refine wpList_load_wholeF W0 ?hgd1 38 (.tmp 3) ?ho1 (w.heap.size + 1) 38 #[.int .i64 1, .bool false, .int .u32 0, .int .u32 0, .slice none 0 0, .slice none 0 0, .slice none 0 0, .int .i64 0, .slice none 0 0] _ ?hx1 G0.out Tryz.underlying38 ?hd1 ?hi1 ?_); (case hgd1 => rfl); (case ho1 => rfl); (case hx1 => rfl); (case hd1 => rfl); (case hi1 => exact HAS.out))
    | (go_at_call 135; refine (bbytes_one _).mono ?_; rintro e w1 ⟨v, rfl, hs, hb1⟩
       have B1 := hide (B0.out.trans (hb1.mono B0.out.size))
       have HS := Lib.hid hs
       clear hs
       clear hb1))
  refine bodyPost_ret (v := .tuple #[v, .bool true]) (by simp [results, Tryz.results132, go_sem]) rfl ?_
  exact ⟨_, rfl, HS.out, B1.out⟩
end Go.Proofs.YtnfclcbhehbchaaGreatDoor
