/- Maps with int keys: insertions and lookups; flag.classes, Class, Right. -/
import Derived.Test.YtnfclcbhehbchaaGreatDoorProg
import Derived.Test.YtnfclcbhehbchaaGreatDoorBase
import Derived.WalkSpells
import Derived.Deep.QuietTactic
import Derived.BigQuiet
import Derived.BigRegion
import Derived.RegionTactic
import Derived.Lib.SliceRun
import Derived.KernelRfl
import Derived.WideMake
import Derived.MapKept
set_option autoImplicit false
namespace Go.Proofs.YtnfclcbhehbchaaGreatDoor
open Go.RowKit

theorem run_insertI {P : Program} (w : World) (mty kt et : TypeId) (r clock : Nat) (es : Array MapEntry) (n : Int) (val : Value) (hm : P.underlying mty = some (.map kt et)) (hk : P.underlying kt = some (.int .i64)) (hb : w.heap[r]? = some (.map es clock))
    (hf : Instr.findNow (.int .i64) (.int .i64 n) es.toList 0 = some none) :
    (Instr.mapUpdate mty (.map (some r)) (.int .i64 n) val).run P w = .ok () { w with heap := w.heap.setIfInBounds r (.map (es.push { key := .int .i64 n, val := val, born := clock }) (clock + 1)) } := by
  have hc : (Instr.checkKey false 10000 kt (.int .i64 n)).run P w = .ok () w := MapKept.run_checkKey (k := .int .i64 n) hk (by simp [MapKept.IsKey]) false 9999
  simp [Instr.mapUpdate, run_underlying hm, MapKept.run_getObj_map hb, hc, MapKept.run_findKey hk hf, MapKept.run_setObj_map _ hb, Result.andThen]
theorem wpList_insertI {P : Program} {ops : Array Oper} {rest : List Oper} {o : Oper} {a : Act} {Q : Exit → Act → World → Prop} (W : World) (hgd : o.guard = none) (mty kt et : TypeId) (m k x : Operand) (ho : o.op = .insert mty m k x) (r clock : Nat) (es : Array MapEntry) (n : Int) (val : Value)
    (hm : P.underlying mty = some (.map kt et)) (hk : P.underlying kt = some (.int .i64)) (hb : W.heap[r]? = some (.map es clock)) (hf : Instr.findNow (.int .i64) (.int .i64 n) es.toList 0 = some none)
    (em : a.eval m = .map (some r)) (ek : a.eval k = .int .i64 n) (ex : a.eval x = val)
    (h : ∀ W', Hid (W'.heap[r]? = some (.map (es.push { key := .int .i64 n, val := val, born := clock }) (clock + 1))) → Hid (W.grownBy W' (some r)) → W'.heap.size = W.heap.size → wpList P ops Q rest (a.put o.dst undef) W') : wpList P ops Q (o :: rest) a W :=
  wpList_plain hgd fun _ hK => by
    unfold Oper.wp execOp
    simp only [ho, em, ek, ex, Sem.run_bind, Sem.run_pure, Result.andThen_ok, run_insertI W mty kt et r clock es n val hm hk hb hf]
    exact hK _ _ (h { W with heap := W.heap.setIfInBounds r (.map (es.push { key := .int .i64 n, val := val, born := clock }) (clock + 1)) } (hide (MapKept.heap_set hb).1) (hide ⟨rfl, rfl, rfl, by simp, fun i hi hne => (MapKept.heap_set hb).2 i (by rintro rfl; exact hne rfl)⟩) (by simp))
theorem run_hitI {P : Program} (w : World) (mty kt et : TypeId) (r clock i : Nat) (es : Array MapEntry) (n : Int) (val : Value) (hm : P.underlying mty = some (.map kt et)) (hk : P.underlying kt = some (.int .i64)) (hb : w.heap[r]? = some (.map es clock))
    (hf : Instr.findNow (.int .i64) (.int .i64 n) es.toList 0 = some (some (i, val))) :
    (Instr.lookup mty (.map (some r)) (.int .i64 n) true).run P w = .ok (.tuple #[val, .bool true]) w := by
  have hc : ∀ b, (Instr.checkKey b 10000 kt (.int .i64 n)).run P w = .ok () w := fun b => MapKept.run_checkKey (k := .int .i64 n) hk (by simp [MapKept.IsKey]) b 9999
  simp [Instr.lookup, run_underlying hm, MapKept.run_getObj_map hb, hc, MapKept.run_findKey hk hf, Result.andThen]
theorem run_missI {P : Program} (w : World) (mty kt et : TypeId) (r clock : Nat) (es : Array MapEntry) (n : Int) (z : Value) (hm : P.underlying mty = some (.map kt et)) (hk : P.underlying kt = some (.int .i64)) (hz : (zeroValue et).run P w = .ok z w) (hb : w.heap[r]? = some (.map es clock))
    (hf : Instr.findNow (.int .i64) (.int .i64 n) es.toList 0 = some none) :
    (Instr.lookup mty (.map (some r)) (.int .i64 n) true).run P w = .ok (.tuple #[z, .bool false]) w := by
  have hc : ∀ b, (Instr.checkKey b 10000 kt (.int .i64 n)).run P w = .ok () w := fun b => MapKept.run_checkKey (k := .int .i64 n) hk (by simp [MapKept.IsKey]) b 9999
  simp [Instr.lookup, run_underlying hm, MapKept.run_getObj_map hb, hc, MapKept.run_findKey hk hf, hz, Result.andThen]
def clsMap : Array MapEntry := #[⟨.int .i64 1, .int .i64 64, 0⟩, ⟨.int .i64 2, .int .i64 64, 1⟩, ⟨.int .i64 3, .int .i64 64, 2⟩, ⟨.int .i64 5, .int .i64 64, 3⟩, ⟨.int .i64 6, .int .i64 64, 4⟩, ⟨.int .i64 4, .int .i64 128, 5⟩, ⟨.int .i64 9, .int .i64 128, 6⟩, ⟨.int .i64 10, .int .i64 128, 7⟩, ⟨.int .i64 14, .int .i64 128, 8⟩, ⟨.int .i64 15, .int .i64 128, 9⟩, ⟨.int .i64 7, .int .i64 192, 10⟩, ⟨.int .i64 8, .int .i64 192, 11⟩, ⟨.int .i64 16, .int .i64 192, 12⟩, ⟨.int .i64 17, .int .i64 192, 13⟩, ⟨.int .i64 18, .int .i64 192, 14⟩, ⟨.int .i64 32, .int .i64 192, 15⟩]
set_option maxRecDepth 100000 in
set_option maxHeartbeats 4000000 in
theorem classes_any (w : World) : Calls Tryz.prog 91 #[] w fun e w' => e = .returned (.map (some w.heap.size)) ∧ w'.heap[w.heap.size]? = some (.map clsMap 16) ∧ Below w.heap.size w w' := by
  have hmk : ∀ w, (Instr.makeMap 124 none).run Tryz.prog w = .ok (.map (some w.heap.size)) (w.alloc (.map #[] 0)) := fun w => run_makeMap_plain w _
  obtain ⟨W0, hW0⟩ : ∃ W0, W0 = w.alloc (.map #[] 0) := ⟨_, rfl⟩
  have hz0 : W0.heap.size = w.heap.size + 1 := by rw [hW0]; simp
  have hmk2 := hmk w
  rw [← hW0] at hmk2
  have hb0 : Below w.heap.size w W0 := by rw [hW0]; exact (Below.refl _ _).alloc (Nat.le_refl _) _
  have hm0 : W0.heap[w.heap.size]? = some (.map #[] 0) := by rw [hW0]; show (w.heap.push _)[w.heap.size]? = _; simp
  have M0 := Lib.hid hm0
  have B0 := hide hb0
  have HZ0 := Lib.hid hz0
  clear hmk hW0 hz0 hb0 hm0
  go_enter Tryz.func91, Tryz.ntmps91
  go_wp2_with (first
    | ((with_reducible refine wpList_insertI W0 ?hgd0 124 3 3 (.tmp 1) (.const (.int .i64 1)) (.const (.int .i64 64)) ?ho0 w.heap.size 0 #[] 1 (.int .i64 64) ?hu0 ?hk0 M0.out ?hf0 ?em0 ?ek0 ?ex0 ?_); (case hgd0 => rfl); (case ho0 => rfl); (case hu0 => exact Tryz.underlying124); (case hk0 => exact Tryz.underlying3); (case hf0 => rfl); (case em0 => rfl); (case ek0 => rfl); (case ex0 => rfl)
       intro W1 m0 O0 z0
       have M1 : Hid (W1.heap[w.heap.size]? = some (.map #[⟨.int .i64 1, .int .i64 64, 0⟩] 1)) := m0
       have B1 := hide (B0.out.grown O0.out (by have := B0.out.size; omega) (fun x hx => by injection hx; omega))
       clear m0 O0)
    | ((with_reducible refine wpList_insertI W1 ?hgd1 124 3 3 (.tmp 1) (.const (.int .i64 2)) (.const (.int .i64 64)) ?ho1 w.heap.size 1 #[⟨.int .i64 1, .int .i64 64, 0⟩] 2 (.int .i64 64) ?hu1 ?hk1 M1.out ?hf1 ?em1 ?ek1 ?ex1 ?_); (case hgd1 => rfl); (case ho1 => rfl); (case hu1 => exact Tryz.underlying124); (case hk1 => exact Tryz.underlying3); (case hf1 => rfl); (case em1 => rfl); (case ek1 => rfl); (case ex1 => rfl)
       intro W2 m1 O1 z1
       have M2 : Hid (W2.heap[w.heap.size]? = some (.map #[⟨.int .i64 1, .int .i64 64, 0⟩, ⟨.int .i64 2, .int .i64 64, 1⟩] 2)) := m1
       have B2 := hide (B1.out.grown O1.out (by have := B1.out.size; omega) (fun x hx => by injection hx; omega))
       clear m1 O1)
    | ((with_reducible refine wpList_insertI W2 ?hgd2 124 3 3 (.tmp 1) (.const (.int .i64 3)) (.const (.int .i64 64)) ?ho2 w.heap.size 2 #[⟨.int .i64 1, .int .i64 64, 0⟩, ⟨.int .i64 2, .int .i64 64, 1⟩] 3 (.int .i64 64) ?hu2 ?hk2 M2.out ?hf2 ?em2 ?ek2 ?ex2 ?_); (case hgd2 => rfl); (case ho2 => rfl); (case hu2 => exact Tryz.underlying124); (case hk2 => exact Tryz.underlying3); (case hf2 => rfl); (case em2 => rfl); (case ek2 => rfl); (case ex2 => rfl)
       intro W3 m2 O2 z2
       have M3 : Hid (W3.heap[w.heap.size]? = some (.map #[⟨.int .i64 1, .int .i64 64, 0⟩, ⟨.int .i64 2, .int .i64 64, 1⟩, ⟨.int .i64 3, .int .i64 64, 2⟩] 3)) := m2
       have B3 := hide (B2.out.grown O2.out (by have := B2.out.size; omega) (fun x hx => by injection hx; omega))
       clear m2 O2)
    | ((with_reducible refine wpList_insertI W3 ?hgd3 124 3 3 (.tmp 1) (.const (.int .i64 5)) (.const (.int .i64 64)) ?ho3 w.heap.size 3 #[⟨.int .i64 1, .int .i64 64, 0⟩, ⟨.int .i64 2, .int .i64 64, 1⟩, ⟨.int .i64 3, .int .i64 64, 2⟩] 5 (.int .i64 64) ?hu3 ?hk3 M3.out ?hf3 ?em3 ?ek3 ?ex3 ?_); (case hgd3 => rfl); (case ho3 => rfl); (case hu3 => exact Tryz.underlying124); (case hk3 => exact Tryz.underlying3); (case hf3 => rfl); (case em3 => rfl); (case ek3 => rfl); (case ex3 => rfl)
       intro W4 m3 O3 z3
       have M4 : Hid (W4.heap[w.heap.size]? = some (.map #[⟨.int .i64 1, .int .i64 64, 0⟩, ⟨.int .i64 2, .int .i64 64, 1⟩, ⟨.int .i64 3, .int .i64 64, 2⟩, ⟨.int .i64 5, .int .i64 64, 3⟩] 4)) := m3
       have B4 := hide (B3.out.grown O3.out (by have := B3.out.size; omega) (fun x hx => by injection hx; omega))
       clear m3 O3)
    | ((with_reducible refine wpList_insertI W4 ?hgd4 124 3 3 (.tmp 1) (.const (.int .i64 6)) (.const (.int .i64 64)) ?ho4 w.heap.size 4 #[⟨.int .i64 1, .int .i64 64, 0⟩, ⟨.int .i64 2, .int .i64 64, 1⟩, ⟨.int .i64 3, .int .i64 64, 2⟩, ⟨.int .i64 5, .int .i64 64, 3⟩] 6 (.int .i64 64) ?hu4 ?hk4 M4.out ?hf4 ?em4 ?ek4 ?ex4 ?_); (case hgd4 => rfl); (case ho4 => rfl); (case hu4 => exact Tryz.underlying124); (case hk4 => exact Tryz.underlying3); (case hf4 => rfl); (case em4 => rfl); (case ek4 => rfl); (case ex4 => rfl)
       intro W5 m4 O4 z4
       have M5 : Hid (W5.heap[w.heap.size]? = some (.map #[⟨.int .i64 1, .int .i64 64, 0⟩, ⟨.int .i64 2, .int .i64 64, 1⟩, ⟨.int .i64 3, .int .i64 64, 2⟩, ⟨.int .i64 5, .int .i64 64, 3⟩, ⟨.int .i64 6, .int .i64 64, 4⟩] 5)) := m4
       have B5 := hide (B4.out.grown O4.out (by have := B4.out.size; omega) (fun x hx => by injection hx; omega))
       clear m4 O4)
    | ((with_reducible refine wpList_insertI W5 ?hgd5 124 3 3 (.tmp 1) (.const (.int .i64 4)) (.const (.int .i64 128)) ?ho5 w.heap.size 5 #[⟨.int .i64 1, .int .i64 64, 0⟩, ⟨.int .i64 2, .int .i64 64, 1⟩, ⟨.int .i64 3, .int .i64 64, 2⟩, ⟨.int .i64 5, .int .i64 64, 3⟩, ⟨.int .i64 6, .int .i64 64, 4⟩] 4 (.int .i64 128) ?hu5 ?hk5 M5.out ?hf5 ?em5 ?ek5 ?ex5 ?_); (case hgd5 => rfl); (case ho5 => rfl); (case hu5 => exact Tryz.underlying124); (case hk5 => exact Tryz.underlying3); (case hf5 => rfl); (case em5 => rfl); (case ek5 => rfl); (case ex5 => rfl)
       intro W6 m5 O5 z5
       have M6 : Hid (W6.heap[w.heap.size]? = some (.map #[⟨.int .i64 1, .int .i64 64, 0⟩, ⟨.int .i64 2, .int .i64 64, 1⟩, ⟨.int .i64 3, .int .i64 64, 2⟩, ⟨.int .i64 5, .int .i64 64, 3⟩, ⟨.int .i64 6, .int .i64 64, 4⟩, ⟨.int .i64 4, .int .i64 128, 5⟩] 6)) := m5
       have B6 := hide (B5.out.grown O5.out (by have := B5.out.size; omega) (fun x hx => by injection hx; omega))
       clear m5 O5)
    | ((with_reducible refine wpList_insertI W6 ?hgd6 124 3 3 (.tmp 1) (.const (.int .i64 9)) (.const (.int .i64 128)) ?ho6 w.heap.size 6 #[⟨.int .i64 1, .int .i64 64, 0⟩, ⟨.int .i64 2, .int .i64 64, 1⟩, ⟨.int .i64 3, .int .i64 64, 2⟩, ⟨.int .i64 5, .int .i64 64, 3⟩, ⟨.int .i64 6, .int .i64 64, 4⟩, ⟨.int .i64 4, .int .i64 128, 5⟩] 9 (.int .i64 128) ?hu6 ?hk6 M6.out ?hf6 ?em6 ?ek6 ?ex6 ?_); (case hgd6 => rfl); (case ho6 => rfl); (case hu6 => exact Tryz.underlying124); (case hk6 => exact Tryz.underlying3); (case hf6 => rfl); (case em6 => rfl); (case ek6 => rfl); (case ex6 => rfl)
       intro W7 m6 O6 z6
       have M7 : Hid (W7.heap[w.heap.size]? = some (.map #[⟨.int .i64 1, .int .i64 64, 0⟩, ⟨.int .i64 2, .int .i64 64, 1⟩, ⟨.int .i64 3, .int .i64 64, 2⟩, ⟨.int .i64 5, .int .i64 64, 3⟩, ⟨.int .i64 6, .int .i64 64, 4⟩, ⟨.int .i64 4, .int .i64 128, 5⟩, ⟨.int .i64 9, .int .i64 128, 6⟩] 7)) := m6
       have B7 := hide (B6.out.grown O6.out (by have := B6.out.size; omega) (fun x hx => by injection hx; omega))
       clear m6 O6)
    | ((with_reducible refine wpList_insertI W7 ?hgd7 124 3 3 (.tmp 1) (.const (.int .i64 10)) (.const (.int .i64 128)) ?ho7 w.heap.size 7 #[⟨.int .i64 1, .int .i64 64, 0⟩, ⟨.int .i64 2, .int .i64 64, 1⟩, ⟨.int .i64 3, .int .i64 64, 2⟩, ⟨.int .i64 5, .int .i64 64, 3⟩, ⟨.int .i64 6, .int .i64 64, 4⟩, ⟨.int .i64 4, .int .i64 128, 5⟩, ⟨.int .i64 9, .int .i64 128, 6⟩] 10 (.int .i64 128) ?hu7 ?hk7 M7.out ?hf7 ?em7 ?ek7 ?ex7 ?_); (case hgd7 => rfl); (case ho7 => rfl); (case hu7 => exact Tryz.underlying124); (case hk7 => exact Tryz.underlying3); (case hf7 => rfl); (case em7 => rfl); (case ek7 => rfl); (case ex7 => rfl)
       intro W8 m7 O7 z7
       have M8 : Hid (W8.heap[w.heap.size]? = some (.map #[⟨.int .i64 1, .int .i64 64, 0⟩, ⟨.int .i64 2, .int .i64 64, 1⟩, ⟨.int .i64 3, .int .i64 64, 2⟩, ⟨.int .i64 5, .int .i64 64, 3⟩, ⟨.int .i64 6, .int .i64 64, 4⟩, ⟨.int .i64 4, .int .i64 128, 5⟩, ⟨.int .i64 9, .int .i64 128, 6⟩, ⟨.int .i64 10, .int .i64 128, 7⟩] 8)) := m7
       have B8 := hide (B7.out.grown O7.out (by have := B7.out.size; omega) (fun x hx => by injection hx; omega))
       clear m7 O7)
    | ((with_reducible refine wpList_insertI W8 ?hgd8 124 3 3 (.tmp 1) (.const (.int .i64 14)) (.const (.int .i64 128)) ?ho8 w.heap.size 8 #[⟨.int .i64 1, .int .i64 64, 0⟩, ⟨.int .i64 2, .int .i64 64, 1⟩, ⟨.int .i64 3, .int .i64 64, 2⟩, ⟨.int .i64 5, .int .i64 64, 3⟩, ⟨.int .i64 6, .int .i64 64, 4⟩, ⟨.int .i64 4, .int .i64 128, 5⟩, ⟨.int .i64 9, .int .i64 128, 6⟩, ⟨.int .i64 10, .int .i64 128, 7⟩] 14 (.int .i64 128) ?hu8 ?hk8 M8.out ?hf8 ?em8 ?ek8 ?ex8 ?_); (case hgd8 => rfl); (case ho8 => rfl); (case hu8 => exact Tryz.underlying124); (case hk8 => exact Tryz.underlying3); (case hf8 => rfl); (case em8 => rfl); (case ek8 => rfl); (case ex8 => rfl)
       intro W9 m8 O8 z8
       have M9 : Hid (W9.heap[w.heap.size]? = some (.map #[⟨.int .i64 1, .int .i64 64, 0⟩, ⟨.int .i64 2, .int .i64 64, 1⟩, ⟨.int .i64 3, .int .i64 64, 2⟩, ⟨.int .i64 5, .int .i64 64, 3⟩, ⟨.int .i64 6, .int .i64 64, 4⟩, ⟨.int .i64 4, .int .i64 128, 5⟩, ⟨.int .i64 9, .int .i64 128, 6⟩, ⟨.int .i64 10, .int .i64 128, 7⟩, ⟨.int .i64 14, .int .i64 128, 8⟩] 9)) := m8
       have B9 := hide (B8.out.grown O8.out (by have := B8.out.size; omega) (fun x hx => by injection hx; omega))
       clear m8 O8)
    | ((with_reducible refine wpList_insertI W9 ?hgd9 124 3 3 (.tmp 1) (.const (.int .i64 15)) (.const (.int .i64 128)) ?ho9 w.heap.size 9 #[⟨.int .i64 1, .int .i64 64, 0⟩, ⟨.int .i64 2, .int .i64 64, 1⟩, ⟨.int .i64 3, .int .i64 64, 2⟩, ⟨.int .i64 5, .int .i64 64, 3⟩, ⟨.int .i64 6, .int .i64 64, 4⟩, ⟨.int .i64 4, .int .i64 128, 5⟩, ⟨.int .i64 9, .int .i64 128, 6⟩, ⟨.int .i64 10, .int .i64 128, 7⟩, ⟨.int .i64 14, .int .i64 128, 8⟩] 15 (.int .i64 128) ?hu9 ?hk9 M9.out ?hf9 ?em9 ?ek9 ?ex9 ?_); (case hgd9 => rfl); (case ho9 => rfl); (case hu9 => exact Tryz.underlying124); (case hk9 => exact Tryz.underlying3); (case hf9 => rfl); (case em9 => rfl); (case ek9 => rfl); (case ex9 => rfl)
       intro W10 m9 O9 z9
       have M10 : Hid (W10.heap[w.heap.size]? = some (.map #[⟨.int .i64 1, .int .i64 64, 0⟩, ⟨.int .i64 2, .int .i64 64, 1⟩, ⟨.int .i64 3, .int .i64 64, 2⟩, ⟨.int .i64 5, .int .i64 64, 3⟩, ⟨.int .i64 6, .int .i64 64, 4⟩, ⟨.int .i64 4, .int .i64 128, 5⟩, ⟨.int .i64 9, .int .i64 128, 6⟩, ⟨.int .i64 10, .int .i64 128, 7⟩, ⟨.int .i64 14, .int .i64 128, 8⟩, ⟨.int .i64 15, .int .i64 128, 9⟩] 10)) := m9
       have B10 := hide (B9.out.grown O9.out (by have := B9.out.size; omega) (fun x hx => by injection hx; omega))
       clear m9 O9)
    | ((with_reducible refine wpList_insertI W10 ?hgd10 124 3 3 (.tmp 1) (.const (.int .i64 7)) (.const (.int .i64 192)) ?ho10 w.heap.size 10 #[⟨.int .i64 1, .int .i64 64, 0⟩, ⟨.int .i64 2, .int .i64 64, 1⟩, ⟨.int .i64 3, .int .i64 64, 2⟩, ⟨.int .i64 5, .int .i64 64, 3⟩, ⟨.int .i64 6, .int .i64 64, 4⟩, ⟨.int .i64 4, .int .i64 128, 5⟩, ⟨.int .i64 9, .int .i64 128, 6⟩, ⟨.int .i64 10, .int .i64 128, 7⟩, ⟨.int .i64 14, .int .i64 128, 8⟩, ⟨.int .i64 15, .int .i64 128, 9⟩] 7 (.int .i64 192) ?hu10 ?hk10 M10.out ?hf10 ?em10 ?ek10 ?ex10 ?_); (case hgd10 => rfl); (case ho10 => rfl); (case hu10 => exact Tryz.underlying124); (case hk10 => exact Tryz.underlying3); (case hf10 => rfl); (case em10 => rfl); (case ek10 => rfl); (case ex10 => rfl)
       intro W11 m10 O10 z10
       have M11 : Hid (W11.heap[w.heap.size]? = some (.map #[⟨.int .i64 1, .int .i64 64, 0⟩, ⟨.int .i64 2, .int .i64 64, 1⟩, ⟨.int .i64 3, .int .i64 64, 2⟩, ⟨.int .i64 5, .int .i64 64, 3⟩, ⟨.int .i64 6, .int .i64 64, 4⟩, ⟨.int .i64 4, .int .i64 128, 5⟩, ⟨.int .i64 9, .int .i64 128, 6⟩, ⟨.int .i64 10, .int .i64 128, 7⟩, ⟨.int .i64 14, .int .i64 128, 8⟩, ⟨.int .i64 15, .int .i64 128, 9⟩, ⟨.int .i64 7, .int .i64 192, 10⟩] 11)) := m10
       have B11 := hide (B10.out.grown O10.out (by have := B10.out.size; omega) (fun x hx => by injection hx; omega))
       clear m10 O10)
    | ((with_reducible refine wpList_insertI W11 ?hgd11 124 3 3 (.tmp 1) (.const (.int .i64 8)) (.const (.int .i64 192)) ?ho11 w.heap.size 11 #[⟨.int .i64 1, .int .i64 64, 0⟩, ⟨.int .i64 2, .int .i64 64, 1⟩, ⟨.int .i64 3, .int .i64 64, 2⟩, ⟨.int .i64 5, .int .i64 64, 3⟩, ⟨.int .i64 6, .int .i64 64, 4⟩, ⟨.int .i64 4, .int .i64 128, 5⟩, ⟨.int .i64 9, .int .i64 128, 6⟩, ⟨.int .i64 10, .int .i64 128, 7⟩, ⟨.int .i64 14, .int .i64 128, 8⟩, ⟨.int .i64 15, .int .i64 128, 9⟩, ⟨.int .i64 7, .int .i64 192, 10⟩] 8 (.int .i64 192) ?hu11 ?hk11 M11.out ?hf11 ?em11 ?ek11 ?ex11 ?_); (case hgd11 => rfl); (case ho11 => rfl); (case hu11 => exact Tryz.underlying124); (case hk11 => exact Tryz.underlying3); (case hf11 => rfl); (case em11 => rfl); (case ek11 => rfl); (case ex11 => rfl)
       intro W12 m11 O11 z11
       have M12 : Hid (W12.heap[w.heap.size]? = some (.map #[⟨.int .i64 1, .int .i64 64, 0⟩, ⟨.int .i64 2, .int .i64 64, 1⟩, ⟨.int .i64 3, .int .i64 64, 2⟩, ⟨.int .i64 5, .int .i64 64, 3⟩, ⟨.int .i64 6, .int .i64 64, 4⟩, ⟨.int .i64 4, .int .i64 128, 5⟩, ⟨.int .i64 9, .int .i64 128, 6⟩, ⟨.int .i64 10, .int .i64 128, 7⟩, ⟨.int .i64 14, .int .i64 128, 8⟩, ⟨.int .i64 15, .int .i64 128, 9⟩, ⟨.int .i64 7, .int .i64 192, 10⟩, ⟨.int .i64 8, .int .i64 192, 11⟩] 12)) := m11
       have B12 := hide (B11.out.grown O11.out (by have := B11.out.size; omega) (fun x hx => by injection hx; omega))
       clear m11 O11)
    | ((with_reducible refine wpList_insertI W12 ?hgd12 124 3 3 (.tmp 1) (.const (.int .i64 16)) (.const (.int .i64 192)) ?ho12 w.heap.size 12 #[⟨.int .i64 1, .int .i64 64, 0⟩, ⟨.int .i64 2, .int .i64 64, 1⟩, ⟨.int .i64 3, .int .i64 64, 2⟩, ⟨.int .i64 5, .int .i64 64, 3⟩, ⟨.int .i64 6, .int .i64 64, 4⟩, ⟨.int .i64 4, .int .i64 128, 5⟩, ⟨.int .i64 9, .int .i64 128, 6⟩, ⟨.int .i64 10, .int .i64 128, 7⟩, ⟨.int .i64 14, .int .i64 128, 8⟩, ⟨.int .i64 15, .int .i64 128, 9⟩, ⟨.int .i64 7, .int .i64 192, 10⟩, ⟨.int .i64 8, .int .i64 192, 11⟩] 16 (.int .i64 192) ?hu12 ?hk12 M12.out ?hf12 ?em12 ?ek12 ?ex12 ?_); (case hgd12 => rfl); (case ho12 => rfl); (case hu12 => exact Tryz.underlying124); (case hk12 => exact Tryz.underlying3); (case hf12 => rfl); (case em12 => rfl); (case ek12 => rfl); (case ex12 => rfl)
       intro W13 m12 O12 z12
       have M13 : Hid (W13.heap[w.heap.size]? = some (.map #[⟨.int .i64 1, .int .i64 64, 0⟩, ⟨.int .i64 2, .int .i64 64, 1⟩, ⟨.int .i64 3, .int .i64 64, 2⟩, ⟨.int .i64 5, .int .i64 64, 3⟩, ⟨.int .i64 6, .int .i64 64, 4⟩, ⟨.int .i64 4, .int .i64 128, 5⟩, ⟨.int .i64 9, .int .i64 128, 6⟩, ⟨.int .i64 10, .int .i64 128, 7⟩, ⟨.int .i64 14, .int .i64 128, 8⟩, ⟨.int .i64 15, .int .i64 128, 9⟩, ⟨.int .i64 7, .int .i64 192, 10⟩, ⟨.int .i64 8, .int .i64 192, 11⟩, ⟨.int .i64 16, .int .i64 192, 12⟩] 13)) := m12
       have B13 := hide (B12.out.grown O12.out (by have := B12.out.size; omega) (fun x hx => by injection hx; omega))
       clear m12 O12)
    | ((with_reducible refine wpList_insertI W13 ?hgd13 124 3 3 (.tmp 1) (.const (.int .i64 17)) (.const (.int .i64 192)) ?ho13 w.heap.size 13 #[⟨.int .i64 1, .int .i64 64, 0⟩, ⟨.int .i64 2, .int .i64 64, 1⟩, ⟨.int .i64 3, .int .i64 64, 2⟩, ⟨.int .i64 5, .int .i64 64, 3⟩, ⟨.int .i64 6, .int .i64 64, 4⟩, ⟨.int .i64 4, .int .i64 128, 5⟩, ⟨.int .i64 9, .int .i64 128, 6⟩, ⟨.int .i64 10, .int .i64 128, 7⟩, ⟨.int .i64 14, .int .i64 128, 8⟩, ⟨.int .i64 15, .int .i64 128, 9⟩, ⟨.int .i64 7, .int .i64 192, 10⟩, ⟨.int .i64 8, .int .i64 192, 11⟩, ⟨.int .i64 16, .int .i64 192, 12⟩] 17 (.int .i64 192) ?hu13 ?hk13 M13.out ?hf13 ?em13 ?ek13 ?ex13 ?_); (case hgd13 => rfl); (case ho13 => rfl); (case hu13 => exact Tryz.underlying124); (case hk13 => exact Tryz.underlying3); (case hf13 => rfl); (case em13 => rfl); (case ek13 => rfl); (case ex13 => rfl)
       intro W14 m13 O13 z13
       have M14 : Hid (W14.heap[w.heap.size]? = some (.map #[⟨.int .i64 1, .int .i64 64, 0⟩, ⟨.int .i64 2, .int .i64 64, 1⟩, ⟨.int .i64 3, .int .i64 64, 2⟩, ⟨.int .i64 5, .int .i64 64, 3⟩, ⟨.int .i64 6, .int .i64 64, 4⟩, ⟨.int .i64 4, .int .i64 128, 5⟩, ⟨.int .i64 9, .int .i64 128, 6⟩, ⟨.int .i64 10, .int .i64 128, 7⟩, ⟨.int .i64 14, .int .i64 128, 8⟩, ⟨.int .i64 15, .int .i64 128, 9⟩, ⟨.int .i64 7, .int .i64 192, 10⟩, ⟨.int .i64 8, .int .i64 192, 11⟩, ⟨.int .i64 16, .int .i64 192, 12⟩, ⟨.int .i64 17, .int .i64 192, 13⟩] 14)) := m13
       have B14 := hide (B13.out.grown O13.out (by have := B13.out.size; omega) (fun x hx => by injection hx; omega))
       clear m13 O13)
    | ((with_reducible refine wpList_insertI W14 ?hgd14 124 3 3 (.tmp 1) (.const (.int .i64 18)) (.const (.int .i64 192)) ?ho14 w.heap.size 14 #[⟨.int .i64 1, .int .i64 64, 0⟩, ⟨.int .i64 2, .int .i64 64, 1⟩, ⟨.int .i64 3, .int .i64 64, 2⟩, ⟨.int .i64 5, .int .i64 64, 3⟩, ⟨.int .i64 6, .int .i64 64, 4⟩, ⟨.int .i64 4, .int .i64 128, 5⟩, ⟨.int .i64 9, .int .i64 128, 6⟩, ⟨.int .i64 10, .int .i64 128, 7⟩, ⟨.int .i64 14, .int .i64 128, 8⟩, ⟨.int .i64 15, .int .i64 128, 9⟩, ⟨.int .i64 7, .int .i64 192, 10⟩, ⟨.int .i64 8, .int .i64 192, 11⟩, ⟨.int .i64 16, .int .i64 192, 12⟩, ⟨.int .i64 17, .int .i64 192, 13⟩] 18 (.int .i64 192) ?hu14 ?hk14 M14.out ?hf14 ?em14 ?ek14 ?ex14 ?_); (case hgd14 => rfl); (case ho14 => rfl); (case hu14 => exact Tryz.underlying124); (case hk14 => exact Tryz.underlying3); (case hf14 => rfl); (case em14 => rfl); (case ek14 => rfl); (case ex14 => rfl)
       intro W15 m14 O14 z14
       have M15 : Hid (W15.heap[w.heap.size]? = some (.map #[⟨.int .i64 1, .int .i64 64, 0⟩, ⟨.int .i64 2, .int .i64 64, 1⟩, ⟨.int .i64 3, .int .i64 64, 2⟩, ⟨.int .i64 5, .int .i64 64, 3⟩, ⟨.int .i64 6, .int .i64 64, 4⟩, ⟨.int .i64 4, .int .i64 128, 5⟩, ⟨.int .i64 9, .int .i64 128, 6⟩, ⟨.int .i64 10, .int .i64 128, 7⟩, ⟨.int .i64 14, .int .i64 128, 8⟩, ⟨.int .i64 15, .int .i64 128, 9⟩, ⟨.int .i64 7, .int .i64 192, 10⟩, ⟨.int .i64 8, .int .i64 192, 11⟩, ⟨.int .i64 16, .int .i64 192, 12⟩, ⟨.int .i64 17, .int .i64 192, 13⟩, ⟨.int .i64 18, .int .i64 192, 14⟩] 15)) := m14
       have B15 := hide (B14.out.grown O14.out (by have := B14.out.size; omega) (fun x hx => by injection hx; omega))
       clear m14 O14)
    | ((with_reducible refine wpList_insertI W15 ?hgd15 124 3 3 (.tmp 1) (.const (.int .i64 32)) (.const (.int .i64 192)) ?ho15 w.heap.size 15 #[⟨.int .i64 1, .int .i64 64, 0⟩, ⟨.int .i64 2, .int .i64 64, 1⟩, ⟨.int .i64 3, .int .i64 64, 2⟩, ⟨.int .i64 5, .int .i64 64, 3⟩, ⟨.int .i64 6, .int .i64 64, 4⟩, ⟨.int .i64 4, .int .i64 128, 5⟩, ⟨.int .i64 9, .int .i64 128, 6⟩, ⟨.int .i64 10, .int .i64 128, 7⟩, ⟨.int .i64 14, .int .i64 128, 8⟩, ⟨.int .i64 15, .int .i64 128, 9⟩, ⟨.int .i64 7, .int .i64 192, 10⟩, ⟨.int .i64 8, .int .i64 192, 11⟩, ⟨.int .i64 16, .int .i64 192, 12⟩, ⟨.int .i64 17, .int .i64 192, 13⟩, ⟨.int .i64 18, .int .i64 192, 14⟩] 32 (.int .i64 192) ?hu15 ?hk15 M15.out ?hf15 ?em15 ?ek15 ?ex15 ?_); (case hgd15 => rfl); (case ho15 => rfl); (case hu15 => exact Tryz.underlying124); (case hk15 => exact Tryz.underlying3); (case hf15 => rfl); (case em15 => rfl); (case ek15 => rfl); (case ex15 => rfl)
       intro W16 m15 O15 z15
       have M16 : Hid (W16.heap[w.heap.size]? = some (.map #[⟨.int .i64 1, .int .i64 64, 0⟩, ⟨.int .i64 2, .int .i64 64, 1⟩, ⟨.int .i64 3, .int .i64 64, 2⟩, ⟨.int .i64 5, .int .i64 64, 3⟩, ⟨.int .i64 6, .int .i64 64, 4⟩, ⟨.int .i64 4, .int .i64 128, 5⟩, ⟨.int .i64 9, .int .i64 128, 6⟩, ⟨.int .i64 10, .int .i64 128, 7⟩, ⟨.int .i64 14, .int .i64 128, 8⟩, ⟨.int .i64 15, .int .i64 128, 9⟩, ⟨.int .i64 7, .int .i64 192, 10⟩, ⟨.int .i64 8, .int .i64 192, 11⟩, ⟨.int .i64 16, .int .i64 192, 12⟩, ⟨.int .i64 17, .int .i64 192, 13⟩, ⟨.int .i64 18, .int .i64 192, 14⟩, ⟨.int .i64 32, .int .i64 192, 15⟩] 16)) := m15
       have B16 := hide (B15.out.grown O15.out (by have := B15.out.size; omega) (fun x hx => by injection hx; omega))
       clear m15 O15))
  go_ret
  exact ⟨rfl, M16.out, B16.out⟩

/-- The class of a known type; none of another. -/
def clsF (k : Int) : Option Int := (Instr.findNow (.int .i64) (.int .i64 k) clsMap.toList 0).join.map fun x => intOf x.2
theorem cls_keys : ∀ x ∈ clsMap.toList, MapKept.IsKey (.int .i64) x.key := by
  intro x hx
  simp only [clsMap, List.mem_cons, List.not_mem_nil, or_false] at hx
  rcases hx with rfl | rfl | rfl | rfl | rfl | rfl | rfl | rfl | rfl | rfl | rfl | rfl | rfl | rfl | rfl | rfl <;> simp [MapKept.IsKey]
theorem cls_vals : ∀ x ∈ clsMap.toList, x.val = .int .i64 (intOf x.val) := by
  intro x hx
  simp only [clsMap, List.mem_cons, List.not_mem_nil, or_false] at hx
  rcases hx with rfl | rfl | rfl | rfl | rfl | rfl | rfl | rfl | rfl | rfl | rfl | rfl | rfl | rfl | rfl | rfl <;> rfl
theorem cls_hit {k c : Int} (h : clsF k = some c) : ∃ i, Instr.findNow (.int .i64) (.int .i64 k) clsMap.toList 0 = some (some (i, .int .i64 c)) := by
  rcases MapKept.findNow_spec (d := .int .i64) (k := .int .i64 k) (by simp [MapKept.IsKey]) clsMap.toList 0 cls_keys with ⟨h1, _⟩ | ⟨j, e, h1, h2, _⟩
  · simp [clsF, h1] at h
  · have hm := List.mem_of_getElem? h2
    simp only [clsF, h1, Option.join_some, Option.map_some, Option.some.injEq] at h
    refine ⟨0 + j, h1.trans ?_⟩
    rw [cls_vals e hm, h]
set_option maxRecDepth 100000 in
theorem class_any (k c : Int) (w : World) (hc : clsF k = some c) : Calls Tryz.prog 80 #[.int .i64 k] w fun e w' => e = .returned (.tuple #[.int .i64 c, .bool true]) ∧ Below w.heap.size w w' := by
  obtain ⟨i, hf⟩ := cls_hit hc
  have HF := Lib.hid hf
  clear hc hf
  go_enter Tryz.func80, Tryz.ntmps80
  go_wp2_with (go_at_call 91; refine (classes_any w).mono ?_; rintro e w1 ⟨rfl, hm1, hb1⟩
               have hlk := run_hitI (P := Tryz.prog) w1 124 3 3 _ 16 i clsMap k _ Tryz.underlying124 Tryz.underlying3 hm1 HF.out
               have B1 := hide hb1
               clear hm1 hb1)
  go_ret2
  exact ⟨rfl, B1.out⟩
/-- The flags of a head are right for a class. -/
def rightB (f c : Int) : Bool := !(bits .and .i64 f 192 != c) && ((c == 192) || (bits .and .i64 f 32 == 0))
end Go.Proofs.YtnfclcbhehbchaaGreatDoor
