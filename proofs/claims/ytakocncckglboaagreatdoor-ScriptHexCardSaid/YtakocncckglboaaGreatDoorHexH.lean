/- script.commands, Do and Run at the line "state". -/
import Derived.Test.YtakocncckglboaaGreatDoorHexG
import Derived.WideMake
set_option autoImplicit false
namespace Go.Proofs.YtakocncckglboaaGreatDoor
open Go.RowKit

theorem run_insert_new {P : Program} (w : World) (mty kt et : TypeId) (r clock : Nat) (es : Array MapEntry) (s : ByteArray) (val : Value) (hm : P.underlying mty = some (.map kt et)) (hk : P.underlying kt = some .string) (hb : w.heap[r]? = some (.map es clock))
    (hf : Instr.findNow .string (.string s) es.toList 0 = some none) :
    (Instr.mapUpdate mty (.map (some r)) (.string s) val).run P w = .ok () { w with heap := w.heap.setIfInBounds r (.map (es.push { key := .string s, val := val, born := clock }) (clock + 1)) } := by
  have hc : (Instr.checkKey false 10000 kt (.string s)).run P w = .ok () w := MapKept.run_checkKey (k := .string s) hk (by simp [MapKept.IsKey]) false 9999
  simp [Instr.mapUpdate, run_underlying hm, MapKept.run_getObj_map hb, hc, MapKept.run_findKey hk hf, MapKept.run_setObj_map _ hb, Result.andThen]
theorem wpList_insert_new {P : Program} {ops : Array Oper} {rest : List Oper} {o : Oper} {a : Act} {Q : Exit → Act → World → Prop} (W : World) (hgd : o.guard = none) (mty kt et : TypeId) (m k x : Operand) (ho : o.op = .insert mty m k x) (r clock : Nat) (es : Array MapEntry) (s : ByteArray) (val : Value)
    (hm : P.underlying mty = some (.map kt et)) (hk : P.underlying kt = some .string) (hb : W.heap[r]? = some (.map es clock)) (hf : Instr.findNow .string (.string s) es.toList 0 = some none)
    (em : a.eval m = .map (some r)) (ek : a.eval k = .string s) (ex : a.eval x = val)
    (h : ∀ W', Hid (W'.heap[r]? = some (.map (es.push { key := .string s, val := val, born := clock }) (clock + 1))) → Hid (W.grownBy W' (some r)) → W'.heap.size = W.heap.size → wpList P ops Q rest (a.put o.dst undef) W') : wpList P ops Q (o :: rest) a W :=
  wpList_plain hgd fun _ hK => by
    unfold Oper.wp execOp
    simp only [ho, em, ek, ex, Sem.run_bind, Sem.run_pure, Result.andThen_ok, run_insert_new W mty kt et r clock es s val hm hk hb hf]
    exact hK _ _ (h { W with heap := W.heap.setIfInBounds r (.map (es.push { key := .string s, val := val, born := clock }) (clock + 1)) } (hide (MapKept.heap_set hb).1) (hide ⟨rfl, rfl, rfl, by simp, fun i hi hne => (MapKept.heap_set hb).2 i (by rintro rfl; exact hne rfl)⟩) (by simp))
def cmds : Array MapEntry := #[⟨.string ⟨#[97]⟩, .agg #[.int .i64 2, .func (.func 35) #[] #[]], 0⟩, ⟨.string ⟨#[98]⟩, .agg #[.int .i64 2, .func (.func 35) #[] #[]], 1⟩, ⟨.string ⟨#[114, 101, 97, 100]⟩, .agg #[.int .i64 3, .func (.func 36) #[] #[]], 2⟩, ⟨.string ⟨#[115, 116, 97, 116, 101]⟩, .agg #[.int .i64 1, .func (.func 37) #[] #[]], 3⟩, ⟨.string ⟨#[99, 111, 117, 110, 116]⟩, .agg #[.int .i64 1, .func (.func 38) #[] #[]], 4⟩, ⟨.string ⟨#[102, 97, 117, 108, 116]⟩, .agg #[.int .i64 1, .func (.func 39) #[] #[]], 5⟩, ⟨.string ⟨#[110, 101, 119]⟩, .agg #[.int .i64 1, .func (.func 40) #[] #[]], 6⟩]
set_option maxRecDepth 100000 in
set_option maxHeartbeats 4000000 in
theorem commands_any (w : World) : Calls Tryz.prog 26 #[] w fun e w' => e = .returned (.map (some w.heap.size)) ∧ w'.heap[w.heap.size]? = some (.map cmds 7) ∧ Below w.heap.size w w' := by
  have hmk : ∀ w, (Instr.makeMap 61 none).run Tryz.prog w = .ok (.map (some w.heap.size)) (w.alloc (.map #[] 0)) := fun w => run_makeMap_plain w _
  obtain ⟨W0, hW0⟩ : ∃ W0, W0 = w.alloc (.map #[] 0) := ⟨_, rfl⟩
  have hz0 : W0.heap.size = w.heap.size + 1 := by rw [hW0]; simp
  have hmk2 := hmk w
  rw [← hW0] at hmk2
  have hb0 : Below w.heap.size w W0 := by rw [hW0]; exact (Below.refl _ _).alloc (Nat.le_refl _) _
  have hm0 : W0.heap[w.heap.size]? = some (.map #[] 0) := by rw [hW0]; show (w.heap.push _)[w.heap.size]? = _; simp
  have M0 := Lib.hid hm0
  have B0 := hide hb0
  have HZ0 := Lib.hid hz0
  clear hmk hW0 hz0 hb0 hm0
  go_enter Tryz.func26, Tryz.ntmps26
  go_wp2_with (first
    | ((with_reducible refine wpList_insert_new W0 ?hgd0 61 9 59 (.tmp 1) (.const (.string ⟨#[97]⟩)) (.tmp 2) ?ho0 w.heap.size 0 #[] ⟨#[97]⟩ (.agg #[.int .i64 2, .func (.func 35) #[] #[]]) ?hu0 ?hk0 M0.out ?hf0 ?em0 ?ek0 ?ex0 ?_); (case hgd0 => rfl); (case ho0 => rfl); (case hu0 => exact Tryz.underlying61); (case hk0 => exact Tryz.underlying9); (case hf0 => rfl); (case em0 => rfl); (case ek0 => rfl); (case ex0 => rfl)
       intro W1 m0 O0 z0
       have M1 : Hid (W1.heap[w.heap.size]? = some (.map #[⟨.string ⟨#[97]⟩, .agg #[.int .i64 2, .func (.func 35) #[] #[]], 0⟩] 1)) := m0
       have B1 := hide (B0.out.grown O0.out (by have := B0.out.size; omega) (fun x hx => by injection hx; omega))
       clear m0 O0)
    | ((with_reducible refine wpList_insert_new W1 ?hgd1 61 9 59 (.tmp 1) (.const (.string ⟨#[98]⟩)) (.tmp 3) ?ho1 w.heap.size 1 #[⟨.string ⟨#[97]⟩, .agg #[.int .i64 2, .func (.func 35) #[] #[]], 0⟩] ⟨#[98]⟩ (.agg #[.int .i64 2, .func (.func 35) #[] #[]]) ?hu1 ?hk1 M1.out ?hf1 ?em1 ?ek1 ?ex1 ?_); (case hgd1 => rfl); (case ho1 => rfl); (case hu1 => exact Tryz.underlying61); (case hk1 => exact Tryz.underlying9); (case hf1 => rfl); (case em1 => rfl); (case ek1 => rfl); (case ex1 => rfl)
       intro W2 m1 O1 z1
       have M2 : Hid (W2.heap[w.heap.size]? = some (.map #[⟨.string ⟨#[97]⟩, .agg #[.int .i64 2, .func (.func 35) #[] #[]], 0⟩, ⟨.string ⟨#[98]⟩, .agg #[.int .i64 2, .func (.func 35) #[] #[]], 1⟩] 2)) := m1
       have B2 := hide (B1.out.grown O1.out (by have := B1.out.size; omega) (fun x hx => by injection hx; omega))
       clear m1 O1)
    | ((with_reducible refine wpList_insert_new W2 ?hgd2 61 9 59 (.tmp 1) (.const (.string ⟨#[114, 101, 97, 100]⟩)) (.tmp 4) ?ho2 w.heap.size 2 #[⟨.string ⟨#[97]⟩, .agg #[.int .i64 2, .func (.func 35) #[] #[]], 0⟩, ⟨.string ⟨#[98]⟩, .agg #[.int .i64 2, .func (.func 35) #[] #[]], 1⟩] ⟨#[114, 101, 97, 100]⟩ (.agg #[.int .i64 3, .func (.func 36) #[] #[]]) ?hu2 ?hk2 M2.out ?hf2 ?em2 ?ek2 ?ex2 ?_); (case hgd2 => rfl); (case ho2 => rfl); (case hu2 => exact Tryz.underlying61); (case hk2 => exact Tryz.underlying9); (case hf2 => rfl); (case em2 => rfl); (case ek2 => rfl); (case ex2 => rfl)
       intro W3 m2 O2 z2
       have M3 : Hid (W3.heap[w.heap.size]? = some (.map #[⟨.string ⟨#[97]⟩, .agg #[.int .i64 2, .func (.func 35) #[] #[]], 0⟩, ⟨.string ⟨#[98]⟩, .agg #[.int .i64 2, .func (.func 35) #[] #[]], 1⟩, ⟨.string ⟨#[114, 101, 97, 100]⟩, .agg #[.int .i64 3, .func (.func 36) #[] #[]], 2⟩] 3)) := m2
       have B3 := hide (B2.out.grown O2.out (by have := B2.out.size; omega) (fun x hx => by injection hx; omega))
       clear m2 O2)
    | ((with_reducible refine wpList_insert_new W3 ?hgd3 61 9 59 (.tmp 1) (.const (.string ⟨#[115, 116, 97, 116, 101]⟩)) (.tmp 5) ?ho3 w.heap.size 3 #[⟨.string ⟨#[97]⟩, .agg #[.int .i64 2, .func (.func 35) #[] #[]], 0⟩, ⟨.string ⟨#[98]⟩, .agg #[.int .i64 2, .func (.func 35) #[] #[]], 1⟩, ⟨.string ⟨#[114, 101, 97, 100]⟩, .agg #[.int .i64 3, .func (.func 36) #[] #[]], 2⟩] ⟨#[115, 116, 97, 116, 101]⟩ (.agg #[.int .i64 1, .func (.func 37) #[] #[]]) ?hu3 ?hk3 M3.out ?hf3 ?em3 ?ek3 ?ex3 ?_); (case hgd3 => rfl); (case ho3 => rfl); (case hu3 => exact Tryz.underlying61); (case hk3 => exact Tryz.underlying9); (case hf3 => rfl); (case em3 => rfl); (case ek3 => rfl); (case ex3 => rfl)
       intro W4 m3 O3 z3
       have M4 : Hid (W4.heap[w.heap.size]? = some (.map #[⟨.string ⟨#[97]⟩, .agg #[.int .i64 2, .func (.func 35) #[] #[]], 0⟩, ⟨.string ⟨#[98]⟩, .agg #[.int .i64 2, .func (.func 35) #[] #[]], 1⟩, ⟨.string ⟨#[114, 101, 97, 100]⟩, .agg #[.int .i64 3, .func (.func 36) #[] #[]], 2⟩, ⟨.string ⟨#[115, 116, 97, 116, 101]⟩, .agg #[.int .i64 1, .func (.func 37) #[] #[]], 3⟩] 4)) := m3
       have B4 := hide (B3.out.grown O3.out (by have := B3.out.size; omega) (fun x hx => by injection hx; omega))
       clear m3 O3)
    | ((with_reducible refine wpList_insert_new W4 ?hgd4 61 9 59 (.tmp 1) (.const (.string ⟨#[99, 111, 117, 110, 116]⟩)) (.tmp 6) ?ho4 w.heap.size 4 #[⟨.string ⟨#[97]⟩, .agg #[.int .i64 2, .func (.func 35) #[] #[]], 0⟩, ⟨.string ⟨#[98]⟩, .agg #[.int .i64 2, .func (.func 35) #[] #[]], 1⟩, ⟨.string ⟨#[114, 101, 97, 100]⟩, .agg #[.int .i64 3, .func (.func 36) #[] #[]], 2⟩, ⟨.string ⟨#[115, 116, 97, 116, 101]⟩, .agg #[.int .i64 1, .func (.func 37) #[] #[]], 3⟩] ⟨#[99, 111, 117, 110, 116]⟩ (.agg #[.int .i64 1, .func (.func 38) #[] #[]]) ?hu4 ?hk4 M4.out ?hf4 ?em4 ?ek4 ?ex4 ?_); (case hgd4 => rfl); (case ho4 => rfl); (case hu4 => exact Tryz.underlying61); (case hk4 => exact Tryz.underlying9); (case hf4 => rfl); (case em4 => rfl); (case ek4 => rfl); (case ex4 => rfl)
       intro W5 m4 O4 z4
       have M5 : Hid (W5.heap[w.heap.size]? = some (.map #[⟨.string ⟨#[97]⟩, .agg #[.int .i64 2, .func (.func 35) #[] #[]], 0⟩, ⟨.string ⟨#[98]⟩, .agg #[.int .i64 2, .func (.func 35) #[] #[]], 1⟩, ⟨.string ⟨#[114, 101, 97, 100]⟩, .agg #[.int .i64 3, .func (.func 36) #[] #[]], 2⟩, ⟨.string ⟨#[115, 116, 97, 116, 101]⟩, .agg #[.int .i64 1, .func (.func 37) #[] #[]], 3⟩, ⟨.string ⟨#[99, 111, 117, 110, 116]⟩, .agg #[.int .i64 1, .func (.func 38) #[] #[]], 4⟩] 5)) := m4
       have B5 := hide (B4.out.grown O4.out (by have := B4.out.size; omega) (fun x hx => by injection hx; omega))
       clear m4 O4)
    | ((with_reducible refine wpList_insert_new W5 ?hgd5 61 9 59 (.tmp 1) (.const (.string ⟨#[102, 97, 117, 108, 116]⟩)) (.tmp 7) ?ho5 w.heap.size 5 #[⟨.string ⟨#[97]⟩, .agg #[.int .i64 2, .func (.func 35) #[] #[]], 0⟩, ⟨.string ⟨#[98]⟩, .agg #[.int .i64 2, .func (.func 35) #[] #[]], 1⟩, ⟨.string ⟨#[114, 101, 97, 100]⟩, .agg #[.int .i64 3, .func (.func 36) #[] #[]], 2⟩, ⟨.string ⟨#[115, 116, 97, 116, 101]⟩, .agg #[.int .i64 1, .func (.func 37) #[] #[]], 3⟩, ⟨.string ⟨#[99, 111, 117, 110, 116]⟩, .agg #[.int .i64 1, .func (.func 38) #[] #[]], 4⟩] ⟨#[102, 97, 117, 108, 116]⟩ (.agg #[.int .i64 1, .func (.func 39) #[] #[]]) ?hu5 ?hk5 M5.out ?hf5 ?em5 ?ek5 ?ex5 ?_); (case hgd5 => rfl); (case ho5 => rfl); (case hu5 => exact Tryz.underlying61); (case hk5 => exact Tryz.underlying9); (case hf5 => rfl); (case em5 => rfl); (case ek5 => rfl); (case ex5 => rfl)
       intro W6 m5 O5 z5
       have M6 : Hid (W6.heap[w.heap.size]? = some (.map #[⟨.string ⟨#[97]⟩, .agg #[.int .i64 2, .func (.func 35) #[] #[]], 0⟩, ⟨.string ⟨#[98]⟩, .agg #[.int .i64 2, .func (.func 35) #[] #[]], 1⟩, ⟨.string ⟨#[114, 101, 97, 100]⟩, .agg #[.int .i64 3, .func (.func 36) #[] #[]], 2⟩, ⟨.string ⟨#[115, 116, 97, 116, 101]⟩, .agg #[.int .i64 1, .func (.func 37) #[] #[]], 3⟩, ⟨.string ⟨#[99, 111, 117, 110, 116]⟩, .agg #[.int .i64 1, .func (.func 38) #[] #[]], 4⟩, ⟨.string ⟨#[102, 97, 117, 108, 116]⟩, .agg #[.int .i64 1, .func (.func 39) #[] #[]], 5⟩] 6)) := m5
       have B6 := hide (B5.out.grown O5.out (by have := B5.out.size; omega) (fun x hx => by injection hx; omega))
       clear m5 O5)
    | ((with_reducible refine wpList_insert_new W6 ?hgd6 61 9 59 (.tmp 1) (.const (.string ⟨#[110, 101, 119]⟩)) (.tmp 8) ?ho6 w.heap.size 6 #[⟨.string ⟨#[97]⟩, .agg #[.int .i64 2, .func (.func 35) #[] #[]], 0⟩, ⟨.string ⟨#[98]⟩, .agg #[.int .i64 2, .func (.func 35) #[] #[]], 1⟩, ⟨.string ⟨#[114, 101, 97, 100]⟩, .agg #[.int .i64 3, .func (.func 36) #[] #[]], 2⟩, ⟨.string ⟨#[115, 116, 97, 116, 101]⟩, .agg #[.int .i64 1, .func (.func 37) #[] #[]], 3⟩, ⟨.string ⟨#[99, 111, 117, 110, 116]⟩, .agg #[.int .i64 1, .func (.func 38) #[] #[]], 4⟩, ⟨.string ⟨#[102, 97, 117, 108, 116]⟩, .agg #[.int .i64 1, .func (.func 39) #[] #[]], 5⟩] ⟨#[110, 101, 119]⟩ (.agg #[.int .i64 1, .func (.func 40) #[] #[]]) ?hu6 ?hk6 M6.out ?hf6 ?em6 ?ek6 ?ex6 ?_); (case hgd6 => rfl); (case ho6 => rfl); (case hu6 => exact Tryz.underlying61); (case hk6 => exact Tryz.underlying9); (case hf6 => rfl); (case em6 => rfl); (case ek6 => rfl); (case ex6 => rfl)
       intro W7 m6 O6 z6
       have M7 : Hid (W7.heap[w.heap.size]? = some (.map #[⟨.string ⟨#[97]⟩, .agg #[.int .i64 2, .func (.func 35) #[] #[]], 0⟩, ⟨.string ⟨#[98]⟩, .agg #[.int .i64 2, .func (.func 35) #[] #[]], 1⟩, ⟨.string ⟨#[114, 101, 97, 100]⟩, .agg #[.int .i64 3, .func (.func 36) #[] #[]], 2⟩, ⟨.string ⟨#[115, 116, 97, 116, 101]⟩, .agg #[.int .i64 1, .func (.func 37) #[] #[]], 3⟩, ⟨.string ⟨#[99, 111, 117, 110, 116]⟩, .agg #[.int .i64 1, .func (.func 38) #[] #[]], 4⟩, ⟨.string ⟨#[102, 97, 117, 108, 116]⟩, .agg #[.int .i64 1, .func (.func 39) #[] #[]], 5⟩, ⟨.string ⟨#[110, 101, 119]⟩, .agg #[.int .i64 1, .func (.func 40) #[] #[]], 6⟩] 7)) := m6
       have B7 := hide (B6.out.grown O6.out (by have := B6.out.size; omega) (fun x hx => by injection hx; omega))
       clear m6 O6))
  go_ret
  exact ⟨rfl, M7.out, B7.out⟩
end Go.Proofs.YtakocncckglboaaGreatDoor
