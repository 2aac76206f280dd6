/- '==' at prefixes: equal just where the families, the Lens and the addresses are. -/
import Derived.Test.YtgegloplhlkafaaDoorPfxD
set_option autoImplicit false
namespace Go.Proofs.YtgegloplhlkafaaDoor
open Go.RowKit

theorem isAgg_int (w : World) : (isAgg 3).run Tryd.prog w = .ok false w := by
  unfold isAgg; rw [Sem.run_bind, run_underlying Tryd.underlying3 w]; rfl
theorem isAgg_arr (w : World) : (isAgg 24).run Tryd.prog w = .ok true w := by
  unfold isAgg; rw [Sem.run_bind, run_underlying arr_desc w]; rfl
theorem sizeOf_arr (w : World) : (sizeOf 24).run Tryd.prog w = .ok 16 w := by
  have h := arr_info
  cases hq : Tryd.prog.info? 24 with
  | none => rw [hq] at h; simp at h
  | some i => rw [hq] at h; have : i.size = 16 := by simpa using h
              simp [sizeOf, typeInfo, hq, this]

theorem pfx_fields : ∃ f0 f1 f2 : Field, Tryd.prog.underlying 26 = some (.struct #[f0, f1, f2]) ∧ (f0.type = 3 ∧ f1.type = 3 ∧ f2.type = 24) ∧ (f0.offset = 0 ∧ f1.offset = 1 ∧ f2.offset = 2) ∧
    (f0.name ≠ "_" ∧ f1.name ≠ "_" ∧ f2.name ≠ "_") :=
  ⟨_, _, _, Tryd.underlying26, ⟨rfl, rfl, rfl⟩, ⟨rfl, rfl, rfl⟩, by decide, by decide, by decide⟩

theorem eq_in (d : Nat) (p q : Int × Int × List Int) (hp : p.2.2.length = 16) (hq : q.2.2.length = 16) (w : World) :
    (Op.equalIn (d + 3) 26 (.agg (pvT p).toArray) (.agg (pvT q).toArray)).run Tryd.prog w = .ok (decide (p = q)) w := by
  obtain ⟨f, l, a⟩ := p
  obtain ⟨f', l', a'⟩ := q
  simp only at hp hq
  have hu : Tryd.prog.underlying 26 = some (.struct (Tryd.prog.fieldsOf 26)) := by simp [Program.fieldsOf, Tryd.underlying26]
  have hs : Tryd.prog.stoodInHeld 26 = false := by kernel_rfl
  rw [run_equalIn_struct w (d + 2) 26 _ _ hu hs]
  obtain ⟨f0, f1, f2, hd, ⟨t0, t1, t2⟩, ⟨o0, o1, o2⟩, n0, n1, n2⟩ := pfx_fields
  have hfs : (Tryd.prog.fieldsOf 26).toList = [f0, f1, f2] := by
    unfold Program.fieldsOf; rw [hd]
  rw [hfs]
  have hg0 : ∀ f l a, (pvT (f, l, a)).toArray[0]? = some (.int .i64 f) := fun f l a => rfl
  have hg1 : ∀ f l a, (pvT (f, l, a)).toArray[1]? = some (.int .i64 l) := fun f l a => rfl
  have i0 : ∀ f l a, (part 3 (pvT (f, l, a)).toArray 0).run Tryd.prog w = .ok (.int .i64 f) w := fun f l a => by
    simp only [part, Sem.run_bind, isAgg_int, Result.andThen_ok, hg0]; rfl
  have i1 : ∀ f l a, (part 3 (pvT (f, l, a)).toArray 1).run Tryd.prog w = .ok (.int .i64 l) w := fun f l a => by
    simp only [part, Sem.run_bind, isAgg_int, Result.andThen_ok, hg1]; rfl
  have i2 : ∀ f l (a : List Int), a.length = 16 → (part 24 (pvT (f, l, a)).toArray 2).run Tryd.prog w = .ok (.agg (bytesV a)) w := fun f l a h => by
    have := pv_extract f l a h
    simp only [part, Sem.run_bind, isAgg_arr, Result.andThen_ok, if_true, sizeOf_arr, Sem.run_pure]
    rw [← this]; rfl
  have e0 : ∀ x y : Int, (Op.equalIn (d + 2) 3 (.int .i64 x) (.int .i64 y)).run Tryd.prog w = .ok (x == y) w := fun x y => run_equalIn_int w (d + 1) 3 .i64 .i64 x y Tryd.underlying3
  have e2 : (Op.equalIn (d + 2) 24 (.agg (bytesV a)) (.agg (bytesV a'))).run Tryd.prog w = .ok (decide (a = a')) w := eq_loop w d 24 5 16 a a' arr_desc Tryd.underlying5 u8_one hp hq
  have k0 := i0 f l a
  have k0' := i0 f' l' a'
  have k1 := i1 f l a
  have k1' := i1 f' l' a'
  have k2 := i2 f l a hp
  have k2' := i2 f' l' a' hq
  simp only [Op.eqFields, if_pos n0, if_pos n1, if_pos n2, t0, t1, t2, o0, o1, o2]
  rw [Sem.run_bind, k0]; simp only [Result.andThen_ok]
  rw [Sem.run_bind, k0']; simp only [Result.andThen_ok]
  rw [Sem.run_bind, e0]; simp only [Result.andThen_ok]
  by_cases h1 : f = f'
  · rw [if_neg (by simp [h1])]
    rw [Sem.run_bind, k1]; simp only [Result.andThen_ok]
    rw [Sem.run_bind, k1']; simp only [Result.andThen_ok]
    rw [Sem.run_bind, e0]; simp only [Result.andThen_ok]
    by_cases h2 : l = l'
    · rw [if_neg (by simp [h2])]
      rw [Sem.run_bind, k2]; simp only [Result.andThen_ok]
      rw [Sem.run_bind, k2']; simp only [Result.andThen_ok]
      rw [Sem.run_bind, e2]; simp only [Result.andThen_ok]
      by_cases h3 : a = a'
      · rw [if_neg (by simp [h3])]; simp [h1, h2, h3]
      · rw [if_pos (by simp [h3])]; simp [h3]
    · rw [if_pos (by simp [h2])]; simp [h2]
  · rw [if_pos (by simp [h1])]; simp [h1]
theorem eq_pfx (p q : Int × Int × List Int) (hp : p.2.2.length = 16) (hq : q.2.2.length = 16) (w : World) :
    (binOp .eql 26 (.agg (pvT p).toArray) (.agg (pvT q).toArray)).run Tryd.prog w = .ok (.bool (decide (p = q))) w := by
  rw [run_eql_struct, eq_in 9997 p q hp hq w]; rfl
theorem neq_pfx (p q : Int × Int × List Int) (hp : p.2.2.length = 16) (hq : q.2.2.length = 16) (w : World) :
    (binOp .neq 26 (.agg (pvT p).toArray) (.agg (pvT q).toArray)).run Tryd.prog w = .ok (.bool (!decide (p = q))) w := by
  rw [run_neq_struct, eq_in 9997 p q hp hq w]; rfl
end Go.Proofs.YtgegloplhlkafaaDoor
