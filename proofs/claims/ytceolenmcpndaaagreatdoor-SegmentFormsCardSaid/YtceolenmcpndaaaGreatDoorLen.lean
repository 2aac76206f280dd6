/- The law SegmentLengths returns true at every input whose strings and slices fit a machine. -/
import Derived.Test.YtceolenmcpndaaaGreatDoorAlive
import Derived.Test.YtceolenmcpndaaaGreatDoorSegS
set_option autoImplicit false
namespace Go.Proofs.YtceolenmcpndaaaGreatDoor
open Go.RowKit Go.Sort Go.Shelf

theorem few_bounds (l : List Sg) (h : FewF l = true) : l.length ≤ 50 ∧ ∀ s ∈ l, s.2.length ≤ 600 := by
  simp only [FewF, decide_eq_true_eq] at h
  refine ⟨h.1, fun s hs => ?_⟩
  have key : ∀ (l : List Sg) (n : Int), n ≤ l.foldl (fun n s => n + min (s.2.length : Int) 1000) n ∧ ∀ s ∈ l, n + min (s.2.length : Int) 1000 ≤ l.foldl (fun n s => n + min (s.2.length : Int) 1000) n := by
    intro l
    induction l with
    | nil => intro n; exact ⟨Int.le_refl _, by simp⟩
    | cons x r ih =>
      intro n
      obtain ⟨a, b⟩ := ih (n + min (x.2.length : Int) 1000)
      simp only [List.foldl_cons]
      refine ⟨by omega, fun s hs => ?_⟩
      rcases List.mem_cons.1 hs with rfl | hs
      · exact a
      · have := b s hs; omega
  have a := (key l 0).2 s hs
  have b := h.2
  unfold lenSum at b
  omega
theorem narP_len (l : List Sg) : (narP l).length = l.length := by simp [narP]
theorem narP_mem (l : List Sg) (M : Nat) (h : ∀ s ∈ l, s.2.length ≤ M) : ∀ s ∈ narP l, s.2.length ≤ M := by
  intro s hs
  obtain ⟨t, ht, rfl⟩ := List.mem_map.1 hs
  simpa [narS, narL] using h t ht
theorem narN_bd (x : Int) (h : 0 ≤ x ∧ x < 4294967296) : 0 ≤ narN x ∧ narN x < 4294967296 ∧ narN x ≤ 65535 := by
  unfold narN; split <;> omega
theorem narL_us (l : List Int) (h : Us l) : Us (narL l) := by
  intro x hx
  obtain ⟨y, hy, rfl⟩ := List.mem_map.1 hx
  have := narN_bd y (h y hy)
  omega
theorem lenF_nar (l : List Sg) : lenF (narP l) = lenF l := by
  have : ∀ (l : List Sg) (n : Int), (narP l).foldl (fun n s => n + segLen s) n = l.foldl (fun n s => n + segLen s) n := by
    intro l
    induction l with
    | nil => intro n; rfl
    | cons x r ih =>
      intro n
      have hx : segLen (narS x) = segLen x := by simp [segLen, narS, narL]
      simp only [narP, List.map_cons, List.foldl_cons, hx] at ih ⊢
      exact ih _
  exact this l 0
theorem valid_nar (l : List Sg) (h : ∀ s ∈ l, Us s.2) : validF 2 (narP l) = validF 4 l := by
  have key : ∀ s ∈ l, rightF 2 (narS s) = rightF 4 s := by
    intro s hs
    have a : shapeF (narS s) = shapeF s := by simp [shapeF, narS, narL]
    have b : smallF 2 (narS s).2 = true := by
      simp only [smallF, narS, narL, List.all_map, Function.comp_def]
      simp
      intro x hx
      exact (narN_bd x (h s hs x hx)).2.2
    have c : smallF 4 s.2 = true := by simp [smallF]
    simp only [rightF, a, b, c]
  have : (narP l).all (rightF 2) = l.all (rightF 4) := by
    clear h
    induction l with
    | nil => rfl
    | cons x r ih =>
      simp only [narP, List.map_cons, List.all_cons] at ih ⊢
      rw [key x (by simp), ih fun s hs => key s (by simp [hs])]
  simp [validF, this]

/-- A number stored into a row of numbers: whatever rows lie there, they still hold numbers. -/
theorem segsO_stored {w : World} {lo : Nat} {vs : List Value} {l : List Sg} (h : SegsO w lo vs l) (g j : Nat) (y : Int) :
    ∃ l', l'.map (fun s => (s.1, s.2.length)) = l.map (fun s => (s.1, s.2.length)) ∧ SegsO (w.setCell ⟨g, j, none⟩ (.int .u32 y)) lo vs l' := by
  have key : ∀ (m : Nat), m ≤ l.length → ∃ l' : List Sg, l'.length = m ∧ l'.map (fun s => (s.1, s.2.length)) = (l.take m).map (fun s => (s.1, s.2.length)) ∧
      ∀ (i : Nat) (s : Sg), l'[i]? = some s → ∃ v0 v1, vs[i * 2]? = some v0 ∧ vs[i * 2 + 1]? = some v1 ∧ SegO (w.setCell ⟨g, j, none⟩ (.int .u32 y)) lo v0 v1 s := by
    intro m
    induction m with
    | zero => intro _; exact ⟨[], rfl, rfl, by simp⟩
    | succ m ih =>
      intro hm
      obtain ⟨l', e1, e2, e3⟩ := ih (by omega)
      obtain ⟨v0, v1, a, b, c0, c1⟩ := h.2 m l[m] (List.getElem?_eq_getElem (by omega))
      have hex : ∃ xs : List Int, xs.length = l[m].2.length ∧ (w.setCell ⟨g, j, none⟩ (.int .u32 y)).ownsRow lo 41 1 v1 l[m].2.length (uV xs) := by
        rcases c1.2 with ⟨hv, hn⟩ | ⟨g', cap, cur, hv, hlo, hh, r⟩
        · exact ⟨l[m].2, rfl, c1.1, .inl ⟨hv, hn⟩⟩
        · by_cases hg : g' = g
          · subst hg
            subst hv
            have := (c1.stored j (.int .u32 y)).1
            refine ⟨l[m].2.set j y, by simp, ?_⟩
            rw [uV, List.map_set]
            exact this
          · exact ⟨l[m].2, rfl, own_keep c1 fun b hb => by
              rw [hv] at hb
              have hb' : g' = b := by injection hb
              exact Below.heap_setCell w _ _ b (by rw [← hb']; exact hg)⟩
      obtain ⟨xs, x1, x2⟩ := hex
      refine ⟨l' ++ [(l[m].1, xs)], by simp [e1], ?_, ?_⟩
      · rw [List.take_succ_eq_append_getElem (by omega), List.map_append, List.map_append, e2]
        simp [x1]
      · intro i s hs
        rcases Nat.lt_or_ge i l'.length with hi | hi
        · rw [List.getElem?_append_left hi] at hs; exact e3 i s hs
        · rw [List.getElem?_append_right hi] at hs
          have hi0 : i - l'.length = 0 := by
            rcases Nat.eq_zero_or_pos (i - l'.length) with e | e
            · exact e
            · rw [List.getElem?_eq_none (by simp; omega)] at hs; cases hs
          rw [hi0] at hs
          have e : (l[m].1, xs) = s := by simpa using hs
          have ei : i = m := by omega
          subst e; subst ei
          exact ⟨v0, v1, a, b, c0, by rw [x1]; exact x2⟩
  obtain ⟨l', e1, e2, e3⟩ := key l.length (Nat.le_refl _)
  rw [List.take_length] at e2
  exact ⟨l', e2, by rw [e1]; exact h.1, e3⟩
end Go.Proofs.YtceolenmcpndaaaGreatDoor
