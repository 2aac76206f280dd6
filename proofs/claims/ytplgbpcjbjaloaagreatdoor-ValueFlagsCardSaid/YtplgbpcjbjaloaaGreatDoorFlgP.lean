/- The walk of the law ValueFlags: it returns true. -/
import Derived.Test.YtplgbpcjbjaloaaGreatDoorFlgO
set_option autoImplicit false
namespace Go.Proofs.YtplgbpcjbjaloaaGreatDoor
open Go.RowKit
theorem getD_mono {L : Array Bool} {i j : Nat} (h : L.getD j false = true) : (L.setIfInBounds i true).getD j false = true := by
  by_cases hij : j = i
  · subst hij
    refine getD_set_eq ?_
    rcases Nat.lt_or_ge j L.size with h1 | h1
    · exact h1
    · rw [Array.getD_eq_getD_getElem?, Array.getElem?_eq_none h1] at h; cases h
  · rw [getD_set_ne hij]; exact h
theorem getD_left {L : Array Bool} {i : Nat} (h : L.getD i true = false) : L.getD i false = false := by
  have h1 := lt_of_left h
  rw [Array.getD_eq_getD_getElem?, Array.getElem?_eq_getElem h1] at h ⊢
  exact h
theorem rhead_size : (Tryz.prog.info? 44).map (·.size) = some 3 := by kernel_rfl
structure LF (w : World) (o1 o2 o3 o4 o5 o6 : Bool) (f k : Int) (A : Option Addr) (cp : Nat) (l : List Int) (V : World) (L : Array Bool) (x10 x11 x43 x44 x45 x46 x47 x48 x49 x50 : Value) : Prop where
  g0 : V.heap[w.heap.size]? = some (.cells #[.bool o1, .bool o2, .bool o3, .bool o4, .bool o5, .bool o6] 41 (0, 0))
  g2 : V.heap[w.heap.size + 1 + 1]? = some (.cells #[.int .i64 f, .int .i64 k, .int .i64 (l.length : Int)] 44 (0, 0))
  be : Below w.heap.size w V
  f0 : L.getD 0 false = true → x44 = .agg #[.bool o1, .bool o2, .bool o3, .bool o4, .bool o5, .bool o6]
  f1 : L.getD 1 false = true → x45 = .agg #[.int .i64 f, .int .i64 k, .int .i64 (l.length : Int)]
  f2 : L.getD 2 false = true → x46 = .slice A l.length cp
  f3 : L.getD 3 false = true → ∃ g, x47 = .pointer (some ⟨g, 0, none⟩)
  f4 : L.getD 4 false = true → x48 = .tuple #[.agg #[.int .i64 0, .bool false, .int .u32 0, .int .u32 0, .slice none 0 0, .slice none 0 0, .slice none 0 0, .int .i64 0, .slice none 0 0], .agg #[.int .i64 2, .int .i64 0, .int .i64 0, .slice none 0 0, .int .i64 9]]
  f5 : L.getD 5 false = true → x43 = .tuple #[.agg #[.int .i64 0, .bool false, .int .u32 0, .int .u32 0, .slice none 0 0, .slice none 0 0, .slice none 0 0, .int .i64 0, .slice none 0 0], .agg #[.int .i64 2, .int .i64 0, .int .i64 0, .slice none 0 0, .int .i64 9]]
  f6 : L.getD 6 false = true → x49 = .agg #[.int .i64 0, .bool false, .int .u32 0, .int .u32 0, .slice none 0 0, .slice none 0 0, .slice none 0 0, .int .i64 0, .slice none 0 0]
  f7 : L.getD 7 false = true → x50 = .agg #[.int .i64 2, .int .i64 0, .int .i64 0, .slice none 0 0, .int .i64 9]
  f8 : L.getD 8 false = true → ∃ g, w.heap.size ≤ g ∧ x10 = .pointer (some ⟨g, 0, none⟩) ∧ V.heap[g]? = some (.cells #[.int .i64 0, .bool false, .int .u32 0, .int .u32 0, .slice none 0 0, .slice none 0 0, .slice none 0 0, .int .i64 0, .slice none 0 0] 28 (0, 0))
  f9 : L.getD 9 false = true → ∃ g vs, w.heap.size ≤ g ∧ x11 = .pointer (some ⟨g, 0, none⟩) ∧ V.heap[g]? = some (.cells vs 49 (0, 0)) ∧ vs.size = 5
  f10 : L.getD 10 false = true → True
  f11 : L.getD 11 false = true → L.getD 9 false = true ∧ ∃ g, x11 = .pointer (some ⟨g, 0, none⟩) ∧ V.heap[g]? = some (.cells #[.int .i64 2, .int .i64 0, .int .i64 0, .slice none 0 0, .int .i64 9] 49 (0, 0))
section
variable {w V V' : World} {o1 o2 o3 o4 o5 o6 : Bool} {f k : Int} {A : Option Addr} {cp : Nat} {l : List Int} {L : Array Bool} {x10 x11 x43 x44 x45 x46 x47 x48 x49 x50 : Value}
theorem LF.more (H : LF w o1 o2 o3 o4 o5 o6 f k A cp l V L x10 x11 x43 x44 x45 x46 x47 x48 x49 x50) (hb : Below V.heap.size V V') : LF w o1 o2 o3 o4 o5 o6 f k A cp l V' L x10 x11 x43 x44 x45 x46 x47 x48 x49 x50 :=
  ⟨(hb.block _ (lt_of_heapF H.g0)).trans H.g0, (hb.block _ (lt_of_heapF H.g2)).trans H.g2, H.be.trans (hb.mono H.be.size), H.f0, H.f1, H.f2, H.f3, H.f4, H.f5, H.f6, H.f7,
    fun h => by obtain ⟨g, a, b, c⟩ := H.f8 h; exact ⟨g, a, b, (hb.block _ (lt_of_heapF c)).trans c⟩,
    fun h => by obtain ⟨g, vs, a, b, c, d⟩ := H.f9 h; exact ⟨g, vs, a, b, (hb.block _ (lt_of_heapF c)).trans c, d⟩, H.f10,
    fun h => by obtain ⟨i9, g, a, b⟩ := H.f11 h; exact ⟨i9, g, a, (hb.block _ (lt_of_heapF b)).trans b⟩⟩
/-- A store that leaves its block as it was. -/
theorem grown_same {W W' : World} {g : Nat} {o : Obj} (ho : W.grownBy W' (some g)) (hg : W.heap[g]? = some o) (hg' : W'.heap[g]? = some o) {i : Nat} {o' : Obj} (h : W.heap[i]? = some o') : W'.heap[i]? = some o' := by
  by_cases hi : i = g
  · subst hi; rw [hg'] ; rw [hg] at h; exact h
  · exact (ho.block i (lt_of_heapF h) (by intro e; injection e with e; exact hi e)).trans h
theorem LF.grown {g : Nat} (H : LF w o1 o2 o3 o4 o5 o6 f k A cp l V L x10 x11 x43 x44 x45 x46 x47 x48 x49 x50) (ho : V.grownBy V' (some g)) (hw : w.heap.size ≤ g) (hg : V.heap[g]? = some (.cells #[.int .i64 0, .bool false, .int .u32 0, .int .u32 0, .slice none 0 0, .slice none 0 0, .slice none 0 0, .int .i64 0, .slice none 0 0] 28 (0, 0))) (hg' : V'.heap[g]? = some (.cells #[.int .i64 0, .bool false, .int .u32 0, .int .u32 0, .slice none 0 0, .slice none 0 0, .slice none 0 0, .int .i64 0, .slice none 0 0] 28 (0, 0))) (_ : False → True) (_ : False → True) : LF w o1 o2 o3 o4 o5 o6 f k A cp l V' L x10 x11 x43 x44 x45 x46 x47 x48 x49 x50 :=
  ⟨grown_same ho hg hg' H.g0, grown_same ho hg hg' H.g2, H.be.grown ho H.be.size (fun x hx => by injection hx with hx; omega), H.f0, H.f1, H.f2, H.f3, H.f4, H.f5, H.f6, H.f7,
    fun h => by obtain ⟨g, a, b, c⟩ := H.f8 h; exact ⟨g, a, b, grown_same ho hg hg' c⟩,
    fun h => by obtain ⟨g, vs, a, b, c, d⟩ := H.f9 h; exact ⟨g, vs, a, b, grown_same ho hg hg' c, d⟩, H.f10,
    fun h => by obtain ⟨i9, g, a, b⟩ := H.f11 h; exact ⟨i9, g, a, grown_same ho hg hg' b⟩⟩
/-- A store of a verdict: blocks of other types stay, and verdicts stay verdicts. -/
theorem grown_type {W W' : World} {g : Nat} {t t' : TypeId} {vs us : Array Value} (ho : W.grownBy W' (some g)) (hg : W.heap[g]? = some (.cells vs t (0, 0))) (hne : t' ≠ t) {i : Nat} (h : W.heap[i]? = some (.cells us t' (0, 0))) : W'.heap[i]? = some (.cells us t' (0, 0)) := by
  by_cases hi : i = g
  · subst hi; rw [hg] at h; injection h with h; injection h with h1 h2; exact absurd h2.symm hne
  · exact (ho.block i (lt_of_heapF h) (by intro e; injection e with e; exact hi e)).trans h
theorem LF.grown2 {g : Nat} {vs : Array Value} (H : LF w o1 o2 o3 o4 o5 o6 f k A cp l V L x10 x11 x43 x44 x45 x46 x47 x48 x49 x50) (ho : V.grownBy V' (some g)) (hw : w.heap.size ≤ g) (hg : V.heap[g]? = some (.cells vs 49 (0, 0))) (hg' : V'.heap[g]? = some (.cells #[.int .i64 2, .int .i64 0, .int .i64 0, .slice none 0 0, .int .i64 9] 49 (0, 0))) : LF w o1 o2 o3 o4 o5 o6 f k A cp l V' L x10 x11 x43 x44 x45 x46 x47 x48 x49 x50 :=
  ⟨grown_type ho hg (by decide) H.g0, grown_type ho hg (by decide) H.g2, H.be.grown ho H.be.size (fun x hx => by injection hx with hx; omega), H.f0, H.f1, H.f2, H.f3, H.f4, H.f5, H.f6, H.f7,
    fun h => by obtain ⟨g, a, b, c⟩ := H.f8 h; exact ⟨g, a, b, grown_type ho hg (by decide) c⟩,
    fun h => by
      obtain ⟨q, us, a, b, c, d⟩ := H.f9 h
      by_cases hq : q = g
      · subst hq; exact ⟨q, _, a, b, hg', rfl⟩
      · exact ⟨q, us, a, b, (ho.block q (lt_of_heapF c) (by intro e; injection e with e; exact hq e)).trans c, d⟩, H.f10,
    fun h => by
      obtain ⟨i9, q, a, b⟩ := H.f11 h
      by_cases hq : q = g
      · subst hq; exact ⟨i9, q, a, hg'⟩
      · exact ⟨i9, q, a, (ho.block q (lt_of_heapF b) (by intro e; injection e with e; exact hq e)).trans b⟩⟩
end
set_option maxRecDepth 100000 in
set_option maxHeartbeats 4000000 in
theorem flags_core (o1 o2 o3 o4 o5 o6 : Bool) (h0 k f c : Int) (A : Option Addr) (cp : Nat) (l : List Int) (w : World) (h00 : 0 ≤ h0) (h01 : h0 < 256) (k0 : 0 ≤ k) (k1 : k < 256) (hf : bits .andNot .i64 h0 16 = f) (hc : clsF k = some c) (hr : rrB f c = false) (hrb : rightB f c = false) (hn : l.length ≤ 255) (hb : Byts w w.heap.size A l) :
    Calls Tryz.prog 4 #[.agg #[.bool o1, .bool o2, .bool o3, .bool o4, .bool o5, .bool o6], .agg #[.int .u8 h0, .int .u8 k], .slice A l.length cp] w fun e w' => e = .returned (.bool true) ∧ Below w.heap.size w w' := by
  have hst : LF w o1 o2 o3 o4 o5 o6 f k A cp l (((w.alloc (.cells #[.bool o1, .bool o2, .bool o3, .bool o4, .bool o5, .bool o6] 41)).alloc (.cells #[.int .u8 h0, .int .u8 k] 42)).alloc (.cells #[.int .i64 f, .int .i64 k, .int .i64 (l.length : Int)] 44)).drew (Array.replicate 12 false) undef undef undef undef undef undef undef undef undef undef := by
    have e0 : (((w.alloc (.cells #[.bool o1, .bool o2, .bool o3, .bool o4, .bool o5, .bool o6] 41)).alloc (.cells #[.int .u8 h0, .int .u8 k] 42)).alloc (.cells #[.int .i64 f, .int .i64 k, .int .i64 (l.length : Int)] 44)).heap[w.heap.size]? = some (.cells #[.bool o1, .bool o2, .bool o3, .bool o4, .bool o5, .bool o6] 41 (0, 0)) := alloc_old (alloc_old (alloc_at rfl))
    have e2 : (((w.alloc (.cells #[.bool o1, .bool o2, .bool o3, .bool o4, .bool o5, .bool o6] 41)).alloc (.cells #[.int .u8 h0, .int .u8 k] 42)).alloc (.cells #[.int .i64 f, .int .i64 k, .int .i64 (l.length : Int)] 44)).heap[w.heap.size + 1 + 1]? = some (.cells #[.int .i64 f, .int .i64 k, .int .i64 (l.length : Int)] 44 (0, 0)) := alloc_at (by simp)
    exact ⟨e0, e2, ((((Below.refl _ _).alloc (Nat.le_refl _) _).alloc (by simp) _).alloc (by simp; omega) _).drew, fun h => absurd h (by decide), fun h => absurd h (by decide), fun h => absurd h (by decide), fun h => absurd h (by decide), fun h => absurd h (by decide), fun h => absurd h (by decide), fun h => absurd h (by decide), fun h => absurd h (by decide), fun h => absurd h (by decide), fun h => absurd h (by decide), fun h => absurd h (by decide), fun h => absurd h (by decide)⟩
  have HST := hide hst
  have HC := hide (fun W => rclass_yes k c W k0 k1 hc)
  have HR := hide (fun W => rright_any f k c W k0 k1 hc)
  rw [hr] at HR
  have hn1 : ¬ (255 : Int) < (l.length : Int) := by omega
  have HK := Lib.hid hc
  have HF := Lib.hid hrb
  have HB := hide hb
  have has := attr_size
  have HAS := Lib.hid has
  have hvs := verdict_size
  have HVS := Lib.hid hvs
  clear hc hr hb hst hrb has hvs
  go_enter Tryz.func4, Tryz.ntmps4
  go_wp2_with (first
    | (go_at_call 10; refine (HC.out _).mono ?_; rintro e w1 ⟨rfl, rfl⟩)
    | (go_at_call 11; refine (HR.out _).mono ?_; rintro e w1 ⟨rfl, rfl⟩))
  refine wp_region_inv (by kernel_rfl) (fun L a V => ∃ x10 x11 x43 x44 x45 x46 x47 x48 x49 x50 : Value, a = ⟨List.toArray ((.agg #[.bool o1, .bool o2, .bool o3, .bool o4, .bool o5, .bool o6]) :: (.agg #[.int .u8 h0, .int .u8 k]) :: (.slice A l.length cp) :: (.pointer (some ⟨w.heap.size, 0, none⟩)) :: (.pointer (some ⟨w.heap.size + 1, 0, none⟩)) :: (undef) :: (.bool false) :: (.pointer (some ⟨w.heap.size + 1 + 1, 0, none⟩)) :: (.int .i64 c) :: (.bool true) :: (x10) :: (x11) :: (.pointer (some ⟨w.heap.size + 1, 0, none⟩)) :: (.int .u8 h0) :: (.int .i64 h0) :: (.int .i64 f) :: (.pointer (some ⟨w.heap.size + 1, 1, none⟩)) :: (.int .u8 k) :: (.int .i64 k) :: (.slice A l.length cp) :: (.int .i64 (l.length : Int)) :: (.agg #[.int .i64 f, .int .i64 k, .int .i64 (l.length : Int)]) :: (.tuple #[.int .i64 c, .bool true]) :: (.pointer (some ⟨w.heap.size + 1 + 1, 1, none⟩)) :: (.int .i64 k) :: (.tuple #[.int .i64 c, .bool true]) :: (.int .i64 c) :: (.bool true) :: (.slice A l.length cp) :: (.int .i64 (l.length : Int)) :: (.bool (decide ((255 : Int) < (l.length : Int)))) :: (.bool (decide ((255 : Int) < (l.length : Int)))) :: (.bool true) :: (.bool false) :: (.bool (decide ((255 : Int) < (l.length : Int)))) :: (.bool (decide ((255 : Int) < (l.length : Int)))) :: (.pointer (some ⟨w.heap.size + 1 + 1, 0, none⟩)) :: (.int .i64 f) :: (.pointer (some ⟨w.heap.size + 1 + 1, 1, none⟩)) :: (.int .i64 k) :: (.bool false) :: (.bool (decide ((255 : Int) < (l.length : Int)))) :: (undef) :: (x43) :: (x44) :: (x45) :: (x46) :: (x47) :: (x48) :: (x49) :: (x50) :: (undef) :: (undef) :: (undef) :: (undef) :: (undef) :: (undef) :: (undef) :: (undef) :: (undef) :: (undef) :: (undef) :: []), []⟩ ∧ LF w o1 o2 o3 o4 o5 o6 f k A cp l V L x10 x11 x43 x44 x45 x46 x47 x48 x49 x50) (by kernel_rfl) ?steps ⟨undef, undef, undef, undef, undef, undef, undef, undef, undef, undef, rfl, HST.out⟩ ?done
  case steps =>
    refine ⟨?_, ?_, ?_, ?_, ?_, ?_, ?_, ?_, ?_, ?_, ?_, ?_, trivial⟩
    · rintro L a V ⟨x10, x11, x43, x44, x45, x46, x47, x48, x49, x50, rfl, H⟩ hl ha K hK
      refine step_load_whole V rfl 41 (.tmp 3) rfl (w.heap.size) 41 #[.bool o1, .bool o2, .bool o3, .bool o4, .bool o5, .bool o6] _ rfl H.g0 Tryz.underlying41 rfl opt_size ?_
      exact hK _ _ ⟨_, _, _, _, _, _, _, _, _, _, rfl, ⟨H.g0, H.g2, H.be, fun _ => rfl, fun h => H.f1 ((getD_set h).resolve_left (by decide)), fun h => H.f2 ((getD_set h).resolve_left (by decide)), fun h => H.f3 ((getD_set h).resolve_left (by decide)), fun h => H.f4 ((getD_set h).resolve_left (by decide)), fun h => H.f5 ((getD_set h).resolve_left (by decide)), fun h => H.f6 ((getD_set h).resolve_left (by decide)), fun h => H.f7 ((getD_set h).resolve_left (by decide)), fun h => H.f8 ((getD_set h).resolve_left (by decide)), fun h => H.f9 ((getD_set h).resolve_left (by decide)), fun h => H.f10 ((getD_set h).resolve_left (by decide)), fun h => ⟨getD_mono (H.f11 ((getD_set h).resolve_left (by decide))).1, (H.f11 ((getD_set h).resolve_left (by decide))).2⟩⟩⟩
    · rintro L a V ⟨x10, x11, x43, x44, x45, x46, x47, x48, x49, x50, rfl, H⟩ hl ha K hK
      refine step_load_whole V rfl 44 (.tmp 7) rfl ((w.heap.size + 1 + 1)) 44 #[.int .i64 f, .int .i64 k, .int .i64 (l.length : Int)] _ rfl H.g2 Tryz.underlying44 rfl rhead_size ?_
      exact hK _ _ ⟨_, _, _, _, _, _, _, _, _, _, rfl, ⟨H.g0, H.g2, H.be, fun h => H.f0 ((getD_set h).resolve_left (by decide)), fun _ => rfl, fun h => H.f2 ((getD_set h).resolve_left (by decide)), fun h => H.f3 ((getD_set h).resolve_left (by decide)), fun h => H.f4 ((getD_set h).resolve_left (by decide)), fun h => H.f5 ((getD_set h).resolve_left (by decide)), fun h => H.f6 ((getD_set h).resolve_left (by decide)), fun h => H.f7 ((getD_set h).resolve_left (by decide)), fun h => H.f8 ((getD_set h).resolve_left (by decide)), fun h => H.f9 ((getD_set h).resolve_left (by decide)), fun h => H.f10 ((getD_set h).resolve_left (by decide)), fun h => ⟨getD_mono (H.f11 ((getD_set h).resolve_left (by decide))).1, (H.f11 ((getD_set h).resolve_left (by decide))).2⟩⟩⟩
    · rintro L a V ⟨x10, x11, x43, x44, x45, x46, x47, x48, x49, x50, rfl, H⟩ hl ha K hK
      go_simp
      exact hK _ _ ⟨_, _, _, _, _, _, _, _, _, _, rfl, ⟨H.g0, H.g2, H.be, fun h => H.f0 ((getD_set h).resolve_left (by decide)), fun h => H.f1 ((getD_set h).resolve_left (by decide)), fun _ => rfl, fun h => H.f3 ((getD_set h).resolve_left (by decide)), fun h => H.f4 ((getD_set h).resolve_left (by decide)), fun h => H.f5 ((getD_set h).resolve_left (by decide)), fun h => H.f6 ((getD_set h).resolve_left (by decide)), fun h => H.f7 ((getD_set h).resolve_left (by decide)), fun h => H.f8 ((getD_set h).resolve_left (by decide)), fun h => H.f9 ((getD_set h).resolve_left (by decide)), fun h => H.f10 ((getD_set h).resolve_left (by decide)), fun h => ⟨getD_mono (H.f11 ((getD_set h).resolve_left (by decide))).1, (H.f11 ((getD_set h).resolve_left (by decide))).2⟩⟩⟩
    · rintro L a V ⟨x10, x11, x43, x44, x45, x46, x47, x48, x49, x50, rfl, H⟩ hl ha K hK
      obtain rfl := H.f2 (ha ⟨2, .data⟩ (by simp) rfl)
      refine step_call_fn (args := #[.slice A l.length cp]) rfl rfl Tryz.func13 (by decide) rfl (by simp [Act.eval]) (new_any A cp l V ((HB.out.below H.be).more H.be.size) (by omega)) ?_
      rintro e w' ⟨g, rfl, _, _, hb⟩
      refine ⟨_, rfl, ?_⟩
      replace H := H.more hb
      exact hK _ _ ⟨_, _, _, _, _, _, _, _, _, _, rfl, ⟨H.g0, H.g2, H.be, fun h => H.f0 ((getD_set h).resolve_left (by decide)), fun h => H.f1 ((getD_set h).resolve_left (by decide)), fun h => H.f2 ((getD_set h).resolve_left (by decide)), fun _ => ⟨g, rfl⟩, fun h => H.f4 ((getD_set h).resolve_left (by decide)), fun h => H.f5 ((getD_set h).resolve_left (by decide)), fun h => H.f6 ((getD_set h).resolve_left (by decide)), fun h => H.f7 ((getD_set h).resolve_left (by decide)), fun h => H.f8 ((getD_set h).resolve_left (by decide)), fun h => H.f9 ((getD_set h).resolve_left (by decide)), fun h => H.f10 ((getD_set h).resolve_left (by decide)), fun h => ⟨getD_mono (H.f11 ((getD_set h).resolve_left (by decide))).1, (H.f11 ((getD_set h).resolve_left (by decide))).2⟩⟩⟩
    · rintro L a V ⟨x10, x11, x43, x44, x45, x46, x47, x48, x49, x50, rfl, H⟩ hl ha K hK
      obtain rfl := H.f0 (ha ⟨0, .data⟩ (by simp) rfl)
      obtain rfl := H.f1 (ha ⟨1, .data⟩ (by simp) rfl)
      obtain ⟨g, rfl⟩ := H.f3 (ha ⟨3, .data⟩ (by simp) rfl)
      refine step_call_fn (args := #[.agg #[.bool o1, .bool o2, .bool o3, .bool o4, .bool o5, .bool o6], .int .i64 9, .agg #[.int .i64 f, .int .i64 k, .int .i64 (l.length : Int)], .pointer (some ⟨g, 0, none⟩)]) rfl rfl Tryz.func12 (by decide) rfl (by simp [Act.eval]) (read_flags o1 o2 o3 o4 o5 o6 9 f k l.length c g V HK.out HF.out) ?_
      rintro e w' ⟨rfl, hb⟩
      refine ⟨_, rfl, ?_⟩
      replace H := H.more hb
      exact hK _ _ ⟨_, _, _, _, _, _, _, _, _, _, rfl, ⟨H.g0, H.g2, H.be, fun h => H.f0 ((getD_set h).resolve_left (by decide)), fun h => H.f1 ((getD_set h).resolve_left (by decide)), fun h => H.f2 ((getD_set h).resolve_left (by decide)), fun h => H.f3 ((getD_set h).resolve_left (by decide)), fun _ => rfl, fun h => H.f5 ((getD_set h).resolve_left (by decide)), fun h => H.f6 ((getD_set h).resolve_left (by decide)), fun h => H.f7 ((getD_set h).resolve_left (by decide)), fun h => H.f8 ((getD_set h).resolve_left (by decide)), fun h => H.f9 ((getD_set h).resolve_left (by decide)), fun h => H.f10 ((getD_set h).resolve_left (by decide)), fun h => ⟨getD_mono (H.f11 ((getD_set h).resolve_left (by decide))).1, (H.f11 ((getD_set h).resolve_left (by decide))).2⟩⟩⟩
    · rintro L a V ⟨x10, x11, x43, x44, x45, x46, x47, x48, x49, x50, rfl, H⟩ hl ha K hK
      obtain rfl := H.f4 (ha ⟨4, .data⟩ (by simp) rfl)
      go_simp
      exact hK _ _ ⟨_, _, _, _, _, _, _, _, _, _, rfl, ⟨H.g0, H.g2, H.be, fun h => H.f0 ((getD_set h).resolve_left (by decide)), fun h => H.f1 ((getD_set h).resolve_left (by decide)), fun h => H.f2 ((getD_set h).resolve_left (by decide)), fun h => H.f3 ((getD_set h).resolve_left (by decide)), fun h => H.f4 ((getD_set h).resolve_left (by decide)), fun _ => rfl, fun h => H.f6 ((getD_set h).resolve_left (by decide)), fun h => H.f7 ((getD_set h).resolve_left (by decide)), fun h => H.f8 ((getD_set h).resolve_left (by decide)), fun h => H.f9 ((getD_set h).resolve_left (by decide)), fun h => H.f10 ((getD_set h).resolve_left (by decide)), fun h => ⟨getD_mono (H.f11 ((getD_set h).resolve_left (by decide))).1, (H.f11 ((getD_set h).resolve_left (by decide))).2⟩⟩⟩
    · rintro L a V ⟨x10, x11, x43, x44, x45, x46, x47, x48, x49, x50, rfl, H⟩ hl ha K hK
      obtain rfl := H.f5 (ha ⟨5, .data⟩ (by simp) rfl)
      go_simp
      exact hK _ _ ⟨_, _, _, _, _, _, _, _, _, _, rfl, ⟨H.g0, H.g2, H.be, fun h => H.f0 ((getD_set h).resolve_left (by decide)), fun h => H.f1 ((getD_set h).resolve_left (by decide)), fun h => H.f2 ((getD_set h).resolve_left (by decide)), fun h => H.f3 ((getD_set h).resolve_left (by decide)), fun h => H.f4 ((getD_set h).resolve_left (by decide)), fun h => H.f5 ((getD_set h).resolve_left (by decide)), fun _ => rfl, fun h => H.f7 ((getD_set h).resolve_left (by decide)), fun h => H.f8 ((getD_set h).resolve_left (by decide)), fun h => H.f9 ((getD_set h).resolve_left (by decide)), fun h => H.f10 ((getD_set h).resolve_left (by decide)), fun h => ⟨getD_mono (H.f11 ((getD_set h).resolve_left (by decide))).1, (H.f11 ((getD_set h).resolve_left (by decide))).2⟩⟩⟩
    · rintro L a V ⟨x10, x11, x43, x44, x45, x46, x47, x48, x49, x50, rfl, H⟩ hl ha K hK
      obtain rfl := H.f5 (ha ⟨5, .data⟩ (by simp) rfl)
      go_simp
      exact hK _ _ ⟨_, _, _, _, _, _, _, _, _, _, rfl, ⟨H.g0, H.g2, H.be, fun h => H.f0 ((getD_set h).resolve_left (by decide)), fun h => H.f1 ((getD_set h).resolve_left (by decide)), fun h => H.f2 ((getD_set h).resolve_left (by decide)), fun h => H.f3 ((getD_set h).resolve_left (by decide)), fun h => H.f4 ((getD_set h).resolve_left (by decide)), fun h => H.f5 ((getD_set h).resolve_left (by decide)), fun h => H.f6 ((getD_set h).resolve_left (by decide)), fun _ => rfl, fun h => H.f8 ((getD_set h).resolve_left (by decide)), fun h => H.f9 ((getD_set h).resolve_left (by decide)), fun h => H.f10 ((getD_set h).resolve_left (by decide)), fun h => ⟨getD_mono (H.f11 ((getD_set h).resolve_left (by decide))).1, (H.f11 ((getD_set h).resolve_left (by decide))).2⟩⟩⟩
    · rintro L a V ⟨x10, x11, x43, x44, x45, x46, x47, x48, x49, x50, rfl, H⟩ hl ha K hK
      have hal : Below V.heap.size V (V.alloc (.cells #[.int .i64 0, .bool false, .int .u32 0, .int .u32 0, .slice none 0 0, .slice none 0 0, .slice none 0 0, .int .i64 0, .slice none 0 0] 28)) := (Below.refl _ _).alloc (Nat.le_refl _) _
      have hsz := H.be.size
      replace H := H.more hal
      go_simp
      exact hK _ _ ⟨_, _, _, _, _, _, _, _, _, _, rfl, ⟨H.g0, H.g2, H.be, fun h => H.f0 ((getD_set h).resolve_left (by decide)), fun h => H.f1 ((getD_set h).resolve_left (by decide)), fun h => H.f2 ((getD_set h).resolve_left (by decide)), fun h => H.f3 ((getD_set h).resolve_left (by decide)), fun h => H.f4 ((getD_set h).resolve_left (by decide)), fun h => H.f5 ((getD_set h).resolve_left (by decide)), fun h => H.f6 ((getD_set h).resolve_left (by decide)), fun h => H.f7 ((getD_set h).resolve_left (by decide)), fun _ => ⟨_, hsz, rfl, heap_alloc_new _ _⟩, fun h => H.f9 ((getD_set h).resolve_left (by decide)), fun h => H.f10 ((getD_set h).resolve_left (by decide)), fun h => ⟨getD_mono (H.f11 ((getD_set h).resolve_left (by decide))).1, (H.f11 ((getD_set h).resolve_left (by decide))).2⟩⟩⟩
    · rintro L a V ⟨x10, x11, x43, x44, x45, x46, x47, x48, x49, x50, rfl, H⟩ hl ha K hK
      have hal : Below V.heap.size V (V.alloc (.cells #[.int .i64 0, .int .i64 0, .int .i64 0, .slice none 0 0, .int .i64 0] 49)) := (Below.refl _ _).alloc (Nat.le_refl _) _
      have hsz := H.be.size
      replace H := H.more hal
      go_simp
      exact hK _ _ ⟨_, _, _, _, _, _, _, _, _, _, rfl, ⟨H.g0, H.g2, H.be, fun h => H.f0 ((getD_set h).resolve_left (by decide)), fun h => H.f1 ((getD_set h).resolve_left (by decide)), fun h => H.f2 ((getD_set h).resolve_left (by decide)), fun h => H.f3 ((getD_set h).resolve_left (by decide)), fun h => H.f4 ((getD_set h).resolve_left (by decide)), fun h => H.f5 ((getD_set h).resolve_left (by decide)), fun h => H.f6 ((getD_set h).resolve_left (by decide)), fun h => H.f7 ((getD_set h).resolve_left (by decide)), fun h => H.f8 ((getD_set h).resolve_left (by decide)), fun _ => ⟨_, _, hsz, rfl, heap_alloc_new _ _, rfl⟩, fun h => H.f10 ((getD_set h).resolve_left (by decide)), fun h => absurd (H.f11 ((getD_set h).resolve_left (by decide))).1 (by rw [getD_left hl]; decide)⟩⟩
    · rintro L a V ⟨x10, x11, x43, x44, x45, x46, x47, x48, x49, x50, rfl, H⟩ hl ha K hK
      obtain rfl := H.f6 (ha ⟨6, .data⟩ (by simp) rfl)
      obtain ⟨g, hg0, rfl, hg⟩ := H.f8 (ha ⟨8, .data⟩ (by simp) rfl)
      refine step_store_whole V rfl 28 (.tmp 10) (.tmp 49) rfl g 28 #[.int .i64 0, .bool false, .int .u32 0, .int .u32 0, .slice none 0 0, .slice none 0 0, .slice none 0 0, .int .i64 0, .slice none 0 0] #[.int .i64 0, .bool false, .int .u32 0, .int .u32 0, .slice none 0 0, .slice none 0 0, .slice none 0 0, .int .i64 0, .slice none 0 0] rfl rfl hg attr_size rfl (by simp [Value.oneCell']) ?_
      intro V' hg' ho
      replace H := H.grown ho.out hg0 hg hg'.out (fun h => by cases h) (fun h => by cases h)
      exact hK _ _ ⟨_, _, _, _, _, _, _, _, _, _, rfl, ⟨H.g0, H.g2, H.be, fun h => H.f0 ((getD_set h).resolve_left (by decide)), fun h => H.f1 ((getD_set h).resolve_left (by decide)), fun h => H.f2 ((getD_set h).resolve_left (by decide)), fun h => H.f3 ((getD_set h).resolve_left (by decide)), fun h => H.f4 ((getD_set h).resolve_left (by decide)), fun h => H.f5 ((getD_set h).resolve_left (by decide)), fun h => H.f6 ((getD_set h).resolve_left (by decide)), fun h => H.f7 ((getD_set h).resolve_left (by decide)), fun h => H.f8 ((getD_set h).resolve_left (by decide)), fun h => H.f9 ((getD_set h).resolve_left (by decide)), fun _ => trivial, fun h => ⟨getD_mono (H.f11 ((getD_set h).resolve_left (by decide))).1, (H.f11 ((getD_set h).resolve_left (by decide))).2⟩⟩⟩
    · rintro L a V ⟨x10, x11, x43, x44, x45, x46, x47, x48, x49, x50, rfl, H⟩ hl ha K hK
      obtain rfl := H.f7 (ha ⟨7, .data⟩ (by simp) rfl)
      obtain ⟨g, vs, hg0, rfl, hg, hvs⟩ := H.f9 (ha ⟨9, .data⟩ (by simp) rfl)
      refine step_store_whole V rfl 49 (.tmp 11) (.tmp 50) rfl g 49 vs #[.int .i64 2, .int .i64 0, .int .i64 0, .slice none 0 0, .int .i64 9] rfl rfl hg verdict_size hvs (by simp [Value.oneCell']) ?_
      intro V' hg' ho
      replace H := H.grown2 ho.out hg0 hg hg'.out
      exact hK _ _ ⟨_, _, _, _, _, _, _, _, _, _, rfl, ⟨H.g0, H.g2, H.be, fun h => H.f0 ((getD_set h).resolve_left (by decide)), fun h => H.f1 ((getD_set h).resolve_left (by decide)), fun h => H.f2 ((getD_set h).resolve_left (by decide)), fun h => H.f3 ((getD_set h).resolve_left (by decide)), fun h => H.f4 ((getD_set h).resolve_left (by decide)), fun h => H.f5 ((getD_set h).resolve_left (by decide)), fun h => H.f6 ((getD_set h).resolve_left (by decide)), fun h => H.f7 ((getD_set h).resolve_left (by decide)), fun h => H.f8 ((getD_set h).resolve_left (by decide)), fun h => H.f9 ((getD_set h).resolve_left (by decide)), fun h => H.f10 ((getD_set h).resolve_left (by decide)), fun _ => ⟨getD_mono (ha ⟨9, .data⟩ (by simp) rfl), g, rfl, hg'.out⟩⟩⟩
  case done =>
    rintro L a V ⟨x10, x11, x43, x44, x45, x46, x47, x48, x49, x50, rfl, H⟩ hall
    obtain ⟨g, hg0, rfl, hga⟩ := H.f8 (hall 8 (by decide))
    obtain ⟨_, q, rfl, hgv⟩ := H.f11 (hall 11 (by decide))
    have GA := Lib.hid hga
    have GV := Lib.hid hgv
    have BE := hide H.be
    clear H hall hg0 hga hgv
    go_wp2_with (first
      | (go_at_call 6; refine (alive_any _).mono ?_; rintro e w1 ⟨rfl, hb1⟩
         have ga1 := (hb1.block _ (lt_of_heapF GA.out)).trans GA.out
         have gv1 := (hb1.block _ (lt_of_heapF GV.out)).trans GV.out
         have GA1 := Lib.hid ga1
         have GV1 := Lib.hid gv1
         have B1 := hide (BE.out.trans (hb1.mono BE.out.size))
         clear hb1 ga1 gv1)
      | ((with_reducible refine wpList_load_wholeH w1 ?hgd1 49 (.tmp 11) ?ho1 q 49 #[.int .i64 2, .int .i64 0, .int .i64 0, .slice none 0 0, .int .i64 9] _ ?hx1 GV1.out Tryz.underlying49 ?hd1 ?hi1 ?_); (case hgd1 => rfl); (case ho1 => rfl); (case hx1 => rfl); (case hd1 => rfl); (case hi1 => exact HVS.out))
      | (go_at_call 14; refine (vsame_any 2 9 _).mono ?_; rintro e w2 ⟨rfl, hb2⟩
         have ga2 := (hb2.block _ (lt_of_heapF GA1.out)).trans GA1.out
         have GA2 := Lib.hid ga2
         have B2 := hide (B1.out.trans (hb2.mono B1.out.size))
         clear hb2 ga2)
      | ((with_reducible refine wpList_load_wholeH w2 ?hgd2 28 (.tmp 10) ?ho2 g 28 #[.int .i64 0, .bool false, .int .u32 0, .int .u32 0, .slice none 0 0, .slice none 0 0, .slice none 0 0, .int .i64 0, .slice none 0 0] _ ?hx2 GA2.out Tryz.underlying28 ?hd2 ?hi2 ?_); (case hgd2 => rfl); (case ho2 => rfl); (case hx2 => rfl); (case hd2 => rfl); (case hi2 => exact HAS.out))
      | (go_at_call 9; refine (asame_zero _).mono ?_; rintro e w3 ⟨rfl, hb3⟩
         have B3 := hide (B2.out.trans (hb3.mono B2.out.size))
         clear hb3))
    go_ret
    exact ⟨rfl, B3.out⟩
end Go.Proofs.YtplgbpcjbjaloaaGreatDoor
