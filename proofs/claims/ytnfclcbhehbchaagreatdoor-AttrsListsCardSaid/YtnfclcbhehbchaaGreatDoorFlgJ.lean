/- The form of the canonical head of an empty path. -/
import Derived.Test.YtnfclcbhehbchaaGreatDoorFlgH
import Derived.Laws.Cover1
set_option autoImplicit false
namespace Go.Proofs.YtnfclcbhehbchaaGreatDoor
open Go.RowKit
theorem slice_of_ownF {w : World} {base n : Nat} {e : TypeId} {size : Nat} {v : Value} {xs : List Value} (h : w.ownsRow base e size v n xs) :
    ∃ A c, v = .slice A n c ∧ n ≤ c ∧ c ≤ maxLen := by
  rcases h.2 with ⟨e, hn⟩ | ⟨g, cap, cur, e, _, _, h1, h2, _⟩
  · subst e; subst hn; exact ⟨none, 0, rfl, Nat.le_refl _, by simp [maxLen]⟩
  · exact ⟨_, cap, e, h1, h2⟩
theorem own_baseF {w : World} {base base' : Nat} {e : TypeId} {size : Nat} {v : Value} {n : Nat} {xs : List Value} (h : w.ownsRow base e size v n xs) (hb : base' ≤ base) : w.ownsRow base' e size v n xs := by
  obtain ⟨h1, h2⟩ := h
  refine ⟨h1, ?_⟩
  rcases h2 with h2 | ⟨g, cap, cur, hv, hg, r⟩
  · exact .inl h2
  · exact .inr ⟨g, cap, cur, hv, by omega, r⟩
theorem own_more {w w' : World} {base : Nat} {e : TypeId} {size : Nat} {v : Value} {n : Nat} {xs : List Value} (h : w.ownsRow base e size v n xs) (hb : Below w.heap.size w w') : w'.ownsRow base e size v n xs := by
  obtain ⟨h1, h2⟩ := h
  refine ⟨h1, ?_⟩
  rcases h2 with h2 | ⟨g, cap, cur, hv, hg, hh, r⟩
  · exact .inl h2
  · exact .inr ⟨g, cap, cur, hv, hg, (hb.block g (lt_of_heapF hh)).trans hh, r⟩
/-- octet.Cat joins parts. -/
theorem cat_any (A : Option Addr) (c : Nat) (vs : List Value) (ps : List (Nat × List Value)) (w : World) (h : Reads w w.heap.size 1 A vs.length vs) (hl : vs.length = ps.length) (hn : ps.length ≤ 100000000)
    (hs : ∀ (i : Nat) v p, vs[i]? = some v → ps[i]? = some p → SrcB w w.heap.size v p) (ht : totB ps ≤ 100000000) :
    Calls Tryz.prog 45 #[.slice A vs.length c] w fun e w' => ∃ v, e = .returned v ∧ w'.ownsRow w.heap.size 5 1 v (totB ps) (catB ps) ∧ Below w.heap.size w w' := by
  have HC := hide (concatB_any A c vs ps w h hl hn hs ht)
  clear h hs hl
  go_enter Tryz.func45, Tryz.ntmps45
  go_wp2_with fail
  refine HC.out.mono ?_
  rintro e w1 ⟨v, rfl, h1, h2⟩
  have Q1 := hide h1
  have Q2 := hide h2
  clear h1 h2
  go_wp2
  go_ret
  exact ⟨_, rfl, Q1.out, Q2.out⟩
/-- octet.Cat of two slices. -/
theorem cat_two (V : World) (v1 v2 : Value) (l1 l2 : List Int) (h1 : SrcB V V.heap.size v1 (l1.length, bV l1)) (h2 : SrcB V V.heap.size v2 (l2.length, bV l2)) (hn : l1.length + l2.length ≤ 100000000) :
    Calls Tryz.prog 45 #[.slice (some ⟨V.heap.size, 0, none⟩) 2 2] (V.alloc (.cells #[v1, v2] 35)) fun e w' => ∃ v, e = .returned v ∧ w'.ownsRow V.heap.size 5 1 v (l1.length + l2.length) (bV (l1 ++ l2)) ∧ Below V.heap.size V w' := by
  have hb : Below V.heap.size V (V.alloc (.cells #[v1, v2] 35)) := (Below.refl _ _).alloc (Nat.le_refl _) _
  have hg : (V.alloc (.cells #[v1, v2] 35)).heap[V.heap.size]? = some (.cells #[v1, v2] 35 (0, 0)) := heap_alloc_new _ _
  have hsz : (V.alloc (.cells #[v1, v2] 35)).heap.size = V.heap.size + 1 := by simp
  have hc := cat_any (some ⟨V.heap.size, 0, none⟩) 2 [v1, v2] [(l1.length, bV l1), (l2.length, bV l2)] (V.alloc (.cells #[v1, v2] 35))
    ⟨by simp, fun _ => ⟨_, rfl, by show V.heap.size < _; rw [hsz]; omega, fun j u hu => World.news_of_block (cs := #[v1, v2]) hg j u (by simpa using hu)⟩⟩ rfl (by simp)
    (fun i v p hv hp => by
      rcases i with _ | _ | i
      · simp at hv hp; subst hv; subst hp; exact (h1.keep hb).more hb.size
      · simp at hv hp; subst hv; subst hp; exact (h2.keep hb).more hb.size
      · simp at hv) (by simp [totB]; omega)
  refine hc.mono ?_
  rintro e w' ⟨v, rfl, ho, hb2⟩
  refine ⟨v, rfl, ?_, hb.trans (hb2.mono hb.size)⟩
  have ho2 := own_baseF ho hb.size
  have e1 : totB [(l1.length, bV l1), (l2.length, bV l2)] = l1.length + l2.length := by simp [totB]
  have e2 : catB [(l1.length, bV l1), (l2.length, bV l2)] = bV (l1 ++ l2) := by simp [catB, bV]
  rw [e1, e2] at ho2
  exact ho2
theorem src_of_own {w : World} {base : Nat} {A : Option Addr} {c : Nat} {l : List Int} {n : Nat} (h : w.ownsRow base 5 1 (.slice A n c) n (bV l)) (hn : n = l.length) : SrcB w w.heap.size (.slice A n c) (l.length, bV l) := by
  subst hn
  exact ⟨A, c, rfl, Reads.of_own h, bV_one l⟩
structure FB (w : World) (V : World) (L : Array Bool) (x4 x5 x27 x28 x29 x30 x31 x32 x33 x34 x35 x36 : Value) : Prop where
  be : Below w.heap.size w V
  g : V.heap[w.heap.size]? = some (.cells #[.int .i64 64, .int .i64 2, .int .i64 0] 92 (0, 0))
  f0 : L.getD 0 false = true → x28 = .pointer (some ⟨w.heap.size, 0, none⟩)
  f1 : L.getD 1 false = true → x29 = .int .i64 64
  f2 : L.getD 2 false = true → x30 = .int .i64 1
  f3 : L.getD 3 false = true → x31 = .pointer (some ⟨w.heap.size, 2, none⟩)
  f4 : L.getD 4 false = true → x32 = .int .i64 0
  f5 : L.getD 5 false = true → x33 = .int .u32 0
  f6 : L.getD 6 false = true → ∃ v, x34 = .tuple #[v, .bool true] ∧ V.ownsRow w.heap.size 5 1 v 1 (bV [0])
  f7 : L.getD 7 false = true → ∃ v, x27 = .tuple #[v, .bool true] ∧ V.ownsRow w.heap.size 5 1 v 1 (bV [0])
  f8 : L.getD 8 false = true → V.ownsRow w.heap.size 5 1 x35 1 (bV [0])
  f9 : L.getD 9 false = true → x36 = .bool true
  f10 : L.getD 10 false = true → V.ownsRow w.heap.size 5 1 x4 1 (bV [0])
  f11 : L.getD 11 false = true → x5 = .bool true
theorem FB.more {w V V' : World} {L : Array Bool} {x4 x5 x27 x28 x29 x30 x31 x32 x33 x34 x35 x36 : Value} (H : FB w V L x4 x5 x27 x28 x29 x30 x31 x32 x33 x34 x35 x36) (hb : Below V.heap.size V V') : FB w V' L x4 x5 x27 x28 x29 x30 x31 x32 x33 x34 x35 x36 :=
  ⟨H.be.trans (hb.mono H.be.size), (hb.block _ (lt_of_heapF H.g)).trans H.g, H.f0, H.f1, H.f2, H.f3, H.f4, H.f5, fun h => (H.f6 h).imp fun _ p => ⟨p.1, own_more p.2 hb⟩, fun h => (H.f7 h).imp fun _ p => ⟨p.1, own_more p.2 hb⟩, fun h => own_more (H.f8 h) hb, H.f9, fun h => own_more (H.f10 h) hb, H.f11⟩

set_option maxRecDepth 100000 in
set_option maxHeartbeats 4000000 in
theorem fbytes_two (w : World) : Calls Tryz.prog 65 #[.agg #[.int .i64 64, .int .i64 2, .int .i64 0]] w fun e w' => ∃ v, e = .returned (.tuple #[v, .bool true]) ∧ w'.ownsRow w.heap.size 5 1 v 3 (bV [64, 2, 0]) ∧ Below w.heap.size w w' := by
  have hst : FB w (w.alloc (.cells #[.int .i64 64, .int .i64 2, .int .i64 0] 92)).drew (Array.replicate 12 false) undef undef undef undef undef undef undef undef undef undef undef undef := by
    refine ⟨((Below.refl _ _).alloc (Nat.le_refl _) _).drew, heap_alloc_new _ _, ?_, ?_, ?_, ?_, ?_, ?_, ?_, ?_, ?_, ?_, ?_, ?_⟩ <;> (intro h; exact absurd h (by decide))
  have HST := hide hst
  clear hst
  go_enter Tryz.func65, Tryz.ntmps65
  go_wp2_with fail
  refine wp_region_inv (by kernel_rfl) (fun L a V => ∃ x4 x5 x27 x28 x29 x30 x31 x32 x33 x34 x35 x36 : Value, a = ⟨List.toArray ((.agg #[.int .i64 64, .int .i64 2, .int .i64 0]) :: (.pointer (some ⟨w.heap.size, 0, none⟩)) :: (.slice none 0 0) :: (.bool false) :: (x4) :: (x5) :: (.pointer (some ⟨w.heap.size, 0, none⟩)) :: (.int .i64 64) :: (.pointer (some ⟨w.heap.size, 1, none⟩)) :: (.int .i64 2) :: (.pointer (some ⟨w.heap.size, 2, none⟩)) :: (.int .i64 0) :: (.int .i64 0) :: (.bool false) :: (.bool false) :: (.pointer (some ⟨w.heap.size, 0, none⟩)) :: (.int .i64 64) :: (.pointer (some ⟨w.heap.size, 1, none⟩)) :: (.int .i64 2) :: (.int .i64 64) :: (.bool false) :: (.bool false) :: (.bool false) :: (.pointer (some ⟨w.heap.size, 2, none⟩)) :: (.int .i64 0) :: (.bool false) :: (.bool false) :: (x27) :: (x28) :: (x29) :: (x30) :: (x31) :: (x32) :: (x33) :: (x34) :: (x35) :: (x36) :: (undef) :: (undef) :: (undef) :: (undef) :: (undef) :: (undef) :: (undef) :: (undef) :: (undef) :: (undef) :: (undef) :: (undef) :: []), []⟩ ∧ FB w V L x4 x5 x27 x28 x29 x30 x31 x32 x33 x34 x35 x36) (by kernel_rfl) ?steps ⟨undef, undef, undef, undef, undef, undef, undef, undef, undef, undef, undef, undef, rfl, HST.out⟩ ?done
  case steps =>
    refine ⟨?_, ?_, ?_, ?_, ?_, ?_, ?_, ?_, ?_, ?_, ?_, ?_, trivial⟩
    · rintro L a V ⟨x4, x5, x27, x28, x29, x30, x31, x32, x33, x34, x35, x36, rfl, H⟩ hl ha K hK
      go_simp
      exact hK _ _ ⟨_, _, _, _, _, _, _, _, _, _, _, _, rfl, ⟨H.be, H.g, fun _ => rfl, fun h => H.f1 ((getD_set h).resolve_left (by decide)), fun h => H.f2 ((getD_set h).resolve_left (by decide)), fun h => H.f3 ((getD_set h).resolve_left (by decide)), fun h => H.f4 ((getD_set h).resolve_left (by decide)), fun h => H.f5 ((getD_set h).resolve_left (by decide)), fun h => H.f6 ((getD_set h).resolve_left (by decide)), fun h => H.f7 ((getD_set h).resolve_left (by decide)), fun h => H.f8 ((getD_set h).resolve_left (by decide)), fun h => H.f9 ((getD_set h).resolve_left (by decide)), fun h => H.f10 ((getD_set h).resolve_left (by decide)), fun h => H.f11 ((getD_set h).resolve_left (by decide))⟩⟩
    · rintro L a V ⟨x4, x5, x27, x28, x29, x30, x31, x32, x33, x34, x35, x36, rfl, H⟩ hl ha K hK
      obtain rfl := H.f0 (ha ⟨0, .data⟩ (by simp) rfl)
      refine step_load_cell V rfl 3 (.tmp 28) rfl ⟨w.heap.size, 0, none⟩ _ (.int .i64 64) rfl (by rw [cell_of_row _ _ 0 _ _ _ H.g]; rfl) Tryz.underlying3 rfl ?_
      exact hK _ _ ⟨_, _, _, _, _, _, _, _, _, _, _, _, rfl, ⟨H.be, H.g, fun h => H.f0 ((getD_set h).resolve_left (by decide)), fun _ => rfl, fun h => H.f2 ((getD_set h).resolve_left (by decide)), fun h => H.f3 ((getD_set h).resolve_left (by decide)), fun h => H.f4 ((getD_set h).resolve_left (by decide)), fun h => H.f5 ((getD_set h).resolve_left (by decide)), fun h => H.f6 ((getD_set h).resolve_left (by decide)), fun h => H.f7 ((getD_set h).resolve_left (by decide)), fun h => H.f8 ((getD_set h).resolve_left (by decide)), fun h => H.f9 ((getD_set h).resolve_left (by decide)), fun h => H.f10 ((getD_set h).resolve_left (by decide)), fun h => H.f11 ((getD_set h).resolve_left (by decide))⟩⟩
    · rintro L a V ⟨x4, x5, x27, x28, x29, x30, x31, x32, x33, x34, x35, x36, rfl, H⟩ hl ha K hK
      obtain rfl := H.f1 (ha ⟨1, .data⟩ (by simp) rfl)
      refine step_call_fn (args := #[.int .i64 64]) rfl rfl Tryz.func81 (by decide) rfl (by simp [Act.eval]) (fwidth_no V) ?_
      rintro e w' ⟨rfl, rfl⟩
      refine ⟨_, rfl, ?_⟩
      exact hK _ _ ⟨_, _, _, _, _, _, _, _, _, _, _, _, rfl, ⟨H.be, H.g, fun h => H.f0 ((getD_set h).resolve_left (by decide)), fun h => H.f1 ((getD_set h).resolve_left (by decide)), fun _ => rfl, fun h => H.f3 ((getD_set h).resolve_left (by decide)), fun h => H.f4 ((getD_set h).resolve_left (by decide)), fun h => H.f5 ((getD_set h).resolve_left (by decide)), fun h => H.f6 ((getD_set h).resolve_left (by decide)), fun h => H.f7 ((getD_set h).resolve_left (by decide)), fun h => H.f8 ((getD_set h).resolve_left (by decide)), fun h => H.f9 ((getD_set h).resolve_left (by decide)), fun h => H.f10 ((getD_set h).resolve_left (by decide)), fun h => H.f11 ((getD_set h).resolve_left (by decide))⟩⟩
    · rintro L a V ⟨x4, x5, x27, x28, x29, x30, x31, x32, x33, x34, x35, x36, rfl, H⟩ hl ha K hK
      go_simp
      exact hK _ _ ⟨_, _, _, _, _, _, _, _, _, _, _, _, rfl, ⟨H.be, H.g, fun h => H.f0 ((getD_set h).resolve_left (by decide)), fun h => H.f1 ((getD_set h).resolve_left (by decide)), fun h => H.f2 ((getD_set h).resolve_left (by decide)), fun _ => rfl, fun h => H.f4 ((getD_set h).resolve_left (by decide)), fun h => H.f5 ((getD_set h).resolve_left (by decide)), fun h => H.f6 ((getD_set h).resolve_left (by decide)), fun h => H.f7 ((getD_set h).resolve_left (by decide)), fun h => H.f8 ((getD_set h).resolve_left (by decide)), fun h => H.f9 ((getD_set h).resolve_left (by decide)), fun h => H.f10 ((getD_set h).resolve_left (by decide)), fun h => H.f11 ((getD_set h).resolve_left (by decide))⟩⟩
    · rintro L a V ⟨x4, x5, x27, x28, x29, x30, x31, x32, x33, x34, x35, x36, rfl, H⟩ hl ha K hK
      obtain rfl := H.f3 (ha ⟨3, .data⟩ (by simp) rfl)
      refine step_load_cell V rfl 3 (.tmp 31) rfl ⟨w.heap.size, 2, none⟩ _ (.int .i64 0) rfl (by rw [cell_of_row _ _ 2 _ _ _ H.g]; rfl) Tryz.underlying3 rfl ?_
      exact hK _ _ ⟨_, _, _, _, _, _, _, _, _, _, _, _, rfl, ⟨H.be, H.g, fun h => H.f0 ((getD_set h).resolve_left (by decide)), fun h => H.f1 ((getD_set h).resolve_left (by decide)), fun h => H.f2 ((getD_set h).resolve_left (by decide)), fun h => H.f3 ((getD_set h).resolve_left (by decide)), fun _ => rfl, fun h => H.f5 ((getD_set h).resolve_left (by decide)), fun h => H.f6 ((getD_set h).resolve_left (by decide)), fun h => H.f7 ((getD_set h).resolve_left (by decide)), fun h => H.f8 ((getD_set h).resolve_left (by decide)), fun h => H.f9 ((getD_set h).resolve_left (by decide)), fun h => H.f10 ((getD_set h).resolve_left (by decide)), fun h => H.f11 ((getD_set h).resolve_left (by decide))⟩⟩
    · rintro L a V ⟨x4, x5, x27, x28, x29, x30, x31, x32, x33, x34, x35, x36, rfl, H⟩ hl ha K hK
      obtain rfl := H.f4 (ha ⟨4, .data⟩ (by simp) rfl)
      go_simp
      exact hK _ _ ⟨_, _, _, _, _, _, _, _, _, _, _, _, rfl, ⟨H.be, H.g, fun h => H.f0 ((getD_set h).resolve_left (by decide)), fun h => H.f1 ((getD_set h).resolve_left (by decide)), fun h => H.f2 ((getD_set h).resolve_left (by decide)), fun h => H.f3 ((getD_set h).resolve_left (by decide)), fun h => H.f4 ((getD_set h).resolve_left (by decide)), fun _ => rfl, fun h => H.f6 ((getD_set h).resolve_left (by decide)), fun h => H.f7 ((getD_set h).resolve_left (by decide)), fun h => H.f8 ((getD_set h).resolve_left (by decide)), fun h => H.f9 ((getD_set h).resolve_left (by decide)), fun h => H.f10 ((getD_set h).resolve_left (by decide)), fun h => H.f11 ((getD_set h).resolve_left (by decide))⟩⟩
    · rintro L a V ⟨x4, x5, x27, x28, x29, x30, x31, x32, x33, x34, x35, x36, rfl, H⟩ hl ha K hK
      obtain rfl := H.f2 (ha ⟨2, .data⟩ (by simp) rfl)
      obtain rfl := H.f5 (ha ⟨5, .data⟩ (by simp) rfl)
      refine step_call_fn (args := #[.int .i64 1, .int .u32 0]) rfl rfl Tryz.func73 (by decide) rfl (by simp [Act.eval]) (put1_zero V) ?_
      rintro e w' ⟨v, rfl, hv, hb⟩
      refine ⟨_, rfl, ?_⟩
      have H0 := H.be.size
      have H' := H.more hb
      clear H
      have H := H'
      exact hK _ _ ⟨_, _, _, _, _, _, _, _, _, _, _, _, rfl, ⟨H.be, H.g, fun h => H.f0 ((getD_set h).resolve_left (by decide)), fun h => H.f1 ((getD_set h).resolve_left (by decide)), fun h => H.f2 ((getD_set h).resolve_left (by decide)), fun h => H.f3 ((getD_set h).resolve_left (by decide)), fun h => H.f4 ((getD_set h).resolve_left (by decide)), fun h => H.f5 ((getD_set h).resolve_left (by decide)), fun _ => ⟨v, rfl, own_baseF hv H0⟩, fun h => H.f7 ((getD_set h).resolve_left (by decide)), fun h => H.f8 ((getD_set h).resolve_left (by decide)), fun h => H.f9 ((getD_set h).resolve_left (by decide)), fun h => H.f10 ((getD_set h).resolve_left (by decide)), fun h => H.f11 ((getD_set h).resolve_left (by decide))⟩⟩
    · rintro L a V ⟨x4, x5, x27, x28, x29, x30, x31, x32, x33, x34, x35, x36, rfl, H⟩ hl ha K hK
      obtain ⟨v, rfl, hv⟩ := H.f6 (ha ⟨6, .data⟩ (by simp) rfl)
      go_simp
      exact hK _ _ ⟨_, _, _, _, _, _, _, _, _, _, _, _, rfl, ⟨H.be, H.g, fun h => H.f0 ((getD_set h).resolve_left (by decide)), fun h => H.f1 ((getD_set h).resolve_left (by decide)), fun h => H.f2 ((getD_set h).resolve_left (by decide)), fun h => H.f3 ((getD_set h).resolve_left (by decide)), fun h => H.f4 ((getD_set h).resolve_left (by decide)), fun h => H.f5 ((getD_set h).resolve_left (by decide)), fun h => H.f6 ((getD_set h).resolve_left (by decide)), fun _ => ⟨v, rfl, hv⟩, fun h => H.f8 ((getD_set h).resolve_left (by decide)), fun h => H.f9 ((getD_set h).resolve_left (by decide)), fun h => H.f10 ((getD_set h).resolve_left (by decide)), fun h => H.f11 ((getD_set h).resolve_left (by decide))⟩⟩
    · rintro L a V ⟨x4, x5, x27, x28, x29, x30, x31, x32, x33, x34, x35, x36, rfl, H⟩ hl ha K hK
      obtain ⟨v, rfl, hv⟩ := H.f7 (ha ⟨7, .data⟩ (by simp) rfl)
      go_simp
      exact hK _ _ ⟨_, _, _, _, _, _, _, _, _, _, _, _, rfl, ⟨H.be, H.g, fun h => H.f0 ((getD_set h).resolve_left (by decide)), fun h => H.f1 ((getD_set h).resolve_left (by decide)), fun h => H.f2 ((getD_set h).resolve_left (by decide)), fun h => H.f3 ((getD_set h).resolve_left (by decide)), fun h => H.f4 ((getD_set h).resolve_left (by decide)), fun h => H.f5 ((getD_set h).resolve_left (by decide)), fun h => H.f6 ((getD_set h).resolve_left (by decide)), fun h => H.f7 ((getD_set h).resolve_left (by decide)), fun _ => hv, fun h => H.f9 ((getD_set h).resolve_left (by decide)), fun h => H.f10 ((getD_set h).resolve_left (by decide)), fun h => H.f11 ((getD_set h).resolve_left (by decide))⟩⟩
    · rintro L a V ⟨x4, x5, x27, x28, x29, x30, x31, x32, x33, x34, x35, x36, rfl, H⟩ hl ha K hK
      obtain ⟨v, rfl, hv⟩ := H.f7 (ha ⟨7, .data⟩ (by simp) rfl)
      go_simp
      exact hK _ _ ⟨_, _, _, _, _, _, _, _, _, _, _, _, rfl, ⟨H.be, H.g, fun h => H.f0 ((getD_set h).resolve_left (by decide)), fun h => H.f1 ((getD_set h).resolve_left (by decide)), fun h => H.f2 ((getD_set h).resolve_left (by decide)), fun h => H.f3 ((getD_set h).resolve_left (by decide)), fun h => H.f4 ((getD_set h).resolve_left (by decide)), fun h => H.f5 ((getD_set h).resolve_left (by decide)), fun h => H.f6 ((getD_set h).resolve_left (by decide)), fun h => H.f7 ((getD_set h).resolve_left (by decide)), fun h => H.f8 ((getD_set h).resolve_left (by decide)), fun _ => rfl, fun h => H.f10 ((getD_set h).resolve_left (by decide)), fun h => H.f11 ((getD_set h).resolve_left (by decide))⟩⟩
    · rintro L a V ⟨x4, x5, x27, x28, x29, x30, x31, x32, x33, x34, x35, x36, rfl, H⟩ hl ha K hK
      have hv := H.f8 (ha ⟨8, .data⟩ (by simp) rfl)
      go_simp
      exact hK _ _ ⟨_, _, _, _, _, _, _, _, _, _, _, _, rfl, ⟨H.be, H.g, fun h => H.f0 ((getD_set h).resolve_left (by decide)), fun h => H.f1 ((getD_set h).resolve_left (by decide)), fun h => H.f2 ((getD_set h).resolve_left (by decide)), fun h => H.f3 ((getD_set h).resolve_left (by decide)), fun h => H.f4 ((getD_set h).resolve_left (by decide)), fun h => H.f5 ((getD_set h).resolve_left (by decide)), fun h => H.f6 ((getD_set h).resolve_left (by decide)), fun h => H.f7 ((getD_set h).resolve_left (by decide)), fun h => H.f8 ((getD_set h).resolve_left (by decide)), fun h => H.f9 ((getD_set h).resolve_left (by decide)), fun _ => hv, fun h => H.f11 ((getD_set h).resolve_left (by decide))⟩⟩
    · rintro L a V ⟨x4, x5, x27, x28, x29, x30, x31, x32, x33, x34, x35, x36, rfl, H⟩ hl ha K hK
      obtain rfl := H.f9 (ha ⟨9, .data⟩ (by simp) rfl)
      go_simp
      exact hK _ _ ⟨_, _, _, _, _, _, _, _, _, _, _, _, rfl, ⟨H.be, H.g, fun h => H.f0 ((getD_set h).resolve_left (by decide)), fun h => H.f1 ((getD_set h).resolve_left (by decide)), fun h => H.f2 ((getD_set h).resolve_left (by decide)), fun h => H.f3 ((getD_set h).resolve_left (by decide)), fun h => H.f4 ((getD_set h).resolve_left (by decide)), fun h => H.f5 ((getD_set h).resolve_left (by decide)), fun h => H.f6 ((getD_set h).resolve_left (by decide)), fun h => H.f7 ((getD_set h).resolve_left (by decide)), fun h => H.f8 ((getD_set h).resolve_left (by decide)), fun h => H.f9 ((getD_set h).resolve_left (by decide)), fun h => H.f10 ((getD_set h).resolve_left (by decide)), fun _ => rfl⟩⟩
  case done =>
    rintro L a V ⟨x4, x5, x27, x28, x29, x30, x31, x32, x33, x34, x35, x36, rfl, H⟩ hall
    obtain rfl := H.f11 (hall 11 (by decide))
    have hx := H.f10 (hall 10 (by decide))
    obtain ⟨A, c, rfl, hc1, hc2⟩ := slice_of_ownF hx
    have hg := H.g
    have hbe := H.be
    have c0 : V.cell? ⟨w.heap.size, 0, none⟩ = some (.int .i64 64) := by rw [cell_of_row _ _ 0 _ _ _ hg]; rfl
    have c1 : V.cell? ⟨w.heap.size, 1, none⟩ = some (.int .i64 2) := by rw [cell_of_row _ _ 1 _ _ _ hg]; rfl
    have l0 := lt_of_heapF hg
    have HX := hide hx
    have BE := hide hbe
    clear H hall hx hg hbe
    go_wp2_with fail
    have hsl : SrcB (V.alloc (Obj.cells #[Value.int .u8 64, Value.int .u8 2] 5)) (V.heap.size + 1) (Value.slice (some ⟨V.heap.size, 0, none⟩) 2 2) (2, bV [64, 2]) :=
      ⟨_, _, rfl, ⟨by simp [bV], fun _ => ⟨_, rfl, by show V.heap.size < _; omega, fun j u hu => World.news_of_block (cs := #[Value.int .u8 64, Value.int .u8 2]) (heap_alloc_new _ _) j u (by simpa [bV] using hu)⟩⟩, bV_one _⟩
    have hsr : SrcB (V.alloc (Obj.cells #[Value.int .u8 64, Value.int .u8 2] 5)) (V.heap.size + 1) (Value.slice A 1 c) (1, bV [0]) := ((src_of_own HX.out rfl).keep ((Below.refl _ _).alloc (Nat.le_refl _) _)).more (by simp)
    have hsz : (V.alloc (Obj.cells #[Value.int .u8 64, Value.int .u8 2] 5)).heap.size = V.heap.size + 1 := by simp
    have hct := cat_two (V.alloc (Obj.cells #[Value.int .u8 64, Value.int .u8 2] 5)) (Value.slice (some ⟨V.heap.size, 0, none⟩) 2 2) (Value.slice A 1 c) [64, 2] [0] (by rw [hsz]; exact hsl) (by rw [hsz]; exact hsr) (by simp)
    rw [hsz] at hct
    refine hct.mono ?_
    rintro e w' ⟨v, rfl, ho, hb2⟩
    have HO := hide (own_baseF ho (Nat.le_trans BE.out.size (Nat.le_succ _)))
    have HB2 := hide (BE.out.trans ((((Below.refl _ _).alloc (Nat.le_refl _) _).trans (hb2.mono (by simp))).mono BE.out.size))
    clear ho hb2 hct hsl hsr hsz
    go_wp2_with fail
    refine bodyPost_ret (v := .tuple #[v, .bool true]) (by simp [results, Tryz.results65, go_sem]) rfl ?_
    exact ⟨_, rfl, HO.out, HB2.out⟩
end Go.Proofs.YtnfclcbhehbchaaGreatDoor
