/- update.Clone: an update of the call's own. -/
import Derived.Test.YtnfclcbhehbchaaGreatDoorUpD
set_option autoImplicit false
namespace Go.Proofs.YtnfclcbhehbchaaGreatDoor
open Go.RowKit
theorem upd_size : (Tryz.prog.info? 46).map (·.size) = some 3 := by kernel_rfl
/-- A list of attributes in rows of the call's own, its slice written out. -/
def AttrsV (V : World) (lo : Nat) (x : Value) (l : List AttrD) : Prop := ∃ A c, x = .slice A l.length c ∧ AttrsO V lo x l
theorem AttrsO.keep {w w' : World} {lo : Nat} {v : Value} {l : List AttrD} (h : AttrsO w lo v l) (hk : ∀ b, lo ≤ b → b < w.heap.size → w'.heap[b]? = w.heap[b]?) : AttrsO w' lo v l := by
  obtain ⟨vs, h1, h2⟩ := h
  exact ⟨vs, own_keep h1 fun b hb => hk b (h1.lt b hb).1 (h1.lt b hb).2, fun i d hd => (h2 i d hd).keep hk⟩
theorem AttrsV.of {V : World} {lo lo' : Nat} {x : Value} {l : List AttrD} (h : AttrsO V lo x l) (hl : lo' ≤ lo) : AttrsV V lo' x l := by
  obtain ⟨vs, h1, h2⟩ := h
  obtain ⟨A, c, rfl, _, _⟩ := slice_of_own h1
  exact ⟨A, c, rfl, vs, own_base h1 hl, fun i d hd => (h2 i d hd).more hl⟩
theorem AttrsV.below {V V' : World} {lo : Nat} {x : Value} {l : List AttrD} (h : AttrsV V lo x l) (hb : Below V.heap.size V V') : AttrsV V' lo x l := by
  obtain ⟨A, c, e, h1⟩ := h; exact ⟨A, c, e, h1.keep fun b _ h2 => hb.block b h2⟩
theorem AttrsV.grown {V V' : World} {lo g : Nat} {x : Value} {l : List AttrD} (h : AttrsV V lo x l) (hg : V.grownBy V' (some g)) (hlt : g < lo) : AttrsV V' lo x l := by
  obtain ⟨A, c, e, h1⟩ := h; exact ⟨A, c, e, h1.keep fun b h2 h3 => hg.block b h3 (by intro e; injection e; omega)⟩
/-- An update whose slices lie in rows of their own. -/
def UpdO (w : World) (lo : Nat) (cs : Array Value) (d : UpdD) : Prop := ∃ v1 v2 v3, cs = #[v1, v2, v3] ∧ OwnV w lo 55 19 d.wd.length (rtsV d.wd) v1 ∧ AttrsV w lo v2 d.ats ∧ OwnV w lo 55 19 d.rts.length (rtsV d.rts) v3
theorem AttrsV.attrsC {w : World} {lo : Nat} {A : Option Addr} {c : Nat} {l : List AttrD} (h : AttrsV w lo (.slice A l.length c) l) : AttrsC w w.heap.size A l := by
  obtain ⟨_, _, _, vs, h1, h2⟩ := h
  exact ⟨vs, Reads.of_own h1, fun i d hd => (h2 i d hd).attrC⟩
theorem UpdO.updC {w : World} {lo : Nat} {cs : Array Value} {d : UpdD} (h : UpdO w lo cs d) : UpdC w w.heap.size cs d := by
  obtain ⟨v1, v2, v3, rfl, ⟨A1, c1, rfl, _, _, h1⟩, h2, ⟨A3, c3, rfl, _, _, h3⟩⟩ := h
  have h2' := h2
  obtain ⟨A2, c2, rfl, _⟩ := h2'
  exact ⟨A1, c1, A2, c2, A3, c3, rfl, Reads.of_own h1, h2.attrsC, Reads.of_own h3⟩
theorem UpdO.keep {w w' : World} {lo : Nat} {cs : Array Value} {d : UpdD} (h : UpdO w lo cs d) (hk : ∀ b, lo ≤ b → b < w.heap.size → w'.heap[b]? = w.heap[b]?) : UpdO w' lo cs d := by
  obtain ⟨v1, v2, v3, e, ⟨A1, c1, e1, a1, b1, h1⟩, ⟨A2, c2, e2, h2⟩, ⟨A3, c3, e3, a3, b3, h3⟩⟩ := h
  exact ⟨v1, v2, v3, e, ⟨A1, c1, e1, a1, b1, own_keep h1 fun b hb => hk b (h1.lt b hb).1 (h1.lt b hb).2⟩, ⟨A2, c2, e2, h2.keep hk⟩, ⟨A3, c3, e3, a3, b3, own_keep h3 fun b hb => hk b (h3.lt b hb).1 (h3.lt b hb).2⟩⟩
structure CU (w : World) (A1 A2 A3 : Option Addr) (c1 c2 c3 : Nat) (wd rts : List Rt) (ats : List AttrD) (V : World) (L : Array Bool) (x3 x4 x5 x6 x7 x8 x9 x10 x11 x12 : Value) : Prop where
  be : Below w.heap.size w V
  g1 : V.heap[w.heap.size]? = some (.cells #[.slice A1 wd.length c1, .slice A2 ats.length c2, .slice A3 rts.length c3] 46 (0, 0))
  gz : L.getD 10 false = false → V.heap[w.heap.size + 1]? = some (.cells #[.slice none 0 0, .slice none 0 0, .slice none 0 0] 46 (0, 0))
  i10 : L.getD 10 false = true → L.getD 2 false = true ∧ L.getD 5 false = true ∧ L.getD 8 false = true
  i9 : L.getD 9 false = true → L.getD 2 false = true ∧ L.getD 5 false = true ∧ L.getD 8 false = true
  f0 : L.getD 0 false = true → x3 = .pointer (some ⟨w.heap.size, 0, none⟩)
  f1 : L.getD 1 false = true → x4 = .slice A1 wd.length c1
  f2 : L.getD 2 false = true → OwnV V (w.heap.size + 2) 55 19 wd.length (rtsV wd) x5
  f3 : L.getD 3 false = true → x6 = .pointer (some ⟨w.heap.size, 1, none⟩)
  f4 : L.getD 4 false = true → x7 = .slice A2 ats.length c2
  f5 : L.getD 5 false = true → AttrsV V (w.heap.size + 2) x8 ats
  f6 : L.getD 6 false = true → x9 = .pointer (some ⟨w.heap.size, 2, none⟩)
  f7 : L.getD 7 false = true → x10 = .slice A3 rts.length c3
  f8 : L.getD 8 false = true → OwnV V (w.heap.size + 2) 55 19 rts.length (rtsV rts) x11
  f9 : L.getD 9 false = true → x12 = .agg #[x5, x8, x11]
  f10 : L.getD 10 false = true → V.heap[w.heap.size + 1]? = some (.cells #[x5, x8, x11] 46 (0, 0))
theorem CU.more {w V V' : World} {A1 A2 A3 : Option Addr} {c1 c2 c3 : Nat} {wd rts : List Rt} {ats : List AttrD} {L : Array Bool} {x3 x4 x5 x6 x7 x8 x9 x10 x11 x12 : Value} (H : CU w A1 A2 A3 c1 c2 c3 wd rts ats V L x3 x4 x5 x6 x7 x8 x9 x10 x11 x12) (hb : Below V.heap.size V V') : CU w A1 A2 A3 c1 c2 c3 wd rts ats V' L x3 x4 x5 x6 x7 x8 x9 x10 x11 x12 :=
  ⟨H.be.trans (hb.mono H.be.size), (hb.block _ (lt_of_heapF H.g1)).trans H.g1, fun h => (hb.block _ (lt_of_heapF (H.gz h))).trans (H.gz h), H.i10, H.i9, H.f0, H.f1, fun h => (H.f2 h).below hb, H.f3, H.f4, fun h => (H.f5 h).below hb, H.f6, H.f7, fun h => (H.f8 h).below hb, H.f9,
    fun h => (hb.block _ (lt_of_heapF (H.f10 h))).trans (H.f10 h)⟩
set_option maxRecDepth 100000 in
set_option maxHeartbeats 8000000 in
theorem uclone_parts (A1 A2 A3 : Option Addr) (c1 c2 c3 : Nat) (wd rts : List Rt) (ats : List AttrD) (w : World) (h1 : Reads w w.heap.size 19 A1 wd.length (rtsV wd)) (h2 : AttrsC w w.heap.size A2 ats) (h3 : Reads w w.heap.size 19 A3 rts.length (rtsV rts))
    (hl1 : wd.length ≤ 1000000) (hl2 : ats.length ≤ 1000) (hl3 : rts.length ≤ 1000000) (hm : ∀ d ∈ ats, d.segs.length ≤ 1000000 ∧ (∀ s ∈ d.segs, s.2.length ≤ 1000000) ∧ d.list.length ≤ 1000000 ∧ d.byts.length ≤ 1000000 ∧ d.routes.length ≤ 1000000) :
    Calls Tryz.prog 18 #[.agg #[.slice A1 wd.length c1, .slice A2 ats.length c2, .slice A3 rts.length c3]] w fun e w' => ∃ cs, e = .returned (.agg cs) ∧ UpdO w' (w.heap.size + 2) cs ⟨wd, ats, rts⟩ ∧ Below w.heap.size w w' := by
  have hst : CU w A1 A2 A3 c1 c2 c3 wd rts ats ((w.alloc (.cells #[.slice A1 wd.length c1, .slice A2 ats.length c2, .slice A3 rts.length c3] 46)).alloc (.cells #[.slice none 0 0, .slice none 0 0, .slice none 0 0] 46)).drew (Array.replicate 11 false) undef undef undef undef undef undef undef undef undef undef :=
    ⟨(((Below.refl _ _).alloc (Nat.le_refl _) _).alloc (by simp) _).drew, heap_alloc2_old w _ _, fun _ => heap_alloc2_new w _ _, fun h => absurd h (by decide), fun h => absurd h (by decide), fun h => absurd h (by decide), fun h => absurd h (by decide), fun h => absurd h (by decide), fun h => absurd h (by decide), fun h => absurd h (by decide), fun h => absurd h (by decide), fun h => absurd h (by decide), fun h => absurd h (by decide), fun h => absurd h (by decide), fun h => absurd h (by decide), fun h => absurd h (by decide)⟩
  have HST := hide hst
  clear hst
  go_enter Tryz.func18, Tryz.ntmps18
  go_wp2_with fail
  refine wp_region_inv (by kernel_rfl) (fun L a V => ∃ x3 x4 x5 x6 x7 x8 x9 x10 x11 x12 : Value, a = ⟨List.toArray ((.agg #[.slice A1 wd.length c1, .slice A2 ats.length c2, .slice A3 rts.length c3]) :: (.pointer (some ⟨w.heap.size, 0, none⟩)) :: (.pointer (some ⟨w.heap.size + 1, 0, none⟩)) :: (x3) :: (x4) :: (x5) :: (x6) :: (x7) :: (x8) :: (x9) :: (x10) :: (x11) :: (x12) :: []), []⟩ ∧ CU w A1 A2 A3 c1 c2 c3 wd rts ats V L x3 x4 x5 x6 x7 x8 x9 x10 x11 x12) (by kernel_rfl) ?steps ⟨undef, undef, undef, undef, undef, undef, undef, undef, undef, undef, rfl, HST.out⟩ ?done
  case steps =>
    refine ⟨?_, ?_, ?_, ?_, ?_, ?_, ?_, ?_, ?_, ?_, ?_, trivial⟩
    · rintro L a V ⟨x3, x4, x5, x6, x7, x8, x9, x10, x11, x12, rfl, H⟩ hl ha K hK
      go_simp
      exact hK _ _ ⟨_, _, _, _, _, _, _, _, _, _, rfl, ⟨H.be, H.g1, fun h => H.gz (by rw [getD_set_ne (by decide)] at h; exact h), fun h => ⟨getD_mono (H.i10 (by rw [getD_set_ne (by decide)] at h; exact h)).1, getD_mono (H.i10 (by rw [getD_set_ne (by decide)] at h; exact h)).2.1, getD_mono (H.i10 (by rw [getD_set_ne (by decide)] at h; exact h)).2.2⟩, fun h => ⟨getD_mono (H.i9 (by rw [getD_set_ne (by decide)] at h; exact h)).1, getD_mono (H.i9 (by rw [getD_set_ne (by decide)] at h; exact h)).2.1, getD_mono (H.i9 (by rw [getD_set_ne (by decide)] at h; exact h)).2.2⟩, fun _ => rfl, fun h => H.f1 ((getD_set h).resolve_left (by decide)), fun h => H.f2 ((getD_set h).resolve_left (by decide)), fun h => H.f3 ((getD_set h).resolve_left (by decide)), fun h => H.f4 ((getD_set h).resolve_left (by decide)), fun h => H.f5 ((getD_set h).resolve_left (by decide)), fun h => H.f6 ((getD_set h).resolve_left (by decide)), fun h => H.f7 ((getD_set h).resolve_left (by decide)), fun h => H.f8 ((getD_set h).resolve_left (by decide)), fun h => H.f9 ((getD_set h).resolve_left (by decide)), fun h => H.f10 ((getD_set h).resolve_left (by decide))⟩⟩
    · rintro L a V ⟨x3, x4, x5, x6, x7, x8, x9, x10, x11, x12, rfl, H⟩ hl ha K hK
      obtain rfl := H.f0 (ha ⟨0, .data⟩ (by simp) rfl)
      refine step_load_cell V rfl 36 (.tmp 3) rfl ⟨w.heap.size, 0, none⟩ _ (.slice A1 wd.length c1) rfl (by rw [cell_of_row _ _ 0 _ _ _ H.g1]; rfl) Tryz.underlying36 rfl ?_
      exact hK _ _ ⟨_, _, _, _, _, _, _, _, _, _, rfl, ⟨H.be, H.g1, fun h => H.gz (by rw [getD_set_ne (by decide)] at h; exact h), fun h => ⟨getD_mono (H.i10 (by rw [getD_set_ne (by decide)] at h; exact h)).1, getD_mono (H.i10 (by rw [getD_set_ne (by decide)] at h; exact h)).2.1, getD_mono (H.i10 (by rw [getD_set_ne (by decide)] at h; exact h)).2.2⟩, fun h => ⟨getD_mono (H.i9 (by rw [getD_set_ne (by decide)] at h; exact h)).1, getD_mono (H.i9 (by rw [getD_set_ne (by decide)] at h; exact h)).2.1, getD_mono (H.i9 (by rw [getD_set_ne (by decide)] at h; exact h)).2.2⟩, fun h => H.f0 ((getD_set h).resolve_left (by decide)), fun _ => rfl, fun h => H.f2 ((getD_set h).resolve_left (by decide)), fun h => H.f3 ((getD_set h).resolve_left (by decide)), fun h => H.f4 ((getD_set h).resolve_left (by decide)), fun h => H.f5 ((getD_set h).resolve_left (by decide)), fun h => H.f6 ((getD_set h).resolve_left (by decide)), fun h => H.f7 ((getD_set h).resolve_left (by decide)), fun h => H.f8 ((getD_set h).resolve_left (by decide)), fun h => H.f9 ((getD_set h).resolve_left (by decide)), fun h => H.f10 ((getD_set h).resolve_left (by decide))⟩⟩
    · rintro L a V ⟨x3, x4, x5, x6, x7, x8, x9, x10, x11, x12, rfl, H⟩ hl ha K hK
      obtain rfl := H.f1 (ha ⟨1, .data⟩ (by simp) rfl)
      have n10 : L.getD 10 false = false := by
        cases h10 : L.getD 10 false with
        | true => exact absurd (H.i10 h10).1 (by rw [getD_left hl]; decide)
        | false => rfl
      have n9 : L.getD 9 false = false := by
        cases h9 : L.getD 9 false with
        | true => exact absurd (H.i9 h9).1 (by rw [getD_left hl]; decide)
        | false => rfl
      have hge := lt_of_heapF (H.gz n10)
      refine step_call_fn (args := #[.slice A1 wd.length c1]) rfl rfl Tryz.func38 (by decide) rfl (by simp [Act.eval]) (cloneR_any A1 c1 wd.length (rtsV wd) V ((h1.below H.be).more H.be.size) (rtsV_one _) hl1) ?_
      rintro e w' ⟨A', c', rfl, hc1, hc2, hown, hb⟩
      refine ⟨_, rfl, ?_⟩
      replace H := H.more hb
      exact hK _ _ ⟨_, _, _, _, _, _, _, _, _, _, rfl, ⟨H.be, H.g1, fun h => H.gz (by rw [getD_set_ne (by decide)] at h; exact h), fun h => ⟨getD_mono (H.i10 (by rw [getD_set_ne (by decide)] at h; exact h)).1, getD_mono (H.i10 (by rw [getD_set_ne (by decide)] at h; exact h)).2.1, getD_mono (H.i10 (by rw [getD_set_ne (by decide)] at h; exact h)).2.2⟩, fun h => ⟨getD_mono (H.i9 (by rw [getD_set_ne (by decide)] at h; exact h)).1, getD_mono (H.i9 (by rw [getD_set_ne (by decide)] at h; exact h)).2.1, getD_mono (H.i9 (by rw [getD_set_ne (by decide)] at h; exact h)).2.2⟩, fun h => H.f0 ((getD_set h).resolve_left (by decide)), fun h => H.f1 ((getD_set h).resolve_left (by decide)), fun _ => ⟨A', c', rfl, hc1, hc2, own_base hown hge⟩, fun h => H.f3 ((getD_set h).resolve_left (by decide)), fun h => H.f4 ((getD_set h).resolve_left (by decide)), fun h => H.f5 ((getD_set h).resolve_left (by decide)), fun h => H.f6 ((getD_set h).resolve_left (by decide)), fun h => H.f7 ((getD_set h).resolve_left (by decide)), fun h => H.f8 ((getD_set h).resolve_left (by decide)), fun h => absurd ((getD_set h).resolve_left (by decide)) (by rw [n9]; decide), fun h => absurd ((getD_set h).resolve_left (by decide)) (by rw [n10]; decide)⟩⟩
    · rintro L a V ⟨x3, x4, x5, x6, x7, x8, x9, x10, x11, x12, rfl, H⟩ hl ha K hK
      go_simp
      exact hK _ _ ⟨_, _, _, _, _, _, _, _, _, _, rfl, ⟨H.be, H.g1, fun h => H.gz (by rw [getD_set_ne (by decide)] at h; exact h), fun h => ⟨getD_mono (H.i10 (by rw [getD_set_ne (by decide)] at h; exact h)).1, getD_mono (H.i10 (by rw [getD_set_ne (by decide)] at h; exact h)).2.1, getD_mono (H.i10 (by rw [getD_set_ne (by decide)] at h; exact h)).2.2⟩, fun h => ⟨getD_mono (H.i9 (by rw [getD_set_ne (by decide)] at h; exact h)).1, getD_mono (H.i9 (by rw [getD_set_ne (by decide)] at h; exact h)).2.1, getD_mono (H.i9 (by rw [getD_set_ne (by decide)] at h; exact h)).2.2⟩, fun h => H.f0 ((getD_set h).resolve_left (by decide)), fun h => H.f1 ((getD_set h).resolve_left (by decide)), fun h => H.f2 ((getD_set h).resolve_left (by decide)), fun _ => rfl, fun h => H.f4 ((getD_set h).resolve_left (by decide)), fun h => H.f5 ((getD_set h).resolve_left (by decide)), fun h => H.f6 ((getD_set h).resolve_left (by decide)), fun h => H.f7 ((getD_set h).resolve_left (by decide)), fun h => H.f8 ((getD_set h).resolve_left (by decide)), fun h => H.f9 ((getD_set h).resolve_left (by decide)), fun h => H.f10 ((getD_set h).resolve_left (by decide))⟩⟩
    · rintro L a V ⟨x3, x4, x5, x6, x7, x8, x9, x10, x11, x12, rfl, H⟩ hl ha K hK
      obtain rfl := H.f3 (ha ⟨3, .data⟩ (by simp) rfl)
      refine step_load_cell V rfl 22 (.tmp 6) rfl ⟨w.heap.size, 1, none⟩ _ (.slice A2 ats.length c2) rfl (by rw [cell_of_row _ _ 1 _ _ _ H.g1]; rfl) Tryz.underlying22 rfl ?_
      exact hK _ _ ⟨_, _, _, _, _, _, _, _, _, _, rfl, ⟨H.be, H.g1, fun h => H.gz (by rw [getD_set_ne (by decide)] at h; exact h), fun h => ⟨getD_mono (H.i10 (by rw [getD_set_ne (by decide)] at h; exact h)).1, getD_mono (H.i10 (by rw [getD_set_ne (by decide)] at h; exact h)).2.1, getD_mono (H.i10 (by rw [getD_set_ne (by decide)] at h; exact h)).2.2⟩, fun h => ⟨getD_mono (H.i9 (by rw [getD_set_ne (by decide)] at h; exact h)).1, getD_mono (H.i9 (by rw [getD_set_ne (by decide)] at h; exact h)).2.1, getD_mono (H.i9 (by rw [getD_set_ne (by decide)] at h; exact h)).2.2⟩, fun h => H.f0 ((getD_set h).resolve_left (by decide)), fun h => H.f1 ((getD_set h).resolve_left (by decide)), fun h => H.f2 ((getD_set h).resolve_left (by decide)), fun h => H.f3 ((getD_set h).resolve_left (by decide)), fun _ => rfl, fun h => H.f5 ((getD_set h).resolve_left (by decide)), fun h => H.f6 ((getD_set h).resolve_left (by decide)), fun h => H.f7 ((getD_set h).resolve_left (by decide)), fun h => H.f8 ((getD_set h).resolve_left (by decide)), fun h => H.f9 ((getD_set h).resolve_left (by decide)), fun h => H.f10 ((getD_set h).resolve_left (by decide))⟩⟩
    · rintro L a V ⟨x3, x4, x5, x6, x7, x8, x9, x10, x11, x12, rfl, H⟩ hl ha K hK
      obtain rfl := H.f4 (ha ⟨4, .data⟩ (by simp) rfl)
      have n10 : L.getD 10 false = false := by
        cases h10 : L.getD 10 false with
        | true => exact absurd (H.i10 h10).2.1 (by rw [getD_left hl]; decide)
        | false => rfl
      have n9 : L.getD 9 false = false := by
        cases h9 : L.getD 9 false with
        | true => exact absurd (H.i9 h9).2.1 (by rw [getD_left hl]; decide)
        | false => rfl
      have hge := lt_of_heapF (H.gz n10)
      refine step_call_fn (args := #[.slice A2 ats.length c2, .slice none 0 0]) rfl rfl Tryz.func8 (by decide) rfl (by simp [Act.eval]) (without_any A2 c2 ats V ((h2.below H.be).more H.be.size) hl2 hm) ?_
      rintro e w' ⟨v, rfl, hv, hb⟩
      refine ⟨_, rfl, ?_⟩
      replace H := H.more hb
      exact hK _ _ ⟨_, _, _, _, _, _, _, _, _, _, rfl, ⟨H.be, H.g1, fun h => H.gz (by rw [getD_set_ne (by decide)] at h; exact h), fun h => ⟨getD_mono (H.i10 (by rw [getD_set_ne (by decide)] at h; exact h)).1, getD_mono (H.i10 (by rw [getD_set_ne (by decide)] at h; exact h)).2.1, getD_mono (H.i10 (by rw [getD_set_ne (by decide)] at h; exact h)).2.2⟩, fun h => ⟨getD_mono (H.i9 (by rw [getD_set_ne (by decide)] at h; exact h)).1, getD_mono (H.i9 (by rw [getD_set_ne (by decide)] at h; exact h)).2.1, getD_mono (H.i9 (by rw [getD_set_ne (by decide)] at h; exact h)).2.2⟩, fun h => H.f0 ((getD_set h).resolve_left (by decide)), fun h => H.f1 ((getD_set h).resolve_left (by decide)), fun h => H.f2 ((getD_set h).resolve_left (by decide)), fun h => H.f3 ((getD_set h).resolve_left (by decide)), fun h => H.f4 ((getD_set h).resolve_left (by decide)), fun _ => AttrsV.of hv hge, fun h => H.f6 ((getD_set h).resolve_left (by decide)), fun h => H.f7 ((getD_set h).resolve_left (by decide)), fun h => H.f8 ((getD_set h).resolve_left (by decide)), fun h => absurd ((getD_set h).resolve_left (by decide)) (by rw [n9]; decide), fun h => absurd ((getD_set h).resolve_left (by decide)) (by rw [n10]; decide)⟩⟩
    · rintro L a V ⟨x3, x4, x5, x6, x7, x8, x9, x10, x11, x12, rfl, H⟩ hl ha K hK
      go_simp
      exact hK _ _ ⟨_, _, _, _, _, _, _, _, _, _, rfl, ⟨H.be, H.g1, fun h => H.gz (by rw [getD_set_ne (by decide)] at h; exact h), fun h => ⟨getD_mono (H.i10 (by rw [getD_set_ne (by decide)] at h; exact h)).1, getD_mono (H.i10 (by rw [getD_set_ne (by decide)] at h; exact h)).2.1, getD_mono (H.i10 (by rw [getD_set_ne (by decide)] at h; exact h)).2.2⟩, fun h => ⟨getD_mono (H.i9 (by rw [getD_set_ne (by decide)] at h; exact h)).1, getD_mono (H.i9 (by rw [getD_set_ne (by decide)] at h; exact h)).2.1, getD_mono (H.i9 (by rw [getD_set_ne (by decide)] at h; exact h)).2.2⟩, fun h => H.f0 ((getD_set h).resolve_left (by decide)), fun h => H.f1 ((getD_set h).resolve_left (by decide)), fun h => H.f2 ((getD_set h).resolve_left (by decide)), fun h => H.f3 ((getD_set h).resolve_left (by decide)), fun h => H.f4 ((getD_set h).resolve_left (by decide)), fun h => H.f5 ((getD_set h).resolve_left (by decide)), fun _ => rfl, fun h => H.f7 ((getD_set h).resolve_left (by decide)), fun h => H.f8 ((getD_set h).resolve_left (by decide)), fun h => H.f9 ((getD_set h).resolve_left (by decide)), fun h => H.f10 ((getD_set h).resolve_left (by decide))⟩⟩
    · rintro L a V ⟨x3, x4, x5, x6, x7, x8, x9, x10, x11, x12, rfl, H⟩ hl ha K hK
      obtain rfl := H.f6 (ha ⟨6, .data⟩ (by simp) rfl)
      refine step_load_cell V rfl 36 (.tmp 9) rfl ⟨w.heap.size, 2, none⟩ _ (.slice A3 rts.length c3) rfl (by rw [cell_of_row _ _ 2 _ _ _ H.g1]; rfl) Tryz.underlying36 rfl ?_
      exact hK _ _ ⟨_, _, _, _, _, _, _, _, _, _, rfl, ⟨H.be, H.g1, fun h => H.gz (by rw [getD_set_ne (by decide)] at h; exact h), fun h => ⟨getD_mono (H.i10 (by rw [getD_set_ne (by decide)] at h; exact h)).1, getD_mono (H.i10 (by rw [getD_set_ne (by decide)] at h; exact h)).2.1, getD_mono (H.i10 (by rw [getD_set_ne (by decide)] at h; exact h)).2.2⟩, fun h => ⟨getD_mono (H.i9 (by rw [getD_set_ne (by decide)] at h; exact h)).1, getD_mono (H.i9 (by rw [getD_set_ne (by decide)] at h; exact h)).2.1, getD_mono (H.i9 (by rw [getD_set_ne (by decide)] at h; exact h)).2.2⟩, fun h => H.f0 ((getD_set h).resolve_left (by decide)), fun h => H.f1 ((getD_set h).resolve_left (by decide)), fun h => H.f2 ((getD_set h).resolve_left (by decide)), fun h => H.f3 ((getD_set h).resolve_left (by decide)), fun h => H.f4 ((getD_set h).resolve_left (by decide)), fun h => H.f5 ((getD_set h).resolve_left (by decide)), fun h => H.f6 ((getD_set h).resolve_left (by decide)), fun _ => rfl, fun h => H.f8 ((getD_set h).resolve_left (by decide)), fun h => H.f9 ((getD_set h).resolve_left (by decide)), fun h => H.f10 ((getD_set h).resolve_left (by decide))⟩⟩
    · rintro L a V ⟨x3, x4, x5, x6, x7, x8, x9, x10, x11, x12, rfl, H⟩ hl ha K hK
      obtain rfl := H.f7 (ha ⟨7, .data⟩ (by simp) rfl)
      have n10 : L.getD 10 false = false := by
        cases h10 : L.getD 10 false with
        | true => exact absurd (H.i10 h10).2.2 (by rw [getD_left hl]; decide)
        | false => rfl
      have n9 : L.getD 9 false = false := by
        cases h9 : L.getD 9 false with
        | true => exact absurd (H.i9 h9).2.2 (by rw [getD_left hl]; decide)
        | false => rfl
      have hge := lt_of_heapF (H.gz n10)
      refine step_call_fn (args := #[.slice A3 rts.length c3]) rfl rfl Tryz.func38 (by decide) rfl (by simp [Act.eval]) (cloneR_any A3 c3 rts.length (rtsV rts) V ((h3.below H.be).more H.be.size) (rtsV_one _) hl3) ?_
      rintro e w' ⟨A', c', rfl, hc1, hc2, hown, hb⟩
      refine ⟨_, rfl, ?_⟩
      replace H := H.more hb
      exact hK _ _ ⟨_, _, _, _, _, _, _, _, _, _, rfl, ⟨H.be, H.g1, fun h => H.gz (by rw [getD_set_ne (by decide)] at h; exact h), fun h => ⟨getD_mono (H.i10 (by rw [getD_set_ne (by decide)] at h; exact h)).1, getD_mono (H.i10 (by rw [getD_set_ne (by decide)] at h; exact h)).2.1, getD_mono (H.i10 (by rw [getD_set_ne (by decide)] at h; exact h)).2.2⟩, fun h => ⟨getD_mono (H.i9 (by rw [getD_set_ne (by decide)] at h; exact h)).1, getD_mono (H.i9 (by rw [getD_set_ne (by decide)] at h; exact h)).2.1, getD_mono (H.i9 (by rw [getD_set_ne (by decide)] at h; exact h)).2.2⟩, fun h => H.f0 ((getD_set h).resolve_left (by decide)), fun h => H.f1 ((getD_set h).resolve_left (by decide)), fun h => H.f2 ((getD_set h).resolve_left (by decide)), fun h => H.f3 ((getD_set h).resolve_left (by decide)), fun h => H.f4 ((getD_set h).resolve_left (by decide)), fun h => H.f5 ((getD_set h).resolve_left (by decide)), fun h => H.f6 ((getD_set h).resolve_left (by decide)), fun h => H.f7 ((getD_set h).resolve_left (by decide)), fun _ => ⟨A', c', rfl, hc1, hc2, own_base hown hge⟩, fun h => absurd ((getD_set h).resolve_left (by decide)) (by rw [n9]; decide), fun h => absurd ((getD_set h).resolve_left (by decide)) (by rw [n10]; decide)⟩⟩
    · rintro L a V ⟨x3, x4, x5, x6, x7, x8, x9, x10, x11, x12, rfl, H⟩ hl ha K hK
      have j2 := ha ⟨2, .data⟩ (by simp) rfl
      have j5 := ha ⟨5, .data⟩ (by simp) rfl
      have j8 := ha ⟨8, .data⟩ (by simp) rfl
      obtain ⟨B1, d1, rfl, _⟩ := H.f2 j2
      obtain ⟨B2, d2, rfl, _⟩ := H.f5 j5
      obtain ⟨B3, d3, rfl, _⟩ := H.f8 j8
      go_simp
      exact hK _ _ ⟨_, _, _, _, _, _, _, _, _, _, rfl, ⟨H.be, H.g1, fun h => H.gz (by rw [getD_set_ne (by decide)] at h; exact h), fun h => ⟨getD_mono (H.i10 (by rw [getD_set_ne (by decide)] at h; exact h)).1, getD_mono (H.i10 (by rw [getD_set_ne (by decide)] at h; exact h)).2.1, getD_mono (H.i10 (by rw [getD_set_ne (by decide)] at h; exact h)).2.2⟩, fun _ => ⟨getD_mono j2, getD_mono j5, getD_mono j8⟩, fun h => H.f0 ((getD_set h).resolve_left (by decide)), fun h => H.f1 ((getD_set h).resolve_left (by decide)), fun h => H.f2 ((getD_set h).resolve_left (by decide)), fun h => H.f3 ((getD_set h).resolve_left (by decide)), fun h => H.f4 ((getD_set h).resolve_left (by decide)), fun h => H.f5 ((getD_set h).resolve_left (by decide)), fun h => H.f6 ((getD_set h).resolve_left (by decide)), fun h => H.f7 ((getD_set h).resolve_left (by decide)), fun h => H.f8 ((getD_set h).resolve_left (by decide)), fun _ => rfl, fun h => H.f10 ((getD_set h).resolve_left (by decide))⟩⟩
    · rintro L a V ⟨x3, x4, x5, x6, x7, x8, x9, x10, x11, x12, rfl, H⟩ hl ha K hK
      obtain rfl := H.f9 (ha ⟨9, .data⟩ (by simp) rfl)
      have j := H.i9 (ha ⟨9, .data⟩ (by simp) rfl)
      have hz := H.gz (getD_left hl)
      have hF2 := H.f2 j.1
      have hF5 := H.f5 j.2.1
      have hF8 := H.f8 j.2.2
      obtain ⟨B1, d1, rfl, _⟩ := hF2
      obtain ⟨B2, d2, rfl, _⟩ := hF5
      obtain ⟨B3, d3, rfl, _⟩ := hF8
      refine step_store_whole V rfl 46 (.tmp 2) (.tmp 12) rfl (w.heap.size + 1) 46 #[.slice none 0 0, .slice none 0 0, .slice none 0 0] #[.slice B1 wd.length d1, .slice B2 ats.length d2, .slice B3 rts.length d3] rfl rfl hz upd_size rfl (by simp [Value.oneCell']) ?_
      intro V' hg' ho
      have hgr := ho.out
      have be' := H.be.grown hgr H.be.size (fun x hx => by injection hx with hx; omega)
      have g1' := (hgr.block _ (lt_of_heapF H.g1) (by intro e; injection e; omega)).trans H.g1
      have f2' := (H.f2 j.1).grown hgr (by omega)
      have f5' := (H.f5 j.2.1).grown hgr (by omega)
      have f8' := (H.f8 j.2.2).grown hgr (by omega)
      exact hK _ _ ⟨_, _, _, _, _, _, _, _, _, _, rfl, ⟨be', g1', fun h => absurd h (by rw [getD_set_eq (lt_of_left hl)]; decide), fun _ => ⟨getD_mono j.1, getD_mono j.2.1, getD_mono j.2.2⟩, fun h => ⟨getD_mono (H.i9 (by rw [getD_set_ne (by decide)] at h; exact h)).1, getD_mono (H.i9 (by rw [getD_set_ne (by decide)] at h; exact h)).2.1, getD_mono (H.i9 (by rw [getD_set_ne (by decide)] at h; exact h)).2.2⟩, fun h => H.f0 ((getD_set h).resolve_left (by decide)), fun h => H.f1 ((getD_set h).resolve_left (by decide)), fun _ => f2', fun h => H.f3 ((getD_set h).resolve_left (by decide)), fun h => H.f4 ((getD_set h).resolve_left (by decide)), fun _ => f5', fun h => H.f6 ((getD_set h).resolve_left (by decide)), fun h => H.f7 ((getD_set h).resolve_left (by decide)), fun _ => f8', fun h => H.f9 ((getD_set h).resolve_left (by decide)), fun _ => hg'.out⟩⟩
  case done =>
    rintro L a V ⟨x3, x4, x5, x6, x7, x8, x9, x10, x11, x12, rfl, H⟩ hall
    have hg := H.f10 (hall 10 (by decide))
    have us := upd_size
    have hus : (Tryz.prog.info? 46).map (·.size) = some (#[x5, x8, x11] : Array Value).size := us
    have ho : UpdO V (w.heap.size + 2) #[x5, x8, x11] ⟨wd, ats, rts⟩ := ⟨x5, x8, x11, rfl, H.f2 (hall 2 (by decide)), H.f5 (hall 5 (by decide)), H.f8 (hall 8 (by decide))⟩
    have hbe := H.be
    have HO := Lib.hid ho
    have BE := hide hbe
    have HG := Lib.hid hg
    have HUS := Lib.hid hus
    clear H hall hg us hus ho hbe
    go_wp2_with fail
    exact bodyPost_ret (v := .agg #[x5, x8, x11]) (results_cell1 (p := 2) rfl _ _ (w.heap.size + 1) 46 _ rfl HG.out Tryz.underlying46 rfl HUS.out) rfl ⟨_, rfl, HO.out, BE.out⟩
theorem uclone_any (cs : Array Value) (d : UpdD) (w : World) (h : UpdC w w.heap.size cs d) (hl1 : d.wd.length ≤ 1000000) (hl2 : d.ats.length ≤ 1000) (hl3 : d.rts.length ≤ 1000000)
    (hm : ∀ a ∈ d.ats, a.segs.length ≤ 1000000 ∧ (∀ s ∈ a.segs, s.2.length ≤ 1000000) ∧ a.list.length ≤ 1000000 ∧ a.byts.length ≤ 1000000 ∧ a.routes.length ≤ 1000000) :
    Calls Tryz.prog 18 #[.agg cs] w fun e w' => ∃ cs', e = .returned (.agg cs') ∧ UpdO w' (w.heap.size + 2) cs' d ∧ Below w.heap.size w w' := by
  obtain ⟨A1, c1, A2, c2, A3, c3, rfl, h1, h2, h3⟩ := h
  exact uclone_parts A1 A2 A3 c1 c2 c3 d.wd d.rts d.ats w h1 h2 h3 hl1 hl2 hl3 hm
end Go.Proofs.YtnfclcbhehbchaaGreatDoor
