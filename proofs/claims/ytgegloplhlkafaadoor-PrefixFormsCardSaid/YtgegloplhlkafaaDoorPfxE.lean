/- prefix.Bytes: the form of a prefix. -/
import Derived.Test.YtgegloplhlkafaaDoorPfxD
set_option autoImplicit false
namespace Go.Proofs.YtgegloplhlkafaaDoor
open Go.RowKit

attribute [local go_sem ↓] Go.wp_at_zero Go.wp_at_succ

theorem slice_of_own {w : World} {base n : Nat} {e : TypeId} {size : Nat} {v : Value} {xs : List Value} (h : w.ownsRow base e size v n xs) :
    ∃ A c, v = .slice A n c ∧ n ≤ c ∧ c ≤ maxLen := by
  rcases h.2 with ⟨e, hn⟩ | ⟨g, cap, cur, e, _, _, h1, h2, _⟩
  · subst e; subst hn; exact ⟨none, 0, rfl, Nat.le_refl _, by simp [maxLen]⟩
  · exact ⟨_, cap, e, h1, h2⟩
theorem own_keep {w w' : World} {base : Nat} {e : TypeId} {size : Nat} {v : Value} {n : Nat} {xs : List Value} (h : w.ownsRow base e size v n xs) (hk : ∀ b, v.ownBlock = some b → w'.heap[b]? = w.heap[b]?) :
    w'.ownsRow base e size v n xs := by
  obtain ⟨h1, h2⟩ := h
  refine ⟨h1, ?_⟩
  rcases h2 with h2 | ⟨g, cap, cur, hv, hg, hh, r⟩
  · exact .inl h2
  · exact .inr ⟨g, cap, cur, hv, hg, by rw [hk g (by rw [hv]; rfl)]; exact hh, r⟩
theorem own_base {w : World} {base base' : Nat} {e : TypeId} {size : Nat} {v : Value} {n : Nat} {xs : List Value} (h : w.ownsRow base e size v n xs) (hb : base' ≤ base) : w.ownsRow base' e size v n xs := by
  obtain ⟨h1, h2⟩ := h
  refine ⟨h1, ?_⟩
  rcases h2 with h2 | ⟨g, cap, cur, hv, hg, r⟩
  · exact .inl h2
  · exact .inr ⟨g, cap, cur, hv, by omega, r⟩
/-- octet.Cat joins parts. -/
theorem cat_any (A : Option Addr) (c : Nat) (vs : List Value) (ps : List (Nat × List Value)) (w : World) (h : Reads w w.heap.size 1 A vs.length vs) (hl : vs.length = ps.length) (hn : ps.length ≤ 100000000)
    (hs : ∀ (i : Nat) v p, vs[i]? = some v → ps[i]? = some p → SrcB w w.heap.size v p) (ht : totB ps ≤ 100000000) :
    Calls Tryd.prog 56 #[.slice A vs.length c] w fun e w' => ∃ v, e = .returned v ∧ w'.ownsRow w.heap.size 5 1 v (totB ps) (catB ps) ∧ Below w.heap.size w w' := by
  have HC := hide (concatB_any A c vs ps w h hl hn hs ht)
  clear h hs hl
  go_enter Tryd.func56, Tryd.ntmps56
  go_wp2_with fail
  refine HC.out.mono ?_
  rintro e w1 ⟨v, rfl, h1, h2⟩
  have Q1 := hide h1
  have Q2 := hide h2
  clear h1 h2
  go_wp2
  go_ret
  exact ⟨_, rfl, Q1.out, Q2.out⟩

def pBytes (fam len : Int) (a : List Int) : List Int := if vF fam len a = true then len :: a.take ((len + 7) / 8).toNat else []

set_option maxRecDepth 100000 in
set_option maxHeartbeats 4000000 in
theorem pbytes_yes (fam len : Int) (a : List Int) (ha : a.length = 16) (hb : Bs a) (w : World) (hv : vF fam len a = true) :
    Calls Tryd.prog 25 #[.agg (pvL fam len a).toArray] w fun e w' => ∃ A c, e = .returned (.tuple #[.slice A (pBytes fam len a).length c, .bool true]) ∧ (pBytes fam len a).length ≤ c ∧ c ≤ maxLen ∧ Byts w' w'.heap.size A (pBytes fam len a) ∧ Below w.heap.size w w' := by
  have hr : rangedF fam len = true := by unfold vF at hv; simp at hv; exact hv.1
  obtain ⟨_, h0, _, h1, _⟩ := ranged_bd hr
  have hva := valid_any fam len a ha hb
  rw [hv] at hva
  have HV := hide hva
  have hpb : pBytes fam len a = len :: a.take ((len + 7) / 8).toNat := by unfold pBytes; rw [if_pos hv]
  have hN := need_any len
  have HN := hide (fun w => hN w h0 (by omega))
  clear hva hr hv hN
  generalize pBytes fam len a = R at *
  have HPB := Lib.hid hpb
  have HA := Lib.hid ha
  have HB := hide hb
  clear hpb ha hb
  have hx0 : (pvL fam len a).toArray.extract 0 (0 + 18) = (pvL fam len a).toArray := extract_all _ _ (by simp [pvL_len, HA.out])
  have hsz : (pvL fam len a).toArray.size = 18 := by simp [pvL_len, HA.out]
  have HX0 := Lib.hid hx0
  have HSZ := Lib.hid hsz
  have hk0 : (0 : Int) ≤ (len + 7) / 8 := by omega
  have hk1 : (len + 7) / 8 ≤ 16 := by omega
  clear hx0 hsz
  obtain ⟨k, hk⟩ : ∃ k : Nat, (len + 7) / 8 = k := ⟨((len + 7) / 8).toNat, by omega⟩
  rw [hk] at HN hk0 hk1
  rw [hk, Int.toNat_natCast] at HPB
  have HK := Lib.hid hk
  clear hk
  go_enter Tryd.func25, Tryd.ntmps25
  go_wp2_with (first
    | (refine wpList_load_mid rfl _ (.tmp 1) rfl w.heap.size 0 18 rfl 26 _ (0, 0) _ (heap_alloc_new _ _) Tryd.underlying26 rfl pfx_info (by rw [HSZ.out]; exact Nat.le_refl _) ?_
       rw [HX0.out])
    | (go_at_call 19
       refine (HV.out _).mono ?_
       rintro e w1 ⟨rfl, hb1⟩
       have hg1 : w1.heap[w.heap.size]? = some (.cells (pvL fam len a).toArray 26 (0, 0)) := (hb1.block w.heap.size (by simp)).trans (heap_alloc_new _ _)
       have hL : w1.cell? ⟨w.heap.size, 1, none⟩ = some (.int .i64 len) := by rw [cell_of_row _ _ 1 _ _ _ hg1]; rfl
       have B1 := hide (((Below.refl _ _).alloc (Nat.le_refl _) _).trans (hb1.mono (by simp)))
       have hz1 : w.heap.size < w1.heap.size := lt_of_block hg1
       have G1 := Lib.hid hg1
       clear hg1 hb1))
  have hw8 : IntKind.u8.wrap len = len := by rw [IntKind.wrap_u8]; omega
  have hcat : ∀ W : World, W = ((w1.alloc (Obj.cells #[Value.int IntKind.u8 len] 5)).alloc (Obj.cells #[Value.slice (some ⟨w1.heap.size, 0, none⟩) 1 1, Value.slice (some ⟨w.heap.size, 2, none⟩) k 16] 22)).drew →
      Calls Tryd.prog 56 #[.slice (some ⟨w1.heap.size + 1, 0, none⟩) 2 2] W fun e w' => ∃ v, e = .returned v ∧ Hid (w'.ownsRow w.heap.size 5 1 v (k + 1) (bV (len :: a.take k))) ∧ Hid (Below w.heap.size w w') ∧ w'.cell? ⟨w.heap.size, 1, none⟩ = some (.int .i64 len) := by
    rintro W rfl
    have hb2 : Below w1.heap.size w1 ((w1.alloc (Obj.cells #[Value.int IntKind.u8 len] 5)).alloc (Obj.cells #[Value.slice (some ⟨w1.heap.size, 0, none⟩) 1 1, Value.slice (some ⟨w.heap.size, 2, none⟩) k 16] 22)).drew :=
      (((Below.refl _ _).alloc (Nat.le_refl _) _).alloc (by simp) _).drew
    have hA1 : (w1.alloc (Obj.cells #[Value.int IntKind.u8 len] 5)).heap.size = w1.heap.size + 1 := by simp
    have hWs : ((w1.alloc (Obj.cells #[Value.int IntKind.u8 len] 5)).alloc (Obj.cells #[Value.slice (some ⟨w1.heap.size, 0, none⟩) 1 1, Value.slice (some ⟨w.heap.size, 2, none⟩) k 16] 22)).drew.heap.size = w1.heap.size + 2 := by simp
    have g2 : ((w1.alloc (Obj.cells #[Value.int IntKind.u8 len] 5)).alloc (Obj.cells #[Value.slice (some ⟨w1.heap.size, 0, none⟩) 1 1, Value.slice (some ⟨w.heap.size, 2, none⟩) k 16] 22)).drew.heap[w1.heap.size + 1]? = some (.cells #[Value.slice (some ⟨w1.heap.size, 0, none⟩) 1 1, Value.slice (some ⟨w.heap.size, 2, none⟩) k 16] 22 (0, 0)) := heap_alloc2_new _ _ _
    have g1 : ((w1.alloc (Obj.cells #[Value.int IntKind.u8 len] 5)).alloc (Obj.cells #[Value.slice (some ⟨w1.heap.size, 0, none⟩) 1 1, Value.slice (some ⟨w.heap.size, 2, none⟩) k 16] 22)).drew.heap[w1.heap.size]? = some (.cells #[Value.int IntKind.u8 len] 5 (0, 0)) := heap_alloc2_old _ _ _
    have g0 := (hb2.block w.heap.size hz1).trans G1.out
    generalize ((w1.alloc (Obj.cells #[Value.int IntKind.u8 len] 5)).alloc (Obj.cells #[Value.slice (some ⟨w1.heap.size, 0, none⟩) 1 1, Value.slice (some ⟨w.heap.size, 2, none⟩) k 16] 22)).drew = W at *
    have hbw : Below w.heap.size w W := B1.out.trans (hb2.mono (by have := B1.out.size; omega))
    have htk : (a.take k).length = k := by rw [List.length_take, HA.out]; omega
    refine (cat_any (some ⟨w1.heap.size + 1, 0, none⟩) 2 [.slice (some ⟨w1.heap.size, 0, none⟩) 1 1, .slice (some ⟨w.heap.size, 2, none⟩) k 16] [(1, bV [len]), (k, bV (a.take k))] W
      ⟨by simp, fun _ => ⟨_, rfl, by show w1.heap.size + 1 < _; omega, fun j u hu => World.news_of_block (cs := #[.slice (some ⟨w1.heap.size, 0, none⟩) 1 1, .slice (some ⟨w.heap.size, 2, none⟩) k 16]) g2 j u (by simpa using hu)⟩⟩ rfl (by simp) ?_ (by simp [totB]; omega)).mono ?_
    · intro i v p hv hp
      rcases i with _ | _ | i
      · simp at hv hp; subst hv; subst hp
        exact ⟨_, _, rfl, ⟨by simp [bV], fun _ => ⟨_, rfl, by show w1.heap.size < _; omega, fun j u hu => World.news_of_block (cs := #[Value.int IntKind.u8 len]) g1 j u (by simpa [bV] using hu)⟩⟩, bV_one _⟩
      · simp at hv hp; subst hv; subst hp
        refine ⟨_, _, rfl, ⟨by rw [bV_len, htk]; simp, fun _ => ⟨_, rfl, by show w.heap.size < _; omega, fun j u hu => ?_⟩⟩, bV_one _⟩
        have hj : j < k := by have := (List.getElem?_eq_some_iff.1 hu).1; rw [bV_len, htk] at this; exact this
        have hadd : (⟨w.heap.size, 2, none⟩ : Addr).add j = ⟨w.heap.size, 2 + j, none⟩ := by unfold Addr.add; split <;> simp_all
        rw [hadd, cell_of_row _ _ _ _ _ _ g0]
        rw [bV_take, List.getElem?_take_of_lt hj] at hu
        simp only [pvL, List.getElem?_toArray]
        rw [show 2 + j = j + 1 + 1 by omega]
        simpa using hu
      · simp at hv
    · rintro e w' ⟨v, rfl, h1, h2⟩
      have e1 : totB [(1, bV [len]), (k, bV (a.take k))] = k + 1 := by simp [totB]; omega
      have e2 : catB [(1, bV [len]), (k, bV (a.take k))] = bV (len :: a.take k) := by simp [catB, bV]
      rw [e1, e2] at h1
      exact ⟨v, rfl, hide (own_base h1 hbw.size), hide (hbw.trans (h2.mono hbw.size)), by rw [cell_of_row _ _ 1 _ _ _ ((h2.block w.heap.size (by omega)).trans g0)]; rfl⟩
  have CC := hide hcat
  clear hcat
  go_region_held3 (fun w' => w'.cell? ⟨w.heap.size, 1, none⟩ = some (.int .i64 len)) (go_keep)
    (first
      | (go_at_call 38; refine (HN.out _).mono ?_; rintro e w2 ⟨rfl, rfl⟩)
      | (go_at_call 56; refine (CC.out _ rfl).mono ?_; rintro e w5 ⟨v5, rfl, Q1, Q2, hq5⟩))
  all_goals
    go_wp2
    go_ret2
    have q1 := Q1.out
    obtain ⟨A5, c5, rfl, h51, h52⟩ := slice_of_own q1
    have eR : R.length = k + 1 := by rw [HPB.out, List.length_cons, List.length_take, HA.out]; omega
    rw [eR]
    refine ⟨A5, c5, rfl, h51, h52, ?_, Q2.out⟩
    have := Reads.of_own q1
    unfold Byts
    rw [eR, HPB.out]; exact this

set_option maxRecDepth 100000 in
set_option maxHeartbeats 4000000 in
theorem pbytes_no (fam len : Int) (a : List Int) (ha : a.length = 16) (hb : Bs a) (w : World) (hv : vF fam len a = false) :
    Calls Tryd.prog 25 #[.agg (pvL fam len a).toArray] w fun e w' => e = .returned (.tuple #[.slice none 0 0, .bool false]) ∧ Below w.heap.size w w' := by
  have hva := valid_any fam len a ha hb
  rw [hv] at hva
  have HV := hide hva
  have hx0 : (pvL fam len a).toArray.extract 0 (0 + 18) = (pvL fam len a).toArray := extract_all _ _ (by simp [pvL_len, ha])
  have hsz : (pvL fam len a).toArray.size = 18 := by simp [pvL_len, ha]
  have HX0 := Lib.hid hx0
  have HSZ := Lib.hid hsz
  clear hva hv hx0 hsz ha hb
  go_enter Tryd.func25, Tryd.ntmps25
  go_wp2_with (first
    | (refine wpList_load_mid rfl _ (.tmp 1) rfl w.heap.size 0 18 rfl 26 _ (0, 0) _ (heap_alloc_new _ _) Tryd.underlying26 rfl pfx_info (by rw [HSZ.out]; exact Nat.le_refl _) ?_
       rw [HX0.out])
    | (go_at_call 19
       refine (HV.out _).mono ?_
       rintro e w1 ⟨rfl, hb1⟩
       have B1 := hide (((Below.refl _ _).alloc (Nat.le_refl _) _).trans (hb1.mono (by simp)))
       clear hb1))
  go_ret2
  exact ⟨rfl, B1.out⟩

theorem pbytes_any (fam len : Int) (a : List Int) (ha : a.length = 16) (hb : Bs a) (w : World) :
    Calls Tryd.prog 25 #[.agg (pvL fam len a).toArray] w fun e w' => ∃ A c, e = .returned (.tuple #[.slice A (pBytes fam len a).length c, .bool (vF fam len a)]) ∧ (pBytes fam len a).length ≤ c ∧ c ≤ maxLen ∧ Byts w' w'.heap.size A (pBytes fam len a) ∧ Below w.heap.size w w' := by
  by_cases hv : vF fam len a = true
  · rw [hv]; exact pbytes_yes fam len a ha hb w hv
  · have hv : vF fam len a = false := by simpa using hv
    have e : pBytes fam len a = [] := by unfold pBytes; rw [hv]; rfl
    rw [hv, e]
    exact (pbytes_no fam len a ha hb w hv).mono fun e w' ⟨h1, h2⟩ => ⟨none, 0, h1, Nat.le_refl _, by simp [maxLen], Reads.none_, h2⟩
end Go.Proofs.YtgegloplhlkafaaDoor
