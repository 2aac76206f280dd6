/- prefix.Read: the prefix that a reader has. -/
import Derived.Test.YtgegloplhlkafaaDoorPfxE
set_option autoImplicit false
namespace Go.Proofs.YtgegloplhlkafaaDoor
open Go.RowKit

/-- What Read returns, and how many bytes it takes. -/
def rdOk (fam : Int) (l : List Int) : Bool :=
  match l with
  | [] => false
  | n :: r => rangedF fam n && decide ((n + 7) / 8 ≤ r.length)
def rdP (fam : Int) (l : List Int) : Int × Int × List Int :=
  match l with
  | [] => (0, 0, zeroA)
  | n :: r => if rdOk fam l = true then (fam, n, mTo n 16 (padA (r.take ((n + 7) / 8).toNat))) else (0, 0, zeroA)
def rdN (l : List Int) : Int := match l with | [] => 0 | n :: _ => 1 + (n + 7) / 8

theorem fin_read (w W : World) (hW : W.heap[w.heap.size]? = some (.cells (pvL 0 0 zeroA).toArray 26 (0, 0))) (tmps : Array Value) (h6 : tmps.getD 4 undef = .pointer (some ⟨w.heap.size, 0, none⟩)) (h7 : tmps.getD 5 undef = .bool false) :
    (results Tryd.f16 tmps).run Tryd.prog W = .ok (.tuple #[.agg (pvL 0 0 zeroA).toArray, .bool false]) W :=
  results_cell_tmp (p := 4) (t := 5) (ty := 26) rfl _ _ w.heap.size 26 _ (0, 0) _ _ h6 h7 hW Tryd.underlying26 rfl (by rw [pfx_info]; rfl)

theorem only_setRow {a w : World} {row : Option Nat} (h : a.grownBy w row) {g : Nat} (hg : a.heap.size ≤ g) (cs : Array Value) : a.grownBy (w.setRow g cs) row :=
  ⟨h.os, h.tape, h.output, by simpa [World.setRow] using h.size, fun i hi hne => (setRow_other w g i cs (by omega)).trans (h.block i hi hne)⟩
theorem mkP_len (fam len : Int) (d : List Int) (h : d.length ≤ 16) : (mkP fam len d).2.2.length = 16 := by
  unfold mkP; split
  · show (mTo len 16 (padA d)).length = 16; rw [mTo_length, padA_len d h]
  · rfl
theorem pvT_len (p : Int × Int × List Int) (h : p.2.2.length = 16) : (pvT p).toArray.size = 18 := by simp [pvT, pvL_len, h]

set_option maxRecDepth 100000 in
set_option maxHeartbeats 4000000 in
theorem read_ok (fam : Int) (g : Nat) (l : List Int) (at_ : Int) (w : World) (hr : Rdr w g l at_) (hb : Bs l) (hl : l.length ≤ 140737488351232) (h0 : 0 ≤ at_) (h1 : at_ ≤ 100000) (hok : rdOk fam l = true) :
    Calls Tryd.prog 16 #[.int .i64 fam, .pointer (some ⟨g, 0, none⟩)] w fun e w' => e = .returned (.tuple #[.agg (pvT (rdP fam l)).toArray, .bool true]) ∧
      Rdr w' g (l.drop (rdN l).toNat) (at_ + rdN l) ∧ w.grownBy w' (some g) := by
  match l, hok with
  | n :: r, hok =>
  have hok' : rangedF fam n = true ∧ (n + 7) / 8 ≤ (r.length : Int) := by simpa [rdOk] using hok
  obtain ⟨_, hn0, hn1, hn2, hw0, hw1⟩ := ranged_bd hok'.1
  obtain ⟨k, hk⟩ : ∃ k : Nat, (n + 7) / 8 = k := ⟨((n + 7) / 8).toNat, by omega⟩
  have hkr : k ≤ r.length := by omega
  have hk16 : k ≤ 16 := by omega
  have hbr : Bs r := fun x hx => hb x (by simp [hx])
  have hbk : Bs (r.take k) := hbr.take k
  have e2 : mkOk fam n (r.take k) = true := by
    simp only [mkOk, hok'.1, Bool.true_and, decide_eq_true_eq, List.length_take]; omega
  have e1 : rdP fam (n :: r) = mkP fam n (r.take k) := by
    simp only [rdP]
    rw [if_pos hok, mkP, if_pos e2, hk, Int.toNat_natCast]
  have e3 : rdN (n :: r) = 1 + k := by simp only [rdN]; rw [hk]
  have htl : (r.take k).length = k := by rw [List.length_take]; omega
  have hpl := pvT_len (mkP fam n (r.take k)) (mkP_len fam n _ (by omega))
  have hp1 : ∀ v ∈ (pvT (mkP fam n (r.take k))).toArray.toList, v.oneCell' = true := by simpa [pvT] using pvL_one _ _ _
  have hM : ∀ A c w', Byts w' w'.heap.size A (r.take k) → Calls Tryd.prog 10 #[.int .i64 fam, .int .i64 n, .slice A k c] w' fun e w'' => e = .returned (.tuple #[.agg (pvT (mkP fam n (r.take k))).toArray, .bool true]) ∧ Below w'.heap.size w' w'' := fun A c w' hby => by
    have := make_any fam n A c (r.take k) w' hby hbk (by omega)
    rw [e2, htl] at this; exact this
  have hN := need_any n
  rw [hk] at hN
  have hR := ranged_any fam n
  rw [hok'.1] at hR
  rw [e1, e3]
  generalize pvT (mkP fam n (r.take k)) = PV at *
  have hlt := hr.lt
  have hnum := number_ok g (n :: r) at_ 1 (w.alloc (Obj.cells (pvL 0 0 zeroA).toArray 26)) (hr.alloc _) hb (by omega) (by omega) (by simp) hl h0 (by omega)
  rw [show bigI ((n :: r).take 1) = n by simp [bigI], List.drop_succ_cons, List.drop_zero] at hnum
  have HNUM := hide hnum
  have HM := hide hM
  have HN := hide (fun w => hN w hn0 (by omega))
  have HR := hide hR
  have HPL := Lib.hid hpl
  have HP1 := hide hp1
  have HBR := hide hbr
  have hrl : r.length ≤ 140737488351232 := by simp at hl; omega
  have HOK := Lib.hid hok'.1
  clear hnum hM hN hR hpl hp1 hbr hr e1 e2 e3 hok' hb hl hbk htl hok hk
  go_enter Tryd.func16, Tryd.ntmps16
  go_wp2_with fail
  refine HNUM.out.mono ?_
  rintro e w1 ⟨rfl, hG⟩
  have hg0 : w1.heap[w.heap.size]? = some (.cells (pvL 0 0 zeroA).toArray 26 (0, 0)) := (hG.only.block w.heap.size (by simp) (by intro e; injection e; omega)).trans (heap_alloc_new _ _)
  have hgw : w.grownBy w1 (some g) := (only_alloc (World.grownBy.refl w _) _).trans hG.only
  have htk := take_ok g r (at_ + 1) k w1 hG.rdr hkr hrl (by omega) (by omega)
  have HTK := hide htk
  have HG0 := Lib.hid hg0
  have HGW := hide hgw
  clear htk hg0 hgw hG HNUM
  go_wp2_with (first
    | (go_at_call 30; refine (HR.out _).mono ?_; rintro e w2 ⟨rfl, rfl⟩)
    | (go_at_call 38; refine (HN.out _).mono ?_; rintro e w2 ⟨rfl, rfl⟩)
    | (go_at_call 37
       refine HTK.out.mono ?_
       rintro e w3 ⟨A3, c3, rfl, hc3, hm3, hby3, hG3⟩
       have hz3 := HGW.out.size
       have hg3 := (hG3.only.block w.heap.size (by have := lt_of_block HG0.out; omega) (by intro e; injection e; omega)).trans HG0.out
       have HG3 := Lib.hid hg3
       have HGW3 := hide (HGW.out.trans hG3.only)
       have HRD := hide hG3.rdr
       have HBY := hide hby3
       clear hg3 hG3 hby3)
    | (go_at_call 10
       refine (HM.out A3 c3 _ HBY.out).mono ?_
       rintro e w4 ⟨rfl, hb4⟩
       have hg4 := (hb4.block w.heap.size (lt_of_block HG3.out)).trans HG3.out
       have HG4 := Lib.hid hg4
       have HGW4 := hide (HGW3.out.trans (only_of_below hb4 _))
       have HRD4 := hide (HRD.out.below hb4)
       clear hg4 hb4)
    | (refine wpList_store_mid rfl _ (.tmp 4) _ rfl w.heap.size 0 rfl 26 _ _ rfl HG4.out (by rw [pfx_info, HPL.out]) (by rw [HPL.out]; simp [pvL_len, zeroA]) HP1.out ?_
       rw [whole_store _ _ (by rw [HPL.out]; simp [pvL_len, zeroA])]
       have hg5 := setRow_heap w4 w.heap.size _ PV.toArray _ _ HG4.out
       have HG5 := Lib.hid hg5
       have HGW5 := hide (only_setRow HGW4.out (Nat.le_refl _) PV.toArray)
       have HRD5 := hide (HRD4.out.keep (w' := w4.setRow w.heap.size PV.toArray) fun b hb => setRow_other w4 _ b _ (by omega))
       obtain ⟨w5, hw5⟩ : ∃ w5, w5 = w4.setRow w.heap.size PV.toArray := ⟨_, rfl⟩
       rw [← hw5] at HG5 HGW5 HRD5 ⊢
       clear hg5 hw5))
  refine bodyPost_ret (v := .tuple #[.agg PV.toArray, .bool true]) (results_cell_tmp (p := 4) (t := 5) (ty := 26) rfl _ _ w.heap.size 26 _ (0, 0) _ _ rfl rfl HG5.out Tryd.underlying26 rfl (by rw [pfx_info, HPL.out])) rfl ⟨rfl, ?_, HGW5.out⟩
  have := HRD5.out
  rw [show (1 + (k : Int)).toNat = k + 1 by omega, List.drop_succ_cons, show at_ + (1 + (k : Int)) = at_ + 1 + k by omega]
  exact this

theorem zero_sz : (pvL 0 0 zeroA).toArray.size = 18 := rfl
theorem rdP_no (fam : Int) (l : List Int) (h : rdOk fam l = false) : rdP fam l = (0, 0, zeroA) := by
  cases l with
  | nil => rfl
  | cons n r => simp only [rdP]; rw [h]; rfl

set_option maxRecDepth 100000 in
set_option maxHeartbeats 4000000 in
theorem read_no (fam : Int) (g : Nat) (l : List Int) (at_ : Int) (w : World) (hr : Rdr w g l at_) (hb : Bs l) (hl : l.length ≤ 140737488351232) (h0 : 0 ≤ at_) (h1 : at_ ≤ 100000) (hok : rdOk fam l = false) :
    Calls Tryd.prog 16 #[.int .i64 fam, .pointer (some ⟨g, 0, none⟩)] w fun e w' => e = .returned (.tuple #[.agg (pvL 0 0 zeroA).toArray, .bool false]) ∧ w.grownBy w' (some g) := by
  have hlt := hr.lt
  have fin : ∀ W : World, w.grownBy W (some g) → W.heap[w.heap.size]? = some (.cells (pvL 0 0 zeroA).toArray 26 (0, 0)) →
      (W.setRow w.heap.size (pvL 0 0 zeroA).toArray).heap[w.heap.size]? = some (.cells (pvL 0 0 zeroA).toArray 26 (0, 0)) ∧ w.grownBy (W.setRow w.heap.size (pvL 0 0 zeroA).toArray) (some g) := fun W h1 h2 =>
    ⟨setRow_heap W w.heap.size _ _ _ _ h2, only_setRow h1 (Nat.le_refl _) _⟩
  have FIN := hide fin
  clear fin
  match l, hok with
  | [], _ =>
    have hnum := number_no g [] at_ 1 (w.alloc (Obj.cells (pvL 0 0 zeroA).toArray 26)) (hr.alloc _) (by omega) (by omega) (by simp)
    have HNUM := hide hnum
    clear hnum hr hb
    go_enter Tryd.func16, Tryd.ntmps16
    go_wp2_with fail
    refine HNUM.out.mono ?_
    rintro e w1 ⟨rfl, hb1⟩
    have hg0 : w1.heap[w.heap.size]? = some (.cells (pvL 0 0 zeroA).toArray 26 (0, 0)) := (hb1.block w.heap.size (by simp)).trans (heap_alloc_new _ _)
    have hgw : w.grownBy w1 (some g) := (only_alloc (World.grownBy.refl w _) _).trans (only_of_below hb1 _)
    obtain ⟨f1, f2⟩ := FIN.out w1 hgw hg0
    have HG0 := Lib.hid hg0
    have F1 := Lib.hid f1
    have F2 := hide f2
    clear hg0 hgw hb1 HNUM f1 f2
    go_wp2_with (refine wpList_store_mid rfl _ (.tmp 4) _ rfl w.heap.size 0 rfl 26 _ (pvL 0 0 zeroA).toArray rfl HG0.out (by rw [pfx_info, zero_sz]) (by rw [zero_sz]; exact Nat.le_refl _) (by simpa using pvL_one 0 0 zeroA) ?_
                 rw [whole_store _ _ rfl])
    exact bodyPost_ret (fin_read w _ F1.out _ rfl rfl) rfl ⟨rfl, F2.out⟩
  | n :: r, hok =>
    have hn := hb n (by simp)
    have hbr : Bs r := fun x hx => hb x (by simp [hx])
    have hnum := number_ok g (n :: r) at_ 1 (w.alloc (Obj.cells (pvL 0 0 zeroA).toArray 26)) (hr.alloc _) hb (by omega) (by omega) (by simp) hl h0 (by omega)
    rw [show bigI ((n :: r).take 1) = n by simp [bigI], List.drop_succ_cons, List.drop_zero] at hnum
    have HNUM := hide hnum
    have hR := ranged_any fam n
    have hN := need_any n
    clear hnum hr hb
    by_cases hrg : rangedF fam n = true
    · have hlen : (r.length : Int) < (n + 7) / 8 := by
        simp only [rdOk, hrg, Bool.true_and, decide_eq_false_iff_not] at hok; omega
      rw [hrg] at hR
      have HR := hide hR
      have HN := hide (fun w => hN w hn.1 (by omega))
      clear hR hN hok hrg hl
      generalize (n + 7) / 8 = K at *
      go_enter Tryd.func16, Tryd.ntmps16
      go_wp2_with fail
      refine HNUM.out.mono ?_
      rintro e w1 ⟨rfl, hG⟩
      have hg0 : w1.heap[w.heap.size]? = some (.cells (pvL 0 0 zeroA).toArray 26 (0, 0)) := (hG.only.block w.heap.size (by simp) (by intro e; injection e; omega)).trans (heap_alloc_new _ _)
      have hgw : w.grownBy w1 (some g) := (only_alloc (World.grownBy.refl w _) _).trans hG.only
      have htk := take_no g r (at_ + 1) K w1 hG.rdr (.inr hlen)
      have HTK := hide htk
      have HG0 := Lib.hid hg0
      have HGW := hide hgw
      clear htk hg0 hgw hG HNUM
      go_wp2_with (first
        | (go_at_call 30; refine (HR.out _).mono ?_; rintro e w2 ⟨rfl, rfl⟩)
        | (go_at_call 38; refine (HN.out _).mono ?_; rintro e w2 ⟨rfl, rfl⟩)
        | (go_at_call 37
           refine HTK.out.mono ?_
           rintro e w3 ⟨A3, c3, rfl, hb3⟩
           have hg3 := (hb3.block w.heap.size (lt_of_block HG0.out)).trans HG0.out
           obtain ⟨f1, f2⟩ := FIN.out w3 (HGW.out.trans (only_of_below hb3 _)) hg3
           have HG3 := Lib.hid hg3
           have F1 := Lib.hid f1
           have F2 := hide f2
           clear hg3 f1 f2 hb3)
        | (refine wpList_store_mid rfl _ (.tmp 4) _ rfl w.heap.size 0 rfl 26 _ (pvL 0 0 zeroA).toArray rfl HG3.out (by rw [pfx_info, zero_sz]) (by rw [zero_sz]; exact Nat.le_refl _) (by simpa using pvL_one 0 0 zeroA) ?_
           rw [whole_store _ _ rfl]))
      exact bodyPost_ret (fin_read w _ F1.out _ rfl rfl) rfl ⟨rfl, F2.out⟩
    · have hrg : rangedF fam n = false := by simpa using hrg
      rw [hrg] at hR
      have HR := hide hR
      clear hR hN hok hrg hl
      go_enter Tryd.func16, Tryd.ntmps16
      go_wp2_with fail
      refine HNUM.out.mono ?_
      rintro e w1 ⟨rfl, hG⟩
      have hg0 : w1.heap[w.heap.size]? = some (.cells (pvL 0 0 zeroA).toArray 26 (0, 0)) := (hG.only.block w.heap.size (by simp) (by intro e; injection e; omega)).trans (heap_alloc_new _ _)
      have hgw : w.grownBy w1 (some g) := (only_alloc (World.grownBy.refl w _) _).trans hG.only
      obtain ⟨f1, f2⟩ := FIN.out w1 hgw hg0
      have HG0 := Lib.hid hg0
      have F1 := Lib.hid f1
      have F2 := hide f2
      clear hg0 hgw hG HNUM f1 f2
      go_wp2_with (first
        | (go_at_call 30; refine (HR.out _).mono ?_; rintro e w2 ⟨rfl, rfl⟩)
        | (refine wpList_store_mid rfl _ (.tmp 4) _ rfl w.heap.size 0 rfl 26 _ (pvL 0 0 zeroA).toArray rfl HG0.out (by rw [pfx_info, zero_sz]) (by rw [zero_sz]; exact Nat.le_refl _) (by simpa using pvL_one 0 0 zeroA) ?_
           rw [whole_store _ _ rfl]))
      exact bodyPost_ret (fin_read w _ F1.out _ rfl rfl) rfl ⟨rfl, F2.out⟩
end Go.Proofs.YtgegloplhlkafaaDoor
