/- prefix.Make: the prefix of given bytes; no condition but sizes. -/
import Derived.Test.YtgegloplhlkafaaDoorPfxB
import Derived.Test.YtgegloplhlkafaaDoorPfxL
set_option autoImplicit false
namespace Go.Proofs.YtgegloplhlkafaaDoor
open Go.RowKit

theorem results_cell_tmp {P : Program} {fn : Func} {p t : Tmp} {ty : TypeId} (h : fn.results = #[.cell p ty, .tmp t]) (tmps : Array Value) (w : World) (g : Nat) (t' : TypeId) (cs : Array Value) (fr : Nat × Nat) (d : TypeDesc)
    (v : Value) (hp : tmps.getD p undef = .pointer (some ⟨g, 0, none⟩)) (hv : tmps.getD t undef = v) (hg : w.heap[g]? = some (.cells cs t' fr))
    (hu : P.underlying ty = some d) (hd : (match d with | .struct _ | .array _ _ => true | _ => false) = true) (hi : (P.info? ty).map (·.size) = some cs.size) :
    (results fn tmps).run P w = .ok (.tuple #[.agg cs, v]) w := by
  subst hv
  have hp' : tmps[p]?.getD undef = .pointer (some ⟨g, 0, none⟩) := by simpa using hp
  simp [results, h, hp', asAddr, run_loadVar_row w g t' ty cs fr d hg hu hd hi]
theorem pvL_len (fam len : Int) (a : List Int) : (pvL fam len a).length = 2 + a.length := by simp [pvL, bV_len]; omega
theorem pvL_one (fam len : Int) (a : List Int) : ∀ v ∈ pvL fam len a, v.oneCell' = true := by
  intro v hv
  simp only [pvL, List.mem_cons] at hv
  rcases hv with rfl | rfl | hv
  · rfl
  · rfl
  · exact bV_one a v hv
theorem pfx_info : (Tryd.prog.info? 26).map (·.size) = some 18 := by kernel_rfl
def zeroA : List Int := List.replicate 16 0

theorem splice_pv (fam len : Int) (d : List Int) : splice (pvL fam len zeroA) 2 (bV d) = pvL fam len (padA d) := by
  have e : (bV zeroA).drop d.length = bV (List.replicate (16 - d.length) 0) := by rw [← bV_drop]; unfold zeroA; rw [List.drop_replicate]
  simp only [splice, pvL, List.take_succ_cons, List.take_zero, padA, bV_append, List.cons_append, List.nil_append, bV_len]
  rw [show 2 + d.length = d.length + 1 + 1 by omega]
  simp only [List.drop_succ_cons, e]
theorem pv_extract (fam len : Int) (a : List Int) (h : a.length = 16) : (pvL fam len a).toArray.extract 2 (2 + 16) = bytesV a := by
  apply Array.ext'
  simp only [Array.toList_extract, List.extract_eq_take_drop, pvL, bytesV]
  simp only [List.drop_succ_cons, List.drop_zero]
  exact List.take_of_length_le (by simp [bV_len, h])
theorem pv_store (fam len : Int) (a b : List Int) (ha : a.length = 16) (hb : b.length = 16) :
    ((pvL fam len a).toArray.toList.take 2 ++ (bytesV b).toList ++ (pvL fam len a).toArray.toList.drop (2 + (bytesV b).size)).toArray = (pvL fam len b).toArray := by
  have e : (pvL fam len a).drop (2 + 16) = [] := List.drop_eq_nil_of_le (by rw [pvL_len, ha]; exact Nat.le_refl _)
  rw [bytesV_size, hb, e]
  simp [pvL, bytesV]
theorem whole_store (cs vs : Array Value) (h : cs.size = vs.size) : (cs.toList.take 0 ++ vs.toList ++ cs.toList.drop (0 + vs.size)).toArray = vs := by
  have e : cs.toList.drop (0 + vs.size) = [] := List.drop_eq_nil_of_le (by simp; omega)
  rw [e]; simp

set_option maxRecDepth 100000 in
set_option maxHeartbeats 4000000 in
theorem make_yes (fam len : Int) (A : Option Addr) (c : Nat) (d : List Int) (w : World) (hr : rangedF fam len = true) (hd : (d.length : Int) ≤ widthF fam) (hb : Byts w w.heap.size A d) (hbs : Bs d) :
    Calls Tryd.prog 10 #[.int .i64 fam, .int .i64 len, .slice A d.length c] w fun e w' => e = .returned (.tuple #[.agg (pvL fam len (mTo len 16 (padA d))).toArray, .bool true]) ∧ Below w.heap.size w w' := by
  have hR := ranged_any fam len
  rw [hr] at hR
  have HR := hide hR
  have hW := width_any fam
  have hwc := widthF_cases fam
  have hr2 : 0 < widthF fam ∧ 0 ≤ len ∧ len ≤ 8 * widthF fam := by simpa [rangedF] using hr
  generalize widthF fam = W at *
  have HW := hide hW
  have h16 : d.length ≤ 16 := by omega
  have hl0 : 0 ≤ len := hr2.2.1
  have hl1 : len ≤ 128 := by omega
  obtain ⟨P0, hP0⟩ : ∃ P0, P0 = padA d := ⟨_, rfl⟩
  have hpl : P0.length = 16 := by rw [hP0]; exact padA_len d h16
  have hpb : Bs P0 := by rw [hP0]; exact padA_bs d hbs
  have hsp : splice (pvL fam len zeroA) 2 (bV d) = pvL fam len P0 := by rw [hP0]; exact splice_pv fam len d
  have hM := masked_any P0 hpl len hl0 hl1 hpb
  have hml := mTo_length len 16 P0
  have hex := pv_extract fam len P0 hpl
  have hst := pv_store fam len P0 (mTo len 16 P0) hpl (by rw [hml, hpl])
  have hs0 : (pvL 0 0 zeroA).toArray.size = (pvL fam len (mTo len 16 P0)).toArray.size := by simp [pvL_len, hml, hpl, zeroA]
  have hx2 : (pvL fam len (mTo len 16 P0)).toArray.extract 0 (0 + 18) = (pvL fam len (mTo len 16 P0)).toArray := extract_all _ _ (by simp [pvL_len, hml, hpl])
  have hsz2 : (pvL fam len (mTo len 16 P0)).toArray.size = 18 := by simp [pvL_len, hml, hpl]
  have hsz1 : (pvL fam len P0).toArray.size = 18 := by simp [pvL_len, hpl]
  have hbz : (bytesV (mTo len 16 P0)).size = 16 := by rw [bytesV_size, hml, hpl]
  rw [← hP0]
  have HSP := Lib.hid hsp
  have HM := hide hM
  have HEX := Lib.hid hex
  have HST := Lib.hid hst
  have HS0 := Lib.hid hs0
  have HX2 := Lib.hid hx2
  have HZ2 := Lib.hid hsz2
  have HZ1 := Lib.hid hsz1
  have HBZ := Lib.hid hbz
  have HBY := hide hb
  clear hR hW hr2 hr hP0 hpl hpb hsp hM hml hex hst hs0 hx2 hsz2 hsz1 hbz hb
  generalize mTo len 16 P0 = M0 at *
  go_enter Tryd.func10, Tryd.ntmps10
  go_wp2_with (first
    | (go_at_call 30; refine (HR.out _).mono ?_; rintro e w1 ⟨rfl, rfl⟩)
    | (go_at_call 31; refine (HW.out _).mono ?_; rintro e w1 ⟨rfl, rfl⟩)
    | (refine wpList_copy_splice rfl (.tmp 25) (.tmp 26) 22 22 rfl 5 Tryd.underlying22 u8_one (some ⟨w.heap.size + 1, 2, none⟩) A 16 16 d.length c rfl rfl
         (w.heap.size + 1) 2 (pvL fam len zeroA) 26 ?_ (bV d) ?_ ?_ ?_ (bV_one d) (w.heap.size + 1) _ (Below.refl _ _) (Nat.le_refl _) ?_
       · exact heap_alloc2_new _ _ _
       · rw [bV_len]; show d.length = min d.length 16; omega
       · intro h0; rw [bV_len] at h0
         obtain ⟨ad, e, hab, hcell⟩ := HBY.out.2 h0
         refine ⟨rfl, ad, e, fun j v hv => ?_⟩
         have := hcell j v hv
         rw [World.cell?_alloc_lt _ _ _ (by rw [block_of_add]; simp; omega), World.cell?_alloc_lt _ _ _ (by rw [block_of_add]; omega)]
         exact this
       · rw [bV_len, pvL_len]; simp [zeroA]; omega
       intro w2 hg2 hb2
       have hg2' := hg2.out
       rw [HSP.out] at hg2'
       have h02 : w2.heap[w.heap.size]? = some (.cells (pvL 0 0 zeroA).toArray 26 (0, 0)) := (hb2.block w.heap.size (by omega)).trans (heap_alloc2_old _ _ _)
       have hbw2 : Below w.heap.size w w2 := (((Below.refl _ _).alloc (Nat.le_refl _) _).alloc (by simp) _).trans (hb2.mono (by omega))
       have hz2 : w.heap.size + 2 ≤ w2.heap.size := by have := hb2.size; simpa using this
       have G2 := Lib.hid hg2'
       have G0 := Lib.hid h02
       have B2 := hide hbw2
       clear hg2 hg2' h02 hb2 hbw2)
    | (refine wpList_load_mid rfl _ (.tmp 28) rfl (w.heap.size + 1) 2 16 rfl 26 _ (0, 0) _ G2.out Tryd.underlying24 rfl arr_info (by rw [HZ1.out]; exact Nat.le_refl _) ?_
       rw [HEX.out])
    | (go_at_call 32
       refine (HM.out _).mono ?_
       rintro e w3 ⟨rfl, hb3⟩
       have hg3 := (hb3.block (w.heap.size + 1) (by omega)).trans G2.out
       have h03 := (hb3.block w.heap.size (by omega)).trans G0.out
       have G3 := Lib.hid hg3
       have G03 := Lib.hid h03
       have B3 := hide (B2.out.trans (hb3.mono (by omega)))
       have hz3 : w.heap.size + 2 ≤ w3.heap.size := by have := hb3.size; omega
       clear hg3 h03 hb3)
    | (refine wpList_store_mid rfl _ (.tmp 32) _ rfl (w.heap.size + 1) 2 rfl 26 _ _ rfl G3.out (by rw [arr_info, HBZ.out]) (by rw [HBZ.out, HZ1.out]; exact Nat.le_refl _) (bytesV_one _) ?_
       rw [HST.out]
       have hg4 := setRow_heap w3 (w.heap.size + 1) _ (pvL fam len M0).toArray _ _ G3.out
       have h04 := (setRow_other w3 (w.heap.size + 1) w.heap.size (pvL fam len M0).toArray (by omega)).trans G03.out
       have B4 := hide (below_setRow (g := w.heap.size + 1) B3.out (by omega) (pvL fam len M0).toArray)
       obtain ⟨w4, hw4⟩ : ∃ w4, w4 = w3.setRow (w.heap.size + 1) (pvL fam len M0).toArray := ⟨_, rfl⟩
       rw [← hw4] at hg4 h04 B4 ⊢
       have G4 := Lib.hid hg4
       have G04 := Lib.hid h04
       clear hg4 h04 hw4)
    | (refine wpList_load_mid rfl _ (.tmp 8) rfl (w.heap.size + 1) 0 18 rfl 26 _ (0, 0) _ G4.out Tryd.underlying26 rfl pfx_info (by rw [HZ2.out]; exact Nat.le_refl _) ?_
       rw [HX2.out])
    | (refine wpList_store_mid rfl _ (.tmp 6) _ rfl w.heap.size 0 rfl 26 _ _ rfl G04.out (by rw [pfx_info, HZ2.out]) (by rw [HS0.out]; omega) (by simpa using pvL_one fam len M0) ?_
       rw [whole_store _ _ HS0.out]
       have hg5 := setRow_heap w4 w.heap.size _ (pvL fam len M0).toArray _ _ G04.out
       have B5 := hide (below_setRow (g := w.heap.size) B4.out (by omega) (pvL fam len M0).toArray)
       obtain ⟨w5, hw5⟩ : ∃ w5, w5 = w4.setRow w.heap.size (pvL fam len M0).toArray := ⟨_, rfl⟩
       rw [← hw5] at hg5 B5 ⊢
       have G5 := Lib.hid hg5
       clear hg5 hw5))
  exact bodyPost_ret (v := .tuple #[.agg (pvL fam len M0).toArray, .bool true]) (results_cell_tmp (p := 6) (t := 7) (ty := 26) rfl _ _ w.heap.size 26 _ (0, 0) _ _ rfl rfl G5.out Tryd.underlying26 rfl (by rw [pfx_info, HZ2.out])) rfl ⟨rfl, B5.out⟩
end Go.Proofs.YtgegloplhlkafaaDoor
