/- The reference's Read of a prefix where it fails. -/
import Derived.Test.YtgegloplhlkafaaDoorPfxO
set_option autoImplicit false
namespace Go.Proofs.YtgegloplhlkafaaDoor
open Go.RowKit

set_option maxRecDepth 100000 in
set_option maxHeartbeats 4000000 in
theorem rread_no1 (fam : Int) (V0 V : Value) (at0 at1 n MO : Int) (okn : Bool) (w : World) (h1V : V.oneCell' = true)
    (hN : ∀ W, Below w.heap.size w W → Calls Tryd.prog 39 #[.agg #[V0, .int .i64 at0], .int .i64 1] W fun e w' => e = .returned (.tuple #[.agg #[V, .int .i64 at1], .int .u32 n, .bool okn]) ∧ Below W.heap.size W w')
    (hMO : ∀ w, Calls Tryd.prog 33 #[.int .i64 fam] w (RetI MO w)) (hno : okn = false) :
    Calls Tryd.prog 17 #[.int .i64 fam, .agg #[V0, .int .i64 at0]] w fun e w' => e = .returned (.tuple #[.agg #[V, .int .i64 at1], .agg (pvT (0, 0, zeroA)).toArray, .bool false]) ∧ Below w.heap.size w w' := by
  have HN := hide hN
  have HMO := hide hMO
  have h1V' : ∀ v ∈ (#[V, .int .i64 at1] : Array Value).toList, v.oneCell' = true := by intro v hv; simp at hv; rcases hv with rfl | rfl; exact h1V; rfl
  have H1 := hide h1V'
  clear hN hMO h1V h1V'
  subst hno
  go_enter Tryd.func17, Tryd.ntmps17
  go_wp2_with fail
  obtain ⟨W0, hW0⟩ : ∃ W0, W0 = (((w.alloc (RBox V0 at0)).alloc (RBox (.slice none 0 0) 0)).alloc (PBox (0, 0, zeroA))) := ⟨_, rfl⟩
  have hb0 : Below w.heap.size w W0 := by rw [hW0]; exact (((Below.refl _ _).alloc (Nat.le_refl _) _).alloc (by simp) _).alloc (by simp; omega) _
  have hz0 : W0.heap.size = w.heap.size + 3 := by rw [hW0]; simp
  have q3 : W0.heap[w.heap.size]? = some (RBox V0 at0) := by rw [hW0]; exact (Below.heap_alloc _ _ _ (by simp; omega)).trans (heap_alloc2_old w _ _)
  have q4 : W0.heap[w.heap.size + 1]? = some (RBox (.slice none 0 0) 0) := by rw [hW0]; exact (Below.heap_alloc _ _ _ (by simp)).trans (heap_alloc2_new w _ _)
  have q5 : W0.heap[w.heap.size + 1 + 1]? = some (PBox (0, 0, zeroA)) := by rw [hW0, show w.heap.size + 1 + 1 = ((w.alloc (RBox V0 at0)).alloc (RBox (.slice none 0 0) 0)).heap.size by simp]; exact heap_alloc_new _ _
  change Calls Tryd.prog _ _ (((w.alloc (RBox V0 at0)).alloc (RBox (.slice none 0 0) 0)).alloc (PBox (0, 0, zeroA))) _
  rw [← hW0]
  have HB0 := hide hb0
  clear hW0 hb0
  refine (HN.out W0 HB0.out).mono ?_
  rintro e w1 ⟨rfl, hb1⟩
  have hz1 := hb1.size
  have g3 := (hb1.block w.heap.size (by omega)).trans q3
  have g4 := (hb1.block (w.heap.size + 1) (by omega)).trans q4
  have g5 := (hb1.block (w.heap.size + 1 + 1) (by omega)).trans q5
  have HB1 := hide (HB0.out.trans (hb1.mono HB0.out.size))
  have G3 := hide g3
  have G4 := hide g4
  have G5 := hide g5
  clear q3 q4 q5 hb1 g3 g4 g5 HN HB0
  have hri := rdr_info
  have HRI := Lib.hid hri
  clear hri
  have hpi : (Tryd.prog.info? 26).map (·.size) = some (pvT (0, 0, zeroA)).toArray.size := by rw [pfx_info]; rfl
  have hpo : ∀ v ∈ (pvT (0, 0, zeroA)).toArray.toList, v.oneCell' = true := by simpa [pvT] using pvL_one _ _ _
  have HPI := Lib.hid hpi
  have HPO := hide hpo
  clear hpi hpo
  go_wp2_with (first
    | ((with_reducible refine wpList_store_whole w1 ?hgd1 _ (.tmp 3) (.tmp 17) ?ho1 w.heap.size 38 #[V0, .int .i64 at0] #[V, .int .i64 at1] ?hx1 ?hp1 G3.out HRI.out ?hs1 ?hq1 ?_); (case hgd1 => rfl); (case ho1 => rfl); (case hx1 => rfl); (case hp1 => rfl); (case hs1 => rfl); (case hq1 => exact H1.out)
       intro W2 G32 O2 hz2
       have g4 := (O2.out.block (w.heap.size + 1) (by omega) (by simp)).trans G4.out
       have g5 := (O2.out.block (w.heap.size + 1 + 1) (by omega) (by intro e; injection e; omega)).trans G5.out
       have hbw : Below w.heap.size w W2 := HB1.out.grown O2.out (by omega) (fun g hg => by injection hg; omega)
       have G42 := hide g4
       have G52 := hide g5
       have HB2 := hide hbw
       clear g4 g5 hbw G3 G4 G5 O2 HB1)
    | (go_at_call 33; refine (HMO.out _).mono ?_; rintro e w3 ⟨rfl, rfl⟩)
    | ((with_reducible refine wpList_load_whole W2 ?hgd2 _ (.tmp 3) ?ho2 w.heap.size 38 #[V, .int .i64 at1] _ ?hx2 G32.out Tryd.underlying38 ?hd2 ?hi2 ?_); (case hgd2 => rfl); (case ho2 => rfl); (case hx2 => rfl); (case hd2 => rfl); (case hi2 => exact HRI.out))
    | ((with_reducible refine wpList_store_whole W2 ?hgd4 _ (.tmp 4) (.tmp 29) ?ho4 (w.heap.size + 1) 38 #[.slice none 0 0, .int .i64 0] #[V, .int .i64 at1] ?hx4 ?hp4 G42.out HRI.out ?hs4 ?hq4 ?_); (case hgd4 => rfl); (case ho4 => rfl); (case hx4 => rfl); (case hp4 => rfl); (case hs4 => rfl); (case hq4 => exact H1.out)
       intro W5 G45 O5 hz5
       have g5 := (O5.out.block (w.heap.size + 1 + 1) (lt_of_block G52.out) (by intro e; injection e; omega)).trans G52.out
       have hbw : Below w.heap.size w W5 := HB2.out.grown O5.out HB2.out.size (fun g hg => by injection hg; omega)
       have G55 := hide g5
       have HB5 := hide hbw
       clear g5 hbw G42 G52 HB2 O5)
    | ((refine wpList_store_whole W5 ?hgd5 _ (.tmp 5) (.tmp 30) ?ho5 (w.heap.size + 1 + 1) 26 (pvT (0, 0, zeroA)).toArray (pvT (0, 0, zeroA)).toArray ?hx5 ?hp5 G55.out HPI.out ?hs5 HPO.out ?_); (case hgd5 => rfl); (case ho5 => rfl); (case hx5 => rfl); (case hp5 => rfl); (case hs5 => rfl)
       intro W6 G56 O6 hz6
       have g4 := (O6.out.block (w.heap.size + 1) (lt_of_block G45.out) (by intro e; injection e; omega)).trans G45.out
       have hbw : Below w.heap.size w W6 := HB5.out.grown O6.out HB5.out.size (fun g hg => by injection hg; omega)
       have G46 := hide g4
       have HB6 := hide hbw
       clear g4 hbw G45 G55 HB5 O6))
  refine bodyPost_ret (v := .tuple #[.agg #[V, .int .i64 at1], .agg (pvT (0, 0, zeroA)).toArray, .bool false])
    (results_cell2T (p := 4) (q := 5) (t := 6) rfl _ _ (w.heap.size + 1) (w.heap.size + 1 + 1) 38 26 _ _ _ rfl rfl rfl G46.out G56.out Tryd.underlying38 Tryd.underlying26 rfl rfl HRI.out HPI.out) rfl ?_
  exact ⟨rfl, HB6.out⟩

set_option maxRecDepth 100000 in
set_option maxHeartbeats 4000000 in
theorem rread_no2 (fam : Int) (V0 V : Value) (at0 at1 n MO : Int) (okn : Bool) (w : World) (hn0 : 0 ≤ n) (hn3 : n < 256) (h1V : V.oneCell' = true)
    (hN : ∀ W, Below w.heap.size w W → Calls Tryd.prog 39 #[.agg #[V0, .int .i64 at0], .int .i64 1] W fun e w' => e = .returned (.tuple #[.agg #[V, .int .i64 at1], .int .u32 n, .bool okn]) ∧ Below W.heap.size W w')
    (hMO : ∀ w, Calls Tryd.prog 33 #[.int .i64 fam] w (RetI MO w)) (hok : okn = true) (hgt : MO < n) :
    Calls Tryd.prog 17 #[.int .i64 fam, .agg #[V0, .int .i64 at0]] w fun e w' => e = .returned (.tuple #[.agg #[V, .int .i64 at1], .agg (pvT (0, 0, zeroA)).toArray, .bool false]) ∧ Below w.heap.size w w' := by
  have HN := hide hN
  have HMO := hide hMO
  have h1V' : ∀ v ∈ (#[V, .int .i64 at1] : Array Value).toList, v.oneCell' = true := by intro v hv; simp at hv; rcases hv with rfl | rfl; exact h1V; rfl
  have H1 := hide h1V'
  clear hN hMO h1V h1V'
  subst hok
  go_enter Tryd.func17, Tryd.ntmps17
  go_wp2_with fail
  obtain ⟨W0, hW0⟩ : ∃ W0, W0 = (((w.alloc (RBox V0 at0)).alloc (RBox (.slice none 0 0) 0)).alloc (PBox (0, 0, zeroA))) := ⟨_, rfl⟩
  have hb0 : Below w.heap.size w W0 := by rw [hW0]; exact (((Below.refl _ _).alloc (Nat.le_refl _) _).alloc (by simp) _).alloc (by simp; omega) _
  have hz0 : W0.heap.size = w.heap.size + 3 := by rw [hW0]; simp
  have q3 : W0.heap[w.heap.size]? = some (RBox V0 at0) := by rw [hW0]; exact (Below.heap_alloc _ _ _ (by simp; omega)).trans (heap_alloc2_old w _ _)
  have q4 : W0.heap[w.heap.size + 1]? = some (RBox (.slice none 0 0) 0) := by rw [hW0]; exact (Below.heap_alloc _ _ _ (by simp)).trans (heap_alloc2_new w _ _)
  have q5 : W0.heap[w.heap.size + 1 + 1]? = some (PBox (0, 0, zeroA)) := by rw [hW0, show w.heap.size + 1 + 1 = ((w.alloc (RBox V0 at0)).alloc (RBox (.slice none 0 0) 0)).heap.size by simp]; exact heap_alloc_new _ _
  change Calls Tryd.prog _ _ (((w.alloc (RBox V0 at0)).alloc (RBox (.slice none 0 0) 0)).alloc (PBox (0, 0, zeroA))) _
  rw [← hW0]
  have HB0 := hide hb0
  clear hW0 hb0
  refine (HN.out W0 HB0.out).mono ?_
  rintro e w1 ⟨rfl, hb1⟩
  have hz1 := hb1.size
  have g3 := (hb1.block w.heap.size (by omega)).trans q3
  have g4 := (hb1.block (w.heap.size + 1) (by omega)).trans q4
  have g5 := (hb1.block (w.heap.size + 1 + 1) (by omega)).trans q5
  have HB1 := hide (HB0.out.trans (hb1.mono HB0.out.size))
  have G3 := hide g3
  have G4 := hide g4
  have G5 := hide g5
  clear q3 q4 q5 hb1 g3 g4 g5 HN HB0
  have hri := rdr_info
  have HRI := Lib.hid hri
  clear hri
  have hpi : (Tryd.prog.info? 26).map (·.size) = some (pvT (0, 0, zeroA)).toArray.size := by rw [pfx_info]; rfl
  have hpo : ∀ v ∈ (pvT (0, 0, zeroA)).toArray.toList, v.oneCell' = true := by simpa [pvT] using pvL_one _ _ _
  have HPI := Lib.hid hpi
  have HPO := hide hpo
  clear hpi hpo
  go_wp2_with (first
    | ((with_reducible refine wpList_store_whole w1 ?hgd1 _ (.tmp 3) (.tmp 17) ?ho1 w.heap.size 38 #[V0, .int .i64 at0] #[V, .int .i64 at1] ?hx1 ?hp1 G3.out HRI.out ?hs1 ?hq1 ?_); (case hgd1 => rfl); (case ho1 => rfl); (case hx1 => rfl); (case hp1 => rfl); (case hs1 => rfl); (case hq1 => exact H1.out)
       intro W2 G32 O2 hz2
       have g4 := (O2.out.block (w.heap.size + 1) (by omega) (by simp)).trans G4.out
       have g5 := (O2.out.block (w.heap.size + 1 + 1) (by omega) (by intro e; injection e; omega)).trans G5.out
       have hbw : Below w.heap.size w W2 := HB1.out.grown O2.out (by omega) (fun g hg => by injection hg; omega)
       have G42 := hide g4
       have G52 := hide g5
       have HB2 := hide hbw
       clear g4 g5 hbw G3 G4 G5 O2 HB1)
    | (go_at_call 33; refine (HMO.out _).mono ?_; rintro e w3 ⟨rfl, rfl⟩)
    | ((with_reducible refine wpList_load_whole W2 ?hgd2 _ (.tmp 3) ?ho2 w.heap.size 38 #[V, .int .i64 at1] _ ?hx2 G32.out Tryd.underlying38 ?hd2 ?hi2 ?_); (case hgd2 => rfl); (case ho2 => rfl); (case hx2 => rfl); (case hd2 => rfl); (case hi2 => exact HRI.out))
    | ((with_reducible refine wpList_store_whole W2 ?hgd4 _ (.tmp 4) (.tmp 29) ?ho4 (w.heap.size + 1) 38 #[.slice none 0 0, .int .i64 0] #[V, .int .i64 at1] ?hx4 ?hp4 G42.out HRI.out ?hs4 ?hq4 ?_); (case hgd4 => rfl); (case ho4 => rfl); (case hx4 => rfl); (case hp4 => rfl); (case hs4 => rfl); (case hq4 => exact H1.out)
       intro W5 G45 O5 hz5
       have g5 := (O5.out.block (w.heap.size + 1 + 1) (lt_of_block G52.out) (by intro e; injection e; omega)).trans G52.out
       have hbw : Below w.heap.size w W5 := HB2.out.grown O5.out HB2.out.size (fun g hg => by injection hg; omega)
       have G55 := hide g5
       have HB5 := hide hbw
       clear g5 hbw G42 G52 HB2 O5)
    | ((refine wpList_store_whole W5 ?hgd5 _ (.tmp 5) (.tmp 30) ?ho5 (w.heap.size + 1 + 1) 26 (pvT (0, 0, zeroA)).toArray (pvT (0, 0, zeroA)).toArray ?hx5 ?hp5 G55.out HPI.out ?hs5 HPO.out ?_); (case hgd5 => rfl); (case ho5 => rfl); (case hx5 => rfl); (case hp5 => rfl); (case hs5 => rfl)
       intro W6 G56 O6 hz6
       have g4 := (O6.out.block (w.heap.size + 1) (lt_of_block G45.out) (by intro e; injection e; omega)).trans G45.out
       have hbw : Below w.heap.size w W6 := HB5.out.grown O6.out HB5.out.size (fun g hg => by injection hg; omega)
       have G46 := hide g4
       have HB6 := hide hbw
       clear g4 hbw G45 G55 HB5 O6))
  refine bodyPost_ret (v := .tuple #[.agg #[V, .int .i64 at1], .agg (pvT (0, 0, zeroA)).toArray, .bool false])
    (results_cell2T (p := 4) (q := 5) (t := 6) rfl _ _ (w.heap.size + 1) (w.heap.size + 1 + 1) 38 26 _ _ _ rfl rfl rfl G46.out G56.out Tryd.underlying38 Tryd.underlying26 rfl rfl HRI.out HPI.out) rfl ?_
  exact ⟨rfl, HB6.out⟩

set_option maxRecDepth 100000 in
set_option maxHeartbeats 4000000 in
theorem rread_no3 (fam : Int) (V0 : Value) (VA : Option Addr) (vk vc : Nat) (at0 at1 n MO : Int) (okn : Bool) (w : World) (hn0 : 0 ≤ n) (hn3 : n < 256)
    (hN : ∀ W, Below w.heap.size w W → Calls Tryd.prog 39 #[.agg #[V0, .int .i64 at0], .int .i64 1] W fun e w' => e = .returned (.tuple #[.agg #[(.slice VA vk vc), .int .i64 at1], .int .u32 n, .bool okn]) ∧ Below W.heap.size W w')
    (hMO : ∀ w, Calls Tryd.prog 33 #[.int .i64 fam] w (RetI MO w)) (hok : okn = true) (hle : n ≤ MO) (hT : ∀ W, Below w.heap.size w W → Calls Tryd.prog 40 #[.agg #[(.slice VA vk vc), .int .i64 at1], .int .i64 ((n + 7) / 8)] W fun e w' => e = .returned (.tuple #[.agg #[(.slice VA vk vc), .int .i64 at1], .slice none 0 0, .bool false]) ∧ Below W.heap.size W w') :
    Calls Tryd.prog 17 #[.int .i64 fam, .agg #[V0, .int .i64 at0]] w fun e w' => e = .returned (.tuple #[.agg #[(.slice VA vk vc), .int .i64 at1], .agg (pvT (0, 0, zeroA)).toArray, .bool false]) ∧ Below w.heap.size w w' := by
  have HN := hide hN
  have HMO := hide hMO
  have h1V' : ∀ v ∈ (#[(.slice VA vk vc), .int .i64 at1] : Array Value).toList, v.oneCell' = true := by intro v hv; simp at hv; rcases hv with rfl | rfl <;> rfl
  have H1 := hide h1V'
  clear hN hMO h1V'
  subst hok
  have HT := hide hT
  clear hT
  go_enter Tryd.func17, Tryd.ntmps17
  go_wp2_with fail
  obtain ⟨W0, hW0⟩ : ∃ W0, W0 = (((w.alloc (RBox V0 at0)).alloc (RBox (.slice none 0 0) 0)).alloc (PBox (0, 0, zeroA))) := ⟨_, rfl⟩
  have hb0 : Below w.heap.size w W0 := by rw [hW0]; exact (((Below.refl _ _).alloc (Nat.le_refl _) _).alloc (by simp) _).alloc (by simp; omega) _
  have hz0 : W0.heap.size = w.heap.size + 3 := by rw [hW0]; simp
  have q3 : W0.heap[w.heap.size]? = some (RBox V0 at0) := by rw [hW0]; exact (Below.heap_alloc _ _ _ (by simp; omega)).trans (heap_alloc2_old w _ _)
  have q4 : W0.heap[w.heap.size + 1]? = some (RBox (.slice none 0 0) 0) := by rw [hW0]; exact (Below.heap_alloc _ _ _ (by simp)).trans (heap_alloc2_new w _ _)
  have q5 : W0.heap[w.heap.size + 1 + 1]? = some (PBox (0, 0, zeroA)) := by rw [hW0, show w.heap.size + 1 + 1 = ((w.alloc (RBox V0 at0)).alloc (RBox (.slice none 0 0) 0)).heap.size by simp]; exact heap_alloc_new _ _
  change Calls Tryd.prog _ _ (((w.alloc (RBox V0 at0)).alloc (RBox (.slice none 0 0) 0)).alloc (PBox (0, 0, zeroA))) _
  rw [← hW0]
  have HB0 := hide hb0
  clear hW0 hb0
  refine (HN.out W0 HB0.out).mono ?_
  rintro e w1 ⟨rfl, hb1⟩
  have hz1 := hb1.size
  have g3 := (hb1.block w.heap.size (by omega)).trans q3
  have g4 := (hb1.block (w.heap.size + 1) (by omega)).trans q4
  have g5 := (hb1.block (w.heap.size + 1 + 1) (by omega)).trans q5
  have HB1 := hide (HB0.out.trans (hb1.mono HB0.out.size))
  have G3 := hide g3
  have G4 := hide g4
  have G5 := hide g5
  clear q3 q4 q5 hb1 g3 g4 g5 HN HB0
  have hri := rdr_info
  have HRI := Lib.hid hri
  clear hri
  have hpi : (Tryd.prog.info? 26).map (·.size) = some (pvT (0, 0, zeroA)).toArray.size := by rw [pfx_info]; rfl
  have hpo : ∀ v ∈ (pvT (0, 0, zeroA)).toArray.toList, v.oneCell' = true := by simpa [pvT] using pvL_one _ _ _
  have HPI := Lib.hid hpi
  have HPO := hide hpo
  clear hpi hpo
  go_wp2_with (first
    | ((with_reducible refine wpList_store_whole w1 ?hgd1 _ (.tmp 3) (.tmp 17) ?ho1 w.heap.size 38 #[V0, .int .i64 at0] #[(.slice VA vk vc), .int .i64 at1] ?hx1 ?hp1 G3.out HRI.out ?hs1 ?hq1 ?_); (case hgd1 => rfl); (case ho1 => rfl); (case hx1 => rfl); (case hp1 => rfl); (case hs1 => rfl); (case hq1 => exact H1.out)
       intro W2 G32 O2 hz2
       have g4 := (O2.out.block (w.heap.size + 1) (by omega) (by simp)).trans G4.out
       have g5 := (O2.out.block (w.heap.size + 1 + 1) (by omega) (by intro e; injection e; omega)).trans G5.out
       have hbw : Below w.heap.size w W2 := HB1.out.grown O2.out (by omega) (fun g hg => by injection hg; omega)
       have G42 := hide g4
       have G52 := hide g5
       have HB2 := hide hbw
       clear g4 g5 hbw G3 G4 G5 O2 HB1)
    | (go_at_call 33; refine (HMO.out _).mono ?_; rintro e w3 ⟨rfl, rfl⟩)
    | ((with_reducible refine wpList_load_whole W2 ?hgd2 _ (.tmp 3) ?ho2 w.heap.size 38 #[(.slice VA vk vc), .int .i64 at1] _ ?hx2 G32.out Tryd.underlying38 ?hd2 ?hi2 ?_); (case hgd2 => rfl); (case ho2 => rfl); (case hx2 => rfl); (case hd2 => rfl); (case hi2 => exact HRI.out))
    | (go_at_call 40
       refine (HT.out W2 HB2.out).mono ?_
       rintro e w3 ⟨rfl, hb3⟩
       have hz3 := hb3.size
       have g3 := (hb3.block w.heap.size (by omega)).trans G32.out
       have g4 := (hb3.block (w.heap.size + 1) (by omega)).trans G42.out
       have g5 := (hb3.block (w.heap.size + 1 + 1) (by omega)).trans G52.out
       have hbw := HB2.out.trans (hb3.mono HB2.out.size)
       obtain ⟨w4, hw4⟩ : ∃ w4, w4 = w3.alloc (RBox (.slice VA vk vc) at1) := ⟨_, rfl⟩
       have b4 : Below w3.heap.size w3 w4 := by rw [hw4]; exact (Below.refl _ _).alloc (Nat.le_refl _) _
       have G33 := hide ((b4.block w.heap.size (by omega)).trans g3)
       have G43 := hide ((b4.block (w.heap.size + 1) (by omega)).trans g4)
       have G53 := hide ((b4.block (w.heap.size + 1 + 1) (by omega)).trans g5)
       have HB3 := hide (hbw.trans (b4.mono hbw.size))
       have HW4 := hide hw4
       have hz4 := b4.size
       clear hb3 g3 g4 g5 hbw G42 G52 HB2 HT G32 b4 hw4)
    | ((refine wpList_load_whole (w3.alloc (RBox (.slice VA vk vc) at1)) ?hgd3 _ (.tmp 3) ?ho3 w.heap.size 38 #[(.slice VA vk vc), .int .i64 at1] _ ?hx3 ?hg3 Tryd.underlying38 ?hd3 ?hi3 ?_); (case hgd3 => rfl); (case ho3 => rfl); (case hx3 => rfl); (case hd3 => rfl); (case hi3 => exact HRI.out); (case hg3 => rw [← HW4.out]; exact G33.out)
       (rw [← HW4.out]))
    | ((with_reducible refine wpList_store_whole w4 ?hgd4 _ (.tmp 4) (.tmp 43) ?ho4 (w.heap.size + 1) 38 #[.slice none 0 0, .int .i64 0] #[(.slice VA vk vc), .int .i64 at1] ?hx4 ?hp4 G43.out HRI.out ?hs4 ?hq4 ?_); (case hgd4 => rfl); (case ho4 => rfl); (case hx4 => rfl); (case hp4 => rfl); (case hs4 => rfl); (case hq4 => exact H1.out)
       intro W5 G45 O5 hz5
       have g5 := (O5.out.block (w.heap.size + 1 + 1) (lt_of_block G53.out) (by intro e; injection e; omega)).trans G53.out
       have hbw : Below w.heap.size w W5 := HB3.out.grown O5.out HB3.out.size (fun g hg => by injection hg; omega)
       have G55 := hide g5
       have HB5 := hide hbw
       clear g5 hbw G43 G53 HB3 O5)
    | ((refine wpList_store_whole W5 ?hgd5 _ (.tmp 5) (.tmp 44) ?ho5 (w.heap.size + 1 + 1) 26 (pvT (0, 0, zeroA)).toArray (pvT (0, 0, zeroA)).toArray ?hx5 ?hp5 G55.out HPI.out ?hs5 HPO.out ?_); (case hgd5 => rfl); (case ho5 => rfl); (case hx5 => rfl); (case hp5 => rfl); (case hs5 => rfl)
       intro W6 G56 O6 hz6
       have g4 := (O6.out.block (w.heap.size + 1) (lt_of_block G45.out) (by intro e; injection e; omega)).trans G45.out
       have hbw : Below w.heap.size w W6 := HB5.out.grown O6.out HB5.out.size (fun g hg => by injection hg; omega)
       have G46 := hide g4
       have HB6 := hide hbw
       clear g4 hbw G45 G55 HB5 O6))
  refine bodyPost_ret (v := .tuple #[.agg #[(.slice VA vk vc), .int .i64 at1], .agg (pvT (0, 0, zeroA)).toArray, .bool false])
    (results_cell2T (p := 4) (q := 5) (t := 6) rfl _ _ (w.heap.size + 1) (w.heap.size + 1 + 1) 38 26 _ _ _ rfl rfl rfl G46.out G56.out Tryd.underlying38 Tryd.underlying26 rfl rfl HRI.out HPI.out) rfl ?_
  exact ⟨rfl, HB6.out⟩

theorem rread_no (fam : Int) (A : Option Addr) (c : Nat) (l : List Int) (at_ : Int) (w : World) (hb : Byts w w.heap.size A l) (hbs : Bs l) (hc : l.length ≤ c) (hl : l.length ≤ 100000) (h0 : 0 ≤ at_) (h1 : at_ ≤ 100000) (hok : rdOk fam l = false) :
    Calls Tryd.prog 17 #[.int .i64 fam, .agg #[.slice A l.length c, .int .i64 at_]] w fun e w' => ∃ A' k' c' a', e = .returned (.tuple #[.agg #[.slice A' k' c', .int .i64 a'], .agg (pvT (0, 0, zeroA)).toArray, .bool false]) ∧ Below w.heap.size w w' := by
  match l, hok with
  | [], _ =>
    refine (rread_no1 fam (.slice A 0 c) (.slice A 0 c) at_ at_ 0 (mostF fam) false w rfl (fun W _ => rnumber_no A c 0 at_ 1 W (by omega) (by omega) (by omega)) (most_any fam) rfl).mono ?_
    rintro e w' ⟨rfl, h⟩; exact ⟨_, _, _, _, rfl, h⟩
  | n :: r, hok =>
    have hnb := hbs n (by simp)
    have hN : ∀ W, Below w.heap.size w W → Calls Tryd.prog 39 #[.agg #[.slice A (n :: r).length c, .int .i64 at_], .int .i64 1] W fun e w' =>
        e = .returned (.tuple #[.agg #[.slice (cutA A c 1) r.length (c - 1), .int .i64 (at_ + 1)], .int .u32 n, .bool true]) ∧ Below W.heap.size W w' := fun W hbW => by
      have := rnumber_ok w.heap.size A c (n :: r) at_ 1 W hbW.size (hb.below hbW) hbs (by omega) (by omega) (by simp) hc h0 (by omega) (by omega)
      have hsz : (n :: r).length - 1 = r.length := by simp
      rw [hsz] at this
      exact this.mono (by rintro e w' ⟨rfl, _, h2⟩; exact ⟨by simp [bigI], h2⟩)
    have hr := ranged_most fam n
    have hmm := (most_width fam).2
    by_cases hgt : mostF fam < n
    · refine (rread_no2 fam _ _ at_ (at_ + 1) n (mostF fam) true w hnb.1 hnb.2 rfl hN (most_any fam) rfl hgt).mono ?_
      rintro e w' ⟨rfl, h⟩; exact ⟨_, _, _, _, rfl, h⟩
    · have hrt : rangedF fam n = true := by rw [hr, decide_eq_true_eq]; omega
      have hk : (r.length : Int) < (n + 7) / 8 := by
        simp only [rdOk, hrt, Bool.true_and, decide_eq_false_iff_not] at hok
        omega
      refine (rread_no3 fam _ _ _ _ at_ (at_ + 1) n (mostF fam) true w hnb.1 hnb.2 hN (most_any fam) rfl (by omega)
        (fun W _ => rtake_no (cutA A c 1) (c - 1) r.length (at_ + 1) ((n + 7) / 8) W (.inr hk))).mono ?_
      rintro e w' ⟨rfl, h⟩; exact ⟨_, _, _, _, rfl, h⟩
end Go.Proofs.YtgegloplhlkafaaDoor
