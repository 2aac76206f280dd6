/- The walk of the law PrefixReads: it returns true. -/
import Derived.Test.YtgegloplhlkafaaDoorPfxQ
import Derived.Test.YtgegloplhlkafaaDoorPfxF
import Derived.Test.YtgegloplhlkafaaDoorPfxEq
import Derived.Test.YtgegloplhlkafaaDoorPfxW
set_option autoImplicit false
namespace Go.Proofs.YtgegloplhlkafaaDoor
open Go.RowKit Go.Sort Go.Shelf

theorem rdP_len (fam : Int) (l : List Int) (hl : Bs l) : (rdP fam l).2.2.length = 16 := by
  match l with
  | [] => rfl
  | n :: r =>
    by_cases h : rdOk fam (n :: r) = true
    · have hok' : rangedF fam n = true ∧ (n + 7) / 8 ≤ (r.length : Int) := by simpa [rdOk] using h
      obtain ⟨_, hn0, hn1, hn2, hw0, hw1⟩ := ranged_bd hok'.1
      simp only [rdP]
      rw [if_pos h, mTo_length, padA_len _ (by rw [List.length_take]; omega)]
    · rw [rdP_no fam _ (by simpa using h)]; rfl

theorem rdP_v (fam : Int) (l : List Int) (hl : Bs l) (h : rdOk fam l = true) : vF (rdP fam l).1 (rdP fam l).2.1 (rdP fam l).2.2 = true ∧ Bs (rdP fam l).2.2 := by
  match l, h with
  | n :: r, h =>
    have hok' : rangedF fam n = true ∧ (n + 7) / 8 ≤ (r.length : Int) := by simpa [rdOk] using h
    obtain ⟨_, hn0, hn1, hn2, hw0, hw1⟩ := ranged_bd hok'.1
    have hd : (r.take ((n + 7) / 8).toNat).length ≤ 16 := by rw [List.length_take]; omega
    have hb : Bs (r.take ((n + 7) / 8).toNat) := Bs.take (fun x hx => hl x (by simp [hx])) _
    simp only [rdP]
    rw [if_pos h]
    refine ⟨?_, mTo_bs _ _ _ (padA_bs _ hb)⟩
    simp only [vF, hok'.1, Bool.true_and, decide_eq_true_eq]
    exact mTo_idem n _ (padA_len _ hd) (padA_bs _ hb)

set_option maxRecDepth 100000 in
set_option maxHeartbeats 4000000 in
theorem reads_core (fam : Int) (A : Option Addr) (c : Nat) (l : List Int) (PP : Int × Int × List Int) (ok : Bool) (at1 : Int) (w : World) (hb : Byts w w.heap.size A l) (hn : l.length ≤ 300) (ht : Tab w) (h16 : PP.2.2.length = 16)
    (K3 : ∀ w', Below w.heap.size w w' → Calls Tryd.prog 17 #[.int .i64 fam, .agg #[.slice A l.length c, .int .i64 0]] w' fun e w'' => ∃ A' k' c' a', e = .returned (.tuple #[.agg #[.slice A' k' c', .int .i64 a'], .agg (pvT PP).toArray, .bool ok]) ∧ (ok = true → a' = at1) ∧ Below w'.heap.size w' w'')
    (K2 : ∀ w' g, Rdr w' g l 0 → Calls Tryd.prog 16 #[.int .i64 fam, .pointer (some ⟨g, 0, none⟩)] w' fun e w'' => e = .returned (.tuple #[.agg (pvT PP).toArray, .bool ok]) ∧ (ok = true → ∃ l', Rdr w'' g l' at1) ∧ w'.grownBy w'' (some g))
    (KV : ok = true → ∀ w', Calls Tryd.prog 19 #[.agg (pvT PP).toArray] w' fun e w'' => e = .returned (.bool true) ∧ Below w'.heap.size w' w'') :
    Calls Tryd.prog 5 #[.int .i64 fam, .slice A l.length c] w fun e w' => e = .returned (.bool true) ∧ Below w.heap.size w w' := by
  have K1 := hide (new_any A c l w hb (by omega))
  have HAL := hide (fun w' (hb : Below w.heap.size w w') => alive2_any w' (ht.below hb))
  have K2 := hide K2
  have K3 := hide K3
  have KV := hide KV
  have heq : ∀ w, (binOp .eql 26 (.agg (pvT PP).toArray) (.agg (pvT PP).toArray)).run Tryd.prog w = .ok (.bool true) w := fun w => by
    rw [eq_pfx _ _ h16 h16 w]; simp
  have hle : (l.length : Int) ≤ 300 := by omega
  have H16 := Lib.hid h16
  have hpi : (Tryd.prog.info? 26).map (·.size) = some (pvT PP).toArray.size := by rw [pfx_info, pvT_len PP h16]
  have hps : (pvT (0, 0, zeroA)).toArray.size = (pvT PP).toArray.size := by rw [pvT_len PP h16, pvT_len _ rfl]
  have hpo : ∀ v ∈ (pvT PP).toArray.toList, v.oneCell' = true := by simpa [pvT] using pvL_one _ _ _
  have HPI := Lib.hid hpi
  have HPS := Lib.hid hps
  have HPO := hide hpo
  clear hpi hps hpo hb ht h16
  go_enter Tryd.func5, Tryd.ntmps5
  go_wp2_with fail
  refine K1.out.mono ?_
  rintro e w1 ⟨g, rfl, hg, hr1, hb1⟩
  have HR1 := hide hr1
  have HB1 := hide hb1
  clear hr1 hb1 K1
  go_wp2_with fail
  refine (K2.out w1 g HR1.out).mono ?_
  rintro e w2 ⟨rfl, hr2, ho2⟩
  have hb2 : Below w.heap.size w w2 := HB1.out.grown ho2 HB1.out.size (fun g' hg' => by injection hg'; omega)
  have HR2 := hide hr2
  have HB2 := hide hb2
  clear hr2 ho2 hb2 K2 HR1 HB1
  go_wp2_with (first
    | ((with_reducible refine wpList_store_new ?hgd1 (.tmp 6) (.tmp 21) ?ho1 w2 PP ?hx1 ?hp1 H16.out ?_); (case hgd1 => rfl); (case ho1 => rfl); (case hx1 => rfl); (case hp1 => rfl)
       intro W3 G3 B3 hzW3
       have hbw := HB2.out.trans (B3.out.mono HB2.out.size)
       have hk := K3.out W3 hbw
       have hr3 : ok = true → ∃ l', Rdr W3 g l' at1 := fun h => by obtain ⟨l', h'⟩ := HR2.out h; exact ⟨l', h'.below B3.out⟩
       have HB3 := hide hbw
       have HK3 := hide hk
       have HR3 := hide hr3
       clear hbw hk hr3 K3 B3 HR2 HB2)
    | (go_at_call 17
       refine HK3.out.mono ?_
       rintro e w4 ⟨A', k', c', a', rfl, ha', hb4⟩
       have hz4 := hb4.size
       have g4 := (hb4.block w2.heap.size (by omega)).trans G3.out
       have hbw := HB3.out.trans (hb4.mono HB3.out.size)
       have hr4 : ok = true → ∃ l', Rdr w4 g l' at1 := fun h => by obtain ⟨l', h'⟩ := HR3.out h; exact ⟨l', h'.below hb4⟩
       have HB4 := hide hbw
       have HR4 := hide hr4
       have HA4 := hide ha'
       have G4 := hide g4
       clear hb4 g4 hbw hr4 ha' G3 HB3 HR3 HK3)
    | ((refine wpList_store_whole ((w4.alloc (RBox (.slice A' k' c') a')).alloc (PBox (0, 0, zeroA))) ?hgd2 _ (.tmp 9) (.tmp 29) ?ho2 (w4.heap.size + 1) 26 (pvT (0, 0, zeroA)).toArray (pvT PP).toArray ?hx2 ?hp2 ?hg2 HPI.out HPS.out HPO.out ?_); (case hgd2 => rfl); (case ho2 => rfl); (case hx2 => rfl); (case hp2 => rfl); (case hg2 => exact heap_alloc2_new w4 _ _)
       intro W5 G5 O5 hz5
       have b5 : Below w4.heap.size w4 W5 := (((Below.refl w4.heap.size w4).alloc (Nat.le_refl _) (RBox (.slice A' k' c') a')).alloc (by simp) (PBox (0, 0, zeroA))).grown O5.out (by simp; omega) (fun g hg => by injection hg; omega)
       have g8 : W5.heap[w4.heap.size]? = some (RBox (.slice A' k' c') a') := (O5.out.block _ (by simp; omega) (by intro e; injection e; omega)).trans (heap_alloc2_old w4 _ _)
       have g6 := (b5.block w2.heap.size (by omega)).trans G4.out
       have hbw := HB4.out.trans (b5.mono HB4.out.size)
       have hr5 : ok = true → ∃ l', Rdr W5 g l' at1 := fun h => by obtain ⟨l', h'⟩ := HR4.out h; exact ⟨l', h'.below b5⟩
       have G65 := hide g6
       have G85 := hide g8
       have HB5 := hide hbw
       have HR5 := hide hr5
       clear b5 g6 g8 hbw hr5 G4 O5 HB4 HR4))
  have r6 : W5.rangeAt w2.heap.size 0 (pvT PP) := rangeAt_row (xs := []) (ys := []) (by simpa using G65.out)
  have r9 : W5.rangeAt (w4.heap.size + 1) 0 (pvT PP) := rangeAt_row (xs := []) (ys := []) (by simpa using G5.out)
  have c8 : W5.cell? ⟨w4.heap.size, 1, none⟩ = some (.int .i64 a') := by rw [cell_of_row _ _ 1 _ _ _ G85.out]; rfl
  have hal := fun w' (hb : Below W5.heap.size W5 w') => HAL.out w' (HB5.out.trans (hb.mono HB5.out.size))
  have hpl : (Tryd.prog.info? 26).map (·.size) = some (pvT PP).length := by have := HPI.out; simpa using this
  have R6 := hide r6
  have R9 := hide r9
  have C8 := hide c8
  have HAL5 := hide hal
  have HPL := Lib.hid hpl
  clear r6 r9 c8 hal hpl HAL hz5 hz4 hzW3
  cases ok
  · refine wp_region_quietC (fun w' => Below W5.heap.size W5 w') (by kernel_rfl) (by kernel_rfl) (Below.refl _ _ |>.drew) ?_
    repeat (first
      | go_big_quiet_skip
      | (go_big_quiet_want
         first
         | (refine quiet_loadR _ _ rfl w2.heap.size 0 rfl _ Tryd.underlying26 rfl (pvT PP) HPL.out (fun w' hw' => rangeAt_below R6.out hw') ?_; go_big_quiet_on; simp only [Act.put, List.setIfInBounds_toArray, List.set_cons_zero, List.set_cons_succ])
         | (refine quiet_loadR _ _ rfl (w4.heap.size + 1) 0 rfl _ Tryd.underlying26 rfl (pvT PP) HPL.out (fun w' hw' => rangeAt_below R9.out hw') ?_; go_big_quiet_on; simp only [Act.put, List.setIfInBounds_toArray, List.set_cons_zero, List.set_cons_succ])
         | (refine quiet_load _ _ rfl ⟨w4.heap.size, 1, none⟩ rfl _ Tryd.underlying3 rfl _ (fun w' hw' => cell_below C8.out hw') ?_; go_big_quiet_on; simp only [Act.put, List.setIfInBounds_toArray, List.set_cons_zero, List.set_cons_succ])
         | (go_big_quiet_op
            first
              | go_big_quiet_on
              | (refine ⟨_, fun _ _ => rfl, ?_⟩; go_big_quiet_on)
              | (refine ⟨_, fun w' hw' => (HAL5.out w' hw').mono (fun e w1 h => ⟨h.1, hw'.trans (h.2.mono hw'.size)⟩), ?_⟩; go_big_quiet_on))))
    refine wpQuiet_nil ?_
    intro w' hw'
    go_wp2
    go_ret
    exact ⟨rfl, HB5.out.trans (hw'.mono HB5.out.size)⟩
  · obtain ⟨l', hR⟩ := HR5.out rfl
    have hat := fun w' (hb : Below W5.heap.size W5 w') => at_any g l' at1 w' (hR.below hb)
    have hva := KV.out rfl
    have ha := HA4.out rfl
    subst ha
    have HAT := hide hat
    have HVA := hide hva
    clear hR hat hva
    refine wp_region_quietC (fun w' => Below W5.heap.size W5 w') (by kernel_rfl) (by kernel_rfl) (Below.refl _ _ |>.drew) ?_
    repeat (first
      | go_big_quiet_skip
      | (go_big_quiet_want
         first
         | (refine quiet_loadR _ _ rfl w2.heap.size 0 rfl _ Tryd.underlying26 rfl (pvT PP) HPL.out (fun w' hw' => rangeAt_below R6.out hw') ?_; go_big_quiet_on; simp only [Act.put, List.setIfInBounds_toArray, List.set_cons_zero, List.set_cons_succ])
         | (refine quiet_loadR _ _ rfl (w4.heap.size + 1) 0 rfl _ Tryd.underlying26 rfl (pvT PP) HPL.out (fun w' hw' => rangeAt_below R9.out hw') ?_; go_big_quiet_on; simp only [Act.put, List.setIfInBounds_toArray, List.set_cons_zero, List.set_cons_succ])
         | (refine quiet_load _ _ rfl ⟨w4.heap.size, 1, none⟩ rfl _ Tryd.underlying3 rfl _ (fun w' hw' => cell_below C8.out hw') ?_; go_big_quiet_on; simp only [Act.put, List.setIfInBounds_toArray, List.set_cons_zero, List.set_cons_succ])
         | (go_big_quiet_op
            first
              | go_big_quiet_on
              | (refine ⟨_, fun _ _ => rfl, ?_⟩; go_big_quiet_on)
              | (refine ⟨_, fun w' hw' => (HAT.out w' hw').mono (fun e w1 h => ⟨h.1, by rw [← h.2]; exact hw'⟩), ?_⟩; go_big_quiet_on)
              | (refine ⟨_, fun w' hw' => (HVA.out w').mono (fun e w1 h => ⟨h.1, hw'.trans (h.2.mono hw'.size)⟩), ?_⟩; go_big_quiet_on)
              | (refine ⟨_, fun w' hw' => (HAL5.out w' hw').mono (fun e w1 h => ⟨h.1, hw'.trans (h.2.mono hw'.size)⟩), ?_⟩; go_big_quiet_on))))
    refine wpQuiet_nil ?_
    intro w' hw'
    go_wp2
    go_ret
    exact ⟨rfl, HB5.out.trans (hw'.mono HB5.out.size)⟩

set_option maxHeartbeats 1000000 in
theorem reads_any (fam : Int) (A : Option Addr) (c : Nat) (l : List Int) (w : World) (hb : Byts w w.heap.size A l) (hbs : Bs l) (hlc : l.length ≤ c) (hcm : c ≤ maxLen) (ht : Tab w) :
    Calls Tryd.prog 5 #[.int .i64 fam, .slice A l.length c] w fun e w' => e = .returned (.bool true) ∧ Below w.heap.size w w' := by
  by_cases hn : l.length ≤ 300
  · by_cases hok : rdOk fam l = true
    · obtain ⟨hv, hvb⟩ := rdP_v fam l hbs hok
      refine reads_core fam A c l (rdP fam l) true (0 + rdN l) w hb hn ht (rdP_len fam l hbs) (fun w' hb' => ?_) (fun w' g hr => ?_) (fun _ w' => ?_)
      · refine (rread_ok fam A c l 0 w' ((hb.below hb').more hb'.size) hbs hlc hcm (by omega) (by omega) (by omega) hok).mono ?_
        rintro e w'' ⟨A', k', c', rfl, h⟩
        exact ⟨A', k', c', _, rfl, fun _ => rfl, h⟩
      · refine (read_ok fam g l 0 w' hr hbs (by omega) (by omega) (by omega) hok).mono ?_
        rintro e w'' ⟨rfl, h, h2⟩
        exact ⟨rfl, fun _ => ⟨_, h⟩, h2⟩
      · have := valid_any (rdP fam l).1 (rdP fam l).2.1 (rdP fam l).2.2 (rdP_len fam l hbs) hvb w'
        rw [hv] at this
        exact this
    · have hok : rdOk fam l = false := by simpa using hok
      refine reads_core fam A c l (0, 0, zeroA) false 0 w hb hn ht rfl (fun w' hb' => ?_) (fun w' g hr => ?_) (fun h => by cases h)
      · refine (rread_no fam A c l 0 w' ((hb.below hb').more hb'.size) hbs hlc (by omega) (by omega) (by omega) hok).mono ?_
        rintro e w'' ⟨A', k', c', a', rfl, h⟩
        exact ⟨A', k', c', a', rfl, (fun h => by cases h), h⟩
      · refine (read_no fam g l 0 w' hr hbs (by omega) (by omega) (by omega) hok).mono ?_
        rintro e w'' ⟨rfl, h2⟩
        exact ⟨rfl, (fun h => by cases h), h2⟩
  · have HA := hide (alive2_any w ht)
    have hgt : (300 : Int) < (l.length : Int) := by omega
    clear ht hb hn
    go_enter Tryd.func5, Tryd.ntmps5
    go_wp2_with fail
    refine HA.out.mono ?_
    rintro e w1 ⟨rfl, hb1⟩
    have HB1 := hide hb1
    clear hb1
    go_wp2
    go_ret
    exact ⟨rfl, HB1.out⟩
end Go.Proofs.YtgegloplhlkafaaDoor
