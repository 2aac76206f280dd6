/- The walk of the law PrefixMakes: it returns true, and leaves alone whatever lay there. -/
import Derived.Test.YtgegloplhlkafaaDoorPfxEq
import Derived.Test.YtgegloplhlkafaaDoorPfxR
import Derived.Test.YtgegloplhlkafaaDoorPfxW
set_option autoImplicit false
namespace Go.Proofs.YtgegloplhlkafaaDoor
open Go.RowKit Go.Sort Go.Shelf

/-- A prefix stored into a variable of its own. -/
theorem wpList_store_new {ops : Array Oper} {rest : List Oper} {o : Oper} {a : Act} {Q : Exit → Act → World → Prop} (hgd : o.guard = none) (p x : Operand) (ho : o.op = .store 26 p x) (W : World) (pp : Int × Int × List Int)
    (hx : a.eval x = .agg (pvT pp).toArray) (hp : a.eval p = .pointer (some ⟨W.heap.size, 0, none⟩)) (h16 : pp.2.2.length = 16)
    (h : ∀ W', Hid (W'.heap[W.heap.size]? = some (.cells (pvT pp).toArray 26 (0, 0))) → Hid (Below W.heap.size W W') → W'.heap.size = W.heap.size + 1 → wpList Tryd.prog ops Q rest (a.put o.dst undef) W') :
    wpList Tryd.prog ops Q (o :: rest) a (W.alloc (Obj.cells #[Value.int .i64 0, .int .i64 0, .int .u8 0, .int .u8 0, .int .u8 0, .int .u8 0, .int .u8 0, .int .u8 0, .int .u8 0, .int .u8 0, .int .u8 0, .int .u8 0, .int .u8 0, .int .u8 0, .int .u8 0, .int .u8 0, .int .u8 0, .int .u8 0] 26)) := by
  rw [← zero_pv]
  have hz := pvT_len pp h16
  refine wpList_store_mid hgd 26 p x ho W.heap.size 0 hp 26 (pvL 0 0 zeroA).toArray (pvT pp).toArray hx (heap_alloc_new _ _) (by rw [pfx_info, hz]) (by rw [hz]; exact Nat.le_refl _) (by simpa [pvT] using pvL_one _ _ _) ?_
  rw [whole_store (pvL 0 0 zeroA).toArray (pvT pp).toArray (by rw [hz]; rfl)]
  refine h _ (hide (setRow_heap _ _ _ _ _ _ (heap_alloc_new _ _))) (hide (below_setRow ((Below.refl _ _).alloc (Nat.le_refl _) _) (Nat.le_refl _) _)) (by simp [World.setRow])
/-- A prefix loaded whole. -/
theorem wpList_load_pfx {ops : Array Oper} {rest : List Oper} {o : Oper} {a : Act} {Q : Exit → Act → World → Prop} {w : World} (hgd : o.guard = none) (x : Operand) (ho : o.op = .load 26 x) (g : Nat) (pp : Int × Int × List Int)
    (hx : a.eval x = .pointer (some ⟨g, 0, none⟩)) (hg : w.heap[g]? = some (.cells (pvT pp).toArray 26 (0, 0))) (h16 : pp.2.2.length = 16)
    (h : wpList Tryd.prog ops Q rest (a.put o.dst (.agg (pvT pp).toArray)) w) : wpList Tryd.prog ops Q (o :: rest) a w := by
  have hz := pvT_len pp h16
  refine wpList_load_mid hgd 26 x ho g 0 18 hx 26 _ (0, 0) _ hg Tryd.underlying26 rfl pfx_info (by rw [hz]; exact Nat.le_refl _) ?_
  rw [extract_all _ _ hz]
  exact h

theorem wpList_wanted {P : Program} {ops : Array Oper} {Q : Exit → Act → World → Prop} {a : Act} {w : World} {rest : List Oper} {o : Oper} (hg : Region.wanted o (yielded ops a.tmps) = true)
    (h : ∀ K : Act → World → Prop, (∀ a w, wpList P ops Q rest a w → K a w) → o.wp P a w K Q) : wpList P ops Q (o :: rest) a w :=
  wpList_step fun K hK => by simp only [hg, if_true]; exact h K hK
/-- A prefix loaded whole, behind a guard that holds. -/
theorem wpList_load_pfxG {ops : Array Oper} {rest : List Oper} {o : Oper} {a : Act} {Q : Exit → Act → World → Prop} {w : World} (hgd : Region.wanted o (yielded ops a.tmps) = true) (x : Operand) (ho : o.op = .load 26 x) (g : Nat) (pp : Int × Int × List Int)
    (hx : a.eval x = .pointer (some ⟨g, 0, none⟩)) (hg : w.heap[g]? = some (.cells (pvT pp).toArray 26 (0, 0))) (h16 : pp.2.2.length = 16)
    (h : wpList Tryd.prog ops Q rest (a.put o.dst (.agg (pvT pp).toArray)) w) : wpList Tryd.prog ops Q (o :: rest) a w := by
  have hz := pvT_len pp h16
  refine wpList_wanted hgd fun K hK => ?_
  unfold Oper.wp execOp
  simp only [ho, hx, Instr.loadAt, Instr.sureAddr, Sem.run_bind, Sem.run_pure, Result.andThen_ok, run_loadVar_mid w g 0 18 26 26 _ (0, 0) _ hg Tryd.underlying26 rfl pfx_info (by rw [hz]; exact Nat.le_refl _)]
  rw [extract_all _ _ hz]
  exact hK _ _ h

set_option maxRecDepth 100000 in
set_option maxHeartbeats 4000000 in
theorem makes_any (fam len : Int) (A : Option Addr) (c : Nat) (d : List Int) (w : World) (hb : Byts w w.heap.size A d) (hbs : Bs d) (hn : d.length ≤ 140737488351232) (hl0 : -9223372036854775808 ≤ len) (hl1 : len ≤ 9223372036854775807) (ht : Tab w) :
    Calls Tryd.prog 3 #[.int .i64 fam, .int .i64 len, .slice A d.length c] w fun e w' => e = .returned (.bool true) ∧ Below w.heap.size w w' := by
  have HAL := hide (fun w' (hb : Below w.heap.size w w') => alive2_any w' (ht.below hb))
  by_cases h100 : 100 < d.length
  · have HA := hide (alive2_any w ht)
    have hgt : (100 : Int) < (d.length : Int) := by omega
    clear ht h100 hb
    go_enter Tryd.func3, Tryd.ntmps3
    go_wp2_with fail
    refine HA.out.mono ?_
    rintro e w1 ⟨rfl, hb1⟩
    have HB1 := hide hb1
    clear hb1
    go_wp2
    go_ret
    exact ⟨rfl, HB1.out⟩
  · have hle : (d.length : Int) ≤ 100 := by omega
    have K1 := hide (make_any fam len A c d w hb hbs hn)
    have K2 := hide (fun w' (hb' : Below w.heap.size w w') => rmake_any fam len A c d w' ((hb.below hb').more hb'.size) hbs hn hl0 hl1)
    by_cases hok : mkOk fam len d = true
    · have hr := hok
      simp only [mkOk, Bool.and_eq_true, decide_eq_true_eq] at hr
      obtain ⟨hfam, hq0, hq1, hq2, hq3, hq4⟩ := ranged_bd hr.1
      have hd16 : d.length ≤ 16 := by omega
      have hmk : mkP fam len d = (fam, len, mTo len 16 (padA d)) := by unfold mkP; rw [if_pos hok]
      obtain ⟨M, hM⟩ : ∃ M, M = mTo len 16 (padA d) := ⟨_, rfl⟩
      have hml : M.length = 16 := by rw [hM, mTo_length, padA_len d hd16]
      have hmb : Bs M := by rw [hM]; exact mTo_bs _ _ _ (padA_bs d hbs)
      have hmz : ∀ i : Nat, i < 128 → len ≤ (i : Int) → bitF M i = 0 := fun i hi hle => by
        rw [hM, mTo_bit len _ (padA_len d hd16) (padA_bs d hbs) i hi, if_neg (by omega)]
      have hmm : mTo len 16 M = M := by rw [hM]; exact mTo_idem len _ (padA_len d hd16) (padA_bs d hbs)
      obtain ⟨n, hnw⟩ : ∃ n : Nat, (n : Int) = widthF fam := ⟨(widthF fam).toNat, by omega⟩
      have hpt : padA (M.take n) = M := padA_take M n hml (by omega) hmb fun i hi h8 => hmz i hi (by omega)
      have htl : (M.take n).length = n := by rw [List.length_take]; omega
      have hok2 : mkOk fam len (M.take n) = true := by
        simp only [mkOk, hr.1, Bool.true_and, decide_eq_true_eq, htl]; omega
      have hmk2 : mkP fam len (M.take n) = (fam, len, M) := by unfold mkP; rw [if_pos hok2, hpt, hmm]
      have K3 := hide (fun A' c' w' (hby : Byts w' w'.heap.size A' (M.take n)) => make_any fam len A' c' (M.take n) w' hby (hmb.take n) (by omega))
      rw [hok2, hmk2, htl] at K3
      rw [← hM] at hmk
      rw [hok, hmk] at K1
      rw [hok, hmk] at K2
      have h16 : ((fam, len, M) : Int × Int × List Int).2.2.length = 16 := hml
      have HML := Lib.hid hml
      have hne : ∀ w, (binOp .neq 26 (.agg (pvT (fam, len, M)).toArray) (.agg (pvT (fam, len, M)).toArray)).run Tryd.prog w = .ok (.bool false) w := fun w => by
        rw [neq_pfx _ _ hml hml w]; simp
      have heq : ∀ w, (binOp .eql 26 (.agg (pvT (fam, len, M)).toArray) (.agg (pvT (fam, len, M)).toArray)).run Tryd.prog w = .ok (.bool true) w := fun w => by
        rw [eq_pfx _ _ hml hml w]; simp
      have hW : (n = 4 ∧ fam = 1) ∨ (n = 16 ∧ fam = 2) := by
        rcases hfam with rfl | rfl
        · exact .inl ⟨by simp [widthF] at hnw; omega, rfl⟩
        · exact .inr ⟨by simp [widthF] at hnw; omega, rfl⟩
      have hby : ∀ (W : World) (g : Nat), W.heap[g]? = some (.cells (pvT (fam, len, M)).toArray 26 (0, 0)) → Byts W W.heap.size (some ⟨g, 2, none⟩) (M.take n) := fun W g hg =>
        ⟨by simp [bV_len], fun h0 => ⟨_, rfl, lt_of_block hg, fun j u hu => by
          have hj : j < n := by have := (List.getElem?_eq_some_iff.1 hu).1; rw [bV_len, htl] at this; exact this
          have hadd : (⟨g, 2, none⟩ : Addr).add j = ⟨g, 2 + j, none⟩ := by unfold Addr.add; split <;> simp_all
          rw [hadd, cell_of_row _ _ _ _ _ _ hg]
          rw [bV_take, List.getElem?_take_of_lt hj] at hu
          simp only [pvT, pvL, List.getElem?_toArray]
          rw [show 2 + j = j + 1 + 1 by omega]
          simpa using hu⟩⟩
      have HBYT := hide hby
      clear hby hM hmb hmz hmm hpt htl hok2 hmk2 hmk hr hok hb ht hml hnw hfam hq0 hq1 hq2 hq3 hq4
      generalize hPV : ((fam, len, M) : Int × Int × List Int) = PP at *
      have HPP := Lib.hid hPV
      clear hPV
      have hmin : min (1 : Int) 2 = 1 := by decide
      rcases hW with ⟨rfl, rfl⟩ | ⟨rfl, rfl⟩
      · go_enter Tryd.func3, Tryd.ntmps3
        go_wp2_with fail
        refine K1.out.mono ?_
        rintro e w1 ⟨rfl, hb1⟩
        have hz1 := hb1.size
        have HB1 := hide hb1
        clear hb1 K1
        go_wp2_with ((with_reducible refine wpList_store_new ?hgd1 (.tmp 7) ?xx1 ?ho1 w1 PP ?hx1 ?hp1 h16 ?_); (case hgd1 => rfl); (case ho1 => rfl); (case hx1 => rfl); (case hp1 => rfl); intro W2 G2 B2 hzW2)
        have hb2 : Below w.heap.size w W2 := HB1.out.trans (B2.out.mono hz1)
        have HK2 := hide (K2.out W2 hb2)
        have HB2 := hide hb2
        clear hb2 K2 B2 HB1
        refine HK2.out.mono ?_
        rintro e w3 ⟨rfl, hb3⟩
        have g3 := (hb3.block w1.heap.size (by omega)).trans G2.out
        have hb03 := HB2.out.trans (hb3.mono HB2.out.size)
        have hz3 := hb3.size
        have G3 := hide g3
        have HB3 := hide hb03
        clear g3 hb3 hb03 G2 HB2 HK2
        go_wp2_with (first
          | ((with_reducible refine wpList_store_new ?hgd2 (.tmp 9) ?xx2 ?ho2 w3 PP ?hx2 ?hp2 h16 ?_); (case hgd2 => rfl); (case ho2 => rfl); (case hx2 => rfl); (case hp2 => rfl)
             intro W4 G4 B4 hzW4
             have g34 := (B4.out.block w1.heap.size (by omega)).trans G3.out
             have hb4 : Below w.heap.size w W4 := HB3.out.trans (B4.out.mono HB3.out.size)
             have hbyt := HBYT.out W4 w3.heap.size G4.out
             have G34 := hide g34
             have HB4 := hide hb4
             have HBY := hide hbyt
             clear g34 hb4 hbyt G3 B4)
          | ((with_reducible refine wpList_load_pfx ?hgd3 (.tmp 7) ?ho3 w1.heap.size PP ?hx3 G34.out h16 ?_); (case ho3 => rfl); (case hgd3 => rfl); (case hx3 => rfl))
          | ((with_reducible refine wpList_load_pfx ?hgd4 (.tmp 9) ?ho4 w3.heap.size PP ?hx4 G4.out h16 ?_); (case ho4 => rfl); (case hgd4 => rfl); (case hx4 => rfl))
          | (go_at_call 10
             refine (K3.out _ _ _ HBY.out).mono ?_
             rintro e w5 ⟨rfl, hb5⟩
             have g5 := (hb5.block w1.heap.size (by omega)).trans G34.out
             have hb05 := HB4.out.trans (hb5.mono HB4.out.size)
             have hz5 := hb5.size
             have G5 := hide g5
             have HB5 := hide hb05
             clear g5 hb5 hb05)
          | ((with_reducible refine wpList_store_new ?hgd5 (.tmp 11) ?xx5 ?ho5 w5 PP ?hx5 ?hp5 h16 ?_); (case hgd5 => rfl); (case ho5 => rfl); (case hx5 => rfl); (case hp5 => rfl)
             intro W6 G6 B6 hzW6
             have g56 := (B6.out.block w1.heap.size (by omega)).trans G5.out
             have hb6 : Below w.heap.size w W6 := HB5.out.trans (B6.out.mono HB5.out.size)
             have hal := HAL.out W6 hb6
             have G56 := hide g56
             have HB6 := hide hb6
             have HAL6 := hide hal
             clear g56 hb6 hal G5 B6)
          | (go_at_call 9
             refine HAL6.out.mono ?_
             rintro e w7 ⟨rfl, hb7⟩
             have g7 := (hb7.block w1.heap.size (by omega)).trans G56.out
             have g67 := (hb7.block w5.heap.size (by omega)).trans G6.out
             have G7 := hide g7
             have G67 := hide g67
             have HB7 := hide (HB6.out.trans (hb7.mono HB6.out.size))
             clear g7 g67 hb7)
          | ((with_reducible refine wpList_load_pfxG ?hgd6 (.tmp 11) ?ho6 w5.heap.size PP ?hx6 G67.out h16 ?_); (case ho6 => rfl); (case hgd6 => rfl); (case hx6 => rfl))
          | ((with_reducible refine wpList_load_pfxG ?hgd7 (.tmp 7) ?ho7 w1.heap.size PP ?hx7 G7.out h16 ?_); (case ho7 => rfl); (case hgd7 => rfl); (case hx7 => rfl)))
        go_ret
        exact ⟨rfl, HB7.out⟩
      · go_enter Tryd.func3, Tryd.ntmps3
        go_wp2_with fail
        refine K1.out.mono ?_
        rintro e w1 ⟨rfl, hb1⟩
        have hz1 := hb1.size
        have HB1 := hide hb1
        clear hb1 K1
        go_wp2_with ((with_reducible refine wpList_store_new ?hgd8 (.tmp 7) ?xx8 ?ho8 w1 PP ?hx8 ?hp8 h16 ?_); (case hgd8 => rfl); (case ho8 => rfl); (case hx8 => rfl); (case hp8 => rfl); intro W2 G2 B2 hzW2)
        have hb2 : Below w.heap.size w W2 := HB1.out.trans (B2.out.mono hz1)
        have HK2 := hide (K2.out W2 hb2)
        have HB2 := hide hb2
        clear hb2 K2 B2 HB1
        refine HK2.out.mono ?_
        rintro e w3 ⟨rfl, hb3⟩
        have g3 := (hb3.block w1.heap.size (by omega)).trans G2.out
        have hb03 := HB2.out.trans (hb3.mono HB2.out.size)
        have hz3 := hb3.size
        have G3 := hide g3
        have HB3 := hide hb03
        clear g3 hb3 hb03 G2 HB2 HK2
        go_wp2_with (first
          | ((with_reducible refine wpList_store_new ?hgd9 (.tmp 9) ?xx9 ?ho9 w3 PP ?hx9 ?hp9 h16 ?_); (case hgd9 => rfl); (case ho9 => rfl); (case hx9 => rfl); (case hp9 => rfl)
             intro W4 G4 B4 hzW4
             have g34 := (B4.out.block w1.heap.size (by omega)).trans G3.out
             have hb4 : Below w.heap.size w W4 := HB3.out.trans (B4.out.mono HB3.out.size)
             have hbyt := HBYT.out W4 w3.heap.size G4.out
             have G34 := hide g34
             have HB4 := hide hb4
             have HBY := hide hbyt
             clear g34 hb4 hbyt G3 B4)
          | ((with_reducible refine wpList_load_pfx ?hgd10 (.tmp 7) ?ho10 w1.heap.size PP ?hx10 G34.out h16 ?_); (case ho10 => rfl); (case hgd10 => rfl); (case hx10 => rfl))
          | ((with_reducible refine wpList_load_pfx ?hgd11 (.tmp 9) ?ho11 w3.heap.size PP ?hx11 G4.out h16 ?_); (case ho11 => rfl); (case hgd11 => rfl); (case hx11 => rfl))
          | (go_at_call 10
             refine (K3.out _ _ _ HBY.out).mono ?_
             rintro e w5 ⟨rfl, hb5⟩
             have g5 := (hb5.block w1.heap.size (by omega)).trans G34.out
             have hb05 := HB4.out.trans (hb5.mono HB4.out.size)
             have hz5 := hb5.size
             have G5 := hide g5
             have HB5 := hide hb05
             clear g5 hb5 hb05)
          | ((with_reducible refine wpList_store_new ?hgd12 (.tmp 11) ?xx12 ?ho12 w5 PP ?hx12 ?hp12 h16 ?_); (case hgd12 => rfl); (case ho12 => rfl); (case hx12 => rfl); (case hp12 => rfl)
             intro W6 G6 B6 hzW6
             have g56 := (B6.out.block w1.heap.size (by omega)).trans G5.out
             have hb6 : Below w.heap.size w W6 := HB5.out.trans (B6.out.mono HB5.out.size)
             have hal := HAL.out W6 hb6
             have G56 := hide g56
             have HB6 := hide hb6
             have HAL6 := hide hal
             clear g56 hb6 hal G5 B6)
          | (go_at_call 9
             refine HAL6.out.mono ?_
             rintro e w7 ⟨rfl, hb7⟩
             have g7 := (hb7.block w1.heap.size (by omega)).trans G56.out
             have g67 := (hb7.block w5.heap.size (by omega)).trans G6.out
             have G7 := hide g7
             have G67 := hide g67
             have HB7 := hide (HB6.out.trans (hb7.mono HB6.out.size))
             clear g7 g67 hb7)
          | ((with_reducible refine wpList_load_pfxG ?hgd13 (.tmp 11) ?ho13 w5.heap.size PP ?hx13 G67.out h16 ?_); (case ho13 => rfl); (case hgd13 => rfl); (case hx13 => rfl))
          | ((with_reducible refine wpList_load_pfxG ?hgd14 (.tmp 7) ?ho14 w1.heap.size PP ?hx14 G7.out h16 ?_); (case ho14 => rfl); (case hgd14 => rfl); (case hx14 => rfl)))
        go_ret
        exact ⟨rfl, HB7.out⟩
    · have hok : mkOk fam len d = false := by simpa using hok
      have hmk : mkP fam len d = (0, 0, zeroA) := by unfold mkP; rw [if_neg (by rw [hok]; decide)]
      rw [hok, hmk] at K1
      rw [hok, hmk] at K2
      have h16 : ((0, 0, zeroA) : Int × Int × List Int).2.2.length = 16 := rfl
      have hne : ∀ w, (binOp .neq 26 (.agg (pvT (0, 0, zeroA)).toArray) (.agg (pvT (0, 0, zeroA)).toArray)).run Tryd.prog w = .ok (.bool false) w := fun w => by
        rw [neq_pfx _ _ rfl rfl w]; simp
      clear hb ht hok hmk
      generalize ((0, 0, zeroA) : Int × Int × List Int) = PP at *
      go_enter Tryd.func3, Tryd.ntmps3
      go_wp2_with fail
      refine K1.out.mono ?_
      rintro e w1 ⟨rfl, hb1⟩
      have hz1 := hb1.size
      have HB1 := hide hb1
      clear hb1 K1
      go_wp2_with ((with_reducible refine wpList_store_new ?hgd15 (.tmp 7) ?xx15 ?ho15 w1 PP ?hx15 ?hp15 h16 ?_); (case hgd15 => rfl); (case ho15 => rfl); (case hx15 => rfl); (case hp15 => rfl); intro W2 G2 B2 hzW2)
      have hb2 : Below w.heap.size w W2 := HB1.out.trans (B2.out.mono hz1)
      have HK2 := hide (K2.out W2 hb2)
      have HB2 := hide hb2
      clear hb2 K2 B2 HB1
      refine HK2.out.mono ?_
      rintro e w3 ⟨rfl, hb3⟩
      have g3 := (hb3.block w1.heap.size (by omega)).trans G2.out
      have hb03 := HB2.out.trans (hb3.mono HB2.out.size)
      have hz3 := hb3.size
      have G3 := hide g3
      have HB3 := hide hb03
      clear g3 hb3 hb03 G2 HB2 HK2
      go_wp2_with (first
        | ((with_reducible refine wpList_store_new ?hgd16 (.tmp 9) ?xx16 ?ho16 w3 PP ?hx16 ?hp16 h16 ?_); (case hgd16 => rfl); (case ho16 => rfl); (case hx16 => rfl); (case hp16 => rfl)
           intro W4 G4 B4 hzW4
           have g34 := (B4.out.block w1.heap.size (by omega)).trans G3.out
           have hb4 : Below w.heap.size w W4 := HB3.out.trans (B4.out.mono HB3.out.size)
           have hal := HAL.out W4 hb4
           have G34 := hide g34
           have HB4 := hide hb4
           have HAL6 := hide hal
           clear g34 hb4 hal G3 B4)
        | ((with_reducible refine wpList_load_pfx ?hgd17 (.tmp 7) ?ho17 w1.heap.size PP ?hx17 G34.out h16 ?_); (case ho17 => rfl); (case hgd17 => rfl); (case hx17 => rfl))
        | ((with_reducible refine wpList_load_pfx ?hgd18 (.tmp 9) ?ho18 w3.heap.size PP ?hx18 G4.out h16 ?_); (case ho18 => rfl); (case hgd18 => rfl); (case hx18 => rfl))
        | (go_at_call 9
           refine HAL6.out.mono ?_
           rintro e w7 ⟨rfl, hb7⟩
           have HB7 := hide (HB4.out.trans (hb7.mono HB4.out.size))
           clear hb7))
      go_ret
      exact ⟨rfl, HB7.out⟩
end Go.Proofs.YtgegloplhlkafaaDoor
