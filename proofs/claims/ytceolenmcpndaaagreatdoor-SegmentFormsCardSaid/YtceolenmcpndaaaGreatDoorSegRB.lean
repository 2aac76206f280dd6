/- The function literal of segment.Read: a segment that is read, or none; at lists of at most 100,000 bytes. -/
import Derived.Test.YtceolenmcpndaaaGreatDoorSegRA
import Derived.RegionTactic
set_option autoImplicit false
namespace Go.Proofs.YtceolenmcpndaaaGreatDoor
open Go.RowKit

theorem extract_all {α : Type} (a : Array α) (n : Nat) (h : a.size = n) : a.extract 0 (0 + n) = a := by subst h; simp
theorem whole_store (cs vs : Array Value) (h : cs.size = vs.size) : (cs.toList.take 0 ++ vs.toList ++ cs.toList.drop (0 + vs.size)).toArray = vs := by
  have e : cs.toList.drop (0 + vs.size) = [] := List.drop_eq_nil_of_le (by simp; omega)
  rw [e]; simp
/-- An aggregate stored over a whole block. -/
theorem wpList_store_whole {P : Program} {ops : Array Oper} {rest : List Oper} {o : Oper} {a : Act} {Q : Exit → Act → World → Prop} (W : World) (hgd : o.guard = none) (ty : TypeId) (p x : Operand) (ho : o.op = .store ty p x)
    (g : Nat) (t : TypeId) (cs vs : Array Value) (hx : a.eval x = .agg vs) (hp : a.eval p = .pointer (some ⟨g, 0, none⟩)) (hg : W.heap[g]? = some (.cells cs t (0, 0)))
    (hi : (P.info? ty).map (·.size) = some vs.size) (hsz : cs.size = vs.size) (h1 : ∀ v ∈ vs.toList, v.oneCell' = true)
    (h : ∀ W', Hid (W'.heap[g]? = some (.cells vs t (0, 0))) → Hid (W.grownBy W' (some g)) → wpList P ops Q rest (a.put o.dst undef) W') :
    wpList P ops Q (o :: rest) a W := by
  refine wpList_store_mid hgd ty p x ho g 0 hp t cs vs hx hg hi (by omega) h1 ?_
  rw [whole_store cs vs hsz]
  refine h _ (hide (setRow_heap W g cs vs _ _ hg)) (hide ?_)
  exact ⟨rfl, rfl, rfl, by simp [World.setRow], fun i hi hne => setRow_other W g i vs (by rintro rfl; exact hne rfl)⟩
theorem step_store_whole {P : Program} {ops : Array Oper} {o : Oper} {a : Act} {K : Act → World → Prop} {Q : Exit → Act → World → Prop} {E : Prop} (W : World) (hgd : o.guard = none) (ty : TypeId) (p x : Operand) (ho : o.op = .store ty p x)
    (g : Nat) (t : TypeId) (cs vs : Array Value) (hx : a.eval x = .agg vs) (hp : a.eval p = .pointer (some ⟨g, 0, none⟩)) (hg : W.heap[g]? = some (.cells cs t (0, 0)))
    (hi : (P.info? ty).map (·.size) = some vs.size) (hsz : cs.size = vs.size) (h1 : ∀ v ∈ vs.toList, v.oneCell' = true)
    (h : ∀ W', Hid (W'.heap[g]? = some (.cells vs t (0, 0))) → Hid (W.grownBy W' (some g)) → K (a.put o.dst undef) W') :
    if Region.wanted o (yielded ops a.tmps) = true then Oper.wp P o a W K Q else E := by
  have hw : Region.wanted o (yielded ops a.tmps) = true := by simp [Region.wanted, hgd]
  rw [if_pos hw]
  unfold Oper.wp execOp
  simp only [ho, hx, hp, Instr.storeAt, Instr.sureAddr, Sem.run_bind, Sem.run_pure, Result.andThen_ok, run_storeVar_mid W g 0 t ty cs vs hg hi (by omega) h1]
  rw [whole_store cs vs hsz]
  refine h _ (hide (setRow_heap W g cs vs _ _ hg)) (hide ?_)
  exact ⟨rfl, rfl, rfl, by simp [World.setRow], fun i hi hne => setRow_other W g i vs (by rintro rfl; exact hne rfl)⟩
theorem step_load_whole {P : Program} {ops : Array Oper} {o : Oper} {a : Act} {K : Act → World → Prop} {Q : Exit → Act → World → Prop} {E : Prop} (w : World) (hgd : o.guard = none) (ty : TypeId) (x : Operand) (ho : o.op = .load ty x)
    (g : Nat) (t : TypeId) (cs : Array Value) (d : TypeDesc) (hx : a.eval x = .pointer (some ⟨g, 0, none⟩)) (hg : w.heap[g]? = some (.cells cs t (0, 0))) (hu : P.underlying ty = some d)
    (hd : (match d with | .struct _ | .array _ _ => true | _ => false) = true) (hi : (P.info? ty).map (·.size) = some cs.size)
    (h : K (a.put o.dst (.agg cs)) w) : if Region.wanted o (yielded ops a.tmps) = true then Oper.wp P o a w K Q else E := by
  have hw : Region.wanted o (yielded ops a.tmps) = true := by simp [Region.wanted, hgd]
  rw [if_pos hw]
  unfold Oper.wp execOp
  simp only [ho, hx, Instr.loadAt, Instr.sureAddr, Sem.run_bind, Sem.run_pure, Result.andThen_ok, run_loadVar_mid w g 0 cs.size t ty cs (0, 0) d hg hu hd hi (by omega)]
  rw [extract_all cs _ rfl]
  exact h
theorem step_load_cell {P : Program} {ops : Array Oper} {o : Oper} {a : Act} {K : Act → World → Prop} {Q : Exit → Act → World → Prop} {E : Prop} (w : World) (hgd : o.guard = none) (ty : TypeId) (x : Operand) (ho : o.op = .load ty x)
    (p : Addr) (d : TypeDesc) (v : Value) (hx : a.eval x = .pointer (some p)) (hc : w.cell? p = some v) (hu : P.underlying ty = some d) (hd : (match d with | .struct _ | .array _ _ => true | _ => false) = false)
    (h : K (a.put o.dst v) w) : if Region.wanted o (yielded ops a.tmps) = true then Oper.wp P o a w K Q else E := by
  have hw : Region.wanted o (yielded ops a.tmps) = true := by simp [Region.wanted, hgd]
  rw [if_pos hw]
  have hagg : (isAgg ty).run P w = .ok false w := by
    unfold isAgg
    rw [Sem.run_bind, run_underlying hu w]
    cases d <;> simp_all
  have hl : (loadVar ty p).run P w = .ok v w := by
    simp [loadVar, Sem.run_bind, hagg, load, Sem.run, hc]
  unfold Oper.wp execOp
  simp only [ho, hx, Instr.loadAt, Instr.sureAddr, Sem.run_bind, Sem.run_pure, Result.andThen_ok, hl]
  exact h

def okF (width : Int) (b : List Int) : Bool := decide (width = 2 ∨ width = 4) && headOk width.toNat b
theorem readN_take (k j : Nat) : ∀ r : List Int, readN k (j + 1) r = readN k j r ++ [bigI ((r.drop (j * k)).take k)] := readN_snoc k j
/-- What the literal tells: validity of what was read. -/
theorem okF_valid (width K n : Int) (r : List Int) (hn : 0 ≤ n ∧ n < 256) (hb : Bs r) (hl : n.toNat * width.toNat ≤ r.length) : validF width [(K, readN width.toNat n.toNat r)] = okF width (K :: n :: r) := by
  simp only [validF, okF, List.all_cons, List.all_nil, Bool.and_true]
  by_cases hw : width = 2 ∨ width = 4
  · have e : rightF width (K, readN width.toNat n.toNat r) = headOk width.toNat (K :: n :: r) := by
      have := right_read width.toNat (by omega) K n r hn hb hl
      rwa [show ((width.toNat : Nat) : Int) = width by omega] at this
    rw [e]; simp [hw]
  · simp [hw]
theorem okF_short (width K : Int) : okF width [K] = false := by simp [okF, headOk]
theorem okF_zero (width K n : Int) (r : List Int) (hn : n ≤ 0) : okF width (K :: n :: r) = false := by
  have : headOk width.toNat (K :: n :: r) = false := by simp only [headOk, decide_eq_false_iff_not]; omega
  simp [okF, this]
theorem okF_fail (width K n : Int) (r : List Int) (h : ¬ (width = 2 ∨ width = 4) ∨ r.length < n.toNat * width.toNat) : okF width (K :: n :: r) = false := by
  rcases h with h | h
  · simp [okF, h]
  · have : headOk width.toNat (K :: n :: r) = false := by simp only [headOk, decide_eq_false_iff_not]; omega
    simp [okF, this]
theorem okF_full (width K : Int) (t : List Int) (hn : 0 ≤ t.headD 0 ∧ t.headD 0 < 256) (hb : Bs (t.drop 1)) (hl : (t.headD 0).toNat * width.toNat ≤ (t.drop 1).length) :
    validF width [(K, readN width.toNat (t.headD 0).toNat (t.drop 1))] = okF width (K :: t) := by
  match t with
  | [] =>
    rw [okF_short]
    have : rightF width (K, readN width.toNat 0 []) = false := by simp [rightF, shapeF, readN_len]
    simp only [List.headD_nil, validF, List.all_cons, List.all_nil, Bool.and_true]
    rw [show (0 : Int).toNat = 0 from rfl, show (List.drop 1 ([] : List Int)) = [] from rfl, this]; rfl
  | n :: r => exact okF_valid width K n r hn hb hl
theorem okF_part (width K : Int) (t : List Int) (h : ¬ (width = 2 ∨ width = 4) ∨ (t.drop 1).length < (t.headD 0).toNat * width.toNat) : okF width (K :: t) = false := by
  match t with
  | [] => exact okF_short width K
  | n :: r => exact okF_fail width K n r h
theorem sound_one (K : Int) (ns : List Int) (hl : ns.length ≤ 100000) (hu : Us ns) : Sound [(K, ns)] := ⟨by simp, fun s hs => by
  have : s = (K, ns) := by simpa using hs
  subst this
  exact ⟨by show ns.length ≤ _; omega, hu⟩⟩

set_option maxRecDepth 100000 in
set_option maxHeartbeats 8000000 in
theorem read1_any (gr bR bW : Nat) (width : Int) (b : List Int) (at_ : Int) (w : World) (hr : Rdr w gr b at_) (hbs : Bs b) (hb : b ≠ []) (ha : At at_ b) (cR : w.cell? ⟨bR, 0, none⟩ = some (.pointer (some ⟨gr, 0, none⟩)))
    (cW : w.cell? ⟨bW, 0, none⟩ = some (.int .i64 width)) (nR : bR ≠ gr) (nW : bW ≠ gr) (hl : b.length ≤ 100000) :
    Calls Tryz.prog 29 #[.pointer (some ⟨bR, 0, none⟩), .pointer (some ⟨bW, 0, none⟩)] w fun e w' => ∃ x A m c, e = .returned (.tuple #[.agg #[.int .i64 x, .slice A m c], .bool (okF width b)]) ∧ w.grownBy w' (some gr) ∧
      (okF width b = true → x = b.headD 0 ∧ w'.ownsRow w.heap.size 41 1 (.slice A m c) (b.getD 1 0).toNat (uV (readN width.toNat (b.getD 1 0).toNat (b.drop 2))) ∧ ∃ at', Rdr w' gr (restB width.toNat b) at' ∧ At at' (restB width.toNat b)) := by
  obtain ⟨iu, hu0, hu1, hu2, hu3⟩ := info_parts u32_info
  match b, hb with
  | K :: t, _ =>
  have hKb := hbs K (by simp)
  have hK0 := hKb.1
  have hK1 := hKb.2
  have hbt : Bs t := fun x hx => hbs x (by simp [hx])
  have hbr : Bs (t.drop 1) := hbt.drop 1
  have hn : 0 ≤ t.headD 0 ∧ t.headD 0 < 256 := by
    match t with
    | [] => simp
    | n :: r => exact hbt n (by simp)
  have htl : (t.drop 1).length ≤ 100000 := by simp at hl; rw [List.length_drop]; omega
  have eN : ((K :: t).getD 1 0) = t.headD 0 := by cases t <;> rfl
  have eR : restB width.toNat (K :: t) = (t.drop 1).drop ((t.headD 0).toNat * width.toNat) := by
    unfold restB
    rw [eN, List.drop_drop]
    rw [show 2 + (t.headD 0).toNat * width.toNat = (1 + (t.headD 0).toNat * width.toNat) + 1 by omega, List.drop_succ_cons]
  have eD : ((K :: t).drop 2) = t.drop 1 := rfl
  have eH : ((K :: t).headD 0) = K := rfl
  rw [eR, eN, eD, eH]
  have hfull := okF_full width K t hn hbr
  have hpart := okF_part width K t
  have hM0 : Mid w (w.alloc (Obj.cells #[.int .i64 0, .slice none 0 0] 40)) gr bR bW w.heap.size width 0 (.slice none 0 0) 0 [] (K :: t) at_ := by
    have hB : Below w.heap.size w (w.alloc (Obj.cells #[.int .i64 0, .slice none 0 0] 40)) := (Below.refl _ _).alloc (Nat.le_refl _) _
    exact ⟨heap_alloc_new _ _, by simpa [uV] using World.ownsRow_nil _ _ _ _, cell_below cR hB, cell_below cW hB, only_of_below hB _, hr.alloc _, ha, hr.lt, Nat.le_refl _, World.block_lt_of_cell? w ⟨bW, 0, none⟩ cW, World.block_lt_of_cell? w ⟨bR, 0, none⟩ cR⟩
  have hN1 := num_one gr (K :: t) at_ _ hM0.rdr hbs ha
  generalize okF width (K :: t) = OK at *
  clear eN eR eD eH
  obtain ⟨n, hne⟩ : ∃ n, n = t.headD 0 := ⟨_, rfl⟩
  rw [← hne] at hn hfull hpart ⊢
  have HNE := Lib.hid hne
  clear hne
  obtain ⟨r, hre⟩ : ∃ r, r = t.drop 1 := ⟨_, rfl⟩
  rw [← hre] at hbr htl hfull hpart ⊢
  have HRE := Lib.hid hre
  clear hre
  obtain ⟨hn0, hn1⟩ := hn
  have HN1 := hide hN1
  have HM0 := hide hM0
  have HBS := hide hbs
  have HBT := hide hbt
  have HBR := hide hbr
  have HFL := hide hfull
  have HPT := hide hpart
  have h1 := hM0.cr
  clear hM0 hN1 hbs hbt hbr hfull hpart hr ha
  go_enter Tryz.func29, Tryz.ntmps29
  go_wp2_with fail
  refine HN1.out.mono ?_
  rintro e w1 ⟨o1, rfl, hg1, at1, hr1, ha1⟩
  have hM1 := HM0.out.read hg1 hr1 ha1 nR nW
  have hN2 := num_one gr t at1 w1 hr1 HBT.out ha1
  rw [← HNE.out, ← HRE.out] at hN2
  have h2 := hM1.cr
  have HM1 := hide hM1
  have HN2 := hide hN2
  clear hM1 hN2 hg1 hr1 ha1 HN1 HM0 h1
  go_wp2_with fail
  refine HN2.out.mono ?_
  rintro e w2 ⟨o2, rfl, hg2, at2, hr2, ha2⟩
  have hM2 := HM1.out.read hg2 hr2 ha2 nR nW
  have fB : w2.frozen? ⟨w.heap.size, 0, none⟩ = false := frozen_of_row w2 _ 0 _ _ hM2.b5
  have cB : w2.cell? ⟨w.heap.size, 0, none⟩ = some (.int .i64 0) := by rw [cell_of_row w2 _ 0 _ _ _ hM2.b5]; rfl
  have hM3 := hM2.kind K
  have HM3 := hide hM3
  clear hM2 hM3 hg2 hr2 ha2 HN2 HM1 h2
  go_wp2_with fail
  go_loopw [24] (fun i wi => ∃ j : Nat, j ≤ n.toNat ∧ i = .int .u32 j ∧ (j = 0 ∨ 1 ≤ width ∧ width ≤ 4) ∧ j * width.toNat ≤ r.length ∧ ∃ at', ∃ sv, Mid w wi gr bR bW w.heap.size width K sv j (readN width.toNat j r) (r.drop (j * width.toNat)) at') (fun i _ => n.toNat - (intOf i).toNat)
  case atStart => exact ⟨0, Nat.zero_le _, rfl, .inl rfl, by simp, at2, _, by simpa [readN] using HM3.out⟩
  case round =>
    obtain ⟨j, hj, rfl, hgood, hjl, at3, sv, hM⟩ := hrel
    have h3 := hM.cr
    have h4 := hM.cw
    by_cases jlt : j < n.toNat
    · by_cases hin : (1 ≤ width ∧ width ≤ 4) ∧ (j + 1) * width.toNat ≤ r.length
      · obtain ⟨k, rfl⟩ : ∃ k : Nat, width = (k : Int) := ⟨width.toNat, by omega⟩
        have ek : ((k : Int)).toNat = k := Int.toNat_natCast k
        rw [ek] at hin hjl hM
        have hsm : (j + 1) * k = j * k + k := Nat.succ_mul j k
        have hdl : k ≤ (r.drop (j * k)).length := by rw [List.length_drop]; omega
        have hN := num_yes gr (r.drop (j * k)) at3 k wr hM.rdr (HBR.out.drop _) hM.at_ (by omega) (by omega) hdl
        have hrs := readN_snoc k j r
        have hdd : (r.drop (j * k)).drop k = r.drop ((j + 1) * k) := by rw [List.drop_drop, hsm]
        have HRS := Lib.hid hrs
        have HDD := Lib.hid hdd
        have HEK := Lib.hid ek
        have HIN := Lib.hid hin
        generalize bigI ((r.drop (j * k)).take k) = x at *
        have hj0 : (0 : Int) ≤ (j : Int) := Int.natCast_nonneg _
        have hj1 : (j : Int) < n := by omega
        have HN := hide hN
        have HM := hide hM
        clear hN hM hdl hrs hdd ek hjl hin hsm hgood
        go_wp2_with fail
        refine HN.out.mono ?_
        rintro e w4 ⟨rfl, hg4, at4, hr4, ha4⟩
        have hM4 := HM.out.read hg4 hr4 ha4 nR nW
        have cS : w4.cell? ⟨w.heap.size, 1, none⟩ = some sv := by rw [cell_of_row w4 _ 1 _ _ _ hM4.b5]; rfl
        have hz4 : w.heap.size + 1 ≤ w4.heap.size := hM4.lt5
        have hz5 : w.heap.size < w4.heap.size := hz4
        have HM4 := hide hM4
        clear hM4 hg4 hr4 ha4 HN HM h3 h4
        go_wp2_with (at_builtin
                     refine wpList_append_lies _ rfl (.tmp 36) (.tmp 38) _ rfl (w.heap.size + 1) 41 iu _ 1 4 Tryz.underlying38 hu0 hu1 hu2 hu3 rfl (by omega) sv j _ rfl (HM4.out.own.alloc _)
                       ⟨w4.heap.size, 0, none⟩ 1 1 [.int .u32 x] rfl rfl (World.news_of_block (cs := #[.int .u32 x]) (t := 41) (fr := (0, 0)) (heap_alloc_new w4 _)) (by simp [Value.oneCell'])
                       (by omega) (by simp only [maxLen]; omega) (by omega) (by simp; omega) _ rfl ?_
                     intro g cap w5 hown5 hgrow hat hltg
                     obtain ⟨q1, q2, Q3⟩ := HM4.out.push hgrow hown5
                     clear hown5 hgrow hat)
        go_roundw
        case rel => exact ⟨j + 1, by omega, by go_num, .inr HIN.out.1, by rw [HEK.out]; exact HIN.out.2, at4, _, by rw [HEK.out, HRS.out, ← HDD.out]; exact Q3.out⟩
        case measure => simp [intOf]; omega
      · have hno : width < 1 ∨ 4 < width ∨ ((r.drop (j * width.toNat)).length : Int) < width := by
          by_cases hw : 1 ≤ width ∧ width ≤ 4
          · have : ¬ (j + 1) * width.toNat ≤ r.length := fun h => hin ⟨hw, h⟩
            rw [Nat.succ_mul] at this
            rw [List.length_drop]; omega
          · omega
        have hOK : OK = false := by
          refine HPT.out ?_
          by_cases hw : 1 ≤ width ∧ width ≤ 4
          · have h1 : ¬ (j + 1) * width.toNat ≤ r.length := fun h => hin ⟨hw, h⟩
            have h2 : (j + 1) * width.toNat ≤ n.toNat * width.toNat := Nat.mul_le_mul_right _ jlt
            right; omega
          · left; omega
        have hN := num_no gr (r.drop (j * width.toNat)) at3 width wr hM.rdr hno
        have hj0 : (0 : Int) ≤ (j : Int) := Int.natCast_nonneg _
        have hj1 : (j : Int) < n := by omega
        have HOK := Lib.hid hOK
        have HN := hide hN
        have HM := hide hM
        clear hN hM hno hOK hjl hin hgood
        go_wp2_with fail
        refine HN.out.mono ?_
        rintro e w4 ⟨rfl, hg4, hr4⟩
        have hM4 := HM.out.read hg4 hr4 HM.out.at_ nR nW
        have HM4 := hide hM4
        clear hM4 hg4 hr4 HN HM h3 h4
        have hss := seg_size
        have HSS := Lib.hid hss
        clear hss
        go_wp2_with ((with_reducible refine wpList_store_whole w4 ?hgd1 _ (.tmp 2) ?xx1 ?ho1 w.heap.size 40 #[.int .i64 K, sv] #[.int .i64 0, .slice none 0 0] ?hx1 ?hp1 HM4.out.b5 HSS.out ?hs1 ?hq1 ?_); (case hgd1 => rfl); (case ho1 => rfl); (case hx1 => rfl); (case hp1 => rfl); (case hs1 => rfl); (case hq1 => simp [Value.oneCell'])
                     intro W5 G5 O5)
        refine bodyPost_ret (v := .tuple #[.agg #[.int .i64 0, .slice none 0 0], .bool false])
          (results_cellT2 rfl _ _ w.heap.size 40 _ (0, 0) _ rfl rfl G5.out Tryz.underlying40 rfl HSS.out) rfl ?_
        have hg5 : w.grownBy W5 (some gr) := by
          have h2 := O5.out
          have h := HM4.out
          exact ⟨h2.os.trans h.gro.os, h2.tape.trans h.gro.tape, h2.output.trans h.gro.output, Nat.le_trans h.gro.size h2.size, fun i hi hne => (h2.block i (Nat.lt_of_lt_of_le hi h.gro.size) (by intro e; injection e; omega)).trans (h.gro.block i hi hne)⟩
        exact ⟨_, _, _, _, by rw [HOK.out], hg5, fun e => by rw [HOK.out] at e; cases e⟩
    · have hjn : j = n.toNat := by omega
      subst hjn
      have hval := HFL.out hjl
      have hso : Sound [(K, readN width.toNat n.toNat r)] := by
        refine sound_one _ _ (by rw [readN_len]; omega) ?_
        rcases hgood with h0 | h0
        · rw [h0]; intro x hx; simp [readN] at hx
        · exact readN_us _ _ (by omega) _ HBR.out
      have hj1 : ¬ (n : Int) < n := by omega
      have hnn : ((n.toNat : Nat) : Int) = n := by omega
      rw [hnn]
      obtain ⟨ns, hns⟩ : ∃ ns, ns = readN width.toNat n.toNat r := ⟨_, rfl⟩
      obtain ⟨rest, hre⟩ : ∃ rest, rest = r.drop (n.toNat * width.toNat) := ⟨_, rfl⟩
      rw [← hns] at hval hso hM
      rw [← hre] at hM
      have HNS := Lib.hid hns
      have HRS := Lib.hid hre
      clear hns hre
      have HVAL := Lib.hid hval
      have HSO := hide hso
      have HM := hide hM
      clear hval hso hM hjl hgood h3 h4
      go_wp2_with fail
      have hss := seg_size
      have HSS := Lib.hid hss
      have hon : ∀ v ∈ (#[.int .i64 K, sv] : Array Value).toList, v.oneCell' = true := by
        obtain ⟨A', c', e, _⟩ := slice_of_own HM.out.own
        rw [e]; simp [Value.oneCell']
      have HON := hide hon
      have hfin : ∀ W, Hid (Mid w W gr bR bW w.heap.size width K sv n.toNat ns rest at3) → ∃ x A m c, Ending.returned (.tuple #[.agg #[.int .i64 K, sv], .bool OK]) = .returned (.tuple #[.agg #[.int .i64 x, .slice A m c], .bool OK]) ∧ w.grownBy W (some gr) ∧
          (OK = true → x = K ∧ W.ownsRow w.heap.size 41 1 (.slice A m c) n.toNat (uV (readN width.toNat n.toNat r)) ∧ ∃ at', Rdr W gr (r.drop (n.toNat * width.toNat)) at' ∧ At at' (r.drop (n.toNat * width.toNat))) := fun W hW => by
        rw [← HNS.out, ← HRS.out]
        obtain ⟨A', c', e, _⟩ := slice_of_own hW.out.own
        exact ⟨K, A', n.toNat, c', by rw [e], hW.out.gro, fun _ => ⟨rfl, by rw [← e]; exact own_base hW.out.own (by omega), at3, hW.out.rdr, hW.out.at_⟩⟩
      have HFIN := hide hfin
      have MD := hide HM.out.drew
      clear hss hon hfin HM
      refine wp_region_any (by kernel_rfl) ?_
      change wpAny _ _ _ _ _ _ _ wr.drew
      refine wpAny_ready (rs := [0, 1, 2]) (by kernel_rfl) (by simp) ?_
      refine (AllReady.cons rfl (fun K_ hK => ?_) (AllReady.cons rfl (fun K_ hK => ?_) (AllReady.cons rfl (fun K_ hK => ?_) AllReady.nil)))
      · refine step_load_whole wr.drew ?hgd101 _ (.tmp 2) ?ho101 w.heap.size 40 #[.int .i64 K, sv] _ ?hx101 MD.out.b5 Tryz.underlying40 ?hd101 HSS.out ?_; (case hgd101 => rfl); (case ho101 => rfl); (case hx101 => rfl); (case hd101 => rfl)
        refine hK _ _ ?_
        refine wpAny_ready (rs := [1, 2]) (by kernel_rfl) (by simp) ?_
        refine (AllReady.cons rfl (fun K_ hK => ?_) (AllReady.cons rfl (fun K_ hK => ?_) AllReady.nil))
        · refine step_load_cell wr.drew ?hgd102 _ (.tmp 1) ?ho102 ⟨bW, 0, none⟩ _ (.int .i64 width) ?hx102 MD.out.cw Tryz.underlying3 ?hd102 ?_; (case hgd102 => rfl); (case ho102 => rfl); (case hx102 => rfl); (case hd102 => rfl)
          refine hK _ _ ?_
          refine wpAny_ready (rs := [2]) (by kernel_rfl) (by simp) ?_
          refine (AllReady.cons rfl (fun K_ hK => ?_) AllReady.nil)
          refine step_load_whole wr.drew ?hgd103 _ (.tmp 2) ?ho103 w.heap.size 40 #[.int .i64 K, sv] _ ?hx103 MD.out.b5 Tryz.underlying40 ?hd103 HSS.out ?_; (case hgd103 => rfl); (case ho103 => rfl); (case hx103 => rfl); (case hd103 => rfl)
          refine hK _ _ ?_
          refine wpAny_ready (rs := [3]) (by kernel_rfl) (by simp) ?_
          refine (AllReady.cons rfl (fun K_ hK => ?_) AllReady.nil)
          go_simp
          have M104 := hide (MD.out.alloc (Obj.cells #[.int .i64 K, sv] 40))
          have B104 := hide (heap_alloc_new wr.drew (Obj.cells #[.int .i64 K, sv] 40))
          refine hK _ _ ?_
          refine wpAny_ready (rs := [4]) (by kernel_rfl) (by simp) ?_
          refine (AllReady.cons rfl (fun K_ hK => ?_) AllReady.nil)
          go_simp
          refine (one_valid B104.out M104.out.own HSO.out).mono ?_
          rintro e W105 ⟨rfl, hb105⟩
          rw [HVAL.out]
          have M105 := hide (M104.out.below hb105)
          refine hK _ _ ?_
          refine wpAny_ready (rs := [5]) (by kernel_rfl) (by simp) ?_
          refine (AllReady.cons rfl (fun K_ hK => ?_) AllReady.nil)
          refine step_store_whole W105 ?hgd106 _ (.tmp 2) (.tmp 42) ?ho106 w.heap.size 40 #[.int .i64 K, sv] #[.int .i64 K, sv] ?hx106 ?hp106 M105.out.b5 HSS.out ?hs106 HON.out ?_; (case hgd106 => rfl); (case ho106 => rfl); (case hx106 => rfl); (case hp106 => rfl); (case hs106 => rfl)
          intro W106 F106 O106
          have M106 := hide (M105.out.store F106.out O106.out)
          refine hK _ _ ?_
          refine wpAny_ready (rs := [6]) (by kernel_rfl) (by simp) ?_
          refine (AllReady.cons rfl (fun K_ hK => ?_) AllReady.nil)
          go_simp
          refine hK _ _ ?_
          refine wpAny_done (by kernel_rfl) ?_ _
          go_wp2
          refine bodyPost_ret (v := .tuple #[.agg #[.int .i64 K, sv], .bool OK]) (results_cellT2 rfl _ _ w.heap.size 40 _ (0, 0) _ rfl rfl M106.out.b5 Tryz.underlying40 rfl HSS.out) rfl ?_
          exact HFIN.out _ M106
        · refine step_load_whole wr.drew ?hgd108 _ (.tmp 2) ?ho108 w.heap.size 40 #[.int .i64 K, sv] _ ?hx108 MD.out.b5 Tryz.underlying40 ?hd108 HSS.out ?_; (case hgd108 => rfl); (case ho108 => rfl); (case hx108 => rfl); (case hd108 => rfl)
          refine hK _ _ ?_
          refine wpAny_ready (rs := [1, 3]) (by kernel_rfl) (by simp) ?_
          refine (AllReady.cons rfl (fun K_ hK => ?_) (AllReady.cons rfl (fun K_ hK => ?_) AllReady.nil))
          · refine step_load_cell wr.drew ?hgd109 _ (.tmp 1) ?ho109 ⟨bW, 0, none⟩ _ (.int .i64 width) ?hx109 MD.out.cw Tryz.underlying3 ?hd109 ?_; (case hgd109 => rfl); (case ho109 => rfl); (case hx109 => rfl); (case hd109 => rfl)
            refine hK _ _ ?_
            refine wpAny_ready (rs := [3]) (by kernel_rfl) (by simp) ?_
            refine (AllReady.cons rfl (fun K_ hK => ?_) AllReady.nil)
            go_simp
            have M110 := hide (MD.out.alloc (Obj.cells #[.int .i64 K, sv] 40))
            have B110 := hide (heap_alloc_new wr.drew (Obj.cells #[.int .i64 K, sv] 40))
            refine hK _ _ ?_
            refine wpAny_ready (rs := [4]) (by kernel_rfl) (by simp) ?_
            refine (AllReady.cons rfl (fun K_ hK => ?_) AllReady.nil)
            go_simp
            refine (one_valid B110.out M110.out.own HSO.out).mono ?_
            rintro e W111 ⟨rfl, hb111⟩
            rw [HVAL.out]
            have M111 := hide (M110.out.below hb111)
            refine hK _ _ ?_
            refine wpAny_ready (rs := [5]) (by kernel_rfl) (by simp) ?_
            refine (AllReady.cons rfl (fun K_ hK => ?_) AllReady.nil)
            refine step_store_whole W111 ?hgd112 _ (.tmp 2) (.tmp 42) ?ho112 w.heap.size 40 #[.int .i64 K, sv] #[.int .i64 K, sv] ?hx112 ?hp112 M111.out.b5 HSS.out ?hs112 HON.out ?_; (case hgd112 => rfl); (case ho112 => rfl); (case hx112 => rfl); (case hp112 => rfl); (case hs112 => rfl)
            intro W112 F112 O112
            have M112 := hide (M111.out.store F112.out O112.out)
            refine hK _ _ ?_
            refine wpAny_ready (rs := [6]) (by kernel_rfl) (by simp) ?_
            refine (AllReady.cons rfl (fun K_ hK => ?_) AllReady.nil)
            go_simp
            refine hK _ _ ?_
            refine wpAny_done (by kernel_rfl) ?_ _
            go_wp2
            refine bodyPost_ret (v := .tuple #[.agg #[.int .i64 K, sv], .bool OK]) (results_cellT2 rfl _ _ w.heap.size 40 _ (0, 0) _ rfl rfl M112.out.b5 Tryz.underlying40 rfl HSS.out) rfl ?_
            exact HFIN.out _ M112
          · go_simp
            have M114 := hide (MD.out.alloc (Obj.cells #[.int .i64 K, sv] 40))
            have B114 := hide (heap_alloc_new wr.drew (Obj.cells #[.int .i64 K, sv] 40))
            refine hK _ _ ?_
            refine wpAny_ready (rs := [1]) (by kernel_rfl) (by simp) ?_
            refine (AllReady.cons rfl (fun K_ hK => ?_) AllReady.nil)
            refine step_load_cell (World.alloc wr.drew (Obj.cells #[.int .i64 K, sv] 40)) ?hgd115 _ (.tmp 1) ?ho115 ⟨bW, 0, none⟩ _ (.int .i64 width) ?hx115 M114.out.cw Tryz.underlying3 ?hd115 ?_; (case hgd115 => rfl); (case ho115 => rfl); (case hx115 => rfl); (case hd115 => rfl)
            refine hK _ _ ?_
            refine wpAny_ready (rs := [4]) (by kernel_rfl) (by simp) ?_
            refine (AllReady.cons rfl (fun K_ hK => ?_) AllReady.nil)
            go_simp
            refine (one_valid B114.out M114.out.own HSO.out).mono ?_
            rintro e W116 ⟨rfl, hb116⟩
            rw [HVAL.out]
            have M116 := hide (M114.out.below hb116)
            refine hK _ _ ?_
            refine wpAny_ready (rs := [5]) (by kernel_rfl) (by simp) ?_
            refine (AllReady.cons rfl (fun K_ hK => ?_) AllReady.nil)
            refine step_store_whole W116 ?hgd117 _ (.tmp 2) (.tmp 42) ?ho117 w.heap.size 40 #[.int .i64 K, sv] #[.int .i64 K, sv] ?hx117 ?hp117 M116.out.b5 HSS.out ?hs117 HON.out ?_; (case hgd117 => rfl); (case ho117 => rfl); (case hx117 => rfl); (case hp117 => rfl); (case hs117 => rfl)
            intro W117 F117 O117
            have M117 := hide (M116.out.store F117.out O117.out)
            refine hK _ _ ?_
            refine wpAny_ready (rs := [6]) (by kernel_rfl) (by simp) ?_
            refine (AllReady.cons rfl (fun K_ hK => ?_) AllReady.nil)
            go_simp
            refine hK _ _ ?_
            refine wpAny_done (by kernel_rfl) ?_ _
            go_wp2
            refine bodyPost_ret (v := .tuple #[.agg #[.int .i64 K, sv], .bool OK]) (results_cellT2 rfl _ _ w.heap.size 40 _ (0, 0) _ rfl rfl M117.out.b5 Tryz.underlying40 rfl HSS.out) rfl ?_
            exact HFIN.out _ M117
      · refine step_load_cell wr.drew ?hgd119 _ (.tmp 1) ?ho119 ⟨bW, 0, none⟩ _ (.int .i64 width) ?hx119 MD.out.cw Tryz.underlying3 ?hd119 ?_; (case hgd119 => rfl); (case ho119 => rfl); (case hx119 => rfl); (case hd119 => rfl)
        refine hK _ _ ?_
        refine wpAny_ready (rs := [0, 2]) (by kernel_rfl) (by simp) ?_
        refine (AllReady.cons rfl (fun K_ hK => ?_) (AllReady.cons rfl (fun K_ hK => ?_) AllReady.nil))
        · refine step_load_whole wr.drew ?hgd120 _ (.tmp 2) ?ho120 w.heap.size 40 #[.int .i64 K, sv] _ ?hx120 MD.out.b5 Tryz.underlying40 ?hd120 HSS.out ?_; (case hgd120 => rfl); (case ho120 => rfl); (case hx120 => rfl); (case hd120 => rfl)
          refine hK _ _ ?_
          refine wpAny_ready (rs := [2]) (by kernel_rfl) (by simp) ?_
          refine (AllReady.cons rfl (fun K_ hK => ?_) AllReady.nil)
          refine step_load_whole wr.drew ?hgd121 _ (.tmp 2) ?ho121 w.heap.size 40 #[.int .i64 K, sv] _ ?hx121 MD.out.b5 Tryz.underlying40 ?hd121 HSS.out ?_; (case hgd121 => rfl); (case ho121 => rfl); (case hx121 => rfl); (case hd121 => rfl)
          refine hK _ _ ?_
          refine wpAny_ready (rs := [3]) (by kernel_rfl) (by simp) ?_
          refine (AllReady.cons rfl (fun K_ hK => ?_) AllReady.nil)
          go_simp
          have M122 := hide (MD.out.alloc (Obj.cells #[.int .i64 K, sv] 40))
          have B122 := hide (heap_alloc_new wr.drew (Obj.cells #[.int .i64 K, sv] 40))
          refine hK _ _ ?_
          refine wpAny_ready (rs := [4]) (by kernel_rfl) (by simp) ?_
          refine (AllReady.cons rfl (fun K_ hK => ?_) AllReady.nil)
          go_simp
          refine (one_valid B122.out M122.out.own HSO.out).mono ?_
          rintro e W123 ⟨rfl, hb123⟩
          rw [HVAL.out]
          have M123 := hide (M122.out.below hb123)
          refine hK _ _ ?_
          refine wpAny_ready (rs := [5]) (by kernel_rfl) (by simp) ?_
          refine (AllReady.cons rfl (fun K_ hK => ?_) AllReady.nil)
          refine step_store_whole W123 ?hgd124 _ (.tmp 2) (.tmp 42) ?ho124 w.heap.size 40 #[.int .i64 K, sv] #[.int .i64 K, sv] ?hx124 ?hp124 M123.out.b5 HSS.out ?hs124 HON.out ?_; (case hgd124 => rfl); (case ho124 => rfl); (case hx124 => rfl); (case hp124 => rfl); (case hs124 => rfl)
          intro W124 F124 O124
          have M124 := hide (M123.out.store F124.out O124.out)
          refine hK _ _ ?_
          refine wpAny_ready (rs := [6]) (by kernel_rfl) (by simp) ?_
          refine (AllReady.cons rfl (fun K_ hK => ?_) AllReady.nil)
          go_simp
          refine hK _ _ ?_
          refine wpAny_done (by kernel_rfl) ?_ _
          go_wp2
          refine bodyPost_ret (v := .tuple #[.agg #[.int .i64 K, sv], .bool OK]) (results_cellT2 rfl _ _ w.heap.size 40 _ (0, 0) _ rfl rfl M124.out.b5 Tryz.underlying40 rfl HSS.out) rfl ?_
          exact HFIN.out _ M124
        · refine step_load_whole wr.drew ?hgd126 _ (.tmp 2) ?ho126 w.heap.size 40 #[.int .i64 K, sv] _ ?hx126 MD.out.b5 Tryz.underlying40 ?hd126 HSS.out ?_; (case hgd126 => rfl); (case ho126 => rfl); (case hx126 => rfl); (case hd126 => rfl)
          refine hK _ _ ?_
          refine wpAny_ready (rs := [0, 3]) (by kernel_rfl) (by simp) ?_
          refine (AllReady.cons rfl (fun K_ hK => ?_) (AllReady.cons rfl (fun K_ hK => ?_) AllReady.nil))
          · refine step_load_whole wr.drew ?hgd127 _ (.tmp 2) ?ho127 w.heap.size 40 #[.int .i64 K, sv] _ ?hx127 MD.out.b5 Tryz.underlying40 ?hd127 HSS.out ?_; (case hgd127 => rfl); (case ho127 => rfl); (case hx127 => rfl); (case hd127 => rfl)
            refine hK _ _ ?_
            refine wpAny_ready (rs := [3]) (by kernel_rfl) (by simp) ?_
            refine (AllReady.cons rfl (fun K_ hK => ?_) AllReady.nil)
            go_simp
            have M128 := hide (MD.out.alloc (Obj.cells #[.int .i64 K, sv] 40))
            have B128 := hide (heap_alloc_new wr.drew (Obj.cells #[.int .i64 K, sv] 40))
            refine hK _ _ ?_
            refine wpAny_ready (rs := [4]) (by kernel_rfl) (by simp) ?_
            refine (AllReady.cons rfl (fun K_ hK => ?_) AllReady.nil)
            go_simp
            refine (one_valid B128.out M128.out.own HSO.out).mono ?_
            rintro e W129 ⟨rfl, hb129⟩
            rw [HVAL.out]
            have M129 := hide (M128.out.below hb129)
            refine hK _ _ ?_
            refine wpAny_ready (rs := [5]) (by kernel_rfl) (by simp) ?_
            refine (AllReady.cons rfl (fun K_ hK => ?_) AllReady.nil)
            refine step_store_whole W129 ?hgd130 _ (.tmp 2) (.tmp 42) ?ho130 w.heap.size 40 #[.int .i64 K, sv] #[.int .i64 K, sv] ?hx130 ?hp130 M129.out.b5 HSS.out ?hs130 HON.out ?_; (case hgd130 => rfl); (case ho130 => rfl); (case hx130 => rfl); (case hp130 => rfl); (case hs130 => rfl)
            intro W130 F130 O130
            have M130 := hide (M129.out.store F130.out O130.out)
            refine hK _ _ ?_
            refine wpAny_ready (rs := [6]) (by kernel_rfl) (by simp) ?_
            refine (AllReady.cons rfl (fun K_ hK => ?_) AllReady.nil)
            go_simp
            refine hK _ _ ?_
            refine wpAny_done (by kernel_rfl) ?_ _
            go_wp2
            refine bodyPost_ret (v := .tuple #[.agg #[.int .i64 K, sv], .bool OK]) (results_cellT2 rfl _ _ w.heap.size 40 _ (0, 0) _ rfl rfl M130.out.b5 Tryz.underlying40 rfl HSS.out) rfl ?_
            exact HFIN.out _ M130
          · go_simp
            have M132 := hide (MD.out.alloc (Obj.cells #[.int .i64 K, sv] 40))
            have B132 := hide (heap_alloc_new wr.drew (Obj.cells #[.int .i64 K, sv] 40))
            refine hK _ _ ?_
            refine wpAny_ready (rs := [0, 4]) (by kernel_rfl) (by simp) ?_
            refine (AllReady.cons rfl (fun K_ hK => ?_) (AllReady.cons rfl (fun K_ hK => ?_) AllReady.nil))
            · refine step_load_whole (World.alloc wr.drew (Obj.cells #[.int .i64 K, sv] 40)) ?hgd133 _ (.tmp 2) ?ho133 w.heap.size 40 #[.int .i64 K, sv] _ ?hx133 M132.out.b5 Tryz.underlying40 ?hd133 HSS.out ?_; (case hgd133 => rfl); (case ho133 => rfl); (case hx133 => rfl); (case hd133 => rfl)
              refine hK _ _ ?_
              refine wpAny_ready (rs := [4]) (by kernel_rfl) (by simp) ?_
              refine (AllReady.cons rfl (fun K_ hK => ?_) AllReady.nil)
              go_simp
              refine (one_valid B132.out M132.out.own HSO.out).mono ?_
              rintro e W134 ⟨rfl, hb134⟩
              rw [HVAL.out]
              have M134 := hide (M132.out.below hb134)
              refine hK _ _ ?_
              refine wpAny_ready (rs := [5]) (by kernel_rfl) (by simp) ?_
              refine (AllReady.cons rfl (fun K_ hK => ?_) AllReady.nil)
              refine step_store_whole W134 ?hgd135 _ (.tmp 2) (.tmp 42) ?ho135 w.heap.size 40 #[.int .i64 K, sv] #[.int .i64 K, sv] ?hx135 ?hp135 M134.out.b5 HSS.out ?hs135 HON.out ?_; (case hgd135 => rfl); (case ho135 => rfl); (case hx135 => rfl); (case hp135 => rfl); (case hs135 => rfl)
              intro W135 F135 O135
              have M135 := hide (M134.out.store F135.out O135.out)
              refine hK _ _ ?_
              refine wpAny_ready (rs := [6]) (by kernel_rfl) (by simp) ?_
              refine (AllReady.cons rfl (fun K_ hK => ?_) AllReady.nil)
              go_simp
              refine hK _ _ ?_
              refine wpAny_done (by kernel_rfl) ?_ _
              go_wp2
              refine bodyPost_ret (v := .tuple #[.agg #[.int .i64 K, sv], .bool OK]) (results_cellT2 rfl _ _ w.heap.size 40 _ (0, 0) _ rfl rfl M135.out.b5 Tryz.underlying40 rfl HSS.out) rfl ?_
              exact HFIN.out _ M135
            · go_simp
              refine (one_valid B132.out M132.out.own HSO.out).mono ?_
              rintro e W137 ⟨rfl, hb137⟩
              rw [HVAL.out]
              have M137 := hide (M132.out.below hb137)
              refine hK _ _ ?_
              refine wpAny_ready (rs := [0]) (by kernel_rfl) (by simp) ?_
              refine (AllReady.cons rfl (fun K_ hK => ?_) AllReady.nil)
              refine step_load_whole W137 ?hgd138 _ (.tmp 2) ?ho138 w.heap.size 40 #[.int .i64 K, sv] _ ?hx138 M137.out.b5 Tryz.underlying40 ?hd138 HSS.out ?_; (case hgd138 => rfl); (case ho138 => rfl); (case hx138 => rfl); (case hd138 => rfl)
              refine hK _ _ ?_
              refine wpAny_ready (rs := [5]) (by kernel_rfl) (by simp) ?_
              refine (AllReady.cons rfl (fun K_ hK => ?_) AllReady.nil)
              refine step_store_whole W137 ?hgd139 _ (.tmp 2) (.tmp 42) ?ho139 w.heap.size 40 #[.int .i64 K, sv] #[.int .i64 K, sv] ?hx139 ?hp139 M137.out.b5 HSS.out ?hs139 HON.out ?_; (case hgd139 => rfl); (case ho139 => rfl); (case hx139 => rfl); (case hp139 => rfl); (case hs139 => rfl)
              intro W139 F139 O139
              have M139 := hide (M137.out.store F139.out O139.out)
              refine hK _ _ ?_
              refine wpAny_ready (rs := [6]) (by kernel_rfl) (by simp) ?_
              refine (AllReady.cons rfl (fun K_ hK => ?_) AllReady.nil)
              go_simp
              refine hK _ _ ?_
              refine wpAny_done (by kernel_rfl) ?_ _
              go_wp2
              refine bodyPost_ret (v := .tuple #[.agg #[.int .i64 K, sv], .bool OK]) (results_cellT2 rfl _ _ w.heap.size 40 _ (0, 0) _ rfl rfl M139.out.b5 Tryz.underlying40 rfl HSS.out) rfl ?_
              exact HFIN.out _ M139
      · refine step_load_whole wr.drew ?hgd141 _ (.tmp 2) ?ho141 w.heap.size 40 #[.int .i64 K, sv] _ ?hx141 MD.out.b5 Tryz.underlying40 ?hd141 HSS.out ?_; (case hgd141 => rfl); (case ho141 => rfl); (case hx141 => rfl); (case hd141 => rfl)
        refine hK _ _ ?_
        refine wpAny_ready (rs := [0, 1, 3]) (by kernel_rfl) (by simp) ?_
        refine (AllReady.cons rfl (fun K_ hK => ?_) (AllReady.cons rfl (fun K_ hK => ?_) (AllReady.cons rfl (fun K_ hK => ?_) AllReady.nil)))
        · refine step_load_whole wr.drew ?hgd142 _ (.tmp 2) ?ho142 w.heap.size 40 #[.int .i64 K, sv] _ ?hx142 MD.out.b5 Tryz.underlying40 ?hd142 HSS.out ?_; (case hgd142 => rfl); (case ho142 => rfl); (case hx142 => rfl); (case hd142 => rfl)
          refine hK _ _ ?_
          refine wpAny_ready (rs := [1, 3]) (by kernel_rfl) (by simp) ?_
          refine (AllReady.cons rfl (fun K_ hK => ?_) (AllReady.cons rfl (fun K_ hK => ?_) AllReady.nil))
          · refine step_load_cell wr.drew ?hgd143 _ (.tmp 1) ?ho143 ⟨bW, 0, none⟩ _ (.int .i64 width) ?hx143 MD.out.cw Tryz.underlying3 ?hd143 ?_; (case hgd143 => rfl); (case ho143 => rfl); (case hx143 => rfl); (case hd143 => rfl)
            refine hK _ _ ?_
            refine wpAny_ready (rs := [3]) (by kernel_rfl) (by simp) ?_
            refine (AllReady.cons rfl (fun K_ hK => ?_) AllReady.nil)
            go_simp
            have M144 := hide (MD.out.alloc (Obj.cells #[.int .i64 K, sv] 40))
            have B144 := hide (heap_alloc_new wr.drew (Obj.cells #[.int .i64 K, sv] 40))
            refine hK _ _ ?_
            refine wpAny_ready (rs := [4]) (by kernel_rfl) (by simp) ?_
            refine (AllReady.cons rfl (fun K_ hK => ?_) AllReady.nil)
            go_simp
            refine (one_valid B144.out M144.out.own HSO.out).mono ?_
            rintro e W145 ⟨rfl, hb145⟩
            rw [HVAL.out]
            have M145 := hide (M144.out.below hb145)
            refine hK _ _ ?_
            refine wpAny_ready (rs := [5]) (by kernel_rfl) (by simp) ?_
            refine (AllReady.cons rfl (fun K_ hK => ?_) AllReady.nil)
            refine step_store_whole W145 ?hgd146 _ (.tmp 2) (.tmp 42) ?ho146 w.heap.size 40 #[.int .i64 K, sv] #[.int .i64 K, sv] ?hx146 ?hp146 M145.out.b5 HSS.out ?hs146 HON.out ?_; (case hgd146 => rfl); (case ho146 => rfl); (case hx146 => rfl); (case hp146 => rfl); (case hs146 => rfl)
            intro W146 F146 O146
            have M146 := hide (M145.out.store F146.out O146.out)
            refine hK _ _ ?_
            refine wpAny_ready (rs := [6]) (by kernel_rfl) (by simp) ?_
            refine (AllReady.cons rfl (fun K_ hK => ?_) AllReady.nil)
            go_simp
            refine hK _ _ ?_
            refine wpAny_done (by kernel_rfl) ?_ _
            go_wp2
            refine bodyPost_ret (v := .tuple #[.agg #[.int .i64 K, sv], .bool OK]) (results_cellT2 rfl _ _ w.heap.size 40 _ (0, 0) _ rfl rfl M146.out.b5 Tryz.underlying40 rfl HSS.out) rfl ?_
            exact HFIN.out _ M146
          · go_simp
            have M148 := hide (MD.out.alloc (Obj.cells #[.int .i64 K, sv] 40))
            have B148 := hide (heap_alloc_new wr.drew (Obj.cells #[.int .i64 K, sv] 40))
            refine hK _ _ ?_
            refine wpAny_ready (rs := [1]) (by kernel_rfl) (by simp) ?_
            refine (AllReady.cons rfl (fun K_ hK => ?_) AllReady.nil)
            refine step_load_cell (World.alloc wr.drew (Obj.cells #[.int .i64 K, sv] 40)) ?hgd149 _ (.tmp 1) ?ho149 ⟨bW, 0, none⟩ _ (.int .i64 width) ?hx149 M148.out.cw Tryz.underlying3 ?hd149 ?_; (case hgd149 => rfl); (case ho149 => rfl); (case hx149 => rfl); (case hd149 => rfl)
            refine hK _ _ ?_
            refine wpAny_ready (rs := [4]) (by kernel_rfl) (by simp) ?_
            refine (AllReady.cons rfl (fun K_ hK => ?_) AllReady.nil)
            go_simp
            refine (one_valid B148.out M148.out.own HSO.out).mono ?_
            rintro e W150 ⟨rfl, hb150⟩
            rw [HVAL.out]
            have M150 := hide (M148.out.below hb150)
            refine hK _ _ ?_
            refine wpAny_ready (rs := [5]) (by kernel_rfl) (by simp) ?_
            refine (AllReady.cons rfl (fun K_ hK => ?_) AllReady.nil)
            refine step_store_whole W150 ?hgd151 _ (.tmp 2) (.tmp 42) ?ho151 w.heap.size 40 #[.int .i64 K, sv] #[.int .i64 K, sv] ?hx151 ?hp151 M150.out.b5 HSS.out ?hs151 HON.out ?_; (case hgd151 => rfl); (case ho151 => rfl); (case hx151 => rfl); (case hp151 => rfl); (case hs151 => rfl)
            intro W151 F151 O151
            have M151 := hide (M150.out.store F151.out O151.out)
            refine hK _ _ ?_
            refine wpAny_ready (rs := [6]) (by kernel_rfl) (by simp) ?_
            refine (AllReady.cons rfl (fun K_ hK => ?_) AllReady.nil)
            go_simp
            refine hK _ _ ?_
            refine wpAny_done (by kernel_rfl) ?_ _
            go_wp2
            refine bodyPost_ret (v := .tuple #[.agg #[.int .i64 K, sv], .bool OK]) (results_cellT2 rfl _ _ w.heap.size 40 _ (0, 0) _ rfl rfl M151.out.b5 Tryz.underlying40 rfl HSS.out) rfl ?_
            exact HFIN.out _ M151
        · refine step_load_cell wr.drew ?hgd153 _ (.tmp 1) ?ho153 ⟨bW, 0, none⟩ _ (.int .i64 width) ?hx153 MD.out.cw Tryz.underlying3 ?hd153 ?_; (case hgd153 => rfl); (case ho153 => rfl); (case hx153 => rfl); (case hd153 => rfl)
          refine hK _ _ ?_
          refine wpAny_ready (rs := [0, 3]) (by kernel_rfl) (by simp) ?_
          refine (AllReady.cons rfl (fun K_ hK => ?_) (AllReady.cons rfl (fun K_ hK => ?_) AllReady.nil))
          · refine step_load_whole wr.drew ?hgd154 _ (.tmp 2) ?ho154 w.heap.size 40 #[.int .i64 K, sv] _ ?hx154 MD.out.b5 Tryz.underlying40 ?hd154 HSS.out ?_; (case hgd154 => rfl); (case ho154 => rfl); (case hx154 => rfl); (case hd154 => rfl)
            refine hK _ _ ?_
            refine wpAny_ready (rs := [3]) (by kernel_rfl) (by simp) ?_
            refine (AllReady.cons rfl (fun K_ hK => ?_) AllReady.nil)
            go_simp
            have M155 := hide (MD.out.alloc (Obj.cells #[.int .i64 K, sv] 40))
            have B155 := hide (heap_alloc_new wr.drew (Obj.cells #[.int .i64 K, sv] 40))
            refine hK _ _ ?_
            refine wpAny_ready (rs := [4]) (by kernel_rfl) (by simp) ?_
            refine (AllReady.cons rfl (fun K_ hK => ?_) AllReady.nil)
            go_simp
            refine (one_valid B155.out M155.out.own HSO.out).mono ?_
            rintro e W156 ⟨rfl, hb156⟩
            rw [HVAL.out]
            have M156 := hide (M155.out.below hb156)
            refine hK _ _ ?_
            refine wpAny_ready (rs := [5]) (by kernel_rfl) (by simp) ?_
            refine (AllReady.cons rfl (fun K_ hK => ?_) AllReady.nil)
            refine step_store_whole W156 ?hgd157 _ (.tmp 2) (.tmp 42) ?ho157 w.heap.size 40 #[.int .i64 K, sv] #[.int .i64 K, sv] ?hx157 ?hp157 M156.out.b5 HSS.out ?hs157 HON.out ?_; (case hgd157 => rfl); (case ho157 => rfl); (case hx157 => rfl); (case hp157 => rfl); (case hs157 => rfl)
            intro W157 F157 O157
            have M157 := hide (M156.out.store F157.out O157.out)
            refine hK _ _ ?_
            refine wpAny_ready (rs := [6]) (by kernel_rfl) (by simp) ?_
            refine (AllReady.cons rfl (fun K_ hK => ?_) AllReady.nil)
            go_simp
            refine hK _ _ ?_
            refine wpAny_done (by kernel_rfl) ?_ _
            go_wp2
            refine bodyPost_ret (v := .tuple #[.agg #[.int .i64 K, sv], .bool OK]) (results_cellT2 rfl _ _ w.heap.size 40 _ (0, 0) _ rfl rfl M157.out.b5 Tryz.underlying40 rfl HSS.out) rfl ?_
            exact HFIN.out _ M157
          · go_simp
            have M159 := hide (MD.out.alloc (Obj.cells #[.int .i64 K, sv] 40))
            have B159 := hide (heap_alloc_new wr.drew (Obj.cells #[.int .i64 K, sv] 40))
            refine hK _ _ ?_
            refine wpAny_ready (rs := [0, 4]) (by kernel_rfl) (by simp) ?_
            refine (AllReady.cons rfl (fun K_ hK => ?_) (AllReady.cons rfl (fun K_ hK => ?_) AllReady.nil))
            · refine step_load_whole (World.alloc wr.drew (Obj.cells #[.int .i64 K, sv] 40)) ?hgd160 _ (.tmp 2) ?ho160 w.heap.size 40 #[.int .i64 K, sv] _ ?hx160 M159.out.b5 Tryz.underlying40 ?hd160 HSS.out ?_; (case hgd160 => rfl); (case ho160 => rfl); (case hx160 => rfl); (case hd160 => rfl)
              refine hK _ _ ?_
              refine wpAny_ready (rs := [4]) (by kernel_rfl) (by simp) ?_
              refine (AllReady.cons rfl (fun K_ hK => ?_) AllReady.nil)
              go_simp
              refine (one_valid B159.out M159.out.own HSO.out).mono ?_
              rintro e W161 ⟨rfl, hb161⟩
              rw [HVAL.out]
              have M161 := hide (M159.out.below hb161)
              refine hK _ _ ?_
              refine wpAny_ready (rs := [5]) (by kernel_rfl) (by simp) ?_
              refine (AllReady.cons rfl (fun K_ hK => ?_) AllReady.nil)
              refine step_store_whole W161 ?hgd162 _ (.tmp 2) (.tmp 42) ?ho162 w.heap.size 40 #[.int .i64 K, sv] #[.int .i64 K, sv] ?hx162 ?hp162 M161.out.b5 HSS.out ?hs162 HON.out ?_; (case hgd162 => rfl); (case ho162 => rfl); (case hx162 => rfl); (case hp162 => rfl); (case hs162 => rfl)
              intro W162 F162 O162
              have M162 := hide (M161.out.store F162.out O162.out)
              refine hK _ _ ?_
              refine wpAny_ready (rs := [6]) (by kernel_rfl) (by simp) ?_
              refine (AllReady.cons rfl (fun K_ hK => ?_) AllReady.nil)
              go_simp
              refine hK _ _ ?_
              refine wpAny_done (by kernel_rfl) ?_ _
              go_wp2
              refine bodyPost_ret (v := .tuple #[.agg #[.int .i64 K, sv], .bool OK]) (results_cellT2 rfl _ _ w.heap.size 40 _ (0, 0) _ rfl rfl M162.out.b5 Tryz.underlying40 rfl HSS.out) rfl ?_
              exact HFIN.out _ M162
            · go_simp
              refine (one_valid B159.out M159.out.own HSO.out).mono ?_
              rintro e W164 ⟨rfl, hb164⟩
              rw [HVAL.out]
              have M164 := hide (M159.out.below hb164)
              refine hK _ _ ?_
              refine wpAny_ready (rs := [0]) (by kernel_rfl) (by simp) ?_
              refine (AllReady.cons rfl (fun K_ hK => ?_) AllReady.nil)
              refine step_load_whole W164 ?hgd165 _ (.tmp 2) ?ho165 w.heap.size 40 #[.int .i64 K, sv] _ ?hx165 M164.out.b5 Tryz.underlying40 ?hd165 HSS.out ?_; (case hgd165 => rfl); (case ho165 => rfl); (case hx165 => rfl); (case hd165 => rfl)
              refine hK _ _ ?_
              refine wpAny_ready (rs := [5]) (by kernel_rfl) (by simp) ?_
              refine (AllReady.cons rfl (fun K_ hK => ?_) AllReady.nil)
              refine step_store_whole W164 ?hgd166 _ (.tmp 2) (.tmp 42) ?ho166 w.heap.size 40 #[.int .i64 K, sv] #[.int .i64 K, sv] ?hx166 ?hp166 M164.out.b5 HSS.out ?hs166 HON.out ?_; (case hgd166 => rfl); (case ho166 => rfl); (case hx166 => rfl); (case hp166 => rfl); (case hs166 => rfl)
              intro W166 F166 O166
              have M166 := hide (M164.out.store F166.out O166.out)
              refine hK _ _ ?_
              refine wpAny_ready (rs := [6]) (by kernel_rfl) (by simp) ?_
              refine (AllReady.cons rfl (fun K_ hK => ?_) AllReady.nil)
              go_simp
              refine hK _ _ ?_
              refine wpAny_done (by kernel_rfl) ?_ _
              go_wp2
              refine bodyPost_ret (v := .tuple #[.agg #[.int .i64 K, sv], .bool OK]) (results_cellT2 rfl _ _ w.heap.size 40 _ (0, 0) _ rfl rfl M166.out.b5 Tryz.underlying40 rfl HSS.out) rfl ?_
              exact HFIN.out _ M166
        · go_simp
          have M168 := hide (MD.out.alloc (Obj.cells #[.int .i64 K, sv] 40))
          have B168 := hide (heap_alloc_new wr.drew (Obj.cells #[.int .i64 K, sv] 40))
          refine hK _ _ ?_
          refine wpAny_ready (rs := [0, 1]) (by kernel_rfl) (by simp) ?_
          refine (AllReady.cons rfl (fun K_ hK => ?_) (AllReady.cons rfl (fun K_ hK => ?_) AllReady.nil))
          · refine step_load_whole (World.alloc wr.drew (Obj.cells #[.int .i64 K, sv] 40)) ?hgd169 _ (.tmp 2) ?ho169 w.heap.size 40 #[.int .i64 K, sv] _ ?hx169 M168.out.b5 Tryz.underlying40 ?hd169 HSS.out ?_; (case hgd169 => rfl); (case ho169 => rfl); (case hx169 => rfl); (case hd169 => rfl)
            refine hK _ _ ?_
            refine wpAny_ready (rs := [1]) (by kernel_rfl) (by simp) ?_
            refine (AllReady.cons rfl (fun K_ hK => ?_) AllReady.nil)
            refine step_load_cell (World.alloc wr.drew (Obj.cells #[.int .i64 K, sv] 40)) ?hgd170 _ (.tmp 1) ?ho170 ⟨bW, 0, none⟩ _ (.int .i64 width) ?hx170 M168.out.cw Tryz.underlying3 ?hd170 ?_; (case hgd170 => rfl); (case ho170 => rfl); (case hx170 => rfl); (case hd170 => rfl)
            refine hK _ _ ?_
            refine wpAny_ready (rs := [4]) (by kernel_rfl) (by simp) ?_
            refine (AllReady.cons rfl (fun K_ hK => ?_) AllReady.nil)
            go_simp
            refine (one_valid B168.out M168.out.own HSO.out).mono ?_
            rintro e W171 ⟨rfl, hb171⟩
            rw [HVAL.out]
            have M171 := hide (M168.out.below hb171)
            refine hK _ _ ?_
            refine wpAny_ready (rs := [5]) (by kernel_rfl) (by simp) ?_
            refine (AllReady.cons rfl (fun K_ hK => ?_) AllReady.nil)
            refine step_store_whole W171 ?hgd172 _ (.tmp 2) (.tmp 42) ?ho172 w.heap.size 40 #[.int .i64 K, sv] #[.int .i64 K, sv] ?hx172 ?hp172 M171.out.b5 HSS.out ?hs172 HON.out ?_; (case hgd172 => rfl); (case ho172 => rfl); (case hx172 => rfl); (case hp172 => rfl); (case hs172 => rfl)
            intro W172 F172 O172
            have M172 := hide (M171.out.store F172.out O172.out)
            refine hK _ _ ?_
            refine wpAny_ready (rs := [6]) (by kernel_rfl) (by simp) ?_
            refine (AllReady.cons rfl (fun K_ hK => ?_) AllReady.nil)
            go_simp
            refine hK _ _ ?_
            refine wpAny_done (by kernel_rfl) ?_ _
            go_wp2
            refine bodyPost_ret (v := .tuple #[.agg #[.int .i64 K, sv], .bool OK]) (results_cellT2 rfl _ _ w.heap.size 40 _ (0, 0) _ rfl rfl M172.out.b5 Tryz.underlying40 rfl HSS.out) rfl ?_
            exact HFIN.out _ M172
          · refine step_load_cell (World.alloc wr.drew (Obj.cells #[.int .i64 K, sv] 40)) ?hgd174 _ (.tmp 1) ?ho174 ⟨bW, 0, none⟩ _ (.int .i64 width) ?hx174 M168.out.cw Tryz.underlying3 ?hd174 ?_; (case hgd174 => rfl); (case ho174 => rfl); (case hx174 => rfl); (case hd174 => rfl)
            refine hK _ _ ?_
            refine wpAny_ready (rs := [0, 4]) (by kernel_rfl) (by simp) ?_
            refine (AllReady.cons rfl (fun K_ hK => ?_) (AllReady.cons rfl (fun K_ hK => ?_) AllReady.nil))
            · refine step_load_whole (World.alloc wr.drew (Obj.cells #[.int .i64 K, sv] 40)) ?hgd175 _ (.tmp 2) ?ho175 w.heap.size 40 #[.int .i64 K, sv] _ ?hx175 M168.out.b5 Tryz.underlying40 ?hd175 HSS.out ?_; (case hgd175 => rfl); (case ho175 => rfl); (case hx175 => rfl); (case hd175 => rfl)
              refine hK _ _ ?_
              refine wpAny_ready (rs := [4]) (by kernel_rfl) (by simp) ?_
              refine (AllReady.cons rfl (fun K_ hK => ?_) AllReady.nil)
              go_simp
              refine (one_valid B168.out M168.out.own HSO.out).mono ?_
              rintro e W176 ⟨rfl, hb176⟩
              rw [HVAL.out]
              have M176 := hide (M168.out.below hb176)
              refine hK _ _ ?_
              refine wpAny_ready (rs := [5]) (by kernel_rfl) (by simp) ?_
              refine (AllReady.cons rfl (fun K_ hK => ?_) AllReady.nil)
              refine step_store_whole W176 ?hgd177 _ (.tmp 2) (.tmp 42) ?ho177 w.heap.size 40 #[.int .i64 K, sv] #[.int .i64 K, sv] ?hx177 ?hp177 M176.out.b5 HSS.out ?hs177 HON.out ?_; (case hgd177 => rfl); (case ho177 => rfl); (case hx177 => rfl); (case hp177 => rfl); (case hs177 => rfl)
              intro W177 F177 O177
              have M177 := hide (M176.out.store F177.out O177.out)
              refine hK _ _ ?_
              refine wpAny_ready (rs := [6]) (by kernel_rfl) (by simp) ?_
              refine (AllReady.cons rfl (fun K_ hK => ?_) AllReady.nil)
              go_simp
              refine hK _ _ ?_
              refine wpAny_done (by kernel_rfl) ?_ _
              go_wp2
              refine bodyPost_ret (v := .tuple #[.agg #[.int .i64 K, sv], .bool OK]) (results_cellT2 rfl _ _ w.heap.size 40 _ (0, 0) _ rfl rfl M177.out.b5 Tryz.underlying40 rfl HSS.out) rfl ?_
              exact HFIN.out _ M177
            · go_simp
              refine (one_valid B168.out M168.out.own HSO.out).mono ?_
              rintro e W179 ⟨rfl, hb179⟩
              rw [HVAL.out]
              have M179 := hide (M168.out.below hb179)
              refine hK _ _ ?_
              refine wpAny_ready (rs := [0]) (by kernel_rfl) (by simp) ?_
              refine (AllReady.cons rfl (fun K_ hK => ?_) AllReady.nil)
              refine step_load_whole W179 ?hgd180 _ (.tmp 2) ?ho180 w.heap.size 40 #[.int .i64 K, sv] _ ?hx180 M179.out.b5 Tryz.underlying40 ?hd180 HSS.out ?_; (case hgd180 => rfl); (case ho180 => rfl); (case hx180 => rfl); (case hd180 => rfl)
              refine hK _ _ ?_
              refine wpAny_ready (rs := [5]) (by kernel_rfl) (by simp) ?_
              refine (AllReady.cons rfl (fun K_ hK => ?_) AllReady.nil)
              refine step_store_whole W179 ?hgd181 _ (.tmp 2) (.tmp 42) ?ho181 w.heap.size 40 #[.int .i64 K, sv] #[.int .i64 K, sv] ?hx181 ?hp181 M179.out.b5 HSS.out ?hs181 HON.out ?_; (case hgd181 => rfl); (case ho181 => rfl); (case hx181 => rfl); (case hp181 => rfl); (case hs181 => rfl)
              intro W181 F181 O181
              have M181 := hide (M179.out.store F181.out O181.out)
              refine hK _ _ ?_
              refine wpAny_ready (rs := [6]) (by kernel_rfl) (by simp) ?_
              refine (AllReady.cons rfl (fun K_ hK => ?_) AllReady.nil)
              go_simp
              refine hK _ _ ?_
              refine wpAny_done (by kernel_rfl) ?_ _
              go_wp2
              refine bodyPost_ret (v := .tuple #[.agg #[.int .i64 K, sv], .bool OK]) (results_cellT2 rfl _ _ w.heap.size 40 _ (0, 0) _ rfl rfl M181.out.b5 Tryz.underlying40 rfl HSS.out) rfl ?_
              exact HFIN.out _ M181

end Go.Proofs.YtceolenmcpndaaaGreatDoor
