/- The reference's Read of a prefix. -/
import Derived.Test.YtgegloplhlkafaaDoorPfxN
import Derived.Test.YtgegloplhlkafaaDoorPfxM
import Derived.StillTailTactics
set_option autoImplicit false
namespace Go.Proofs.YtgegloplhlkafaaDoor
open Go.RowKit

/-- An aggregate stored over a whole block. -/
theorem wpList_store_whole {P : Program} {ops : Array Oper} {rest : List Oper} {o : Oper} {a : Act} {Q : Exit → Act → World → Prop} (W : World) (hgd : o.guard = none) (ty : TypeId) (p x : Operand) (ho : o.op = .store ty p x)
    (g : Nat) (t : TypeId) (cs vs : Array Value) (hx : a.eval x = .agg vs) (hp : a.eval p = .pointer (some ⟨g, 0, none⟩)) (hg : W.heap[g]? = some (.cells cs t (0, 0)))
    (hi : (P.info? ty).map (·.size) = some vs.size) (hsz : cs.size = vs.size) (h1 : ∀ v ∈ vs.toList, v.oneCell' = true)
    (h : ∀ W', Hid (W'.heap[g]? = some (.cells vs t (0, 0))) → Hid (W.grownBy W' (some g)) → W'.heap.size = W.heap.size → wpList P ops Q rest (a.put o.dst undef) W') :
    wpList P ops Q (o :: rest) a W := by
  refine wpList_store_mid hgd ty p x ho g 0 hp t cs vs hx hg hi (by omega) h1 ?_
  rw [whole_store cs vs hsz]
  refine h _ (hide (setRow_heap W g cs vs _ _ hg)) (hide ?_) (by simp [World.setRow])
  exact ⟨rfl, rfl, rfl, by simp [World.setRow], fun i hi hne => setRow_other W g i vs (by rintro rfl; exact hne rfl)⟩
/-- A struct read whole. -/
theorem wpList_load_whole {P : Program} {ops : Array Oper} {rest : List Oper} {o : Oper} {a : Act} {Q : Exit → Act → World → Prop} (w : World) (hgd : o.guard = none) (ty : TypeId) (x : Operand) (ho : o.op = .load ty x)
    (g : Nat) (t : TypeId) (cs : Array Value) (d : TypeDesc) (hx : a.eval x = .pointer (some ⟨g, 0, none⟩)) (hg : w.heap[g]? = some (.cells cs t (0, 0))) (hu : P.underlying ty = some d)
    (hd : (match d with | .struct _ | .array _ _ => true | _ => false) = true) (hi : (P.info? ty).map (·.size) = some cs.size)
    (h : wpList P ops Q rest (a.put o.dst (.agg cs)) w) : wpList P ops Q (o :: rest) a w := by
  refine wpList_load_mid hgd ty x ho g 0 cs.size hx t cs (0, 0) d hg hu hd hi (by omega) ?_
  rw [extract_all cs _ rfl]
  exact h
theorem step_store_whole {P : Program} {ops : Array Oper} {o : Oper} {a : Act} {K : Act → World → Prop} {Q : Exit → Act → World → Prop} {E : Prop} (W : World) (hgd : o.guard = none) (ty : TypeId) (p x : Operand) (ho : o.op = .store ty p x)
    (g : Nat) (t : TypeId) (cs vs : Array Value) (hx : a.eval x = .agg vs) (hp : a.eval p = .pointer (some ⟨g, 0, none⟩)) (hg : W.heap[g]? = some (.cells cs t (0, 0)))
    (hi : (P.info? ty).map (·.size) = some vs.size) (hsz : cs.size = vs.size) (h1 : ∀ v ∈ vs.toList, v.oneCell' = true)
    (h : ∀ W', Hid (W'.heap[g]? = some (.cells vs t (0, 0))) → Hid (W.grownBy W' (some g)) → W'.heap.size = W.heap.size → K (a.put o.dst undef) W') :
    if Region.wanted o (yielded ops a.tmps) = true then Oper.wp P o a W K Q else E := by
  have hw : Region.wanted o (yielded ops a.tmps) = true := by simp [Region.wanted, hgd]
  rw [if_pos hw]
  unfold Oper.wp execOp
  simp only [ho, hx, hp, Instr.storeAt, Instr.sureAddr, Sem.run_bind, Sem.run_pure, Result.andThen_ok, run_storeVar_mid W g 0 t ty cs vs hg hi (by omega) h1]
  rw [whole_store cs vs hsz]
  refine h _ (hide (setRow_heap W g cs vs _ _ hg)) (hide ?_) (by simp [World.setRow])
  exact ⟨rfl, rfl, rfl, by simp [World.setRow], fun i hi hne => setRow_other W g i vs (by rintro rfl; exact hne rfl)⟩
theorem step_load_whole {P : Program} {ops : Array Oper} {o : Oper} {a : Act} {K : Act → World → Prop} {Q : Exit → Act → World → Prop} {E : Prop} (w : World) (hgd : o.guard = none) (ty : TypeId) (x : Operand) (ho : o.op = .load ty x)
    (g : Nat) (t : TypeId) (cs : Array Value) (d : TypeDesc) (hx : a.eval x = .pointer (some ⟨g, 0, none⟩)) (hg : w.heap[g]? = some (.cells cs t (0, 0))) (hu : P.underlying ty = some d)
    (hd : (match d with | .struct _ | .array _ _ => true | _ => false) = true) (hi : (P.info? ty).map (·.size) = some cs.size)
    (h : K (a.put o.dst (.agg cs)) w) : if Region.wanted o (yielded ops a.tmps) = true then Oper.wp P o a w K Q else E := by
  have hw : Region.wanted o (yielded ops a.tmps) = true := by simp [Region.wanted, hgd]
  rw [if_pos hw]
  unfold Oper.wp execOp
  simp only [ho, hx, Instr.loadAt, Instr.sureAddr, Sem.run_bind, Sem.run_pure, Result.andThen_ok, run_loadVar_mid w g 0 cs.size t ty cs (0, 0) d hg hu hd hi (by omega)]
  rw [extract_all cs _ rfl]
  exact h
/-- Two struct results in variables, then a plain one. -/
theorem results_cell2T {P : Program} {f : Func} {p q t : Tmp} {ty ty' : TypeId} (h : f.results = #[.cell p ty, .cell q ty', .tmp t]) (tmps : Array Value) (w : World) (g g' : Nat) (tt tt' : TypeId) (cs cs' : Array Value) (x : Value)
    (hp : tmps.getD p undef = .pointer (some ⟨g, 0, none⟩)) (hq : tmps.getD q undef = .pointer (some ⟨g', 0, none⟩)) (ht : tmps.getD t undef = x) (hg : w.heap[g]? = some (.cells cs tt (0, 0))) (hg' : w.heap[g']? = some (.cells cs' tt' (0, 0)))
    {d d' : TypeDesc} (hu : P.underlying ty = some d) (hu' : P.underlying ty' = some d')
    (hd : (match d with | .struct _ | .array _ _ => true | _ => false) = true) (hd' : (match d' with | .struct _ | .array _ _ => true | _ => false) = true)
    (hi : (P.info? ty).map (·.size) = some cs.size) (hi' : (P.info? ty').map (·.size) = some cs'.size) :
    (results f tmps).run P w = .ok (.tuple #[.agg cs, .agg cs', x]) w := by
  subst ht
  have hp' : tmps[p]?.getD undef = .pointer (some ⟨g, 0, none⟩) := by simpa using hp
  have hq' : tmps[q]?.getD undef = .pointer (some ⟨g', 0, none⟩) := by simpa using hq
  simp [results, h, hp', hq', asAddr, run_loadVar_row w g tt ty cs _ d hg hu hd hi, run_loadVar_row w g' tt' ty' cs' _ d' hg' hu' hd' hi']

theorem rdr_info : (Tryd.prog.info? 38).map (·.size) = some 2 := by kernel_rfl
abbrev RBox (v : Value) (at_ : Int) : Obj := .cells #[v, .int .i64 at_] 38
abbrev PBox (p : Int × Int × List Int) : Obj := .cells (pvT p).toArray 26

set_option maxRecDepth 100000 in
set_option maxHeartbeats 4000000 in
theorem rread_ok (fam : Int) (A : Option Addr) (c : Nat) (l : List Int) (at_ : Int) (w : World) (hb : Byts w w.heap.size A l) (hbs : Bs l) (hc : l.length ≤ c) (hcm : c ≤ maxLen) (hl : l.length ≤ 100000) (h0 : 0 ≤ at_) (h1 : at_ ≤ 100000) (hok : rdOk fam l = true) :
    Calls Tryd.prog 17 #[.int .i64 fam, .agg #[.slice A l.length c, .int .i64 at_]] w fun e w' => ∃ A' k' c', e = .returned (.tuple #[.agg #[.slice A' k' c', .int .i64 (at_ + rdN l)], .agg (pvT (rdP fam l)).toArray, .bool true]) ∧ Below w.heap.size w w' := by
  match l, hok with
  | n :: r, hok =>
  have hok' : rangedF fam n = true ∧ (n + 7) / 8 ≤ (r.length : Int) := by simpa [rdOk] using hok
  obtain ⟨_, hn0, hn1, hn2, hw0, hw1⟩ := ranged_bd hok'.1
  have hm := hok'.1
  rw [ranged_most, decide_eq_true_eq] at hm
  obtain ⟨k, hk⟩ : ∃ k : Nat, (n + 7) / 8 = k := ⟨((n + 7) / 8).toNat, by omega⟩
  have hkr : k ≤ r.length := by omega
  have hk16 : k ≤ 16 := by omega
  have hbr : Bs r := fun x hx => hbs x (by simp [hx])
  have hbk : Bs (r.take k) := hbr.take k
  have e2 : mkOk fam n (r.take k) = true := by
    simp only [mkOk, hok'.1, Bool.true_and, decide_eq_true_eq, List.length_take]; omega
  have e1 : rdP fam (n :: r) = mkP fam n (r.take k) := by
    simp only [rdP]
    rw [if_pos hok, mkP, if_pos e2, hk, Int.toNat_natCast]
  have e3 : rdN (n :: r) = 1 + k := by simp only [rdN]; rw [hk]
  have htl : (r.take k).length = k := by rw [List.length_take]; omega
  have hpl := mkP_len fam n (r.take k) (by omega)
  have hM : ∀ A c w', Byts w' w'.heap.size A (r.take k) → Calls Tryd.prog 11 #[.int .i64 fam, .int .i64 n, .slice A k c] w' fun e w'' => e = .returned (.tuple #[.agg (pvT (mkP fam n (r.take k))).toArray, .bool true]) ∧ Below w'.heap.size w' w'' := fun A c w' hby => by
    have := rmake_any fam n A c (r.take k) w' hby hbk (by omega) (by omega) (by omega)
    rw [e2, htl] at this; exact this
  have hN : ∀ W, Below w.heap.size w W → Calls Tryd.prog 39 #[.agg #[.slice A (r.length + 1) c, .int .i64 at_], .int .i64 1] W fun e w' => ∃ A' c', e = .returned (.tuple #[.agg #[.slice A' r.length c', .int .i64 (at_ + 1)], .int .u32 n, .bool true]) ∧
      r.length ≤ c' ∧ c' ≤ maxLen ∧ Byts w' w.heap.size A' r ∧ Below W.heap.size W w' := fun W hbW => by
    have := rnumber_ok w.heap.size A c (n :: r) at_ 1 W hbW.size (hb.below hbW) hbs (by omega) (by omega) (by simp) hc h0 (by omega) (by omega)
    have hsz : (n :: r).length - 1 = r.length := by simp
    rw [hsz] at this
    exact this.mono (by rintro e w' ⟨rfl, h1, h2⟩; exact ⟨cutA A c 1, c - 1, by simp [bigI], by simp at hc; omega, by omega, h1, h2⟩)
  have hT : ∀ (A' : Option Addr) (c' : Nat) (W : World), r.length ≤ c' → c' ≤ maxLen → Byts W w.heap.size A' r → Calls Tryd.prog 40 #[.agg #[.slice A' r.length c', .int .i64 (at_ + 1)], .int .i64 k] W fun e w' => ∃ A'' c'' c3, e = .returned (.tuple #[.agg #[.slice A'' (r.length - k) c'', .int .i64 (at_ + 1 + k)], .slice A' k c3, .bool true]) ∧
      Byts W w.heap.size A' (r.take k) ∧ Below W.heap.size W w' := fun A' c' W q1 _ q3 =>
    (rtake_ok w.heap.size A' c' r (at_ + 1) k W q3 hkr q1 (by omega) (by omega) (by simp at hl; omega)).mono (by rintro e w' ⟨rfl, _, b1, b2⟩; exact ⟨_, _, _, rfl, b1, b2⟩)
  have hMO := most_any fam
  have hmle : n ≤ mostF fam := hm.2
  have hmm : mostF fam ≤ 128 := by have := (most_width fam).2; omega
  rw [e1, e3, show at_ + (1 + (k : Int)) = at_ + 1 + k by omega]
  generalize mkP fam n (r.take k) = PP at *
  generalize mostF fam = MO at *
  have HM := hide hM
  have HN := hide hN
  have HT := hide hT
  have HMO := hide hMO
  have HPL := Lib.hid hpl
  have HK := Lib.hid htl
  have hn3 : n < 256 := by omega
  have hrl : r.length ≤ 100000 := by simp at hl; omega
  clear hM hN hT hMO hpl htl e1 e2 e3 hok hok' hbk hbr hm hbs hb hl hc hcm hn1
  go_enter Tryd.func17, Tryd.ntmps17
  go_wp2_with fail
  obtain ⟨W0, hW0⟩ : ∃ W0, W0 = (((w.alloc (RBox (.slice A (r.length + 1) c) at_)).alloc (RBox (.slice none 0 0) 0)).alloc (PBox (0, 0, zeroA))) := ⟨_, rfl⟩
  have hb0 : Below w.heap.size w W0 := by rw [hW0]; exact (((Below.refl _ _).alloc (Nat.le_refl _) _).alloc (by simp) _).alloc (by simp; omega) _
  have hz0 : W0.heap.size = w.heap.size + 3 := by rw [hW0]; simp
  have q3 : W0.heap[w.heap.size]? = some (RBox (.slice A (r.length + 1) c) at_) := by rw [hW0]; exact (Below.heap_alloc _ _ _ (by simp; omega)).trans (heap_alloc2_old w _ _)
  have q4 : W0.heap[w.heap.size + 1]? = some (RBox (.slice none 0 0) 0) := by rw [hW0]; exact (Below.heap_alloc _ _ _ (by simp)).trans (heap_alloc2_new w _ _)
  have q5 : W0.heap[w.heap.size + 1 + 1]? = some (PBox (0, 0, zeroA)) := by rw [hW0, show w.heap.size + 1 + 1 = ((w.alloc (RBox (.slice A (r.length + 1) c) at_)).alloc (RBox (.slice none 0 0) 0)).heap.size by simp]; exact heap_alloc_new _ _
  change Calls Tryd.prog _ _ (((w.alloc (RBox (.slice A (r.length + 1) c) at_)).alloc (RBox (.slice none 0 0) 0)).alloc (PBox (0, 0, zeroA))) _
  rw [← hW0]
  have HB0 := hide hb0
  clear hW0 hb0
  refine (HN.out W0 HB0.out).mono ?_
  rintro e w1 ⟨A', c', rfl, hc1, hc2, hy1, hb1⟩
  have hz1 := hb1.size
  have g3 := (hb1.block w.heap.size (by omega)).trans q3
  have g4 := (hb1.block (w.heap.size + 1) (by omega)).trans q4
  have g5 := (hb1.block (w.heap.size + 1 + 1) (by omega)).trans q5
  have HB1 := hide (HB0.out.trans (hb1.mono HB0.out.size))
  have G3 := hide g3
  have G4 := hide g4
  have G5 := hide g5
  have HY1 := hide hy1
  clear q3 q4 q5 hb1 g3 g4 g5 hy1 HN HB0
  have hri := rdr_info
  have HRI := Lib.hid hri
  clear hri
  go_wp2_with (first
    | ((with_reducible refine wpList_store_whole w1 ?hgd1 _ (.tmp 3) ?xx1 ?ho1 w.heap.size 38 #[.slice A (r.length + 1) c, .int .i64 at_] #[.slice A' r.length c', .int .i64 (at_ + 1)] ?hx1 ?hp1 G3.out HRI.out ?hs1 ?hq1 ?_); (case hgd1 => rfl); (case ho1 => rfl); (case hx1 => rfl); (case hp1 => rfl); (case hs1 => rfl); (case hq1 => simp [Value.oneCell'])
       intro W2 G32 O2 hz2
       have g4 := (O2.out.block (w.heap.size + 1) (by omega) (by simp)).trans G4.out
       have g5 := (O2.out.block (w.heap.size + 1 + 1) (by omega) (by intro e; injection e; omega)).trans G5.out
       have hbw : Below w.heap.size w W2 := HB1.out.grown O2.out (by omega) (fun g hg => by injection hg; omega)
       have hy2 : Byts W2 w.heap.size A' r := HY1.out.grown O2.out (by omega) (fun g hg => by injection hg; omega)
       have htk := HT.out A' c' W2 hc1 hc2 hy2
       have G42 := hide g4
       have G52 := hide g5
       have HB2 := hide hbw
       have HTK := hide htk
       clear g4 g5 hbw hy2 htk G3 G4 G5 O2 HY1 HB1 HT)
    | (go_at_call 33; refine (HMO.out _).mono ?_; rintro e w3 ⟨rfl, rfl⟩)
    | ((with_reducible refine wpList_load_whole W2 ?hgd2 _ (.tmp 3) ?ho2 w.heap.size 38 #[.slice A' r.length c', .int .i64 (at_ + 1)] _ ?hx2 G32.out Tryd.underlying38 ?hd2 ?hi2 ?_); (case hgd2 => rfl); (case ho2 => rfl); (case hx2 => rfl); (case hd2 => rfl); (case hi2 => exact HRI.out))
    | (go_at_call 40
       refine HTK.out.mono ?_
       rintro e w3 ⟨A'', c'', c3, rfl, hy3, hb3⟩
       have hz3 := hb3.size
       have g4 := (hb3.block (w.heap.size + 1) (by omega)).trans G42.out
       have g5 := (hb3.block (w.heap.size + 1 + 1) (by omega)).trans G52.out
       have hbw := HB2.out.trans (hb3.mono HB2.out.size)
       have hy4 : Byts (w3.alloc (RBox (.slice A'' (r.length - k) c'') (at_ + 1 + k))) (w3.alloc (RBox (.slice A'' (r.length - k) c'') (at_ + 1 + k))).heap.size A' (r.take k) := ((hy3.below (hb3.mono HB2.out.size)).alloc hbw.size _).more (by simp; have := hbw.size; omega)
       have hmk := HM.out A' c3 _ hy4
       have G43 := hide g4
       have G53 := hide g5
       have HB3 := hide hbw
       have HMK := hide hmk
       clear hy3 hb3 g4 g5 hbw hy4 hmk G42 G52 HB2 HTK G32 HM)
    | (go_at_call 11
       refine HMK.out.mono ?_
       rintro e w5 ⟨rfl, hb5⟩
       have hz5 := hb5.size
       simp only [World.size_alloc] at hz5
       have g4 := ((hb5.block (w.heap.size + 1) (by simp; omega)).trans (Below.heap_alloc w3 _ _ (by omega))).trans G43.out
       have g5 := ((hb5.block (w.heap.size + 1 + 1) (by simp; omega)).trans (Below.heap_alloc w3 _ _ (by omega))).trans G53.out
       have g9 := (hb5.block w3.heap.size (by simp)).trans (heap_alloc_new w3 (RBox (.slice A'' (r.length - k) c'') (at_ + 1 + k)))
       have hbw := (HB3.out.alloc HB3.out.size (RBox (.slice A'' (r.length - k) c'') (at_ + 1 + k))).trans (hb5.mono (by simp; have := HB3.out.size; omega))
       have G45 := hide g4
       have G55 := hide g5
       have G9 := hide g9
       have HB5 := hide hbw
       clear hb5 g4 g5 g9 hbw G43 G53 HB3 HMK)
    | ((with_reducible refine wpList_store_new ?hgd3 (.tmp 12) ?xx3 ?ho3 w5 PP ?hx3 ?hp3 HPL.out ?_); (case hgd3 => rfl); (case ho3 => rfl); (case hx3 => rfl); (case hp3 => rfl)
       intro W6 G6 B6 hz6
       have g4 := (B6.out.block (w.heap.size + 1) (by omega)).trans G45.out
       have g5 := (B6.out.block (w.heap.size + 1 + 1) (by omega)).trans G55.out
       have g9 := (B6.out.block w3.heap.size (by omega)).trans G9.out
       have hbw := HB5.out.trans (B6.out.mono HB5.out.size)
       have G46 := hide g4
       have G56 := hide g5
       have G96 := hide g9
       have HB6 := hide hbw
       clear g4 g5 g9 hbw G45 G55 G9 HB5 B6))
  have hpi : (Tryd.prog.info? 26).map (·.size) = some (pvT PP).toArray.size := by rw [pfx_info, pvT_len PP HPL.out]
  have hps : (pvT (0, 0, zeroA)).toArray.size = (pvT PP).toArray.size := by rw [pvT_len PP HPL.out, pvT_len _ rfl]
  have hpo : ∀ v ∈ (pvT PP).toArray.toList, v.oneCell' = true := by simpa [pvT] using pvL_one _ _ _
  have HPI := Lib.hid hpi
  have HPS := Lib.hid hps
  have HPO := hide hpo
  have d9 : W6.drew.heap[w3.heap.size]? = some (RBox (.slice A'' (r.length - k) c'') (at_ + 1 + k)) := G96.out
  have d6 : W6.drew.heap[w5.heap.size]? = some (PBox PP) := G6.out
  have d4 : W6.drew.heap[w.heap.size + 1]? = some (RBox (.slice none 0 0) 0) := G46.out
  have d5 : W6.drew.heap[w.heap.size + 1 + 1]? = some (PBox (0, 0, zeroA)) := G56.out
  have D9 := hide d9
  have D6 := hide d6
  have D4 := hide d4
  have D5 := hide d5
  clear hpi hps hpo d9 d6 d4 d5
  have hfin : ∀ W8 : World, Hid (W8.heap[w.heap.size + 1]? = some (RBox (.slice A'' (r.length - k) c'') (at_ + 1 + k))) → Hid (W8.heap[w.heap.size + 1 + 1]? = some (PBox PP)) → Hid (Below w.heap.size w W8) → True := fun _ _ _ _ => trivial
  refine wp_region_any (by kernel_rfl) ?_
  change wpAny _ _ _ _ _ _ _ W6.drew
  refine wpAny_ready (rs := [0, 1]) (by kernel_rfl) (by simp) ?_
  have st4 : ∀ W7 : World, Hid (W7.heap[w.heap.size + 1]? = some (RBox (.slice A'' (r.length - k) c'') (at_ + 1 + k))) → Hid (W6.drew.grownBy W7 (some (w.heap.size + 1))) → W7.heap.size = W6.drew.heap.size →
      Hid (W7.heap[w5.heap.size]? = some (PBox PP)) ∧ Hid (W7.heap[w.heap.size + 1 + 1]? = some (PBox (0, 0, zeroA))) ∧ Hid (Below w.heap.size w W7) := fun W7 q1 q2 q3 =>
    ⟨(q2.out.block _ (lt_of_block D6.out) (by intro e; injection e; omega)).trans D6.out, (q2.out.block _ (lt_of_block D5.out) (by intro e; injection e; omega)).trans D5.out, (below_drewN HB6.out 1).grown q2.out (by have := HB6.out.size; simpa using this) (fun g hg => by injection hg; omega)⟩
  have st5 : ∀ W7 W8 : World, Hid (W7.heap[w.heap.size + 1]? = some (RBox (.slice A'' (r.length - k) c'') (at_ + 1 + k))) → Hid (Below w.heap.size w W7) → Hid (W7.grownBy W8 (some (w.heap.size + 1 + 1))) →
      Hid (W8.heap[w.heap.size + 1]? = some (RBox (.slice A'' (r.length - k) c'') (at_ + 1 + k))) ∧ Hid (Below w.heap.size w W8) := fun W7 W8 q1 q2 q3 =>
    ⟨(q3.out.block _ (lt_of_block q1.out) (by intro e; injection e; omega)).trans q1.out, q2.out.grown q3.out q2.out.size (fun g hg => by injection hg; omega)⟩
  have ST4 := hide st4
  have ST5 := hide st5
  clear st4 st5 hfin
  refine (AllReady.cons rfl (fun K hK => ?_) (AllReady.cons rfl (fun K hK => ?_) AllReady.nil))
  · refine step_load_whole W6.drew ?hgd10 _ (.tmp 9) ?ho10 w3.heap.size 38 #[.slice A'' (r.length - k) c'', .int .i64 (at_ + 1 + k)] _ ?hx10 D9.out Tryd.underlying38 ?hd10 ?hi10 ?_; (case hgd10 => rfl); (case ho10 => rfl); (case hx10 => rfl); (case hd10 => rfl); (case hi10 => exact HRI.out)
    refine hK _ _ ?_
    refine wpAny_ready (rs := [1, 2]) (by kernel_rfl) (by simp) ?_
    refine (AllReady.cons rfl (fun K hK => ?_) (AllReady.cons rfl (fun K hK => ?_) AllReady.nil))
    · refine step_load_whole W6.drew ?hgd11 _ (.tmp 12) ?ho11 w5.heap.size 26 (pvT PP).toArray _ ?hx11 D6.out Tryd.underlying26 ?hd11 ?hi11 ?_; (case hgd11 => rfl); (case ho11 => rfl); (case hx11 => rfl); (case hd11 => rfl); (case hi11 => exact HPI.out)
      refine hK _ _ ?_
      refine wpAny_ready (rs := [2]) (by kernel_rfl) (by simp) ?_
      refine (AllReady.cons rfl (fun K hK => ?_) AllReady.nil)
      refine step_store_whole W6.drew ?hgd12 _ (.tmp 4) (.tmp 53) ?ho12 (w.heap.size + 1) 38 #[.slice none 0 0, .int .i64 0] #[.slice A'' (r.length - k) c'', .int .i64 (at_ + 1 + k)] ?hx12 ?hp12 D4.out HRI.out ?hs12 ?hq12 ?_; (case hgd12 => rfl); (case ho12 => rfl); (case hx12 => rfl); (case hp12 => rfl); (case hs12 => rfl); (case hq12 => simp [Value.oneCell'])
      intro W7 F4 O7 hz7
      obtain ⟨F6, F5, FB⟩ := ST4.out W7 F4 O7 hz7
      refine hK _ _ ?_
      refine wpAny_ready (rs := [3]) (by kernel_rfl) (by simp) ?_
      refine (AllReady.cons rfl (fun K hK => ?_) AllReady.nil)
      refine step_store_whole W7 ?hgd13 _ (.tmp 5) (.tmp 54) ?ho13 (w.heap.size + 1 + 1) 26 (pvT (0, 0, zeroA)).toArray (pvT PP).toArray ?hx13 ?hp13 F5.out HPI.out HPS.out HPO.out ?_; (case hgd13 => rfl); (case ho13 => rfl); (case hx13 => rfl); (case hp13 => rfl)
      intro W8 E5 O8 hz8
      obtain ⟨E4, E6⟩ := ST5.out W7 W8 F4 FB O8
      refine hK _ _ ?_
      refine wpAny_ready (rs := [4]) (by kernel_rfl) (by simp) ?_
      refine (AllReady.cons rfl (fun K hK => ?_) AllReady.nil)
      go_simp
      refine hK _ _ ?_
      refine wpAny_done (by kernel_rfl) ?_ _
      go_wp2
      refine bodyPost_ret (v := .tuple #[.agg #[.slice A'' (r.length - k) c'', .int .i64 (at_ + 1 + k)], .agg (pvT PP).toArray, .bool true])
        (results_cell2T (p := 4) (q := 5) (t := 6) rfl _ _ (w.heap.size + 1) (w.heap.size + 1 + 1) 38 26 _ _ _ rfl rfl rfl E4.out E5.out Tryd.underlying38 Tryd.underlying26 rfl rfl HRI.out HPI.out) rfl ?_
      first | exact ⟨⟨_, _, _, rfl⟩, E6.out⟩ | exact ⟨_, _, _, rfl, E6.out⟩
    · refine step_store_whole W6.drew ?hgd15 _ (.tmp 4) (.tmp 53) ?ho15 (w.heap.size + 1) 38 #[.slice none 0 0, .int .i64 0] #[.slice A'' (r.length - k) c'', .int .i64 (at_ + 1 + k)] ?hx15 ?hp15 D4.out HRI.out ?hs15 ?hq15 ?_; (case hgd15 => rfl); (case ho15 => rfl); (case hx15 => rfl); (case hp15 => rfl); (case hs15 => rfl); (case hq15 => simp [Value.oneCell'])
      intro W7 F4 O7 hz7
      obtain ⟨F6, F5, FB⟩ := ST4.out W7 F4 O7 hz7
      refine hK _ _ ?_
      refine wpAny_ready (rs := [1]) (by kernel_rfl) (by simp) ?_
      refine (AllReady.cons rfl (fun K hK => ?_) AllReady.nil)
      refine step_load_whole W7 ?hgd16 _ (.tmp 12) ?ho16 w5.heap.size 26 (pvT PP).toArray _ ?hx16 F6.out Tryd.underlying26 ?hd16 ?hi16 ?_; (case hgd16 => rfl); (case ho16 => rfl); (case hx16 => rfl); (case hd16 => rfl); (case hi16 => exact HPI.out)
      refine hK _ _ ?_
      refine wpAny_ready (rs := [3]) (by kernel_rfl) (by simp) ?_
      refine (AllReady.cons rfl (fun K hK => ?_) AllReady.nil)
      refine step_store_whole W7 ?hgd17 _ (.tmp 5) (.tmp 54) ?ho17 (w.heap.size + 1 + 1) 26 (pvT (0, 0, zeroA)).toArray (pvT PP).toArray ?hx17 ?hp17 F5.out HPI.out HPS.out HPO.out ?_; (case hgd17 => rfl); (case ho17 => rfl); (case hx17 => rfl); (case hp17 => rfl)
      intro W8 E5 O8 hz8
      obtain ⟨E4, E6⟩ := ST5.out W7 W8 F4 FB O8
      refine hK _ _ ?_
      refine wpAny_ready (rs := [4]) (by kernel_rfl) (by simp) ?_
      refine (AllReady.cons rfl (fun K hK => ?_) AllReady.nil)
      go_simp
      refine hK _ _ ?_
      refine wpAny_done (by kernel_rfl) ?_ _
      go_wp2
      refine bodyPost_ret (v := .tuple #[.agg #[.slice A'' (r.length - k) c'', .int .i64 (at_ + 1 + k)], .agg (pvT PP).toArray, .bool true])
        (results_cell2T (p := 4) (q := 5) (t := 6) rfl _ _ (w.heap.size + 1) (w.heap.size + 1 + 1) 38 26 _ _ _ rfl rfl rfl E4.out E5.out Tryd.underlying38 Tryd.underlying26 rfl rfl HRI.out HPI.out) rfl ?_
      first | exact ⟨⟨_, _, _, rfl⟩, E6.out⟩ | exact ⟨_, _, _, rfl, E6.out⟩
  · refine step_load_whole W6.drew ?hgd19 _ (.tmp 12) ?ho19 w5.heap.size 26 (pvT PP).toArray _ ?hx19 D6.out Tryd.underlying26 ?hd19 ?hi19 ?_; (case hgd19 => rfl); (case ho19 => rfl); (case hx19 => rfl); (case hd19 => rfl); (case hi19 => exact HPI.out)
    refine hK _ _ ?_
    refine wpAny_ready (rs := [0]) (by kernel_rfl) (by simp) ?_
    refine (AllReady.cons rfl (fun K hK => ?_) AllReady.nil)
    refine step_load_whole W6.drew ?hgd20 _ (.tmp 9) ?ho20 w3.heap.size 38 #[.slice A'' (r.length - k) c'', .int .i64 (at_ + 1 + k)] _ ?hx20 D9.out Tryd.underlying38 ?hd20 ?hi20 ?_; (case hgd20 => rfl); (case ho20 => rfl); (case hx20 => rfl); (case hd20 => rfl); (case hi20 => exact HRI.out)
    refine hK _ _ ?_
    refine wpAny_ready (rs := [2]) (by kernel_rfl) (by simp) ?_
    refine (AllReady.cons rfl (fun K hK => ?_) AllReady.nil)
    refine step_store_whole W6.drew ?hgd21 _ (.tmp 4) (.tmp 53) ?ho21 (w.heap.size + 1) 38 #[.slice none 0 0, .int .i64 0] #[.slice A'' (r.length - k) c'', .int .i64 (at_ + 1 + k)] ?hx21 ?hp21 D4.out HRI.out ?hs21 ?hq21 ?_; (case hgd21 => rfl); (case ho21 => rfl); (case hx21 => rfl); (case hp21 => rfl); (case hs21 => rfl); (case hq21 => simp [Value.oneCell'])
    intro W7 F4 O7 hz7
    obtain ⟨F6, F5, FB⟩ := ST4.out W7 F4 O7 hz7
    refine hK _ _ ?_
    refine wpAny_ready (rs := [3]) (by kernel_rfl) (by simp) ?_
    refine (AllReady.cons rfl (fun K hK => ?_) AllReady.nil)
    refine step_store_whole W7 ?hgd22 _ (.tmp 5) (.tmp 54) ?ho22 (w.heap.size + 1 + 1) 26 (pvT (0, 0, zeroA)).toArray (pvT PP).toArray ?hx22 ?hp22 F5.out HPI.out HPS.out HPO.out ?_; (case hgd22 => rfl); (case ho22 => rfl); (case hx22 => rfl); (case hp22 => rfl)
    intro W8 E5 O8 hz8
    obtain ⟨E4, E6⟩ := ST5.out W7 W8 F4 FB O8
    refine hK _ _ ?_
    refine wpAny_ready (rs := [4]) (by kernel_rfl) (by simp) ?_
    refine (AllReady.cons rfl (fun K hK => ?_) AllReady.nil)
    go_simp
    refine hK _ _ ?_
    refine wpAny_done (by kernel_rfl) ?_ _
    go_wp2
    refine bodyPost_ret (v := .tuple #[.agg #[.slice A'' (r.length - k) c'', .int .i64 (at_ + 1 + k)], .agg (pvT PP).toArray, .bool true])
      (results_cell2T (p := 4) (q := 5) (t := 6) rfl _ _ (w.heap.size + 1) (w.heap.size + 1 + 1) 38 26 _ _ _ rfl rfl rfl E4.out E5.out Tryd.underlying38 Tryd.underlying26 rfl rfl HRI.out HPI.out) rfl ?_
    first | exact ⟨⟨_, _, _, rfl⟩, E6.out⟩ | exact ⟨_, _, _, rfl, E6.out⟩
end Go.Proofs.YtgegloplhlkafaaDoor
