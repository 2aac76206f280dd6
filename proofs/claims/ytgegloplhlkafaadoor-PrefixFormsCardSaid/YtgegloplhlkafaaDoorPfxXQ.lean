/- prefix.Parse: what it returns. -/
import Derived.Test.YtgegloplhlkafaaDoorPfxXP
import Derived.Test.YtgegloplhlkafaaDoorPfxM
set_option autoImplicit false
namespace Go.Proofs.YtgegloplhlkafaaDoor
open Go.RowKit Go.Sort Go.Shelf

theorem below_drew2 (w : World) (n : Nat) : Below w.heap.size w (w.drewN n) := ⟨rfl, rfl, rfl, Nat.le_refl _, fun _ _ => rfl⟩
theorem cut_any (s : List UInt8) (w : World) (hl : s.length ≤ 100000) (ht : TabsR w) :
    Calls Tryd.prog 45 #[.string (strB s), .string ⟨#[47]⟩] w fun e w' => e = .returned (.tuple #[.string (strB (Lib.cut s [47]).1), .string (strB (Lib.cut s [47]).2.1), .bool (Lib.cut s [47]).2.2]) ∧ Below w.heap.size w w' := by
  obtain ⟨m, hm⟩ := ht.max
  refine (Tryd.strings_Cut (strB s) ⟨#[47]⟩ m w (by have := strB_size s; omega) hm).mono fun e w' ⟨h1, n, h2⟩ => ⟨h1, ?_⟩
  rw [h2]; exact below_drew2 w n
theorem has_any (l : List UInt8) (w : World) :
    Calls Tryd.prog 47 #[.string (strB l), .string ⟨#[58]⟩] w fun e w' => e = .returned (.bool (decide (0 ≤ Lib.indexByte l 58))) ∧ w' = w := Tryd.strings_Contains_one (strB l) 58 w
theorem atoi_ok (x : List UInt8) (n : Int) (w : World) (hl : x.length ≤ 100000) (h : Lib.atoiAll x = .ok n) :
    Calls Tryd.prog 46 #[.string (strB x)] w fun e w' => e = .returned (.tuple #[.int .i64 n, .nilIface]) ∧ Below w.heap.size w w' := by
  refine (Any.strconv_Atoi_ok Tryd.laysC172 (strB x) (by have := strB_size x; omega) n h w).mono fun e w' ⟨h1, h2⟩ => ⟨h1, ?_⟩
  rcases h2 with rfl | ⟨t, rfl⟩
  · exact Below.refl _ _
  · exact Lib.bytesWorld_below _ _ _
theorem atoi_no (x : List UInt8) (w : World) (hl : x.length ≤ 100000) (h : ∀ n, Lib.atoiAll x ≠ .ok n) (ht : TabsR w) :
    Calls Tryd.prog 46 #[.string (strB x)] w fun e w' => (∃ y t p, e = .returned (.tuple #[y, .iface t p])) ∧ Below w.heap.size w w' := by
  obtain ⟨t, p, hs⟩ := ht.syn
  obtain ⟨t', p', hr⟩ := ht.rng
  have hsz := strB_size x
  rcases hh : Lib.atoiAll (strB x).data.toList with u | _ | _
  · exact absurd hh (h u)
  · exact (Any.strconv_Atoi_syntax Tryd.laysC172 (strB x) (by omega) hh _ w hs (.inr ⟨_, _, rfl⟩)).mono fun e w' ⟨N, h1, _, _, h4⟩ => ⟨⟨_, _, _, h1⟩, h4⟩
  · exact (Any.strconv_Atoi_range Tryd.laysC172 (strB x) (by omega) hh _ w hr (.inr ⟨_, _, rfl⟩)).mono fun e w' ⟨N, h1, _, _, h4⟩ => ⟨⟨_, _, _, h1⟩, h4⟩
/-- A prefix stored where one lay. -/
theorem wpList_store_pfx {ops : Array Oper} {rest : List Oper} {o : Oper} {a : Act} {Q : Exit → Act → World → Prop} (W : World) (hgd : o.guard = none) (p x : Operand) (ho : o.op = .store 26 p x)
    (g : Nat) (old new : Int × Int × List Int) (hx : a.eval x = .agg (pvT new).toArray) (hp : a.eval p = .pointer (some ⟨g, 0, none⟩)) (hg : W.heap[g]? = some (.cells (pvT old).toArray 26 (0, 0))) (h0 : old.2.2.length = 16) (h1 : new.2.2.length = 16)
    (h : ∀ W', Hid (W'.heap[g]? = some (.cells (pvT new).toArray 26 (0, 0))) → Hid (W.grownBy W' (some g)) → W'.heap.size = W.heap.size → wpList Tryd.prog ops Q rest (a.put o.dst undef) W') :
    wpList Tryd.prog ops Q (o :: rest) a W := by
  have hz := pvT_len new h1
  have hz0 := pvT_len old h0
  refine wpList_store_mid hgd 26 p x ho g 0 hp 26 (pvT old).toArray (pvT new).toArray hx hg (by rw [pfx_info, hz]) (by omega) (by simpa [pvT] using pvL_one _ _ _) ?_
  rw [whole_store (pvT old).toArray (pvT new).toArray (by omega)]
  refine h _ (hide (setRow_heap W g _ _ _ _ hg)) (hide ?_) (by simp [World.setRow])
  exact ⟨rfl, rfl, rfl, by simp [World.setRow], fun i hi hne => setRow_other W g i _ (by rintro rfl; exact hne rfl)⟩
theorem below_only {a w w' : World} {B g : Nat} (h : Below B a w) (k : w.grownBy w' (some g)) (hB : B ≤ w.heap.size) (hg : B ≤ g) : Below B a w' := h.grown k hB (fun g' hg' => by injection hg'; omega)
def ZP : Int × Int × List Int := (0, 0, zeroA)
theorem zp16 : ZP.2.2.length = 16 := rfl

set_option maxRecDepth 100000 in
set_option maxHeartbeats 8000000 in
theorem pparse_no (s : List UInt8) (w : World) (hl : s.length ≤ 100000) (h : ∀ n, Lib.atoiAll (Lib.cut s [47]).2.1 ≠ .ok n) (hl1 : (Lib.cut s [47]).2.1.length ≤ s.length) (ht : TabsR w) :
    Calls Tryd.prog 22 #[.string (strB s)] w fun e w' => e = .returned (.tuple #[.agg (pvT ZP).toArray, .bool false]) ∧ Below w.heap.size w w' := by
  have hb0 : Below w.heap.size w (w.alloc (.cells (pvL 0 0 zeroA).toArray 26)) := (Below.refl _ _).alloc (Nat.le_refl _) _
  have hcut := cut_any s _ hl (ht.below hb0)
  have hat : ∀ W, Below w.heap.size w W → _ := fun W hb => atoi_no _ W (by omega) h (ht.below hb)
  have HC := hide hcut
  have HAT := hide hat
  have HB0 := hide hb0
  clear hcut hat h hb0 ht
  generalize strB (Lib.cut s [47]).1 = s0 at *
  generalize strB (Lib.cut s [47]).2.1 = s1 at *
  go_enter Tryd.func22, Tryd.ntmps22
  go_wp2_with (first
    | (go_at_call 45; refine HC.out.mono ?_; rintro e w1 ⟨rfl, hb1⟩
       have g1 : w1.heap[w.heap.size]? = some (.cells (pvT ZP).toArray 26 (0, 0)) := (hb1.block w.heap.size (by simp)).trans (heap_alloc_new _ _)
       have hbw := HB0.out.trans (hb1.mono HB0.out.size)
       have G1 := hide g1
       have HB1 := hide hbw
       have hz1 := hbw.size
       have hlt1 := lt_of_block g1
       clear g1 hbw hb1)
    | (go_at_call 46; refine (HAT.out _ HB1.out).mono ?_; rintro e w2 ⟨⟨y, t, p, rfl⟩, hb2⟩
       have g2 : w2.heap[w.heap.size]? = some (.cells (pvT ZP).toArray 26 (0, 0)) := (hb2.block w.heap.size hlt1).trans G1.out
       have hbw := HB1.out.trans (hb2.mono hz1)
       have G2 := hide g2
       have HB2 := hide hbw
       have hz2 := hbw.size
       clear g2 hbw hb2)
    | ((with_reducible refine wpList_store_pfx w2 ?hgd1 (.tmp 2) (.tmp 23) ?ho1 w.heap.size ZP ZP ?hx1 ?hp1 G2.out zp16 zp16 ?_); (case hgd1 => rfl); (case ho1 => rfl); (case hx1 => rfl); (case hp1 => rfl)
       intro W3 G3 O3 hzW3
       have B3 := below_only HB2.out O3.out hz2 (Nat.le_refl _)))
  exact bodyPost_ret (results_cell_tmp (p := 2) (t := 3) (ty := 26) rfl _ _ w.heap.size 26 _ (0, 0) _ _ rfl rfl G3.out Tryd.underlying26 rfl (by rw [pfx_info]; rfl)) rfl ⟨rfl, B3⟩
set_option maxRecDepth 100000 in
set_option maxHeartbeats 8000000 in
theorem pparse_col (S s0 s1 TX : ByteArray) (n : Int) (b mk V RB : Bool) (PP RR : Int × Int × List Int) (w : World) (RS RP : Value → World → Prop) (h16 : PP.2.2.length = 16)
    (KC : ∀ W, Below w.heap.size w W → Calls Tryd.prog 45 #[.string S, .string ⟨#[47]⟩] W fun e w' => e = .returned (.tuple #[.string s0, .string s1, .bool b]) ∧ Below W.heap.size W w')
    (KA : ∀ W, Below w.heap.size w W → Calls Tryd.prog 46 #[.string s1] W fun e w' => e = .returned (.tuple #[.int .i64 n, .nilIface]) ∧ Below W.heap.size W w')
    (KH : ∀ W, Calls Tryd.prog 47 #[.string s0, .string ⟨#[58]⟩] W fun e w' => e = .returned (.bool true) ∧ w' = W)
    (KS : ∀ W, Below w.heap.size w W → Calls Tryd.prog 49 #[.string s0, .string ⟨#[58]⟩] W fun e w' => ∃ v, e = .returned v ∧ RS v w' ∧ Below W.heap.size W w')
    (KP : ∀ v W, Below w.heap.size w W → RS v W → Calls Tryd.prog 48 #[v, .int .i64 16, .int .i64 16] W fun e w' => ∃ v', e = .returned v' ∧ RP v' w' ∧ Below W.heap.size W w')
    (KM : ∀ v W, RP v W → Calls Tryd.prog 10 #[.int .i64 2, .int .i64 n, v] W fun e w' => e = .returned (.tuple #[.agg (pvT PP).toArray, .bool mk]) ∧ Below W.heap.size W w')
    (KV : ∀ W, Calls Tryd.prog 19 #[.agg (pvT PP).toArray] W fun e w' => e = .returned (.bool V) ∧ Below W.heap.size W w')
    (KY : V = true → TX = S → RR = PP ∧ RB = true) (KN : ¬ (V = true ∧ TX = S) → RR = ZP ∧ RB = false)
    (KT : ∀ W, Below w.heap.size w W → Calls Tryd.prog 24 #[.agg (pvT PP).toArray] W fun e w' => e = .returned (.string TX) ∧ Below W.heap.size W w') :
    Calls Tryd.prog 22 #[.string S] w fun e w' => e = .returned (.tuple #[.agg (pvT RR).toArray, .bool RB]) ∧ Below w.heap.size w w' := by
  have hb0 : Below w.heap.size w (w.alloc (.cells (pvL 0 0 zeroA).toArray 26)) := (Below.refl _ _).alloc (Nat.le_refl _) _
  have HB0 := hide hb0
  have H16 := Lib.hid h16
  have QKC := hide KC
  have QKA := hide KA
  have QKH := hide KH
  have QKS := hide KS
  have QKP := hide KP
  have QKM := hide KM
  have QKV := hide KV
  have QKT := hide KT
  have QKY := hide KY
  have QKN := hide KN
  clear hb0 h16 KC KA KH KS KP KM KV KT KY KN
  cases V
  · go_enter Tryd.func22, Tryd.ntmps22
    go_wp2_with (first
      | (go_at_call 45; refine (QKC.out _ HB0.out).mono ?_; rintro e w1 ⟨rfl, hb1⟩
         have g1 : w1.heap[w.heap.size]? = some (.cells (pvT ZP).toArray 26 (0, 0)) := (hb1.block w.heap.size (by simp)).trans (heap_alloc_new _ _)
         have hbw := HB0.out.trans (hb1.mono HB0.out.size)
         have G1 := hide g1
         have HB1 := hide hbw
         have hz1 := hbw.size
         have hlt1 := lt_of_block g1
         clear g1 hbw hb1)
      | (go_at_call 46; refine (QKA.out _ HB1.out).mono ?_; rintro e w2 ⟨rfl, hb2⟩
         have g2 : w2.heap[w.heap.size]? = some (.cells (pvT ZP).toArray 26 (0, 0)) := (hb2.block w.heap.size hlt1).trans G1.out
         have hbw := (HB1.out.trans (hb2.mono hz1)).alloc (by have := hb2.size; omega) (.cells (pvL 0 0 zeroA).toArray 26)
         have G2 := hide g2
         have HB2 := hide hbw
         have hz2 := hb2.size
         have hlt2 := lt_of_block g2
         clear g2 hbw hb2)
      | (go_at_call 47; refine (QKH.out _).mono ?_; rintro e w3 ⟨rfl, rfl⟩)
      | (go_at_call 49; refine (QKS.out _ HB2.out).mono ?_; rintro e w4 ⟨v4, rfl, hr4, hb4⟩
         have hbw := HB2.out.trans (hb4.mono HB2.out.size)
         have HB4 := hide hbw
         have R4 := hide hr4
         have D4 := hide hb4
         clear hbw hr4 hb4)
      | (go_at_call 48; refine (QKP.out _ _ HB4.out R4.out).mono ?_; rintro e w5 ⟨v5, rfl, hr5, hb5⟩
         have hbw := HB4.out.trans (hb5.mono HB4.out.size)
         have hd := D4.out.trans (hb5.mono D4.out.size)
         have HB5 := hide hbw
         have R5 := hide hr5
         have D5 := hide hd
         clear hbw hr5 hb5 hd)
      | (go_at_call 10; refine (QKM.out _ _ R5.out).mono ?_; rintro e w6 ⟨rfl, hb6⟩
         have hbw := HB5.out.trans (hb6.mono HB5.out.size)
         have hd := D5.out.trans (hb6.mono D5.out.size)
         have g6 := (hd.block w.heap.size (by simp; omega)).trans ((Below.heap_alloc w2 _ _ hlt2).trans G2.out)
         have g9 := (hd.block w2.heap.size (by simp)).trans (heap_alloc_new w2 (.cells (pvT ZP).toArray 26))
         have hz6 := hbw.size
         have HB6 := hide hbw
         have G6 := hide g6
         have G9 := hide g9
         clear hbw hb6 hd g6 g9)
      | ((with_reducible refine wpList_store_pfx w6 ?hgd1 (.tmp 9) (.tmp 32) ?ho1 w2.heap.size ZP PP ?hx1 ?hp1 G9.out zp16 H16.out ?_); (case hgd1 => rfl); (case ho1 => rfl); (case hx1 => rfl); (case hp1 => rfl)
         intro W7 G97 O7 hzW7
         have g7 := (O7.out.block w.heap.size (lt_of_block G6.out) (by intro e; injection e; omega)).trans G6.out
         have B7 := hide (below_only HB6.out O7.out hz6 (by omega))
         have G7 := hide g7
         have hz7 : w.heap.size ≤ W7.heap.size := by omega
         clear g7 O7)
      | ((with_reducible refine wpList_load_pfx ?hgd2 (.tmp 9) ?ho2 w2.heap.size PP ?hx2 G97.out H16.out ?_); (case hgd2 => rfl); (case ho2 => rfl); (case hx2 => rfl))
      | (go_at_call 19; refine (QKV.out _).mono ?_; rintro e w8 ⟨rfl, hb8⟩
         have g8 := (hb8.block w.heap.size (lt_of_block G7.out)).trans G7.out
         have g98 := (hb8.block w2.heap.size (lt_of_block G97.out)).trans G97.out
         have b8 := B7.out.trans (hb8.mono hz7)
         have G8 := hide g8
         have G98 := hide g98
         have B8 := hide b8
         have hz8 := b8.size
         clear g8 g98 b8 hb8)
      | ((with_reducible refine wpList_store_pfx w8 ?hgd9 (.tmp 2) (.tmp 51) ?ho9 w.heap.size ZP ZP ?hx9 ?hp9 G8.out zp16 zp16 ?_); (case hgd9 => rfl); (case ho9 => rfl); (case hx9 => rfl); (case hp9 => rfl)
         intro WE GE OE hzWE
         have BE := below_only B8.out OE.out hz8 (Nat.le_refl _)))
    exact bodyPost_ret (results_cell_tmp (p := 2) (t := 3) (ty := 26) rfl _ _ w.heap.size 26 _ (0, 0) _ _ rfl rfl GE.out Tryd.underlying26 rfl (by rw [pfx_info]; rfl)) rfl ⟨by rw [(QKN.out (by simp)).1, (QKN.out (by simp)).2]; rfl, BE⟩
  · by_cases hTS : TX = S
    · go_enter Tryd.func22, Tryd.ntmps22
      go_wp2_with (first
        | (go_at_call 45; refine (QKC.out _ HB0.out).mono ?_; rintro e w1 ⟨rfl, hb1⟩
           have g1 : w1.heap[w.heap.size]? = some (.cells (pvT ZP).toArray 26 (0, 0)) := (hb1.block w.heap.size (by simp)).trans (heap_alloc_new _ _)
           have hbw := HB0.out.trans (hb1.mono HB0.out.size)
           have G1 := hide g1
           have HB1 := hide hbw
           have hz1 := hbw.size
           have hlt1 := lt_of_block g1
           clear g1 hbw hb1)
        | (go_at_call 46; refine (QKA.out _ HB1.out).mono ?_; rintro e w2 ⟨rfl, hb2⟩
           have g2 : w2.heap[w.heap.size]? = some (.cells (pvT ZP).toArray 26 (0, 0)) := (hb2.block w.heap.size hlt1).trans G1.out
           have hbw := (HB1.out.trans (hb2.mono hz1)).alloc (by have := hb2.size; omega) (.cells (pvL 0 0 zeroA).toArray 26)
           have G2 := hide g2
           have HB2 := hide hbw
           have hz2 := hb2.size
           have hlt2 := lt_of_block g2
           clear g2 hbw hb2)
        | (go_at_call 47; refine (QKH.out _).mono ?_; rintro e w3 ⟨rfl, rfl⟩)
        | (go_at_call 49; refine (QKS.out _ HB2.out).mono ?_; rintro e w4 ⟨v4, rfl, hr4, hb4⟩
           have hbw := HB2.out.trans (hb4.mono HB2.out.size)
           have HB4 := hide hbw
           have R4 := hide hr4
           have D4 := hide hb4
           clear hbw hr4 hb4)
        | (go_at_call 48; refine (QKP.out _ _ HB4.out R4.out).mono ?_; rintro e w5 ⟨v5, rfl, hr5, hb5⟩
           have hbw := HB4.out.trans (hb5.mono HB4.out.size)
           have hd := D4.out.trans (hb5.mono D4.out.size)
           have HB5 := hide hbw
           have R5 := hide hr5
           have D5 := hide hd
           clear hbw hr5 hb5 hd)
        | (go_at_call 10; refine (QKM.out _ _ R5.out).mono ?_; rintro e w6 ⟨rfl, hb6⟩
           have hbw := HB5.out.trans (hb6.mono HB5.out.size)
           have hd := D5.out.trans (hb6.mono D5.out.size)
           have g6 := (hd.block w.heap.size (by simp; omega)).trans ((Below.heap_alloc w2 _ _ hlt2).trans G2.out)
           have g9 := (hd.block w2.heap.size (by simp)).trans (heap_alloc_new w2 (.cells (pvT ZP).toArray 26))
           have hz6 := hbw.size
           have HB6 := hide hbw
           have G6 := hide g6
           have G9 := hide g9
           clear hbw hb6 hd g6 g9)
        | ((with_reducible refine wpList_store_pfx w6 ?hgd1 (.tmp 9) (.tmp 32) ?ho1 w2.heap.size ZP PP ?hx1 ?hp1 G9.out zp16 H16.out ?_); (case hgd1 => rfl); (case ho1 => rfl); (case hx1 => rfl); (case hp1 => rfl)
           intro W7 G97 O7 hzW7
           have g7 := (O7.out.block w.heap.size (lt_of_block G6.out) (by intro e; injection e; omega)).trans G6.out
           have B7 := hide (below_only HB6.out O7.out hz6 (by omega))
           have G7 := hide g7
           have hz7 : w.heap.size ≤ W7.heap.size := by omega
           clear g7 O7)
        | ((with_reducible refine wpList_load_pfx ?hgd2 (.tmp 9) ?ho2 w2.heap.size PP ?hx2 G97.out H16.out ?_); (case hgd2 => rfl); (case ho2 => rfl); (case hx2 => rfl))
        | (go_at_call 19; refine (QKV.out _).mono ?_; rintro e w8 ⟨rfl, hb8⟩
           have g8 := (hb8.block w.heap.size (lt_of_block G7.out)).trans G7.out
           have g98 := (hb8.block w2.heap.size (lt_of_block G97.out)).trans G97.out
           have b8 := B7.out.trans (hb8.mono hz7)
           have G8 := hide g8
           have G98 := hide g98
           have B8 := hide b8
           have hz8 := b8.size
           clear g8 g98 b8 hb8)
        | ((with_reducible refine wpList_load_pfxG ?hgd3 (.tmp 9) ?ho3 w2.heap.size PP ?hx3 G98.out H16.out ?_); (case hgd3 => rfl); (case ho3 => rfl); (case hx3 => rfl))
        | (go_at_call 24; refine (QKT.out _ B8.out).mono ?_; rintro e w9 ⟨rfl, hb9⟩
           have g9 := (hb9.block w.heap.size (lt_of_block G8.out)).trans G8.out
           have g99 := (hb9.block w2.heap.size (lt_of_block G98.out)).trans G98.out
           have b9 := B8.out.trans (hb9.mono hz8)
           have G9T := hide g9
           have G99 := hide g99
           have B9 := hide b9
           have hz9 := b9.size
           clear g9 g99 b9 hb9)
        | ((with_reducible refine wpList_load_pfx ?hgd4 (.tmp 9) ?ho4 w2.heap.size PP ?hx4 G99.out H16.out ?_); (case hgd4 => rfl); (case ho4 => rfl); (case hx4 => rfl))
        | ((with_reducible refine wpList_store_pfx w9 ?hgd9 (.tmp 2) (.tmp 52) ?ho9 w.heap.size ZP PP ?hx9 ?hp9 G9T.out zp16 H16.out ?_); (case hgd9 => rfl); (case ho9 => rfl); (case hx9 => rfl); (case hp9 => rfl)
           intro WE GE OE hzWE
           have BE := below_only B9.out OE.out hz9 (Nat.le_refl _)))
      exact bodyPost_ret (results_cell_tmp (p := 2) (t := 3) (ty := 26) rfl _ _ w.heap.size 26 _ (0, 0) _ _ rfl rfl GE.out Tryd.underlying26 rfl (by rw [pfx_info, pvT_len PP H16.out])) rfl ⟨by rw [(QKY.out (by simp) hTS).1, (QKY.out (by simp) hTS).2]; rfl, BE⟩
    · have hne : (TX.toList == S.toList) = false := beq_eq_false_iff_ne.2 fun h => by
        rw [ByteArray.toList_eq, ByteArray.toList_eq] at h
        exact hTS (ByteArray.ext (Array.toList_inj.1 h))
      have HTS := hide hTS
      clear hTS
      go_enter Tryd.func22, Tryd.ntmps22
      go_wp2_with (first
        | (go_at_call 45; refine (QKC.out _ HB0.out).mono ?_; rintro e w1 ⟨rfl, hb1⟩
           have g1 : w1.heap[w.heap.size]? = some (.cells (pvT ZP).toArray 26 (0, 0)) := (hb1.block w.heap.size (by simp)).trans (heap_alloc_new _ _)
           have hbw := HB0.out.trans (hb1.mono HB0.out.size)
           have G1 := hide g1
           have HB1 := hide hbw
           have hz1 := hbw.size
           have hlt1 := lt_of_block g1
           clear g1 hbw hb1)
        | (go_at_call 46; refine (QKA.out _ HB1.out).mono ?_; rintro e w2 ⟨rfl, hb2⟩
           have g2 : w2.heap[w.heap.size]? = some (.cells (pvT ZP).toArray 26 (0, 0)) := (hb2.block w.heap.size hlt1).trans G1.out
           have hbw := (HB1.out.trans (hb2.mono hz1)).alloc (by have := hb2.size; omega) (.cells (pvL 0 0 zeroA).toArray 26)
           have G2 := hide g2
           have HB2 := hide hbw
           have hz2 := hb2.size
           have hlt2 := lt_of_block g2
           clear g2 hbw hb2)
        | (go_at_call 47; refine (QKH.out _).mono ?_; rintro e w3 ⟨rfl, rfl⟩)
        | (go_at_call 49; refine (QKS.out _ HB2.out).mono ?_; rintro e w4 ⟨v4, rfl, hr4, hb4⟩
           have hbw := HB2.out.trans (hb4.mono HB2.out.size)
           have HB4 := hide hbw
           have R4 := hide hr4
           have D4 := hide hb4
           clear hbw hr4 hb4)
        | (go_at_call 48; refine (QKP.out _ _ HB4.out R4.out).mono ?_; rintro e w5 ⟨v5, rfl, hr5, hb5⟩
           have hbw := HB4.out.trans (hb5.mono HB4.out.size)
           have hd := D4.out.trans (hb5.mono D4.out.size)
           have HB5 := hide hbw
           have R5 := hide hr5
           have D5 := hide hd
           clear hbw hr5 hb5 hd)
        | (go_at_call 10; refine (QKM.out _ _ R5.out).mono ?_; rintro e w6 ⟨rfl, hb6⟩
           have hbw := HB5.out.trans (hb6.mono HB5.out.size)
           have hd := D5.out.trans (hb6.mono D5.out.size)
           have g6 := (hd.block w.heap.size (by simp; omega)).trans ((Below.heap_alloc w2 _ _ hlt2).trans G2.out)
           have g9 := (hd.block w2.heap.size (by simp)).trans (heap_alloc_new w2 (.cells (pvT ZP).toArray 26))
           have hz6 := hbw.size
           have HB6 := hide hbw
           have G6 := hide g6
           have G9 := hide g9
           clear hbw hb6 hd g6 g9)
        | ((with_reducible refine wpList_store_pfx w6 ?hgd1 (.tmp 9) (.tmp 32) ?ho1 w2.heap.size ZP PP ?hx1 ?hp1 G9.out zp16 H16.out ?_); (case hgd1 => rfl); (case ho1 => rfl); (case hx1 => rfl); (case hp1 => rfl)
           intro W7 G97 O7 hzW7
           have g7 := (O7.out.block w.heap.size (lt_of_block G6.out) (by intro e; injection e; omega)).trans G6.out
           have B7 := hide (below_only HB6.out O7.out hz6 (by omega))
           have G7 := hide g7
           have hz7 : w.heap.size ≤ W7.heap.size := by omega
           clear g7 O7)
        | ((with_reducible refine wpList_load_pfx ?hgd2 (.tmp 9) ?ho2 w2.heap.size PP ?hx2 G97.out H16.out ?_); (case hgd2 => rfl); (case ho2 => rfl); (case hx2 => rfl))
        | (go_at_call 19; refine (QKV.out _).mono ?_; rintro e w8 ⟨rfl, hb8⟩
           have g8 := (hb8.block w.heap.size (lt_of_block G7.out)).trans G7.out
           have g98 := (hb8.block w2.heap.size (lt_of_block G97.out)).trans G97.out
           have b8 := B7.out.trans (hb8.mono hz7)
           have G8 := hide g8
           have G98 := hide g98
           have B8 := hide b8
           have hz8 := b8.size
           clear g8 g98 b8 hb8)
        | ((with_reducible refine wpList_load_pfxG ?hgd3 (.tmp 9) ?ho3 w2.heap.size PP ?hx3 G98.out H16.out ?_); (case hgd3 => rfl); (case ho3 => rfl); (case hx3 => rfl))
        | (go_at_call 24; refine (QKT.out _ B8.out).mono ?_; rintro e w9 ⟨rfl, hb9⟩
           have g9 := (hb9.block w.heap.size (lt_of_block G8.out)).trans G8.out
           have g99 := (hb9.block w2.heap.size (lt_of_block G98.out)).trans G98.out
           have b9 := B8.out.trans (hb9.mono hz8)
           have G9T := hide g9
           have G99 := hide g99
           have B9 := hide b9
           have hz9 := b9.size
           clear g9 g99 b9 hb9)
        | ((with_reducible refine wpList_store_pfx w9 ?hgd9 (.tmp 2) (.tmp 51) ?ho9 w.heap.size ZP ZP ?hx9 ?hp9 G9T.out zp16 zp16 ?_); (case hgd9 => rfl); (case ho9 => rfl); (case hx9 => rfl); (case hp9 => rfl)
           intro WE GE OE hzWE
           have BE := below_only B9.out OE.out hz9 (Nat.le_refl _)))
      exact bodyPost_ret (results_cell_tmp (p := 2) (t := 3) (ty := 26) rfl _ _ w.heap.size 26 _ (0, 0) _ _ rfl rfl GE.out Tryd.underlying26 rfl (by rw [pfx_info]; rfl)) rfl ⟨by rw [(QKN.out (by simp [HTS.out])).1, (QKN.out (by simp [HTS.out])).2]; rfl, BE⟩
set_option maxRecDepth 100000 in
set_option maxHeartbeats 8000000 in
theorem pparse_dot (S s0 s1 TX : ByteArray) (n : Int) (b mk V RB : Bool) (PP RR : Int × Int × List Int) (w : World) (RS RP : Value → World → Prop) (h16 : PP.2.2.length = 16)
    (KC : ∀ W, Below w.heap.size w W → Calls Tryd.prog 45 #[.string S, .string ⟨#[47]⟩] W fun e w' => e = .returned (.tuple #[.string s0, .string s1, .bool b]) ∧ Below W.heap.size W w')
    (KA : ∀ W, Below w.heap.size w W → Calls Tryd.prog 46 #[.string s1] W fun e w' => e = .returned (.tuple #[.int .i64 n, .nilIface]) ∧ Below W.heap.size W w')
    (KH : ∀ W, Calls Tryd.prog 47 #[.string s0, .string ⟨#[58]⟩] W fun e w' => e = .returned (.bool false) ∧ w' = W)
    (KS : ∀ W, Below w.heap.size w W → Calls Tryd.prog 49 #[.string s0, .string ⟨#[46]⟩] W fun e w' => ∃ v, e = .returned v ∧ RS v w' ∧ Below W.heap.size W w')
    (KP : ∀ v W, Below w.heap.size w W → RS v W → Calls Tryd.prog 48 #[v, .int .i64 10, .int .i64 8] W fun e w' => ∃ v', e = .returned v' ∧ RP v' w' ∧ Below W.heap.size W w')
    (KM : ∀ v W, RP v W → Calls Tryd.prog 10 #[.int .i64 1, .int .i64 n, v] W fun e w' => e = .returned (.tuple #[.agg (pvT PP).toArray, .bool mk]) ∧ Below W.heap.size W w')
    (KV : ∀ W, Calls Tryd.prog 19 #[.agg (pvT PP).toArray] W fun e w' => e = .returned (.bool V) ∧ Below W.heap.size W w')
    (KY : V = true → TX = S → RR = PP ∧ RB = true) (KN : ¬ (V = true ∧ TX = S) → RR = ZP ∧ RB = false)
    (KT : ∀ W, Below w.heap.size w W → Calls Tryd.prog 24 #[.agg (pvT PP).toArray] W fun e w' => e = .returned (.string TX) ∧ Below W.heap.size W w') :
    Calls Tryd.prog 22 #[.string S] w fun e w' => e = .returned (.tuple #[.agg (pvT RR).toArray, .bool RB]) ∧ Below w.heap.size w w' := by
  have hb0 : Below w.heap.size w (w.alloc (.cells (pvL 0 0 zeroA).toArray 26)) := (Below.refl _ _).alloc (Nat.le_refl _) _
  have HB0 := hide hb0
  have H16 := Lib.hid h16
  have QKC := hide KC
  have QKA := hide KA
  have QKH := hide KH
  have QKS := hide KS
  have QKP := hide KP
  have QKM := hide KM
  have QKV := hide KV
  have QKT := hide KT
  have QKY := hide KY
  have QKN := hide KN
  clear hb0 h16 KC KA KH KS KP KM KV KT KY KN
  cases V
  · go_enter Tryd.func22, Tryd.ntmps22
    go_wp2_with (first
      | (go_at_call 45; refine (QKC.out _ HB0.out).mono ?_; rintro e w1 ⟨rfl, hb1⟩
         have g1 : w1.heap[w.heap.size]? = some (.cells (pvT ZP).toArray 26 (0, 0)) := (hb1.block w.heap.size (by simp)).trans (heap_alloc_new _ _)
         have hbw := HB0.out.trans (hb1.mono HB0.out.size)
         have G1 := hide g1
         have HB1 := hide hbw
         have hz1 := hbw.size
         have hlt1 := lt_of_block g1
         clear g1 hbw hb1)
      | (go_at_call 46; refine (QKA.out _ HB1.out).mono ?_; rintro e w2 ⟨rfl, hb2⟩
         have g2 : w2.heap[w.heap.size]? = some (.cells (pvT ZP).toArray 26 (0, 0)) := (hb2.block w.heap.size hlt1).trans G1.out
         have hbw := (HB1.out.trans (hb2.mono hz1)).alloc (by have := hb2.size; omega) (.cells (pvL 0 0 zeroA).toArray 26)
         have G2 := hide g2
         have HB2 := hide hbw
         have hz2 := hb2.size
         have hlt2 := lt_of_block g2
         clear g2 hbw hb2)
      | (go_at_call 47; refine (QKH.out _).mono ?_; rintro e w3 ⟨rfl, rfl⟩)
      | (go_at_call 49; refine (QKS.out _ HB2.out).mono ?_; rintro e w4 ⟨v4, rfl, hr4, hb4⟩
         have hbw := HB2.out.trans (hb4.mono HB2.out.size)
         have HB4 := hide hbw
         have R4 := hide hr4
         have D4 := hide hb4
         clear hbw hr4 hb4)
      | (go_at_call 48; refine (QKP.out _ _ HB4.out R4.out).mono ?_; rintro e w5 ⟨v5, rfl, hr5, hb5⟩
         have hbw := HB4.out.trans (hb5.mono HB4.out.size)
         have hd := D4.out.trans (hb5.mono D4.out.size)
         have HB5 := hide hbw
         have R5 := hide hr5
         have D5 := hide hd
         clear hbw hr5 hb5 hd)
      | (go_at_call 10; refine (QKM.out _ _ R5.out).mono ?_; rintro e w6 ⟨rfl, hb6⟩
         have hbw := HB5.out.trans (hb6.mono HB5.out.size)
         have hd := D5.out.trans (hb6.mono D5.out.size)
         have g6 := (hd.block w.heap.size (by simp; omega)).trans ((Below.heap_alloc w2 _ _ hlt2).trans G2.out)
         have g9 := (hd.block w2.heap.size (by simp)).trans (heap_alloc_new w2 (.cells (pvT ZP).toArray 26))
         have hz6 := hbw.size
         have HB6 := hide hbw
         have G6 := hide g6
         have G9 := hide g9
         clear hbw hb6 hd g6 g9)
      | ((with_reducible refine wpList_store_pfx w6 ?hgd1 (.tmp 9) (.tmp 40) ?ho1 w2.heap.size ZP PP ?hx1 ?hp1 G9.out zp16 H16.out ?_); (case hgd1 => rfl); (case ho1 => rfl); (case hx1 => rfl); (case hp1 => rfl)
         intro W7 G97 O7 hzW7
         have g7 := (O7.out.block w.heap.size (lt_of_block G6.out) (by intro e; injection e; omega)).trans G6.out
         have B7 := hide (below_only HB6.out O7.out hz6 (by omega))
         have G7 := hide g7
         have hz7 : w.heap.size ≤ W7.heap.size := by omega
         clear g7 O7)
      | ((with_reducible refine wpList_load_pfx ?hgd2 (.tmp 9) ?ho2 w2.heap.size PP ?hx2 G97.out H16.out ?_); (case hgd2 => rfl); (case ho2 => rfl); (case hx2 => rfl))
      | (go_at_call 19; refine (QKV.out _).mono ?_; rintro e w8 ⟨rfl, hb8⟩
         have g8 := (hb8.block w.heap.size (lt_of_block G7.out)).trans G7.out
         have g98 := (hb8.block w2.heap.size (lt_of_block G97.out)).trans G97.out
         have b8 := B7.out.trans (hb8.mono hz7)
         have G8 := hide g8
         have G98 := hide g98
         have B8 := hide b8
         have hz8 := b8.size
         clear g8 g98 b8 hb8)
      | ((with_reducible refine wpList_store_pfx w8 ?hgd9 (.tmp 2) (.tmp 51) ?ho9 w.heap.size ZP ZP ?hx9 ?hp9 G8.out zp16 zp16 ?_); (case hgd9 => rfl); (case ho9 => rfl); (case hx9 => rfl); (case hp9 => rfl)
         intro WE GE OE hzWE
         have BE := below_only B8.out OE.out hz8 (Nat.le_refl _)))
    exact bodyPost_ret (results_cell_tmp (p := 2) (t := 3) (ty := 26) rfl _ _ w.heap.size 26 _ (0, 0) _ _ rfl rfl GE.out Tryd.underlying26 rfl (by rw [pfx_info]; rfl)) rfl ⟨by rw [(QKN.out (by simp)).1, (QKN.out (by simp)).2]; rfl, BE⟩
  · by_cases hTS : TX = S
    · go_enter Tryd.func22, Tryd.ntmps22
      go_wp2_with (first
        | (go_at_call 45; refine (QKC.out _ HB0.out).mono ?_; rintro e w1 ⟨rfl, hb1⟩
           have g1 : w1.heap[w.heap.size]? = some (.cells (pvT ZP).toArray 26 (0, 0)) := (hb1.block w.heap.size (by simp)).trans (heap_alloc_new _ _)
           have hbw := HB0.out.trans (hb1.mono HB0.out.size)
           have G1 := hide g1
           have HB1 := hide hbw
           have hz1 := hbw.size
           have hlt1 := lt_of_block g1
           clear g1 hbw hb1)
        | (go_at_call 46; refine (QKA.out _ HB1.out).mono ?_; rintro e w2 ⟨rfl, hb2⟩
           have g2 : w2.heap[w.heap.size]? = some (.cells (pvT ZP).toArray 26 (0, 0)) := (hb2.block w.heap.size hlt1).trans G1.out
           have hbw := (HB1.out.trans (hb2.mono hz1)).alloc (by have := hb2.size; omega) (.cells (pvL 0 0 zeroA).toArray 26)
           have G2 := hide g2
           have HB2 := hide hbw
           have hz2 := hb2.size
           have hlt2 := lt_of_block g2
           clear g2 hbw hb2)
        | (go_at_call 47; refine (QKH.out _).mono ?_; rintro e w3 ⟨rfl, rfl⟩)
        | (go_at_call 49; refine (QKS.out _ HB2.out).mono ?_; rintro e w4 ⟨v4, rfl, hr4, hb4⟩
           have hbw := HB2.out.trans (hb4.mono HB2.out.size)
           have HB4 := hide hbw
           have R4 := hide hr4
           have D4 := hide hb4
           clear hbw hr4 hb4)
        | (go_at_call 48; refine (QKP.out _ _ HB4.out R4.out).mono ?_; rintro e w5 ⟨v5, rfl, hr5, hb5⟩
           have hbw := HB4.out.trans (hb5.mono HB4.out.size)
           have hd := D4.out.trans (hb5.mono D4.out.size)
           have HB5 := hide hbw
           have R5 := hide hr5
           have D5 := hide hd
           clear hbw hr5 hb5 hd)
        | (go_at_call 10; refine (QKM.out _ _ R5.out).mono ?_; rintro e w6 ⟨rfl, hb6⟩
           have hbw := HB5.out.trans (hb6.mono HB5.out.size)
           have hd := D5.out.trans (hb6.mono D5.out.size)
           have g6 := (hd.block w.heap.size (by simp; omega)).trans ((Below.heap_alloc w2 _ _ hlt2).trans G2.out)
           have g9 := (hd.block w2.heap.size (by simp)).trans (heap_alloc_new w2 (.cells (pvT ZP).toArray 26))
           have hz6 := hbw.size
           have HB6 := hide hbw
           have G6 := hide g6
           have G9 := hide g9
           clear hbw hb6 hd g6 g9)
        | ((with_reducible refine wpList_store_pfx w6 ?hgd1 (.tmp 9) (.tmp 40) ?ho1 w2.heap.size ZP PP ?hx1 ?hp1 G9.out zp16 H16.out ?_); (case hgd1 => rfl); (case ho1 => rfl); (case hx1 => rfl); (case hp1 => rfl)
           intro W7 G97 O7 hzW7
           have g7 := (O7.out.block w.heap.size (lt_of_block G6.out) (by intro e; injection e; omega)).trans G6.out
           have B7 := hide (below_only HB6.out O7.out hz6 (by omega))
           have G7 := hide g7
           have hz7 : w.heap.size ≤ W7.heap.size := by omega
           clear g7 O7)
        | ((with_reducible refine wpList_load_pfx ?hgd2 (.tmp 9) ?ho2 w2.heap.size PP ?hx2 G97.out H16.out ?_); (case hgd2 => rfl); (case ho2 => rfl); (case hx2 => rfl))
        | (go_at_call 19; refine (QKV.out _).mono ?_; rintro e w8 ⟨rfl, hb8⟩
           have g8 := (hb8.block w.heap.size (lt_of_block G7.out)).trans G7.out
           have g98 := (hb8.block w2.heap.size (lt_of_block G97.out)).trans G97.out
           have b8 := B7.out.trans (hb8.mono hz7)
           have G8 := hide g8
           have G98 := hide g98
           have B8 := hide b8
           have hz8 := b8.size
           clear g8 g98 b8 hb8)
        | ((with_reducible refine wpList_load_pfxG ?hgd3 (.tmp 9) ?ho3 w2.heap.size PP ?hx3 G98.out H16.out ?_); (case hgd3 => rfl); (case ho3 => rfl); (case hx3 => rfl))
        | (go_at_call 24; refine (QKT.out _ B8.out).mono ?_; rintro e w9 ⟨rfl, hb9⟩
           have g9 := (hb9.block w.heap.size (lt_of_block G8.out)).trans G8.out
           have g99 := (hb9.block w2.heap.size (lt_of_block G98.out)).trans G98.out
           have b9 := B8.out.trans (hb9.mono hz8)
           have G9T := hide g9
           have G99 := hide g99
           have B9 := hide b9
           have hz9 := b9.size
           clear g9 g99 b9 hb9)
        | ((with_reducible refine wpList_load_pfx ?hgd4 (.tmp 9) ?ho4 w2.heap.size PP ?hx4 G99.out H16.out ?_); (case hgd4 => rfl); (case ho4 => rfl); (case hx4 => rfl))
        | ((with_reducible refine wpList_store_pfx w9 ?hgd9 (.tmp 2) (.tmp 52) ?ho9 w.heap.size ZP PP ?hx9 ?hp9 G9T.out zp16 H16.out ?_); (case hgd9 => rfl); (case ho9 => rfl); (case hx9 => rfl); (case hp9 => rfl)
           intro WE GE OE hzWE
           have BE := below_only B9.out OE.out hz9 (Nat.le_refl _)))
      exact bodyPost_ret (results_cell_tmp (p := 2) (t := 3) (ty := 26) rfl _ _ w.heap.size 26 _ (0, 0) _ _ rfl rfl GE.out Tryd.underlying26 rfl (by rw [pfx_info, pvT_len PP H16.out])) rfl ⟨by rw [(QKY.out (by simp) hTS).1, (QKY.out (by simp) hTS).2]; rfl, BE⟩
    · have hne : (TX.toList == S.toList) = false := beq_eq_false_iff_ne.2 fun h => by
        rw [ByteArray.toList_eq, ByteArray.toList_eq] at h
        exact hTS (ByteArray.ext (Array.toList_inj.1 h))
      have HTS := hide hTS
      clear hTS
      go_enter Tryd.func22, Tryd.ntmps22
      go_wp2_with (first
        | (go_at_call 45; refine (QKC.out _ HB0.out).mono ?_; rintro e w1 ⟨rfl, hb1⟩
           have g1 : w1.heap[w.heap.size]? = some (.cells (pvT ZP).toArray 26 (0, 0)) := (hb1.block w.heap.size (by simp)).trans (heap_alloc_new _ _)
           have hbw := HB0.out.trans (hb1.mono HB0.out.size)
           have G1 := hide g1
           have HB1 := hide hbw
           have hz1 := hbw.size
           have hlt1 := lt_of_block g1
           clear g1 hbw hb1)
        | (go_at_call 46; refine (QKA.out _ HB1.out).mono ?_; rintro e w2 ⟨rfl, hb2⟩
           have g2 : w2.heap[w.heap.size]? = some (.cells (pvT ZP).toArray 26 (0, 0)) := (hb2.block w.heap.size hlt1).trans G1.out
           have hbw := (HB1.out.trans (hb2.mono hz1)).alloc (by have := hb2.size; omega) (.cells (pvL 0 0 zeroA).toArray 26)
           have G2 := hide g2
           have HB2 := hide hbw
           have hz2 := hb2.size
           have hlt2 := lt_of_block g2
           clear g2 hbw hb2)
        | (go_at_call 47; refine (QKH.out _).mono ?_; rintro e w3 ⟨rfl, rfl⟩)
        | (go_at_call 49; refine (QKS.out _ HB2.out).mono ?_; rintro e w4 ⟨v4, rfl, hr4, hb4⟩
           have hbw := HB2.out.trans (hb4.mono HB2.out.size)
           have HB4 := hide hbw
           have R4 := hide hr4
           have D4 := hide hb4
           clear hbw hr4 hb4)
        | (go_at_call 48; refine (QKP.out _ _ HB4.out R4.out).mono ?_; rintro e w5 ⟨v5, rfl, hr5, hb5⟩
           have hbw := HB4.out.trans (hb5.mono HB4.out.size)
           have hd := D4.out.trans (hb5.mono D4.out.size)
           have HB5 := hide hbw
           have R5 := hide hr5
           have D5 := hide hd
           clear hbw hr5 hb5 hd)
        | (go_at_call 10; refine (QKM.out _ _ R5.out).mono ?_; rintro e w6 ⟨rfl, hb6⟩
           have hbw := HB5.out.trans (hb6.mono HB5.out.size)
           have hd := D5.out.trans (hb6.mono D5.out.size)
           have g6 := (hd.block w.heap.size (by simp; omega)).trans ((Below.heap_alloc w2 _ _ hlt2).trans G2.out)
           have g9 := (hd.block w2.heap.size (by simp)).trans (heap_alloc_new w2 (.cells (pvT ZP).toArray 26))
           have hz6 := hbw.size
           have HB6 := hide hbw
           have G6 := hide g6
           have G9 := hide g9
           clear hbw hb6 hd g6 g9)
        | ((with_reducible refine wpList_store_pfx w6 ?hgd1 (.tmp 9) (.tmp 40) ?ho1 w2.heap.size ZP PP ?hx1 ?hp1 G9.out zp16 H16.out ?_); (case hgd1 => rfl); (case ho1 => rfl); (case hx1 => rfl); (case hp1 => rfl)
           intro W7 G97 O7 hzW7
           have g7 := (O7.out.block w.heap.size (lt_of_block G6.out) (by intro e; injection e; omega)).trans G6.out
           have B7 := hide (below_only HB6.out O7.out hz6 (by omega))
           have G7 := hide g7
           have hz7 : w.heap.size ≤ W7.heap.size := by omega
           clear g7 O7)
        | ((with_reducible refine wpList_load_pfx ?hgd2 (.tmp 9) ?ho2 w2.heap.size PP ?hx2 G97.out H16.out ?_); (case hgd2 => rfl); (case ho2 => rfl); (case hx2 => rfl))
        | (go_at_call 19; refine (QKV.out _).mono ?_; rintro e w8 ⟨rfl, hb8⟩
           have g8 := (hb8.block w.heap.size (lt_of_block G7.out)).trans G7.out
           have g98 := (hb8.block w2.heap.size (lt_of_block G97.out)).trans G97.out
           have b8 := B7.out.trans (hb8.mono hz7)
           have G8 := hide g8
           have G98 := hide g98
           have B8 := hide b8
           have hz8 := b8.size
           clear g8 g98 b8 hb8)
        | ((with_reducible refine wpList_load_pfxG ?hgd3 (.tmp 9) ?ho3 w2.heap.size PP ?hx3 G98.out H16.out ?_); (case hgd3 => rfl); (case ho3 => rfl); (case hx3 => rfl))
        | (go_at_call 24; refine (QKT.out _ B8.out).mono ?_; rintro e w9 ⟨rfl, hb9⟩
           have g9 := (hb9.block w.heap.size (lt_of_block G8.out)).trans G8.out
           have g99 := (hb9.block w2.heap.size (lt_of_block G98.out)).trans G98.out
           have b9 := B8.out.trans (hb9.mono hz8)
           have G9T := hide g9
           have G99 := hide g99
           have B9 := hide b9
           have hz9 := b9.size
           clear g9 g99 b9 hb9)
        | ((with_reducible refine wpList_store_pfx w9 ?hgd9 (.tmp 2) (.tmp 51) ?ho9 w.heap.size ZP ZP ?hx9 ?hp9 G9T.out zp16 zp16 ?_); (case hgd9 => rfl); (case ho9 => rfl); (case hx9 => rfl); (case hp9 => rfl)
           intro WE GE OE hzWE
           have BE := below_only B9.out OE.out hz9 (Nat.le_refl _)))
      exact bodyPost_ret (results_cell_tmp (p := 2) (t := 3) (ty := 26) rfl _ _ w.heap.size 26 _ (0, 0) _ _ rfl rfl GE.out Tryd.underlying26 rfl (by rw [pfx_info]; rfl)) rfl ⟨by rw [(QKN.out (by simp [HTS.out])).1, (QKN.out (by simp [HTS.out])).2]; rfl, BE⟩

theorem cut_len (s : List UInt8) : (Lib.cut s [47]).1.length ≤ s.length ∧ (Lib.cut s [47]).2.1.length ≤ s.length := by
  unfold Lib.cut
  split
  · simp only [List.length_take, List.length_drop]; omega
  · simp
/-- A row of strings at the head of a block. -/
def RowS (l : List (List UInt8)) (v : Value) (W : World) : Prop := ∃ g, v = .slice (some ⟨g, 0, none⟩) l.length l.length ∧ W.heap[g]? = some (.cells (strV l).toArray 9 (0, 0))
def RowB (d : List Int) (v : Value) (W : World) : Prop := ∃ A c, v = .slice A d.length c ∧ Byts W W.heap.size A d
theorem rowB_own {w W : World} {v : Value} {d : List Int} (h : W.ownsRow w.heap.size 5 1 v d.length (bV d)) : RowB d v W := by
  obtain ⟨A, c, rfl, _⟩ := slice_of_own h
  exact ⟨A, c, rfl, Reads.of_own h⟩
theorem parse_any (s : List UInt8) (w : World) (hl : s.length ≤ 5000) (ht : TabsR w) :
    Calls Tryd.prog 22 #[.string (strB s)] w fun e w' => e = .returned (.tuple #[.agg (pvT ((parP s).getD ZP)).toArray, .bool (parP s).isSome]) ∧ Below w.heap.size w w' := by
  obtain ⟨hc0, hc1⟩ := cut_len s
  have KC : ∀ W, Below w.heap.size w W → _ := fun W hb => cut_any s W (by omega) (ht.below hb)
  by_cases hn : ∃ n, Lib.atoiAll (Lib.cut s [47]).2.1 = .ok n
  · obtain ⟨n, hn⟩ := hn
    have hg : guessP s = some (guessA n (Lib.cut s [47]).1) := by unfold guessP; rw [hn]
    have hwf := guessP_wf s _ hg
    have KA : ∀ W, Below w.heap.size w W → _ := fun W _ => atoi_ok _ n W (by omega) hn
    have KV : ∀ W, Calls Tryd.prog 19 #[.agg (pvT (guessA n (Lib.cut s [47]).1)).toArray] W fun e w' => e = .returned (.bool (vT (guessA n (Lib.cut s [47]).1))) ∧ Below W.heap.size W w' := fun W => valid_any _ _ _ hwf.1 hwf.2 W
    have KT : ∀ W, Below w.heap.size w W → Calls Tryd.prog 24 #[.agg (pvT (guessA n (Lib.cut s [47]).1)).toArray] W fun e w' => e = .returned (.string (strB (textP (guessA n (Lib.cut s [47]).1)))) ∧ Below W.heap.size W w' := fun W hb => text_any _ hwf.1 hwf.2 W (ht.below hb).six
    have KY : vT (guessA n (Lib.cut s [47]).1) = true → strB (textP (guessA n (Lib.cut s [47]).1)) = strB s → (parP s).getD ZP = guessA n (Lib.cut s [47]).1 ∧ (parP s).isSome = true := fun h1 h2 => by
      have h3 : textP (guessA n (Lib.cut s [47]).1) = s := by have := congrArg (·.data.toList) h2; exact this
      have : parP s = some (guessA n (Lib.cut s [47]).1) := by unfold parP; rw [hg, keepP, if_pos ⟨h1, h3⟩]
      rw [this]; exact ⟨rfl, rfl⟩
    have KN : ¬ (vT (guessA n (Lib.cut s [47]).1) = true ∧ strB (textP (guessA n (Lib.cut s [47]).1)) = strB s) → (parP s).getD ZP = ZP ∧ (parP s).isSome = false := fun h => by
      have : parP s = none := by unfold parP; rw [hg, keepP, if_neg (fun h' => h ⟨h'.1, by rw [h'.2]⟩)]
      rw [this]; exact ⟨rfl, rfl⟩
    by_cases hcol : 0 ≤ Lib.indexByte (Lib.cut s [47]).1 58
    · have hG : guessA n (Lib.cut s [47]).1 = mkP 2 n (parts16 (cutB 58 (Lib.cut s [47]).1)) := by unfold guessA; rw [if_pos hcol]
      have hlen := cutB_len 58 (Lib.cut s [47]).1
      have hpc := cutB_piece 58 (Lib.cut s [47]).1
      refine pparse_col _ _ _ _ n _ (mkOk 2 n (parts16 (cutB 58 (Lib.cut s [47]).1))) _ _ _ _ w (RowS (cutB 58 (Lib.cut s [47]).1)) (RowB (parts16 (cutB 58 (Lib.cut s [47]).1))) hwf.1 KC KA
        (fun W => ?_) (fun W hb => ?_) (fun v W hb hr => ?_) (fun v W hr => ?_) KV KY KN KT
      · have := has_any (Lib.cut s [47]).1 W; rw [decide_eq_true hcol] at this; exact this
      · refine (split_any 58 (Lib.cut s [47]).1 W (by omega) (ht.below hb)).mono fun e w' ⟨h1, h2⟩ => ⟨_, h1, ⟨_, rfl, ?_⟩, ?_⟩
        · rw [h2]; exact heap_alloc_new _ _
        · rw [h2]; exact (Below.refl _ _).alloc (Nat.le_refl _) _
      · obtain ⟨g, rfl, hg⟩ := hr
        exact (parts16_any _ g _ W hg (by omega) (fun x hx => by have := hpc x hx; omega) (ht.below hb)).mono fun e w' ⟨v, h1, h2, h3⟩ => ⟨v, h1, rowB_own h2, h3⟩
      · obtain ⟨A, c, rfl, hb⟩ := hr
        rw [hG]
        exact make_any 2 n A c _ W hb (parts16_bs _) (by rw [parts16_len]; omega)
    · have hG : guessA n (Lib.cut s [47]).1 = mkP 1 n (parts10 (cutB 46 (Lib.cut s [47]).1)) := by unfold guessA; rw [if_neg hcol]
      have hlen := cutB_len 46 (Lib.cut s [47]).1
      have hpc := cutB_piece 46 (Lib.cut s [47]).1
      refine pparse_dot _ _ _ _ n _ (mkOk 1 n (parts10 (cutB 46 (Lib.cut s [47]).1))) _ _ _ _ w (RowS (cutB 46 (Lib.cut s [47]).1)) (RowB (parts10 (cutB 46 (Lib.cut s [47]).1))) hwf.1 KC KA
        (fun W => ?_) (fun W hb => ?_) (fun v W hb hr => ?_) (fun v W hr => ?_) KV KY KN KT
      · have := has_any (Lib.cut s [47]).1 W; rw [decide_eq_false hcol] at this; exact this
      · refine (split_any 46 (Lib.cut s [47]).1 W (by omega) (ht.below hb)).mono fun e w' ⟨h1, h2⟩ => ⟨_, h1, ⟨_, rfl, ?_⟩, ?_⟩
        · rw [h2]; exact heap_alloc_new _ _
        · rw [h2]; exact (Below.refl _ _).alloc (Nat.le_refl _) _
      · obtain ⟨g, rfl, hg⟩ := hr
        exact (parts10_any _ g _ W hg (by omega) (fun x hx => by have := hpc x hx; omega) (ht.below hb)).mono fun e w' ⟨v, h1, h2, h3⟩ => ⟨v, h1, rowB_own h2, h3⟩
      · obtain ⟨A, c, rfl, hb⟩ := hr
        rw [hG]
        exact make_any 1 n A c _ W hb (parts10_bs _) (by rw [parts10_len]; omega)
  · have hn' : ∀ n, Lib.atoiAll (Lib.cut s [47]).2.1 ≠ .ok n := fun n h => hn ⟨n, h⟩
    have hp : parP s = none := by
      have : guessP s = none := by
        unfold guessP
        split
        · rename_i n h; exact absurd h (hn' n)
        · rfl
      unfold parP; rw [this]; rfl
    rw [hp]
    exact pparse_no s w (by omega) hn' hc1 ht
end Go.Proofs.YtgegloplhlkafaaDoor
