/- peerageref01.Of and peerageref06.Bytes: the form of a path by the reference. -/
import Derived.Test.YtceolenmcpndaaaGreatDoorSegPC
set_option autoImplicit false
namespace Go.Proofs.YtceolenmcpndaaaGreatDoor
open Go.RowKit

theorem beL_take_succ (x : Int) (i : Nat) : ∀ (j k : Nat), k = j + 1 + i → (beL k x).take (j + 1) = (beL k x).take j ++ [x / 256 ^ i % 256] := by
  intro j
  induction j with
  | zero => intro k h; subst h; rw [show 0 + 1 + i = i + 1 by omega, beL_cons]; simp
  | succ j ih =>
    intro k h
    obtain ⟨k', rfl⟩ : ∃ k', k = k' + 1 := ⟨k - 1, by omega⟩
    rw [beL_cons, List.take_succ_cons, List.take_succ_cons, ih k' (by omega)]; rfl

set_option maxRecDepth 100000 in
set_option maxHeartbeats 4000000 in
theorem rof_any (k : Nat) (x : Int) (w : World) (hk : k ≤ 4) (h0 : 0 ≤ x) (h1 : x < 4294967296) :
    Calls Tryz.prog 19 #[.int .i64 k, .int .u32 x] w fun e w' => ∃ v, e = .returned v ∧ w'.ownsRow w.heap.size 5 1 v k (bV (beL k x)) ∧ Below w.heap.size w w' := by
  obtain ⟨iu, hi0, hi1, hi2, hi3⟩ := info_parts u8_info
  have hk0 : (0 : Int) ≤ (k : Int) := Int.natCast_nonneg _
  have hk4 : (k : Int) ≤ 4 := by omega
  go_enter Tryz.func19, Tryz.ntmps19
  go_wp2_with fail
  go_loopw [5, 6] (fun v i wr => ∃ (m : Nat) (iv : Int), m ≤ k ∧ i = .int .i64 iv ∧ iv = (m : Int) - 1 ∧ Hid (wr.ownsRow w.heap.size 5 1 v (k - m) (bV ((beL k x).take (k - m)))) ∧ Hid (Below w.heap.size w wr)) (fun _ i _ => (intOf i + 1).toNat)
  case atStart => exact ⟨k, (k : Int) - 1, Nat.le_refl _, rfl, rfl, hide (by rw [Nat.sub_self]; simpa [bV] using World.ownsRow_nil _ _ _ _), hide (Below.refl _ _)⟩
  case round =>
    obtain ⟨m, iv, hm, rfl, hiv, HO, HB⟩ := hrel
    cases m with
    | zero =>
      have hneg : ¬ 0 ≤ iv := by omega
      have hown := HO.out
      rw [Nat.sub_zero, List.take_of_length_le (by rw [beL_len]; exact Nat.le_refl _)] at hown
      obtain ⟨A', c', rfl, _, _⟩ := slice_of_own hown
      have HO1 := hide hown
      clear hown
      go_wp2
      go_ret
      exact ⟨_, rfl, HO1.out, HB.out⟩
    | succ i =>
      have e : iv = (i : Int) := by omega
      subst e
      have hsu := beL_take_succ x i (k - (i + 1)) k (by omega)
      rw [show k - (i + 1) + 1 = k - i by omega] at hsu
      have hi0' : (0 : Int) ≤ (i : Int) := Int.natCast_nonneg _
      have hi4 : (i : Int) < 4 := by omega
      have hnn : 0 ≤ x / 2 ^ (8 * i) := Int.ediv_nonneg h0 (Int.le_of_lt (Int.pow_pos (by decide)))
      have hx2 : x / 2 ^ (8 * i) < 4294967296 := Int.lt_of_le_of_lt (Int.ediv_le_self _ h0) h1
      have hand : bits .and .u32 (x / 2 ^ (8 * i)) 255 % 256 = x / 2 ^ (8 * i) % 256 := by
        rw [u32_and _ 255 hnn hx2 (by decide) (by decide), show (255 : Int).toNat = 2 ^ 8 - 1 from rfl, Nat.and_two_pow_sub_one_eq_mod]
        omega
      have hwz := HB.out.size
      have HSU := Lib.hid hsu
      have HAND := Lib.hid hand
      clear hsu hiv hand hx2
      obtain ⟨y, hy⟩ : ∃ y, y = bits .and .u32 (x / 2 ^ (8 * i)) 255 % 256 := ⟨_, rfl⟩
      have HY := Lib.hid hy
      clear hy
      go_wp2_with (at_builtin
                   rw [← HY.out]
                   refine wpList_append_lies _ rfl (.tmp 13) (.tmp 21) _ rfl w.heap.size 5 iu _ 1 1 Tryz.underlying25 hi0 hi1 hi2 hi3 rfl (by omega) u5 (k - (i + 1)) _ rfl (HO.out.alloc _)
                     ⟨wr.heap.size, 0, none⟩ 1 1 [.int .u8 y] rfl rfl (World.news_of_block (cs := #[.int .u8 y]) (t := 5) (fr := (0, 0)) (heap_alloc_new wr _)) (by simp [Value.oneCell'])
                     (by omega) (by simp only [maxLen]; omega) (by omega) (by simp; omega) _ rfl ?_
                   intro g cap w1 hown1 hgrow hat hltg
                   have hb1 : Below w.heap.size w w1 := (HB.out.alloc hwz _).grown hgrow (by simp; omega) (fun y hy => (HO.out.lt y hy).1)
                   have Q1 := hide hown1
                   have Q2 := hide hb1
                   clear hown1 hgrow hat hb1)
      go_roundw
      case rel =>
        refine ⟨i, _, by omega, rfl, by omega, hide ?_, Q2⟩
        rw [HSU.out, ← pow_256, bV_append, ← HAND.out, ← HY.out]
        have h2 := Q1.out
        have h3 : k - (i + 1) + 1 = k - i := by omega
        generalize k - (i + 1) + 1 = m at *
        subst h3
        exact h2
      case measure => simp [intOf]

theorem wrap_u8 {x : Int} (h0 : 0 ≤ x) (h1 : x < 256) : IntKind.u8.wrap x = x := by
  show x % 256 = x
  omega
/-- The state of the reference's loops. -/
structure FS (w W : World) (v : Value) (cur : List Int) : Prop where
  own : W.ownsRow w.heap.size 5 1 v cur.length (bV cur)
  bel : Below w.heap.size w W
theorem FS.keep {w W W2 : World} {v : Value} {cur : List Int} (h : FS w W v cur) (hb : Below W.heap.size W W2) : FS w W2 v cur :=
  ⟨own_keep h.own fun x hx => hb.block x (h.own.lt x hx).2, h.bel.trans (hb.mono h.bel.size)⟩
theorem FS.grow {w W W2 : World} {v v2 : Value} {cur new : List Int} {n : Nat} (h : FS w W v cur) (hg : W.grownBy W2 v.ownBlock) (ho : W2.ownsRow w.heap.size 5 1 v2 n (bV cur ++ bV new)) (hn : n = cur.length + new.length) : FS w W2 v2 (cur ++ new) :=
  ⟨by subst hn; rw [List.length_append]; rw [bV_append]; exact ho, h.bel.grown hg h.bel.size (fun x hx => (h.own.lt x hx).1)⟩
theorem FS.lit {w W W2 : World} {v : Value} {cur : List Int} {a b : Int} {g cap : Nat} {o : Obj} (h : FS w W v cur) (hg : (W.alloc o).grownBy W2 v.ownBlock)
    (ho : W2.ownsRow w.heap.size 5 1 (.slice (some ⟨g, 0, none⟩) (cur.length + 2) cap) (cur.length + 2) (bV cur ++ [.int .u8 a, .int .u8 b])) : FS w W2 (.slice (some ⟨g, 0, none⟩) (cur.length + 2) cap) (cur ++ [a, b]) :=
  (h.keep ((Below.refl _ _).alloc (Nat.le_refl _) o)).grow (new := [a, b]) hg ho rfl

set_option maxRecDepth 100000 in
set_option maxHeartbeats 8000000 in
theorem rbytes_2 (A : Option Addr) (c : Nat) (l : List Sg) (w : World) (h : Path w w.heap.size A l) (hl : l.length ≤ 1000) (hs : Sound l) (hv : validF 2 l = true) :
    Calls Tryz.prog 7 #[.int .i64 2, .slice A l.length c] w fun e w' => ∃ v, e = .returned (.tuple #[v, .bool true]) ∧ w'.ownsRow w.heap.size 5 1 v (pathB 2 l).length (bV (pathB 2 l)) ∧ Below w.heap.size w w' := by
  obtain ⟨iu, hi0, hi1, hi2, hi3⟩ := info_parts u8_info
  have hsh : ∀ s ∈ l, (s.1 = 1 ∨ s.1 = 2) ∧ 1 ≤ s.2.length ∧ s.2.length ≤ 255 := by
    intro s hs'
    simp only [validF, Bool.and_eq_true, List.all_eq_true] at hv
    have := hv.1 s hs'
    simp only [rightF, Bool.and_eq_true, shapeF, decide_eq_true_eq] at this
    exact this.1
  have hus : ∀ s ∈ l, Us s.2 := fun s hm => (hs.2 s hm).2
  have HV := hide (rvalid_any 2 A c l w h hs)
  rw [hv] at HV
  have HOF := hide (fun x w' h0 h1 => rof_any 2 x w' (by decide) h0 h1)
  have HSH := hide hsh
  have HUS := hide hus
  have HH := hide h
  clear hsh hus hv hs h
  go_enter Tryz.func7, Tryz.ntmps7
  go_wp2_with fail
  refine HV.out.mono ?_
  rintro e w1 ⟨rfl, hb1⟩
  have HF0 := hide (⟨by simpa [bV] using World.ownsRow_nil _ _ _ _, hb1⟩ : FS w w1 (.slice none 0 0) [])
  clear hb1 HV
  go_wp2_with fail
  go_loopw [6, 8] (fun v i wr => ∃ j : Nat, j ≤ l.length ∧ i = .int .i64 j ∧ (pathB 2 (l.take j)).length ≤ 1022 * j ∧ Hid (FS w wr v (pathB 2 (l.take j)))) (fun _ i _ => l.length - (intOf i).toNat)
  case atStart => exact ⟨0, Nat.zero_le _, rfl, Nat.zero_le _, HF0⟩
  case round =>
    obtain ⟨j, hj, rfl, hlen, HF⟩ := hrel
    by_cases hlt : j < l.length
    · obtain ⟨ad, A', c', rfl, had, hc0, hc1, hbk, f2, f3, f4⟩ := (HH.out.below HF.out.bel).at_ hlt
      obtain ⟨hK, hn1, hn2⟩ := HSH.out l[j] (List.getElem_mem hlt)
      have hus := HUS.out l[j] (List.getElem_mem hlt)
      have hk0 : (0 : Int) ≤ (j : Int) := Int.natCast_nonneg _
      have hk1 : (j : Int) < (l.length : Int) := by omega
      have hwz := HF.out.bel.size
      have hbko : (ad.add (j * 2)).block < wr.heap.size := by omega
      have hptk := pathB_take 2 l j hlt
      have hK0 : 0 ≤ l[j].1 := by omega
      have hK1 : l[j].1 ≤ 255 := by omega
      have hN0 : (0 : Int) ≤ (l[j].2.length : Int) := Int.natCast_nonneg _
      have hN1 : (l[j].2.length : Int) ≤ 255 := by omega
      have hAT : ∀ W, Below w.heap.size w W → W.cell? ⟨(ad.add (j * 2)).block, (ad.add (j * 2)).off + 1, none⟩ = some (.slice A' l[j].2.length c') ∧ Reads W w.heap.size 1 A' l[j].2.length (uV l[j].2) := by
        intro W hW
        obtain ⟨ad2, A2, c2, e1, _, _, d1, _, _, _, d4⟩ := (HH.out.below hW).at_ hlt
        injection e1 with e1
        subst e1
        have e2 := ((hW.cell (p := ⟨(ad.add (j * 2)).block, (ad.add (j * 2)).off + 1, none⟩) hbk).trans ((HF.out.bel.cell (p := ⟨(ad.add (j * 2)).block, (ad.add (j * 2)).off + 1, none⟩) hbk).symm.trans hc1)).symm.trans d1
        injection e2 with e2
        injection e2 with e2 _ e3
        subst e2; subst e3
        exact ⟨d1, d4⟩
      have HAT := hide hAT
      have HPT := Lib.hid hptk
      have HUSJ := hide hus
      obtain ⟨K, hKe⟩ : ∃ K, K = l[j].1 := ⟨_, rfl⟩
      obtain ⟨ns, hns⟩ : ∃ ns, ns = l[j].2 := ⟨_, rfl⟩
      have hsg : segB 2 l[j] = [K, (ns.length : Int)] ++ numsB 2 ns := by rw [hKe, hns]; rfl
      rw [← hns] at HAT HUSJ hc1 hn1 hn2 hN0 hN1 f2
      rw [← hKe] at hc0 hK0 hK1
      have HSG := Lib.hid hsg
      obtain ⟨P, hP⟩ : ∃ P, P = pathB 2 (l.take j) := ⟨_, rfl⟩
      rw [← hP] at HF hlen HPT
      have hwK : IntKind.u8.wrap K = K := wrap_u8 hK0 (by omega)
      have hwN : IntKind.u8.wrap (ns.length : Int) = ns.length := wrap_u8 hN0 (by omega)
      clear hAT hptk hus hsg hKe hns hP f4 hK
      go_wp2_with fail
      go_region_law (
        (refine step_append_lies _ rfl (.tmp 22) (.tmp 36) _ rfl w.heap.size 5 iu _ 1 1 Tryz.underlying25 hi0 hi1 hi2 hi3 rfl (by omega) u6 P.length (bV P) rfl (HF.out.own.alloc _)
            ⟨wr.heap.size, 0, none⟩ 2 2 [.int .u8 K, .int .u8 ns.length] rfl rfl (World.news_of_block (cs := #[.int .u8 K, .int .u8 ns.length]) (t := 5) (fr := (0, 0)) (heap_alloc_new wr _)) (by simp [Value.oneCell'])
            (by omega) (by simp only [maxLen]; omega) (by omega) (by simp; omega) _ rfl ?_
         intro g cap w7 hown7 hgrow hat hltg
         have hf7 := HF.out.lit (o := Obj.cells #[.int .u8 K, .int .u8 ns.length] 5) ⟨hgrow.os, hgrow.tape, hgrow.output, hgrow.size, hgrow.block⟩ hown7
         have HF7 := hide hf7
         clear hown7 hgrow hat hf7))
      all_goals
        go_wp2_with fail
        go_loopw [6, 9] (fun v i wi => ∃ q : Nat, q ≤ ns.length ∧ i = .int .i64 q ∧ Hid (FS w wi v (P ++ [K, (ns.length : Int)] ++ numsB 2 (ns.take q)))) (fun _ i _ => ns.length - (intOf i).toNat)
        case atStart => exact ⟨0, Nat.zero_le _, rfl, by simpa [numsB] using HF7⟩
        case round =>
          obtain ⟨q, hq, rfl, HG⟩ := hrel
          obtain ⟨hcq, hrq⟩ := HAT.out wr HG.out.bel
          have hbk3 : (ad.add (j * 2)).block < wr.heap.size := by have := HG.out.bel.size; omega
          have had3 : ad.block < wr.heap.size := by have := HG.out.bel.size; omega
          have HRQ := hide hrq
          have hwq := HG.out.bel.size
          clear hrq
          by_cases qlt : q < ns.length
          · obtain ⟨ap, u, rfl, hap, hx, hc⟩ := HRQ.out.at_ qlt
            obtain ⟨x, hx1, rfl⟩ := uV_get hx
            have hx2 : ns[q] = x := by rw [List.getElem?_eq_getElem qlt] at hx1; injection hx1
            have hxu := HUSJ.out x (by rw [← hx2]; exact List.getElem_mem qlt)
            have hxu0 := hxu.1
            have hxu1 := hxu.2
            have hap3 : (ap.add q).block < wr.heap.size := by rw [block_of_add]; omega
            have hsu := numsB_take 2 ns q qlt
            rw [hx2] at hsu
            have hlq : (P ++ [K, (ns.length : Int)] ++ numsB 2 (ns.take q)).length ≤ 1022 * j + 1022 := by
              simp only [List.length_append, numsB_len, List.length_cons, List.length_nil, List.length_take]; omega
            have HSU := Lib.hid hsu
            have HCQ := Lib.hid hcq
            have hq0 : (0 : Int) ≤ (q : Int) := Int.natCast_nonneg _
            have hq1 : (q : Int) < (ns.length : Int) := by omega
            clear hx hx1 hx2 hsu hc0 hc1
            go_wp2_with (first
              | (go_at_call 19; refine (HOF.out x _ hxu0 hxu1).mono ?_; rintro e w8 ⟨v8, rfl, ho8, hb8⟩
                 obtain ⟨A8, c8, rfl, _, _⟩ := slice_of_own ho8
                 have HF8 := hide (HG.out.keep hb8)
                 have HO8 := hide ho8
                 have hz8 := hb8.size
                 clear ho8 hb8)
              | (at_builtin
                 refine wpList_append_any _ rfl (.tmp 48) (.tmp 58) _ rfl w.heap.size 5 iu _ 1 1 Tryz.underlying25 hi0 hi1 hi2 hi3 rfl (by omega) u6 _ _ rfl HF8.out.own
                   w8.heap.size A8 2 c8 (bV (beL 2 x)) rfl (Reads.of_own HO8.out) (bV_one _) (by simp only [maxLen]; omega) (by omega) (by omega) ?_
                 intro v9 w9 hown9 hgrow9 hat9
                 have hf9 := HF8.out.grow (new := beL 2 x) hgrow9 hown9 (by rw [beL_len])
                 have HF9 := hide hf9
                 clear hown9 hgrow9 hat9 hf9))
            go_roundw
            case rel => exact ⟨q + 1, by omega, by go_num, by rw [HSU.out, ← List.append_assoc]; exact HF9⟩
            case measure => simp [intOf]; omega
          · have hqn : q = ns.length := by omega
            subst hqn
            have hl9 := congrArg List.length HPT.out
            rw [HSG.out, List.length_append, List.length_append, numsB_len] at hl9
            have hl8 : ([K, (ns.length : Int)] : List Int).length = 2 := rfl
            rw [hl8] at hl9
            have hfull : ns.take ns.length = ns := List.take_of_length_le (Nat.le_refl _)
            rw [hfull, List.append_assoc, ← HSG.out, ← HPT.out] at HG
            clear hl8 hfull
            go_wp2
            go_roundw
            case rel => exact ⟨j + 1, by omega, by go_num, by omega, HG⟩
            case measure => simp [intOf]; omega
    · have hjl : j = l.length := by omega
      subst hjl
      rw [List.take_of_length_le (Nat.le_refl _)] at HF
      obtain ⟨A1, c1, rfl, _, _⟩ := slice_of_own HF.out.own
      go_wp2
      go_ret2
      exact ⟨_, rfl, HF.out.own, HF.out.bel⟩
set_option maxRecDepth 100000 in
set_option maxHeartbeats 8000000 in
theorem rbytes_4 (A : Option Addr) (c : Nat) (l : List Sg) (w : World) (h : Path w w.heap.size A l) (hl : l.length ≤ 1000) (hs : Sound l) (hv : validF 4 l = true) :
    Calls Tryz.prog 7 #[.int .i64 4, .slice A l.length c] w fun e w' => ∃ v, e = .returned (.tuple #[v, .bool true]) ∧ w'.ownsRow w.heap.size 5 1 v (pathB 4 l).length (bV (pathB 4 l)) ∧ Below w.heap.size w w' := by
  obtain ⟨iu, hi0, hi1, hi2, hi3⟩ := info_parts u8_info
  have hsh : ∀ s ∈ l, (s.1 = 1 ∨ s.1 = 2) ∧ 1 ≤ s.2.length ∧ s.2.length ≤ 255 := by
    intro s hs'
    simp only [validF, Bool.and_eq_true, List.all_eq_true] at hv
    have := hv.1 s hs'
    simp only [rightF, Bool.and_eq_true, shapeF, decide_eq_true_eq] at this
    exact this.1
  have hus : ∀ s ∈ l, Us s.2 := fun s hm => (hs.2 s hm).2
  have HV := hide (rvalid_any 4 A c l w h hs)
  rw [hv] at HV
  have HOF := hide (fun x w' h0 h1 => rof_any 4 x w' (by decide) h0 h1)
  have HSH := hide hsh
  have HUS := hide hus
  have HH := hide h
  clear hsh hus hv hs h
  go_enter Tryz.func7, Tryz.ntmps7
  go_wp2_with fail
  refine HV.out.mono ?_
  rintro e w1 ⟨rfl, hb1⟩
  have HF0 := hide (⟨by simpa [bV] using World.ownsRow_nil _ _ _ _, hb1⟩ : FS w w1 (.slice none 0 0) [])
  clear hb1 HV
  go_wp2_with fail
  go_loopw [6, 8] (fun v i wr => ∃ j : Nat, j ≤ l.length ∧ i = .int .i64 j ∧ (pathB 4 (l.take j)).length ≤ 1022 * j ∧ Hid (FS w wr v (pathB 4 (l.take j)))) (fun _ i _ => l.length - (intOf i).toNat)
  case atStart => exact ⟨0, Nat.zero_le _, rfl, Nat.zero_le _, HF0⟩
  case round =>
    obtain ⟨j, hj, rfl, hlen, HF⟩ := hrel
    by_cases hlt : j < l.length
    · obtain ⟨ad, A', c', rfl, had, hc0, hc1, hbk, f2, f3, f4⟩ := (HH.out.below HF.out.bel).at_ hlt
      obtain ⟨hK, hn1, hn2⟩ := HSH.out l[j] (List.getElem_mem hlt)
      have hus := HUS.out l[j] (List.getElem_mem hlt)
      have hk0 : (0 : Int) ≤ (j : Int) := Int.natCast_nonneg _
      have hk1 : (j : Int) < (l.length : Int) := by omega
      have hwz := HF.out.bel.size
      have hbko : (ad.add (j * 2)).block < wr.heap.size := by omega
      have hptk := pathB_take 4 l j hlt
      have hK0 : 0 ≤ l[j].1 := by omega
      have hK1 : l[j].1 ≤ 255 := by omega
      have hN0 : (0 : Int) ≤ (l[j].2.length : Int) := Int.natCast_nonneg _
      have hN1 : (l[j].2.length : Int) ≤ 255 := by omega
      have hAT : ∀ W, Below w.heap.size w W → W.cell? ⟨(ad.add (j * 2)).block, (ad.add (j * 2)).off + 1, none⟩ = some (.slice A' l[j].2.length c') ∧ Reads W w.heap.size 1 A' l[j].2.length (uV l[j].2) := by
        intro W hW
        obtain ⟨ad2, A2, c2, e1, _, _, d1, _, _, _, d4⟩ := (HH.out.below hW).at_ hlt
        injection e1 with e1
        subst e1
        have e2 := ((hW.cell (p := ⟨(ad.add (j * 2)).block, (ad.add (j * 2)).off + 1, none⟩) hbk).trans ((HF.out.bel.cell (p := ⟨(ad.add (j * 2)).block, (ad.add (j * 2)).off + 1, none⟩) hbk).symm.trans hc1)).symm.trans d1
        injection e2 with e2
        injection e2 with e2 _ e3
        subst e2; subst e3
        exact ⟨d1, d4⟩
      have HAT := hide hAT
      have HPT := Lib.hid hptk
      have HUSJ := hide hus
      obtain ⟨K, hKe⟩ : ∃ K, K = l[j].1 := ⟨_, rfl⟩
      obtain ⟨ns, hns⟩ : ∃ ns, ns = l[j].2 := ⟨_, rfl⟩
      have hsg : segB 4 l[j] = [K, (ns.length : Int)] ++ numsB 4 ns := by rw [hKe, hns]; rfl
      rw [← hns] at HAT HUSJ hc1 hn1 hn2 hN0 hN1 f2
      rw [← hKe] at hc0 hK0 hK1
      have HSG := Lib.hid hsg
      obtain ⟨P, hP⟩ : ∃ P, P = pathB 4 (l.take j) := ⟨_, rfl⟩
      rw [← hP] at HF hlen HPT
      have hwK : IntKind.u8.wrap K = K := wrap_u8 hK0 (by omega)
      have hwN : IntKind.u8.wrap (ns.length : Int) = ns.length := wrap_u8 hN0 (by omega)
      clear hAT hptk hus hsg hKe hns hP f4 hK
      go_wp2_with fail
      go_region_law (
        (refine step_append_lies _ rfl (.tmp 22) (.tmp 36) _ rfl w.heap.size 5 iu _ 1 1 Tryz.underlying25 hi0 hi1 hi2 hi3 rfl (by omega) u6 P.length (bV P) rfl (HF.out.own.alloc _)
            ⟨wr.heap.size, 0, none⟩ 2 2 [.int .u8 K, .int .u8 ns.length] rfl rfl (World.news_of_block (cs := #[.int .u8 K, .int .u8 ns.length]) (t := 5) (fr := (0, 0)) (heap_alloc_new wr _)) (by simp [Value.oneCell'])
            (by omega) (by simp only [maxLen]; omega) (by omega) (by simp; omega) _ rfl ?_
         intro g cap w7 hown7 hgrow hat hltg
         have hf7 := HF.out.lit (o := Obj.cells #[.int .u8 K, .int .u8 ns.length] 5) ⟨hgrow.os, hgrow.tape, hgrow.output, hgrow.size, hgrow.block⟩ hown7
         have HF7 := hide hf7
         clear hown7 hgrow hat hf7))
      all_goals
        go_wp2_with fail
        go_loopw [6, 9] (fun v i wi => ∃ q : Nat, q ≤ ns.length ∧ i = .int .i64 q ∧ Hid (FS w wi v (P ++ [K, (ns.length : Int)] ++ numsB 4 (ns.take q)))) (fun _ i _ => ns.length - (intOf i).toNat)
        case atStart => exact ⟨0, Nat.zero_le _, rfl, by simpa [numsB] using HF7⟩
        case round =>
          obtain ⟨q, hq, rfl, HG⟩ := hrel
          obtain ⟨hcq, hrq⟩ := HAT.out wr HG.out.bel
          have hbk3 : (ad.add (j * 2)).block < wr.heap.size := by have := HG.out.bel.size; omega
          have had3 : ad.block < wr.heap.size := by have := HG.out.bel.size; omega
          have HRQ := hide hrq
          have hwq := HG.out.bel.size
          clear hrq
          by_cases qlt : q < ns.length
          · obtain ⟨ap, u, rfl, hap, hx, hc⟩ := HRQ.out.at_ qlt
            obtain ⟨x, hx1, rfl⟩ := uV_get hx
            have hx2 : ns[q] = x := by rw [List.getElem?_eq_getElem qlt] at hx1; injection hx1
            have hxu := HUSJ.out x (by rw [← hx2]; exact List.getElem_mem qlt)
            have hxu0 := hxu.1
            have hxu1 := hxu.2
            have hap3 : (ap.add q).block < wr.heap.size := by rw [block_of_add]; omega
            have hsu := numsB_take 4 ns q qlt
            rw [hx2] at hsu
            have hlq : (P ++ [K, (ns.length : Int)] ++ numsB 4 (ns.take q)).length ≤ 1022 * j + 1022 := by
              simp only [List.length_append, numsB_len, List.length_cons, List.length_nil, List.length_take]; omega
            have HSU := Lib.hid hsu
            have HCQ := Lib.hid hcq
            have hq0 : (0 : Int) ≤ (q : Int) := Int.natCast_nonneg _
            have hq1 : (q : Int) < (ns.length : Int) := by omega
            clear hx hx1 hx2 hsu hc0 hc1
            go_wp2_with (first
              | (go_at_call 19; refine (HOF.out x _ hxu0 hxu1).mono ?_; rintro e w8 ⟨v8, rfl, ho8, hb8⟩
                 obtain ⟨A8, c8, rfl, _, _⟩ := slice_of_own ho8
                 have HF8 := hide (HG.out.keep hb8)
                 have HO8 := hide ho8
                 have hz8 := hb8.size
                 clear ho8 hb8)
              | (at_builtin
                 refine wpList_append_any _ rfl (.tmp 48) (.tmp 58) _ rfl w.heap.size 5 iu _ 1 1 Tryz.underlying25 hi0 hi1 hi2 hi3 rfl (by omega) u6 _ _ rfl HF8.out.own
                   w8.heap.size A8 4 c8 (bV (beL 4 x)) rfl (Reads.of_own HO8.out) (bV_one _) (by simp only [maxLen]; omega) (by omega) (by omega) ?_
                 intro v9 w9 hown9 hgrow9 hat9
                 have hf9 := HF8.out.grow (new := beL 4 x) hgrow9 hown9 (by rw [beL_len])
                 have HF9 := hide hf9
                 clear hown9 hgrow9 hat9 hf9))
            go_roundw
            case rel => exact ⟨q + 1, by omega, by go_num, by rw [HSU.out, ← List.append_assoc]; exact HF9⟩
            case measure => simp [intOf]; omega
          · have hqn : q = ns.length := by omega
            subst hqn
            have hl9 := congrArg List.length HPT.out
            rw [HSG.out, List.length_append, List.length_append, numsB_len] at hl9
            have hl8 : ([K, (ns.length : Int)] : List Int).length = 2 := rfl
            rw [hl8] at hl9
            have hfull : ns.take ns.length = ns := List.take_of_length_le (Nat.le_refl _)
            rw [hfull, List.append_assoc, ← HSG.out, ← HPT.out] at HG
            clear hl8 hfull
            go_wp2
            go_roundw
            case rel => exact ⟨j + 1, by omega, by go_num, by omega, HG⟩
            case measure => simp [intOf]; omega
    · have hjl : j = l.length := by omega
      subst hjl
      rw [List.take_of_length_le (Nat.le_refl _)] at HF
      obtain ⟨A1, c1, rfl, _, _⟩ := slice_of_own HF.out.own
      go_wp2
      go_ret2
      exact ⟨_, rfl, HF.out.own, HF.out.bel⟩
set_option maxHeartbeats 1000000 in
theorem rbytes_no (width : Int) (A : Option Addr) (c : Nat) (l : List Sg) (w : World) (h : Path w w.heap.size A l) (hs : Sound l) (hv : validF width l = false) :
    Calls Tryz.prog 7 #[.int .i64 width, .slice A l.length c] w fun e w' => e = .returned (.tuple #[.slice none 0 0, .bool false]) ∧ Below w.heap.size w w' := by
  have HV := hide (rvalid_any width A c l w h hs)
  rw [hv] at HV
  clear hv hs h
  go_enter Tryz.func7, Tryz.ntmps7
  go_wp2_with fail
  refine HV.out.mono ?_
  rintro e w1 ⟨rfl, hb1⟩
  have HB1 := hide hb1
  clear hb1 HV
  go_wp2
  go_ret2
  exact ⟨rfl, HB1.out⟩
theorem rbytes_any (width : Int) (A : Option Addr) (c : Nat) (l : List Sg) (w : World) (h : Path w w.heap.size A l) (hl : l.length ≤ 1000) (hs : Sound l) :
    Calls Tryz.prog 7 #[.int .i64 width, .slice A l.length c] w fun e w' => ∃ A' c', e = .returned (.tuple #[.slice A' (formB width l).length c', .bool (validF width l)]) ∧ Byts w' w'.heap.size A' (formB width l) ∧ Below w.heap.size w w' := by
  by_cases hv : validF width l = true
  · have hw : width = 2 ∨ width = 4 := by
      have := hv
      simp only [validF, Bool.and_eq_true, decide_eq_true_eq] at this
      exact this.2
    have e : formB width l = pathB width.toNat l := by unfold formB; rw [if_pos hv]
    rw [e, hv]
    rcases hw with rfl | rfl
    · refine (rbytes_2 A c l w h hl hs hv).mono fun e w' ⟨v, h1, h2, h3⟩ => ?_
      obtain ⟨A', c', rfl, _, _⟩ := slice_of_own h2
      exact ⟨A', c', h1, Reads.of_own h2, h3⟩
    · refine (rbytes_4 A c l w h hl hs hv).mono fun e w' ⟨v, h1, h2, h3⟩ => ?_
      obtain ⟨A', c', rfl, _, _⟩ := slice_of_own h2
      exact ⟨A', c', h1, Reads.of_own h2, h3⟩
  · have hv : validF width l = false := by simpa using hv
    have e : formB width l = [] := by unfold formB; rw [hv]; rfl
    rw [e, hv]
    exact (rbytes_no width A c l w h hs hv).mono fun e w' ⟨h1, h2⟩ => ⟨none, 0, h1, Reads.none_, h2⟩
end Go.Proofs.YtceolenmcpndaaaGreatDoor
