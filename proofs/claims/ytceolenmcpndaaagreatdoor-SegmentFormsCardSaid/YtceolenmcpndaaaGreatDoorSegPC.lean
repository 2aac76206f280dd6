/- segment.Bytes: the form of a path of at most 1,000 segments. -/
import Derived.Test.YtceolenmcpndaaaGreatDoorSegPB
set_option autoImplicit false
namespace Go.Proofs.YtceolenmcpndaaaGreatDoor
open Go.RowKit

theorem own_otherG {w w' : World} {lo base : Nat} {e e' : TypeId} {size size' : Nat} {v v1 : Value} {n k : Nat} {xs ys : List Value} (hne : e ≠ e') (h : w.ownsRow lo e size v1 n xs) (hg : w.grownBy w' v.ownBlock) (hv : w.ownsRow base e' size' v k ys) :
    w'.ownsRow lo e size v1 n xs := by
  rcases h.2 with ⟨rfl, rfl⟩ | ⟨g, cap, cur, rfl, hlo, hh, r⟩
  · exact ⟨h.1, .inl ⟨rfl, rfl⟩⟩
  · have hb : v.ownBlock ≠ some g := own_blk_ne hv (show Blk w g e cur from hh) (fun x => hne x.symm)
    exact ⟨h.1, .inr ⟨g, cap, cur, rfl, hlo, (hg.block g (lt_of_block hh) (fun x => hb x.symm)).trans hh, r⟩⟩

/-- octet.Cat joins parts. -/
theorem cat_any (A : Option Addr) (c : Nat) (vs : List Value) (ps : List (Nat × List Value)) (w : World) (h : Reads w w.heap.size 1 A vs.length vs) (hl : vs.length = ps.length) (hn : ps.length ≤ 100000000)
    (hs : ∀ (i : Nat) v p, vs[i]? = some v → ps[i]? = some p → SrcB w w.heap.size v p) (ht : totB ps ≤ 100000000) :
    Calls Tryz.prog 18 #[.slice A vs.length c] w fun e w' => ∃ v, e = .returned v ∧ w'.ownsRow w.heap.size 5 1 v (totB ps) (catB ps) ∧ Below w.heap.size w w' := by
  have HC := hide (concatB_any A c vs ps w h hl hn hs ht)
  clear h hs hl
  go_enter Tryz.func18, Tryz.ntmps18
  go_wp2_with fail
  refine HC.out.mono ?_
  rintro e w1 ⟨v, rfl, h1, h2⟩
  have Q1 := hide h1
  have Q2 := hide h2
  clear h1 h2
  go_wp2
  go_ret
  exact ⟨_, rfl, Q1.out, Q2.out⟩

/-- Parts that lie in rows of the call's own. -/
def PartsO (w : World) (lo : Nat) (vs : List Value) (ps : List (Nat × List Value)) : Prop :=
  vs.length = ps.length ∧ ∀ (i : Nat) v p, vs[i]? = some v → ps[i]? = some p → w.ownsRow lo 5 1 v p.1 p.2 ∧ ∀ u ∈ p.2, u.oneCell' = true
theorem PartsO.nil_ {w : World} {lo : Nat} : PartsO w lo [] [] := ⟨rfl, fun i v p h => by simp at h⟩
theorem PartsO.keep {w w' : World} {lo : Nat} {vs : List Value} {ps : List (Nat × List Value)} (h : PartsO w lo vs ps) (hb : Below w.heap.size w w') : PartsO w' lo vs ps :=
  ⟨h.1, fun i v p hv hp => ⟨own_keep (h.2 i v p hv hp).1 fun b hb' => hb.block b ((h.2 i v p hv hp).1.lt b hb').2, (h.2 i v p hv hp).2⟩⟩
theorem PartsO.push {w w1 : World} {lo base n : Nat} {v sv : Value} {vs : List Value} {ps : List (Nat × List Value)} {p : Nat × List Value} (h : PartsO w lo vs ps) (ho : w.ownsRow base 25 1 v n vs)
    (hs : w.ownsRow lo 5 1 sv p.1 p.2) (h1 : ∀ u ∈ p.2, u.oneCell' = true) (hg : w.grownBy w1 v.ownBlock) : PartsO w1 lo (vs ++ [sv]) (ps ++ [p]) := by
  have hne : (5 : TypeId) ≠ 25 := by decide
  refine ⟨by simp [h.1], fun i x q hx hq => ?_⟩
  have hl := h.1
  rcases Nat.lt_or_ge i vs.length with hi | hi
  · rw [List.getElem?_append_left hi] at hx
    rw [List.getElem?_append_left (by omega)] at hq
    obtain ⟨a, b⟩ := h.2 i x q hx hq
    exact ⟨own_otherG hne a hg ho, b⟩
  · rw [List.getElem?_append_right hi] at hx
    rw [List.getElem?_append_right (by omega)] at hq
    have h0 : i - vs.length = 0 := by
      rcases Nat.eq_zero_or_pos (i - vs.length) with e | e
      · exact e
      · rw [List.getElem?_eq_none (by simp; omega)] at hx; cases hx
    rw [h0] at hx
    rw [show i - ps.length = 0 by omega] at hq
    have ex : sv = x := by simpa using hx
    have eq : p = q := by simpa using hq
    subst ex; subst eq
    exact ⟨own_otherG hne hs hg ho, h1⟩
theorem bys_info : (Tryz.prog.info? 25).map (fun i => (i.zero, i.size, i.bytes)) = some (some (.slice none 0 0), 1, 24) := by kernel_rfl
theorem pathB_take (k : Nat) (l : List Sg) (i : Nat) (h : i < l.length) : pathB k (l.take (i + 1)) = pathB k (l.take i) ++ segB k l[i] := by
  rw [List.take_succ_eq_append_getElem h, pathB_snoc]
theorem numsB_take (k : Nat) (l : List Int) (i : Nat) (h : i < l.length) : numsB k (l.take (i + 1)) = numsB k (l.take i) ++ beL k l[i] := by
  rw [List.take_succ_eq_append_getElem h, numsB_snoc]
theorem pathB_le (k : Nat) (hk : k ≤ 4) (l : List Sg) (h : ∀ s ∈ l, s.2.length ≤ 255) : (pathB k l).length ≤ 1022 * l.length := by
  induction l with
  | nil => simp [pathB_nil]
  | cons s r ih =>
    have h1 := h s (by simp)
    have h2 := ih fun x hx => h x (by simp [hx])
    have h3 : s.2.length * k ≤ 255 * 4 := Nat.mul_le_mul h1 hk
    rw [pathB_cons, List.length_append, segB_len, List.length_cons, Nat.mul_succ]; omega

/-- What the parts hold so far. -/
structure Held (w : World) (lo n : Nat) (v : Value) (b : List Int) : Prop where
  ex : ∃ vs ps, w.ownsRow lo 25 1 v n vs ∧ PartsO w lo vs ps ∧ catB ps = bV b ∧ totB ps = b.length

set_option maxRecDepth 100000 in
set_option maxHeartbeats 8000000 in
theorem sbytes_yes (k : Nat) (hk : k = 2 ∨ k = 4) (A : Option Addr) (c : Nat) (l : List Sg) (w : World) (h : Path w w.heap.size A l) (hl : l.length ≤ 1000) (hs : Sound l) (hv : validF k l = true) :
    Calls Tryz.prog 6 #[.int .i64 k, .slice A l.length c] w fun e w' => ∃ v, e = .returned (.tuple #[v, .bool true]) ∧ w'.ownsRow w.heap.size 5 1 v (pathB k l).length (bV (pathB k l)) ∧ Below w.heap.size w w' := by
  obtain ⟨iu, hi0, hi1, hi2, hi3⟩ := info_parts bys_info
  have hsh : ∀ s ∈ l, (s.1 = 1 ∨ s.1 = 2) ∧ 1 ≤ s.2.length ∧ s.2.length ≤ 255 := by
    intro s hs'
    simp only [validF, Bool.and_eq_true, List.all_eq_true] at hv
    have := hv.1 s hs'
    simp only [rightF, Bool.and_eq_true, shapeF, decide_eq_true_eq] at this
    exact this.1
  have hsm : ∀ s ∈ l, ∀ x ∈ s.2, 0 ≤ x ∧ x < 256 ^ k := by
    intro s hs' x hx
    have hu := (hs.2 s hs').2 x hx
    rcases hk with rfl | rfl
    · simp only [validF, Bool.and_eq_true, List.all_eq_true] at hv
      have := hv.1 s hs'
      simp only [rightF, Bool.and_eq_true] at this
      have h2 := this.2
      simp [smallF] at h2
      have := h2 x hx
      exact ⟨hu.1, by show x < 65536; omega⟩
    · exact ⟨hu.1, by show x < 4294967296; omega⟩
  have hP : ∀ x, 0 ≤ x → x < 256 ^ k → ∀ w', Calls Tryz.prog 17 #[.int .i64 k, .int .u32 x] w' fun e w'' => ∃ v, e = .returned (.tuple #[v, .bool true]) ∧ w''.ownsRow w'.heap.size 5 1 v k (bV (beL k x)) ∧ Below w'.heap.size w' w'' := by
    intro x h0 h1 w'
    rcases hk with rfl | rfl
    · exact put2_any x w' h0 h1
    · exact put4_any x w' h0 h1
  have HV := hide (valid_any k A c l w h hs)
  rw [hv] at HV
  have HP := hide hP
  have HSM := hide hsm
  have HSH := hide hsh
  have hk4 : k ≤ 4 := by omega
  clear hP hsm hsh hv hk hs
  go_enter Tryz.func6, Tryz.ntmps6
  go_wp2_with fail
  refine HV.out.mono ?_
  rintro e w1 ⟨rfl, hb1⟩
  have HB1 := hide hb1
  clear hb1 HV
  go_wp2_with fail
  go_loopw [6, 19] (fun v i wr => ∃ j : Nat, j ≤ l.length ∧ i = .int .i64 j ∧ (∃ n, n ≤ 256 * j ∧ Held wr w.heap.size n v (pathB k (l.take j))) ∧ Below w.heap.size w wr) (fun _ i _ => l.length - (intOf i).toNat)
  case atStart => exact ⟨0, Nat.zero_le _, rfl, ⟨0, by omega, ⟨[], [], World.ownsRow_nil _ _ _ _, PartsO.nil_, by simp [catB, pathB, bV], by simp [totB, pathB]⟩⟩, HB1.out⟩
  case round =>
    obtain ⟨j, hj, rfl, ⟨n, hn, ⟨vs, ps, hown, hpar, hcat, htot⟩⟩, hbel⟩ := hrel
    obtain ⟨wo, rfl⟩ : ∃ wo : World, wo = wr := ⟨_, rfl⟩
    by_cases hlt : j < l.length
    · obtain ⟨ad, A', c', rfl, had, hc0, hc1, hbk, f2, f3, f4⟩ := (h.below hbel).at_ hlt
      obtain ⟨hK, hn1, hn2⟩ := HSH.out l[j] (List.getElem_mem hlt)
      have hnum := HSM.out l[j] (List.getElem_mem hlt)
      have hwz := hbel.size
      have hk0 : (0 : Int) ≤ (j : Int) := Int.natCast_nonneg _
      have hk1 : (j : Int) < (l.length : Int) := by omega
      have hbko : (ad.add (j * 2)).block < wo.heap.size := by omega
      have hptk := pathB_take k l j hlt
      have hK0 : 0 ≤ l[j].1 := by omega
      have hK1 : l[j].1 ≤ 255 := by omega
      have hN0 : (0 : Int) ≤ (l[j].2.length : Int) := Int.natCast_nonneg _
      have hN1 : (l[j].2.length : Int) ≤ 255 := by omega
      have HPT := Lib.hid hptk
      have HOWN := hide hown
      have HPAR := hide hpar
      have HCAT := Lib.hid hcat
      have HTOT := Lib.hid htot
      have HBEL := hide hbel
      have HF4 := hide f4
      have HNUM := hide hnum
      have HH := hide h
      clear h hptk hown hpar hcat htot hbel f4 hnum hK
      obtain ⟨K, hKe⟩ : ∃ K, K = l[j].1 := ⟨_, rfl⟩
      obtain ⟨ns, hns⟩ : ∃ ns, ns = l[j].2 := ⟨_, rfl⟩
      rw [← hKe] at hc0 hK0 hK1
      rw [← hns] at hc1 hn1 hn2 hN0 hN1 f2 HF4 HNUM
      have HKE := Lib.hid hKe
      have HNS := Lib.hid hns
      clear hKe hns
      obtain ⟨W3, hW3⟩ : ∃ W3, W3 = ((wo.alloc (Obj.cells #[.int .i64 K, .slice A' ns.length c'] 40)).alloc (Obj.cells #[.int .u8 K, .int .u8 ns.length] 5)).alloc
        (Obj.cells #[.slice (some ⟨wo.heap.size + 1, 0, none⟩) 2 2] 25) := ⟨_, rfl⟩
      have hW3s : W3.heap.size = wo.heap.size + 3 := by rw [hW3]; simp
      have hW3b : Below wo.heap.size wo W3 := by rw [hW3]; exact (((Below.refl _ _).alloc (Nat.le_refl _) _).alloc (by simp) _).alloc (by simp; omega) _
      have hW3n : W3.heap[wo.heap.size + 1 + 1]? = some (.cells #[.slice (some ⟨wo.heap.size + 1, 0, none⟩) 2 2] 25 (0, 0)) := by
        rw [hW3]
        have := heap_alloc_new ((wo.alloc (Obj.cells #[.int .i64 K, .slice A' ns.length c'] 40)).alloc (Obj.cells #[.int .u8 K, .int .u8 ns.length] 5)) (Obj.cells #[.slice (some ⟨wo.heap.size + 1, 0, none⟩) 2 2] 25)
        rw [World.size_alloc, World.size_alloc] at this; exact this
      have hlit : W3.ownsRow w.heap.size 5 1 (.slice (some ⟨wo.heap.size + 1, 0, none⟩) 2 2) 2 (bV [K, ns.length]) := by
        have h1 := World.ownsRow_lit (base := w.heap.size) (e := 5) (size := 1) (wo.alloc (Obj.cells #[.int .i64 K, .slice A' ns.length c'] 40)) #[Value.int .u8 K, .int .u8 ns.length] 2 (by simp; omega) (by simp [maxLen]) (by simp)
        rw [World.size_alloc] at h1
        rw [hW3]
        exact h1.alloc _
      have hown3 : W3.ownsRow w.heap.size 25 1 u6 n vs := own_keep HOWN.out fun b hb => hW3b.block b (HOWN.out.lt b hb).2
      have hpar3 := HPAR.out.keep hW3b
      have hb03 := HBEL.out.trans (hW3b.mono hwz)
      have HW3n := Lib.hid hW3n
      have HLIT := hide hlit
      have HO3 := hide hown3
      have HP3 := hide hpar3
      have HB3 := hide hb03
      clear hW3n hlit hown3 hpar3 hb03 hW3b HOWN HPAR
      go_wp2_with (at_builtin
                   rw [← hW3]
                   refine wpList_append_lies _ rfl (.tmp 23) (.tmp 32) _ rfl w.heap.size 25 iu _ 1 24 Tryz.underlying43 hi0 hi1 hi2 hi3 rfl (by omega) u6 n vs rfl HO3.out
                     ⟨wo.heap.size + 1 + 1, 0, none⟩ 1 1 [.slice (some ⟨wo.heap.size + 1, 0, none⟩) 2 2] rfl rfl (World.news_of_block (cs := #[.slice (some ⟨wo.heap.size + 1, 0, none⟩) 2 2]) HW3n.out) (by simp [Value.oneCell'])
                     (by omega) (by simp only [maxLen]; omega) (by omega) (by omega) _ rfl ?_
                   intro g cap w7 hown7 hgrow hat hltg
                   have hpar7 := HP3.out.push HO3.out (p := (2, bV [K, ns.length])) HLIT.out (bV_one _) hgrow
                   have hb7 : Below w.heap.size w w7 := HB3.out.grown hgrow (by omega) (fun x hx => (HO3.out.lt x hx).1)
                   have h80 : w7.heap[wo.heap.size]? = W3.heap[wo.heap.size]? := hgrow.block wo.heap.size (by omega) (fun e => by
                     have h1 := (HO3.out.lt _ e.symm).2
                     have h2 := own_blk_ne (t := 40) (g := wo.heap.size) (cs := #[.int .i64 K, .slice A' ns.length c']) HO3.out (by rw [hW3]; show _ = _; rw [Below.heap_alloc _ _ _ (by simp; omega), Below.heap_alloc _ _ _ (by simp), heap_alloc_new]) (by decide)
                     exact h2 e.symm)
                   have h81 : w7.heap[wo.heap.size]? = some (.cells #[.int .i64 K, .slice A' ns.length c'] 40 (0, 0)) := by
                     rw [h80, hW3, Below.heap_alloc _ _ _ (by simp; omega), Below.heap_alloc _ _ _ (by simp), heap_alloc_new]
                   have c81 : w7.cell? ⟨wo.heap.size, 1, none⟩ = some (.slice A' ns.length c') := by rw [cell_of_row _ _ 1 _ _ _ h81]; rfl
                   have hcat7 : catB (ps ++ [(2, bV [K, ns.length])]) = bV (pathB k (l.take j) ++ [K, ns.length]) := by rw [catB_app, catB_one, HCAT.out, bV_append]
                   have htot7 : totB (ps ++ [(2, bV [K, ns.length])]) = (pathB k (l.take j) ++ [K, (ns.length : Int)]).length := by rw [totB_app, totB_one, HTOT.out]; simp
                   have Q1 := hide hown7
                   have Q2 := hide hpar7
                   have Q3 := hide hb7
                   have Q4 := Lib.hid hcat7
                   have Q5 := Lib.hid htot7
                   have hz7 := hgrow.size
                   clear hown7 hpar7 hgrow hat hb7 h80 h81 hcat7 htot7 hW3 HO3 HP3 HB3 HLIT HW3n)
      go_loopw [6, 37] (fun v i wi => ∃ q : Nat, q ≤ ns.length ∧ i = .int .i64 q ∧ (∃ m, m ≤ 256 * j + 1 + q ∧ Held wi w.heap.size m v (pathB k (l.take j) ++ [K, (ns.length : Int)] ++ numsB k (ns.take q))) ∧ Below w.heap.size w wi ∧ w7.heap.size ≤ wi.heap.size) (fun _ i _ => ns.length - (intOf i).toNat)
      case atStart => exact ⟨0, Nat.zero_le _, rfl, ⟨n + 1, by omega, ⟨_, _, Q1.out, Q2.out, by rw [Q4.out]; simp [numsB], by rw [Q5.out]; simp [numsB]⟩⟩, Q3.out, Nat.le_refl _⟩
      case round =>
        obtain ⟨q, hq, rfl, ⟨m, hm, ⟨vs2, ps2, hown, hpar, hcat, htot⟩⟩, hbel2, hz2⟩ := hrel
        clear Q1 Q2 Q3 Q4 Q5
        by_cases qlt : q < ns.length
        · have hrd : Reads wr w.heap.size 1 A' ns.length (uV ns) := HF4.out.keep fun p hp => (hbel2.cell hp).trans (HBEL.out.cell hp).symm
          obtain ⟨ap, u, rfl, hap, hx, hc⟩ := hrd.at_ qlt
          obtain ⟨x, hx1, rfl⟩ := uV_get hx
          have hx2 : ns[q] = x := by rw [List.getElem?_eq_getElem qlt] at hx1; injection hx1
          have hxb := HNUM.out x (hx2 ▸ List.getElem_mem qlt)
          have hbz2 := hbel2.size
          have hap3 : (ap.add q).block < wr.heap.size := by rw [block_of_add]; omega
          have hsu := numsB_take k ns q qlt
          rw [hx2] at hsu
          have hput := HP.out x hxb.1 hxb.2 wr
          have HPUT := hide hput
          have HSU := Lib.hid hsu
          have HOWN := hide hown
          have HPAR := hide hpar
          have HCAT := Lib.hid hcat
          have HTOT := Lib.hid htot
          have HBE2 := hide hbel2
          have hj0 : (0 : Int) ≤ (q : Int) := Int.natCast_nonneg _
          have hj1 : (q : Int) < (ns.length : Int) := by omega
          clear hrd hx hx1 hx2 hxb hsu hput hown hpar hcat htot hbel2 c81 hc0 hc1
          go_wp2_with fail
          refine HPUT.out.mono ?_
          rintro e w8 ⟨v8, rfl, hown8, hb8⟩
          obtain ⟨A8, c8, rfl, h8c, h8m⟩ := slice_of_own hown8
          have hz8 := hb8.size
          have hr8 : w8.ownsRow w.heap.size 25 1 u6 m vs2 := own_keep HOWN.out fun b hb => hb8.block b (HOWN.out.lt b hb).2
          have hp8 := HPAR.out.keep hb8
          have hbb8 : Below w.heap.size w w8 := HBE2.out.trans (hb8.mono hbz2)
          have HR8 := hide (hr8.alloc (Obj.cells #[.slice A8 k c8] 25))
          have HP8 := hide (hp8.keep ((Below.refl _ _).alloc (Nat.le_refl _) (Obj.cells #[.slice A8 k c8] 25)))
          have HN8 := hide ((own_base hown8 hbz2).alloc (Obj.cells #[.slice A8 k c8] 25))
          have HB8 := hide (hbb8.alloc hbb8.size (Obj.cells #[.slice A8 k c8] 25))
          have hz08 : w.heap.size ≤ (w8.alloc (Obj.cells #[.slice A8 k c8] 25)).heap.size := by simp; omega
          clear hr8 hp8 hbb8 hown8 hb8 HPUT HOWN HPAR HBE2
          go_wp2_with (at_builtin
                       refine wpList_append_lies _ rfl (.tmp 47) (.tmp 49) _ rfl w.heap.size 25 iu _ 1 24 Tryz.underlying43 hi0 hi1 hi2 hi3 rfl (by omega) u6 m vs2 rfl HR8.out
                         ⟨w8.heap.size, 0, none⟩ 1 1 [.slice A8 k c8] rfl rfl (World.news_of_block (cs := #[.slice A8 k c8]) (heap_alloc_new w8 _)) (by simp [Value.oneCell'])
                         (by omega) (by simp only [maxLen]; omega) (by omega) hz08 _ rfl ?_
                       intro g cap w9 hown9 hgrow hat hltg
                       have hpar9 := HP8.out.push HR8.out (p := (k, bV (beL k x))) HN8.out (bV_one _) hgrow
                       have hb9 : Below w.heap.size w w9 := HB8.out.grown hgrow hz08 (fun x hx => (HR8.out.lt x hx).1)
                       have hcat9 : catB (ps2 ++ [(k, bV (beL k x))]) = bV (pathB k (l.take j) ++ [K, ns.length] ++ numsB k (ns.take (q + 1))) := by
                         rw [catB_app, catB_one, HCAT.out, ← bV_append, HSU.out, List.append_assoc (pathB k (l.take j) ++ [K, (ns.length : Int)])]
                       have htot9 : totB (ps2 ++ [(k, bV (beL k x))]) = (pathB k (l.take j) ++ [K, (ns.length : Int)] ++ numsB k (ns.take (q + 1))).length := by
                         rw [totB_app, totB_one, HTOT.out, HSU.out]; simp only [List.length_append, beL_len]; omega
                       have hz9 := hgrow.size
                       have Q1 := hide hown9
                       have Q2 := hide hpar9
                       have Q3 := hide hb9
                       have Q4 := Lib.hid hcat9
                       have Q5 := Lib.hid htot9
                       clear hown9 hpar9 hgrow hat hb9 hcat9 htot9 HR8 HP8 HN8 HB8)
          go_roundw
          case rel => exact ⟨q + 1, by omega, by go_num, ⟨m + 1, by omega, ⟨_, _, Q1.out, Q2.out, Q4.out, Q5.out⟩⟩, Q3.out, by simp at hz9; omega⟩
          case measure => simp [intOf]; omega
        · have hqk : q = ns.length := by omega
          subst hqk
          rw [List.take_length] at hcat htot
          have Q1 := hide hown
          have Q2 := hide hpar
          have Q3 := hide hbel2
          have Q4 := Lib.hid hcat
          have Q5 := Lib.hid htot
          clear hown hpar hbel2 hcat htot c81 hc0 hc1
          go_wp2
          go_roundw
          case rel =>
            have e : pathB k (l.take (j + 1)) = pathB k (l.take j) ++ [K, (ns.length : Int)] ++ numsB k ns := by
              rw [HPT.out, segB, ← HKE.out, ← HNS.out]; simp
            exact ⟨j + 1, by omega, by go_num, ⟨m, by omega, ⟨_, _, Q1.out, Q2.out, by rw [e]; exact Q4.out, by rw [e]; exact Q5.out⟩⟩, Q3.out⟩
          case measure => simp [intOf]; omega
    · have hjl : j = l.length := by omega
      subst hjl
      rw [List.take_length] at hcat htot
      have hbz := hbel.size
      have hle := pathB_le k hk4 l (fun s hs => (HSH.out s hs).2.2)
      obtain ⟨A6, c6, rfl, h61, h62⟩ := slice_of_own hown
      have hvl : vs.length = n := by have := hown.1; omega
      have hC := cat_any A6 c6 vs ps wo (by rw [hvl]; exact Reads.of_own hown) hpar.1 (by have := hpar.1; omega)
        (fun i v p hv hp => by
          obtain ⟨a, b⟩ := hpar.2 i v p hv hp
          obtain ⟨A7, c7, e7, _, _⟩ := slice_of_own a
          rw [e7] at a ⊢
          exact ⟨A7, c7, rfl, Reads.of_own a, b⟩) (by rw [htot]; omega)
      rw [hvl, hcat, htot] at hC
      have HC := hide hC
      have HB := hide hbel
      clear hC hbel hown hpar hcat htot h
      go_wp2_with fail
      refine HC.out.mono ?_
      rintro e w9 ⟨v9, rfl, hown9, hb9⟩
      have Q1 := hide (own_base hown9 hbz)
      have Q2 := hide (HB.out.trans (hb9.mono hbz))
      clear hown9 hb9
      go_wp2
      go_ret2
      exact ⟨_, rfl, Q1.out, Q2.out⟩

set_option maxRecDepth 100000 in
theorem sbytes_no (width : Int) (A : Option Addr) (c : Nat) (l : List Sg) (w : World) (h : Path w w.heap.size A l) (hs : Sound l) (hv : validF width l = false) :
    Calls Tryz.prog 6 #[.int .i64 width, .slice A l.length c] w fun e w' => e = .returned (.tuple #[.slice none 0 0, .bool false]) ∧ Below w.heap.size w w' := by
  have HV := hide (valid_any width A c l w h hs)
  rw [hv] at HV
  clear h hs hv
  go_enter Tryz.func6, Tryz.ntmps6
  go_wp2_with fail
  refine HV.out.mono ?_
  rintro e w1 ⟨rfl, hb1⟩
  have HB1 := hide hb1
  clear hb1
  go_wp2
  go_ret2
  exact ⟨rfl, HB1.out⟩
/-- The form of a path, or nothing. -/
def formB (width : Int) (l : List Sg) : List Int := if validF width l = true then pathB width.toNat l else []
theorem sbytes_any (width : Int) (A : Option Addr) (c : Nat) (l : List Sg) (w : World) (h : Path w w.heap.size A l) (hl : l.length ≤ 1000) (hs : Sound l) :
    Calls Tryz.prog 6 #[.int .i64 width, .slice A l.length c] w fun e w' => ∃ A' c', e = .returned (.tuple #[.slice A' (formB width l).length c', .bool (validF width l)]) ∧ Byts w' w'.heap.size A' (formB width l) ∧ Below w.heap.size w w' := by
  by_cases hv : validF width l = true
  · have hw : width = 2 ∨ width = 4 := by
      have := hv
      simp only [validF, Bool.and_eq_true, decide_eq_true_eq] at this
      exact this.2
    obtain ⟨k, hk, rfl⟩ : ∃ k : Nat, (k = 2 ∨ k = 4) ∧ width = k := by
      rcases hw with rfl | rfl
      · exact ⟨2, .inl rfl, rfl⟩
      · exact ⟨4, .inr rfl, rfl⟩
    have e : formB k l = pathB k l := by unfold formB; rw [if_pos hv, Int.toNat_natCast]
    rw [e, hv]
    refine (sbytes_yes k hk A c l w h hl hs hv).mono fun e w' ⟨v, h1, h2, h3⟩ => ?_
    obtain ⟨A', c', rfl, _, _⟩ := slice_of_own h2
    exact ⟨A', c', h1, Reads.of_own h2, h3⟩
  · have hv : validF width l = false := by simpa using hv
    have e : formB width l = [] := by unfold formB; rw [hv]; rfl
    rw [e, hv]
    exact (sbytes_no width A c l w h hs hv).mono fun e w' ⟨h1, h2⟩ => ⟨none, 0, h1, Reads.none_, h2⟩
end Go.Proofs.YtceolenmcpndaaaGreatDoor
