/- What the example of the chapter runs: the form of an empty update; the first part. -/
import Derived.Test.YtnfclcbhehbchaaGreatDoorUpE
import Derived.Test.YtnfclcbhehbchaaGreatDoorConB
set_option autoImplicit false
namespace Go.Proofs.YtnfclcbhehbchaaGreatDoor
open Go.RowKit
set_option maxRecDepth 100000 in
set_option maxHeartbeats 4000000 in
theorem grow_zero (w : World) : Calls Tryz.prog 82 #[.slice none 0 0, .int .i64 0] w fun e w' => e = .returned (.slice none 0 0) ∧ w' = w := by
  go_enter Tryz.func82, Tryz.ntmps82
  go_wp2
  go_ret
  exact ⟨rfl, rfl⟩
set_option maxRecDepth 100000 in
set_option maxHeartbeats 4000000 in
theorem concat_nil (w : World) : Calls Tryz.prog 66 #[.slice none 0 0] w fun e w' => e = .returned (.slice none 0 0) ∧ w' = w := by
  go_enter Tryz.func66, Tryz.ntmps66
  go_wp2_with fail
  go_loop [3, 11] (fun n i => i = .int .i64 0 ∧ n = .int .i64 0) (fun _ _ => 0)
  case atStart => exact ⟨rfl, rfl⟩
  case round =>
    obtain ⟨rfl, rfl⟩ := hrel
    go_wp2_with (go_at_call 82; refine (grow_zero _).mono ?_; rintro e w1 ⟨rfl, rfl⟩)
    go_loop [6, 27] (fun n i => i = .int .i64 0 ∧ n = .slice none 0 0) (fun _ _ => 0)
    case atStart => exact ⟨rfl, rfl⟩
    case round =>
      obtain ⟨rfl, rfl⟩ := hrel
      go_wp2
      go_ret
      exact ⟨rfl, rfl⟩
set_option maxRecDepth 100000 in
theorem cat_nil (w : World) : Calls Tryz.prog 45 #[.slice none 0 0] w fun e w' => e = .returned (.slice none 0 0) ∧ w' = w := by
  go_enter Tryz.func45, Tryz.ntmps45
  go_wp2_with (go_at_call 66; refine (concat_nil _).mono ?_; rintro e w1 ⟨rfl, rfl⟩)
  go_ret
  exact ⟨rfl, rfl⟩
theorem own_more {w w' : World} {base : Nat} {e : TypeId} {size : Nat} {v : Value} {n : Nat} {xs : List Value} (h : w.ownsRow base e size v n xs) (hb : Below w.heap.size w w') : w'.ownsRow base e size v n xs := by
  obtain ⟨h1, h2⟩ := h
  refine ⟨h1, ?_⟩
  rcases h2 with h2 | ⟨g, cap, cur, hv, hg, hh, r⟩
  · exact .inl h2
  · exact .inr ⟨g, cap, cur, hv, hg, (hb.block g (lt_of_heapF hh)).trans hh, r⟩
/-- octet.Cat joins parts. -/
theorem cat_any (A : Option Addr) (c : Nat) (vs : List Value) (ps : List (Nat × List Value)) (w : World) (h : Reads w w.heap.size 1 A vs.length vs) (hl : vs.length = ps.length) (hn : ps.length ≤ 100000000)
    (hs : ∀ (i : Nat) v p, vs[i]? = some v → ps[i]? = some p → SrcB w w.heap.size v p) (ht : totB ps ≤ 100000000) :
    Calls Tryz.prog 45 #[.slice A vs.length c] w fun e w' => ∃ v, e = .returned v ∧ w'.ownsRow w.heap.size 5 1 v (totB ps) (catB ps) ∧ Below w.heap.size w w' := by
  have HC := hide (concatB_any A c vs ps w h hl hn hs ht)
  clear h hs hl
  go_enter Tryz.func45, Tryz.ntmps45
  go_wp2_with fail
  refine HC.out.mono ?_
  rintro e w1 ⟨v, rfl, h1, h2⟩
  have Q1 := hide h1
  have Q2 := hide h2
  clear h1 h2
  go_wp2
  go_ret
  exact ⟨_, rfl, Q1.out, Q2.out⟩
/-- octet.Cat of two slices. -/
theorem cat_two (V : World) (v1 v2 : Value) (l1 l2 : List Int) (h1 : SrcB V V.heap.size v1 (l1.length, bV l1)) (h2 : SrcB V V.heap.size v2 (l2.length, bV l2)) (hn : l1.length + l2.length ≤ 100000000) :
    Calls Tryz.prog 45 #[.slice (some ⟨V.heap.size, 0, none⟩) 2 2] (V.alloc (.cells #[v1, v2] 35)) fun e w' => ∃ v, e = .returned v ∧ w'.ownsRow V.heap.size 5 1 v (l1.length + l2.length) (bV (l1 ++ l2)) ∧ Below V.heap.size V w' := by
  have hb : Below V.heap.size V (V.alloc (.cells #[v1, v2] 35)) := (Below.refl _ _).alloc (Nat.le_refl _) _
  have hg : (V.alloc (.cells #[v1, v2] 35)).heap[V.heap.size]? = some (.cells #[v1, v2] 35 (0, 0)) := heap_alloc_new _ _
  have hsz : (V.alloc (.cells #[v1, v2] 35)).heap.size = V.heap.size + 1 := by simp
  have hc := cat_any (some ⟨V.heap.size, 0, none⟩) 2 [v1, v2] [(l1.length, bV l1), (l2.length, bV l2)] (V.alloc (.cells #[v1, v2] 35))
    ⟨by simp, fun _ => ⟨_, rfl, by show V.heap.size < _; rw [hsz]; omega, fun j u hu => World.news_of_block (cs := #[v1, v2]) hg j u (by simpa using hu)⟩⟩ rfl (by simp)
    (fun i v p hv hp => by
      rcases i with _ | _ | i
      · simp at hv hp; subst hv; subst hp; exact (h1.keep hb).more hb.size
      · simp at hv hp; subst hv; subst hp; exact (h2.keep hb).more hb.size
      · simp at hv) (by simp [totB]; omega)
  refine hc.mono ?_
  rintro e w' ⟨v, rfl, ho, hb2⟩
  refine ⟨v, rfl, ?_, hb.trans (hb2.mono hb.size)⟩
  have ho2 := own_base ho hb.size
  have e1 : totB [(l1.length, bV l1), (l2.length, bV l2)] = l1.length + l2.length := by simp [totB]
  have e2 : catB [(l1.length, bV l1), (l2.length, bV l2)] = bV (l1 ++ l2) := by simp [catB, bV]
  rw [e1, e2] at ho2
  exact ho2
theorem src_of_own {w : World} {base : Nat} {A : Option Addr} {c : Nat} {l : List Int} {n : Nat} (h : w.ownsRow base 5 1 (.slice A n c) n (bV l)) (hn : n = l.length) : SrcB w w.heap.size (.slice A n c) (l.length, bV l) := by
  subst hn
  exact ⟨A, c, rfl, Reads.of_own h, bV_one l⟩
set_option maxRecDepth 100000 in
set_option maxHeartbeats 4000000 in
theorem index_rt (fv : Value) (w : World) : Calls Tryz.prog 92 #[.slice none 0 0, fv] w fun e w' => e = .returned (.int .i64 (-1)) ∧ w' = w := by
  go_enter Tryz.func92, Tryz.ntmps92
  go_wp2_with fail
  go_loop [8] (fun i => i = .int .i64 0) (fun _ => 0)
  case atStart => exact rfl
  case round =>
    subst hrel
    go_wp2
    go_ret
    exact ⟨rfl, rfl⟩
set_option maxRecDepth 100000 in
set_option maxHeartbeats 4000000 in
theorem index_at (fv : Value) (w : World) : Calls Tryz.prog 31 #[.slice none 0 0, fv] w fun e w' => e = .returned (.int .i64 (-1)) ∧ w' = w := by
  go_enter Tryz.func31, Tryz.ntmps31
  go_wp2_with fail
  go_loop [8] (fun i => i = .int .i64 0) (fun _ => 0)
  case atStart => exact rfl
  case round =>
    subst hrel
    go_wp2
    go_ret
    exact ⟨rfl, rfl⟩
set_option maxRecDepth 100000 in
set_option maxHeartbeats 4000000 in
theorem contains_rt (fv : Value) (w : World) : Calls Tryz.prog 83 #[.slice none 0 0, fv] w fun e w' => e = .returned (.bool false) ∧ w' = w := by
  go_enter Tryz.func83, Tryz.ntmps83
  go_wp2_with (go_at_call 92; refine (index_rt fv w).mono ?_; rintro e w1 ⟨rfl, rfl⟩)
  go_ret
  exact ⟨rfl, rfl⟩
set_option maxRecDepth 100000 in
set_option maxHeartbeats 4000000 in
theorem nvalid_nil (w : World) : Calls Tryz.prog 70 #[.int .i64 1, .bool false, .slice none 0 0] w fun e w' => e = .returned (.bool true) ∧ Below w.heap.size w w' := by
  have hb := ((Below.refl w.heap.size w).alloc (Nat.le_refl _) (.cells #[.int .i64 1] 3)).alloc (by simp) (.cells #[.bool false] 4)
  have HB := hide hb
  clear hb
  go_enter Tryz.func70, Tryz.ntmps70
  go_wp2_with (go_at_call 83; refine (contains_rt _ _).mono ?_; rintro e w1 ⟨rfl, rfl⟩)
  go_ret
  exact ⟨rfl, HB.out⟩
set_option maxRecDepth 100000 in
set_option maxHeartbeats 4000000 in
theorem nbytes_nil (w : World) : Calls Tryz.prog 53 #[.int .i64 1, .bool false, .slice none 0 0] w fun e w' => e = .returned (.tuple #[.slice none 0 0, .bool true]) ∧ Below w.heap.size w w' := by
  go_enter Tryz.func53, Tryz.ntmps53
  go_wp2_with (go_at_call 70; refine (nvalid_nil w).mono ?_; rintro e w1 ⟨rfl, hb1⟩; have B1 := hide hb1; clear hb1)
  go_loop [8, 18] (fun n i => i = .int .i64 0 ∧ n = .slice none 0 0) (fun _ _ => 0)
  case atStart => exact ⟨rfl, rfl⟩
  case round =>
    obtain ⟨rfl, rfl⟩ := hrel
    go_wp2_with (go_at_call 45; refine (cat_nil _).mono ?_; rintro e w2 ⟨rfl, rfl⟩)
    refine bodyPost_ret (v := .tuple #[.slice none 0 0, .bool true]) (by simp [results, Tryz.results53, go_sem]) rfl ?_
    exact ⟨rfl, B1.out⟩
set_option maxRecDepth 100000 in
set_option maxHeartbeats 4000000 in
theorem has_no (w : World) : Calls Tryz.prog 72 #[.int .i64 1, .bool false, .bool false] w fun e w' => e = .returned (.bool false) ∧ w' = w := by
  go_enter Tryz.func72, Tryz.ntmps72
  go_wp2
  go_ret
  exact ⟨rfl, rfl⟩
set_option maxRecDepth 100000 in
set_option maxHeartbeats 4000000 in
theorem add_no (w : World) : Calls Tryz.prog 54 #[.agg #[.bool false, .bool false, .bool false, .bool false, .bool false, .bool false], .int .i64 1] w fun e w' => e = .returned (.bool false) ∧ Below w.heap.size w w' := by
  have hb := (Below.refl w.heap.size w).alloc (Nat.le_refl _) (.cells #[.bool false, .bool false, .bool false, .bool false, .bool false, .bool false] 60)
  have HB := hide hb
  clear hb
  go_enter Tryz.func54, Tryz.ntmps54
  go_wp2_with (go_at_call 72; refine (has_no _).mono ?_; rintro e w1 ⟨rfl, rfl⟩)
  go_ret
  exact ⟨rfl, HB.out⟩
set_option maxRecDepth 100000 in
set_option maxHeartbeats 4000000 in
theorem abytes_nil (w : World) : Calls Tryz.prog 23 #[.agg #[.bool false, .bool false, .bool false, .bool false, .bool false, .bool false], .slice none 0 0] w fun e w' => e = .returned (.tuple #[.slice none 0 0, .bool true]) ∧ Below w.heap.size w w' := by
  have hb := (Below.refl w.heap.size w).alloc (Nat.le_refl _) (.cells #[.bool false, .bool false, .bool false, .bool false, .bool false, .bool false] 60)
  have HB := hide hb
  clear hb
  go_enter Tryz.func23, Tryz.ntmps23
  go_wp2_with fail
  go_loop [6, 7, 15] (fun n l i => i = .int .i64 0 ∧ n = .slice none 0 0 ∧ l = .int .i64 (-1)) (fun _ _ _ => 0)
  case atStart => exact ⟨rfl, rfl, rfl⟩
  case round =>
    obtain ⟨rfl, rfl, rfl⟩ := hrel
    go_wp2_with (go_at_call 45; refine (cat_nil _).mono ?_; rintro e w2 ⟨rfl, rfl⟩)
    refine bodyPost_ret (v := .tuple #[.slice none 0 0, .bool true]) (by simp [results, Tryz.results23, go_sem]) rfl ?_
    exact ⟨rfl, HB.out⟩
set_option maxRecDepth 100000 in
set_option maxHeartbeats 4000000 in
theorem find_nil (k : Int) (w : World) : Calls Tryz.prog 13 #[.slice none 0 0, .int .i64 k] w fun e w' => e = .returned (.tuple #[.agg #[.int .i64 0, .bool false, .int .u32 0, .int .u32 0, .slice none 0 0, .slice none 0 0, .slice none 0 0, .int .i64 0, .slice none 0 0], .bool false]) ∧ Below w.heap.size w w' := by
  obtain ⟨W0, hW0⟩ : ∃ W0, W0 = (w.alloc (.cells #[.int .i64 k] 3)).alloc (.cells #[.int .i64 0, .bool false, .int .u32 0, .int .u32 0, .slice none 0 0, .slice none 0 0, .slice none 0 0, .int .i64 0, .slice none 0 0] 38) := ⟨_, rfl⟩
  have hg : W0.heap[w.heap.size + 1]? = some (.cells #[.int .i64 0, .bool false, .int .u32 0, .int .u32 0, .slice none 0 0, .slice none 0 0, .slice none 0 0, .int .i64 0, .slice none 0 0] 38 (0, 0)) := by rw [hW0]; exact heap_alloc2_new _ _ _
  have hb : Below w.heap.size w W0 := by rw [hW0]; exact ((Below.refl _ _).alloc (Nat.le_refl _) _).alloc (by simp) _
  have HW := Lib.hid hW0
  have HG := Lib.hid hg
  have HB := hide hb
  have has := attr_size
  have HAS := Lib.hid has
  clear hW0 hg hb has
  go_enter Tryz.func13, Tryz.ntmps13
  go_wp2_with (first
    | (go_at_call 31; rw [← HW.out]; refine (index_at _ W0).mono ?_; rintro e w1 ⟨rfl, h1⟩
       have g1 : w1.heap[w.heap.size + 1]? = some (.cells #[.int .i64 0, .bool false, .int .u32 0, .int .u32 0, .slice none 0 0, .slice none 0 0, .slice none 0 0, .int .i64 0, .slice none 0 0] 38 (0, 0)) := by rw [h1]; exact HG.out
       have b1 : Below w.heap.size w w1 := by rw [h1]; exact HB.out
       have HG1 := Lib.hid g1
       have HB1 := hide b1
       clear h1 g1 b1)
    | ((with_reducible refine wpList_store_whole w1 ?hgd2 38 (.tmp 4) (.tmp 12) ?ho2 (w.heap.size + 1) 38 #[.int .i64 0, .bool false, .int .u32 0, .int .u32 0, .slice none 0 0, .slice none 0 0, .slice none 0 0, .int .i64 0, .slice none 0 0] #[.int .i64 0, .bool false, .int .u32 0, .int .u32 0, .slice none 0 0, .slice none 0 0, .slice none 0 0, .int .i64 0, .slice none 0 0] ?hx2 ?hp2 HG1.out ?hi2 ?hs2 ?hq2 ?_); (case hgd2 => rfl); (case ho2 => rfl); (case hx2 => rfl); (case hp2 => rfl); (case hs2 => rfl); (case hi2 => exact HAS.out); (case hq2 => simp [Value.oneCell'])
       intro W2 G2 O2
       have B2 := hide (HB1.out.grown O2.out HB1.out.size (fun x hx => by injection hx; omega))
       clear O2))
  exact bodyPost_ret (v := .tuple #[.agg #[.int .i64 0, .bool false, .int .u32 0, .int .u32 0, .slice none 0 0, .slice none 0 0, .slice none 0 0, .int .i64 0, .slice none 0 0], .bool false]) (results_cellT (p := 4) (t := 5) rfl _ _ (w.heap.size + 1) 38 _ _ rfl rfl G2.out Tryz.underlying38 rfl HAS.out) rfl ⟨rfl, B2.out⟩
set_option maxRecDepth 100000 in
set_option maxHeartbeats 4000000 in
theorem lack_nil (w : World) : Calls Tryz.prog 55 #[.agg #[.slice none 0 0, .slice none 0 0, .slice none 0 0]] w fun e w' => e = .returned (.slice none 0 0) ∧ Below w.heap.size w w' := by
  have hb := (Below.refl w.heap.size w).alloc (Nat.le_refl _) (.cells #[.slice none 0 0, .slice none 0 0, .slice none 0 0] 46)
  have hg : (w.alloc (.cells #[.slice none 0 0, .slice none 0 0, .slice none 0 0] 46)).heap[w.heap.size]? = some (.cells #[.slice none 0 0, .slice none 0 0, .slice none 0 0] 46 (0, 0)) := heap_alloc_new _ _
  have HB := hide hb
  have HG := Lib.hid hg
  clear hb hg
  go_enter Tryz.func55, Tryz.ntmps55
  go_wp2_with (go_at_call 13; refine (find_nil 14 _).mono ?_; rintro e w1 ⟨rfl, hb1⟩
               have g1 := (hb1.block _ (lt_of_heapF HG.out)).trans HG.out
               have c1 : w1.cell? ⟨w.heap.size, 2, none⟩ = some (.slice none 0 0) := by rw [cell_of_row _ _ 2 _ _ _ g1]; rfl
               have l1 := lt_of_heapF g1
               have B1 := hide (HB.out.trans (hb1.mono HB.out.size))
               clear hb1 g1)
  go_ret
  exact ⟨rfl, B1.out.alloc B1.out.size _⟩
end Go.Proofs.YtnfclcbhehbchaaGreatDoor
