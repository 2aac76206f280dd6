/- segment.Parse: what it returns at each text of at most 100,000 bytes in which at most 1,000 segments are read. -/
import Derived.Test.YtceolenmcpndaaaGreatDoorSegPC2
import Derived.Test.YtceolenmcpndaaaGreatDoorSegRC
set_option autoImplicit false
namespace Go.Proofs.YtceolenmcpndaaaGreatDoor
open Go.RowKit Go.Sort Go.Shelf

theorem strB_size (l : List UInt8) : (strB l).size = l.length := by rw [Lib.size_eq]; rfl
def strLen (w : World) (p : Value) : Nat := match p with
  | .pointer (some a) => (match w.cell? a with
    | some (.string s) => s.size
    | _ => 0)
  | _ => 0
theorem strB_extract (l : List UInt8) (a b : Nat) : (strB l).extract a b = strB ((l.take b).drop a) := by
  rw [← strB_eta ((strB l).extract a b), Lib.extract_data]
  simp [strB, List.drop_take]
theorem cutB_piece (b : UInt8) (l : List UInt8) : ∀ x ∈ cutB b l, x.length ≤ l.length := by
  induction l with
  | nil => intro x hx; simp [cutB] at hx; subst hx; exact Nat.le_refl _
  | cons c r ih =>
    intro x hx
    rw [cutB] at hx
    split at hx
    · rcases List.mem_cons.1 hx with rfl | hx
      · simp
      · have := ih x hx; simp; omega
    · split at hx
      · have : x = [c] := by simpa using hx
        subst this; simp
      · rename_i y t e
        rw [e] at ih
        rcases List.mem_cons.1 hx with rfl | hx
        · have := ih y (by simp); simp; omega
        · have := ih x (by simp [hx]); simp; omega
theorem wordsN_snoc : ∀ (ws : List (List UInt8)) (j : Nat) (ns : List Int) (x : Int), (h : j < ws.length) → wordsN (ws.take j) = some ns → wordN ws[j] = some x → wordsN (ws.take (j + 1)) = some (ns ++ [x]) := by
  intro ws
  induction ws with
  | nil => intro j ns x h; simp at h
  | cons w r ih =>
    intro j ns x h h1 h2
    cases j with
    | zero =>
      have e : ns = [] := by rw [List.take_zero, wordsN_nil] at h1; injection h1 with h1; exact h1.symm
      subst e
      have h2' : wordN w = some x := h2
      rw [List.take_succ_cons, wordsN_cons, h2']; rfl
    | succ j =>
      rw [List.take_succ_cons, wordsN_cons] at h1 ⊢
      cases hw : wordN w with
      | none => rw [hw] at h1; cases h1
      | some y =>
        rw [hw] at h1
        obtain ⟨ms, hm, rfl⟩ := Option.map_eq_some_iff.1 h1
        have := ih j ms x (by simpa using h) hm h2
        show (wordsN (r.take (j + 1))).map (y :: ·) = _
        rw [this]; rfl
theorem wordsN_fail : ∀ (ws : List (List UInt8)) (j : Nat), (h : j < ws.length) → wordN ws[j] = none → wordsN ws = none := by
  intro ws
  induction ws with
  | nil => intro j h; simp at h
  | cons w r ih =>
    intro j h h1
    rw [wordsN_cons]
    cases j with
    | zero => have h1' : wordN w = none := h1
              rw [h1']; rfl
    | succ j =>
      have := ih j (by simpa using h) h1
      rw [this]
      cases wordN w <;> rfl
/-- One more number in field 1 of the block B8. -/
theorem push3 {W6 wi w1 : World} {B8 lo j g cap : Nat} {K x : Value} {sv : Value} {xs : List Value} {o : Obj} (hB : wi.heap[B8]? = some (.cells #[K, sv] 40 (0, 0))) (hown : wi.ownsRow lo 41 1 sv j xs)
    (h8 : B8 < lo) (hlo : W6.heap.size ≤ lo) (hg : W6.grownBy wi (some B8)) (hg1 : (wi.alloc o).grownBy w1 sv.ownBlock) (hown1 : w1.ownsRow lo 41 1 (.slice (some ⟨g, 0, none⟩) (j + 1) cap) (j + 1) (xs ++ [x])) :
    w1.cell? ⟨B8, 1, none⟩ = some sv ∧ w1.frozen? ⟨B8, 1, none⟩ = false ∧ Hid (
    (w1.setCell ⟨B8, 1, none⟩ (.slice (some ⟨g, 0, none⟩) (j + 1) cap)).heap[B8]? = some (.cells #[K, .slice (some ⟨g, 0, none⟩) (j + 1) cap] 40 (0, 0)) ∧
    (w1.setCell ⟨B8, 1, none⟩ (.slice (some ⟨g, 0, none⟩) (j + 1) cap)).ownsRow lo 41 1 (.slice (some ⟨g, 0, none⟩) (j + 1) cap) (j + 1) (xs ++ [x]) ∧
    W6.grownBy (w1.setCell ⟨B8, 1, none⟩ (.slice (some ⟨g, 0, none⟩) (j + 1) cap)) (some B8)) := by
  have hlt := lt_of_block hB
  have hne : some B8 ≠ sv.ownBlock := fun e => by have := (hown.lt B8 e.symm).1; omega
  have hB1 : w1.heap[B8]? = some (.cells #[K, sv] 40 (0, 0)) := (hg1.block B8 (by simp; omega) hne).trans ((Below.heap_alloc wi o B8 hlt).trans hB)
  refine ⟨by rw [cell_of_row _ _ 1 _ _ _ hB1]; rfl, frozen_of_row _ _ 1 _ _ hB1, hide ⟨?_, ownsRow_setCell_below hown1 (a := ⟨B8, 1, none⟩) (by show B8 < lo; exact h8) _, ?_⟩⟩
  · rw [heap_setCell_same w1 B8 1 _ _ _ hB1]; rfl
  · exact only_setCell (only_grown (only_alloc hg o) hg1 (fun y hy => by have := (hown.lt y hy).1; omega)) (.inl rfl) _
theorem strLen_of {W : World} {b : Nat} {x : List UInt8} {t : TypeId} (h : W.heap[b]? = some (.cells #[.string (strB x)] t (0, 0))) : strLen W (.pointer (some ⟨b, 0, none⟩)) = x.length := by
  have hc : W.cell? ⟨b, 0, none⟩ = some (.string (strB x)) := by rw [cell_of_row _ _ 0 _ _ _ h]; rfl
  unfold strLen
  simp only [hc, strB_size]
/-- The state of the loop over segments. -/
structure PS (w W : World) (s rest : List UInt8) (l : List Sg) (b5 : Nat) (v : Value) (vs : List Value) : Prop where
  own : W.ownsRow w.heap.size 40 2 v l.length vs
  segs : SegsO W w.heap.size vs l
  b5_ : W.heap[b5]? = some (.cells #[.string (strB rest)] 9 (0, 0))
  bel : Below w.heap.size w W
  h5 : w.heap.size ≤ b5
  sum : l.length + rest.length ≤ s.length
  rel : parseL s = (parseL rest).map (l ++ ·)

theorem SegsO.keepBut {w w' : World} {lo b5 : Nat} {t : TypeId} {cs : Array Value} {vs : List Value} {l : List Sg} (h : SegsO w lo vs l) (hB : Blk w b5 t cs) (hne : 41 ≠ t) (hk : ∀ b, b < w.heap.size → b ≠ b5 → w'.heap[b]? = w.heap[b]?) : SegsO w' lo vs l :=
  ⟨h.1, fun i s hs => by
    obtain ⟨v0, v1, a, b, c⟩ := h.2 i s hs
    refine ⟨v0, v1, a, b, c.1, own_keep c.2 fun x hx => hk x (c.2.lt x hx).2 ?_⟩
    intro e
    exact own_blk_ne c.2 hB hne (by rw [hx, e])⟩
theorem PS.next {w wo wr w8 : World} {s rest rest' : List UInt8} {l : List Sg} {b5 lo m g cap : Nat} {v sv : Value} {vs : List Value} {kk : Int} {ns : List Int} {o : Obj} (h : PS w wo s rest l b5 v vs) (hb : Below wo.heap.size wo wr)
    (hrow : wr.ownsRow lo 41 1 sv m (uV ns)) (hlo : wo.heap.size ≤ lo) (hm : m = ns.length) (hgrow : (wr.alloc o).grownBy w8 v.ownBlock)
    (hown8 : w8.ownsRow w.heap.size 40 2 (.slice (some ⟨g, 0, none⟩) (l.length + 1) cap) (l.length + 1) (vs ++ [.int .i64 kk, sv])) (hrest : rest'.length < rest.length)
    (hrel : parseL s = ((parseL rest').map ((kk, ns) :: ·)).map (l ++ ·)) :
    w8.heap[b5]? = some (.cells #[.string (strB rest)] 9 (0, 0)) ∧
    Hid (PS w ((w8.setCell ⟨b5, 0, none⟩ (.string (strB rest'))).alloc (.cells #[.string (strB rest')] 9)) s rest' (l ++ [(kk, ns)]) w8.heap.size (.slice (some ⟨g, 0, none⟩) (l.length + 1) cap) (vs ++ [.int .i64 kk, sv])) := by
  have hlt5 : b5 < wo.heap.size := lt_of_block h.b5_
  have hzr := hb.size
  have hownr : wr.ownsRow w.heap.size 40 2 v l.length vs := own_keep h.own fun x hx => hb.block x (h.own.lt x hx).2
  have hsr : SegsO wr w.heap.size vs l := h.segs.keep fun x _ hx => hb.block x hx
  have h5r : Blk wr b5 9 #[.string (strB rest)] := (hb.block b5 hlt5).trans h.b5_
  have h5a : (wr.alloc o).heap[b5]? = some (.cells #[.string (strB rest)] 9 (0, 0)) := (Below.heap_alloc wr o b5 (by omega)).trans h5r
  have hz8 : wr.heap.size ≤ w8.heap.size := by have := hgrow.size; simp at this; omega
  have h58 : Blk w8 b5 9 #[.string (strB rest)] := (hgrow.block b5 (by simp; omega) (fun e => own_blk_ne hownr h5r (by decide) e.symm)).trans h5a
  have hps := push_seg (o := o) (l := l) (k := l.length) (s := (kk, ns)) hownr (by rw [List.take_length]; exact hsr) (own_base hrow (Nat.le_trans h.bel.size hlo)) ⟨rfl, hm⟩ hgrow
  rw [List.take_length] at hps
  have hk9 : ∀ b, b < w8.heap.size → b ≠ b5 → ((w8.setCell ⟨b5, 0, none⟩ (.string (strB rest'))).alloc (.cells #[.string (strB rest')] 9)).heap[b]? = w8.heap[b]? := fun b hb' hne =>
    (Below.heap_alloc _ _ b (by simpa [World.setCell] using hb')).trans (Below.heap_setCell w8 _ _ b (by show b ≠ b5; exact hne))
  have hbel8 : Below w.heap.size w w8 := ((h.bel.trans (hb.mono h.bel.size)).alloc (by have := h.bel.size; omega) o).grown hgrow (by have := h.bel.size; simp; omega) (fun x hx => (h.own.lt x hx).1)
  refine ⟨h58, hide ⟨?_, hps.keepBut h58 (by decide) hk9, ?_, ?_, ?_, ?_, ?_⟩⟩
  · have := own_keep hown8 fun x hx => hk9 x (hown8.lt x hx).2 (fun e => own_blk_ne hown8 h58 (by decide) (by rw [hx, e]))
    simpa using this
  · have := heap_alloc_new (w8.setCell ⟨b5, 0, none⟩ (.string (strB rest'))) (.cells #[.string (strB rest')] 9)
    simpa [World.setCell] using this
  · exact (hbel8.setCell (p := ⟨b5, 0, none⟩) h.h5 _).alloc (by have := hbel8.size; simpa [World.setCell] using this) _
  · exact hbel8.size
  · have := h.sum; simp only [List.length_append, List.length_singleton]; omega
  · rw [hrel]
    cases parseL rest' <;> simp

set_option maxRecDepth 100000 in
set_option maxHeartbeats 8000000 in
theorem parse_any (s : List UInt8) (w : World) (hl : s.length ≤ 100000) (hq5 : ∀ p, parseL s = some p → p.length ≤ 1000) (ht : TabsQ w) :
    Calls Tryz.prog 14 #[.string (strB s)] w fun e w' => ∃ v, e = .returned (.tuple #[v, .bool (parP s).isSome]) ∧ OwnP w.heap.size ((parP s).getD []) v w' ∧ Below w.heap.size w w' := by
  obtain ⟨iu, hu0, hu1, hu2, hu3⟩ := info_parts u32_info
  obtain ⟨ig, hg0, hg1, hg2, hg3⟩ := info_parts seg_info
  have HT := hide ht
  have hps : PS w (w.alloc (.cells #[.string (strB s)] 9)) s s [] w.heap.size (.slice none 0 0) [] :=
    ⟨World.ownsRow_nil _ _ _ _, SegsO.nil_, heap_alloc_new _ _, (Below.refl _ _).alloc (Nat.le_refl _) _, Nat.le_refl _, by simp, by cases parseL s <;> simp⟩
  have HPS := hide hps
  have hmf : ∀ (fn : Fn) (first cap : Array Value) (w : World), (Instr.makeFunc fn first cap).run Tryz.prog w = .ok (.func fn first cap) w := fun _ _ _ _ => rfl
  clear ht hps
  go_enter Tryz.func14, Tryz.ntmps14
  go_wp2_with fail
  go_loopw [4, 5] (fun v p wi => ∃ rest l b5 vs, p = .pointer (some ⟨b5, 0, none⟩) ∧ Hid (PS w wi s rest l b5 v vs)) (fun _ p wi => strLen wi p)
  case atStart => exact ⟨_, _, _, _, rfl, HPS⟩
  case round =>
    obtain ⟨rest, l, b5, vs, rfl, HP⟩ := hrel
    obtain ⟨wo, rfl⟩ : ∃ wo : World, wo = wr := ⟨_, rfl⟩
    have c5 : wo.cell? ⟨b5, 0, none⟩ = some (.string (strB rest)) := by rw [cell_of_row _ _ 0 _ _ _ HP.out.b5_]; rfl
    have hsum := HP.out.sum
    cases rest with
    | nil =>
      have hp : parseL s = some l := by rw [HP.out.rel, parseL_nil]; simp
      obtain ⟨A2, c2, rfl, _⟩ := slice_of_own HP.out.own
      have hus := parseL_us _ s l (Nat.le_refl _) hp
      have hT := text_any A2 c2 l wo (HP.out.segs.path HP.out.own rfl) (hq5 l hp) (fun t h => ⟨by have := (hus.2 t h).1; omega, (hus.2 t h).2⟩) (HT.out.below HP.out.bel).tabs.tabs
      have c6 : wo.cell? ⟨b5, 0, none⟩ = some (.string ⟨#[]⟩) := c5
      have HO := hide (OwnP.of HP.out.own HP.out.segs)
      by_cases htx : textF l = s
      · have hpp : parP s = some l := by unfold parP; rw [hp]; simp only []; rw [if_pos htx]
        rw [htx] at hT
        have HTX := hide hT
        have HPP := Lib.hid hpp
        clear hT hpp hus hp htx c5
        go_wp2_with (go_at_call 8; refine HTX.out.mono ?_; rintro e w1 ⟨rfl, hb1⟩)
        go_ret2
        rw [HPP.out]
        exact ⟨_, rfl, HO.out.keep hb1, HP.out.bel.trans (hb1.mono HP.out.bel.size)⟩
      · have hpp : parP s = none := by unfold parP; rw [hp]; simp only []; rw [if_neg htx]
        have hne : ((strB (textF l)).toList == (strB s).toList) = false := beq_eq_false_iff_ne.2 fun h => by
          rw [ByteArray.toList_eq, ByteArray.toList_eq] at h
          exact htx h
        have HTX := hide hT
        have HPP := Lib.hid hpp
        clear hT hpp hus hp htx c5
        generalize textF l = T at *
        go_wp2_with (go_at_call 8; refine HTX.out.mono ?_; rintro e w1 ⟨rfl, hb1⟩)
        go_ret2
        rw [HPP.out]
        exact ⟨_, rfl, OwnP.of (l := []) (World.ownsRow_nil _ _ _ _) SegsO.nil_, HP.out.bel.trans (hb1.mono HP.out.bel.size)⟩
    | cons c r =>
      have hsz : (strB (c :: r)).size = r.length + 1 := by rw [strB_size]; rfl
      have hemp : (strB (c :: r)).toList.isEmpty = false := by rw [ByteArray.toList_eq]; rfl
      have htw := HT.out.below HP.out.bel
      have K1 := hide (kind_any b5 (strB (c :: r)) (by omega) wo c5 htw.tabs)
      have K2 := hide (fun w' => idx_any (c :: r) w' (by simp at hsum ⊢; omega))
      have x1 : ∀ i, (strB (c :: r)).extract 1 (i + 1) = strB (r.take i) := fun i => by rw [strB_extract]; rfl
      have x2 : ∀ i, (strB (c :: r)).extract (i + 1 + 1) (r.length + 1) = strB (r.drop (i + 1)) := fun i => by rw [strB_extract, List.take_of_length_le (by simp)]; rfl
      have hhead : ((strB (c :: r))[0]'(by omega)) = c := rfl
      rw [hhead] at K1
      have hrel := HP.out.rel
      obtain ⟨RS, hRS⟩ : ∃ RS, RS = strB (c :: r) := ⟨_, rfl⟩
      simp only [← hRS] at hsz hemp K1 K2 x1 x2 c5
      have HRS := Lib.hid hRS
      clear hRS hhead
      have HTW := hide htw
      clear htw
      simp only [List.length_cons] at hsum
      by_cases hk : kindB c = 0
      · have hki : kindI c = -1 := by unfold kindI; rw [if_pos hk]
        have hpp : parP s = none := by unfold parP; rw [hrel, parseL_cons, if_pos hk]; rfl
        rw [hki] at K1
        have HPP := Lib.hid hpp
        clear hpp hk hki hrel x1 x2
        go_wp2_with (first
          | (go_at_call 32; refine K1.out.mono ?_; rintro e w1 ⟨rfl, hb1⟩
             have c51 := cell_below c5 hb1)
          | (go_at_call 34; refine (K2.out _).mono ?_; rintro e w2 ⟨rfl, hb2⟩))
        go_ret2
        rw [HPP.out]
        exact ⟨_, rfl, OwnP.of (l := []) (World.ownsRow_nil _ _ _ _) SegsO.nil_, HP.out.bel.trans ((hb1.trans (hb2.mono hb1.size)).mono HP.out.bel.size)⟩
      · have hki : kindI c = kindB c := by unfold kindI; rw [if_neg hk]
        have hcl : clB c = false := by
          unfold kindB at hk
          unfold clB
          by_cases e1 : c = 123
          · subst e1; rfl
          · by_cases e2 : c = 91
            · subst e2; rfl
            · simp [e1, e2] at hk
        have hk1 : 0 ≤ kindB c ∧ kindB c ≤ 2 := by unfold kindB; split <;> (try split) <;> omega
        rw [hki] at K1
        cases hf : r.findIdx? clB with
        | none =>
          have hix : idxC (c :: r) = -1 := by unfold idxC; rw [List.findIdx?_cons, hcl, hf]; rfl
          have hpp : parP s = none := by unfold parP; rw [hrel, parseL_cons, if_neg hk, hf]; rfl
          rw [hix] at K2
          have HPP := Lib.hid hpp
          have hk0 := hk1.1
          clear hpp hk hki hrel x1 x2 hix hf hcl hk1
          generalize kindB c = kk at *
          go_wp2_with (first
            | (go_at_call 32; refine K1.out.mono ?_; rintro e w1 ⟨rfl, hb1⟩
               have c51 := cell_below c5 hb1)
            | (go_at_call 34; refine (K2.out _).mono ?_; rintro e w2 ⟨rfl, hb2⟩))
          go_ret2
          rw [HPP.out]
          exact ⟨_, rfl, OwnP.of (l := []) (World.ownsRow_nil _ _ _ _) SegsO.nil_, HP.out.bel.trans ((hb1.trans (hb2.mono hb1.size)).mono HP.out.bel.size)⟩
        | some i =>
          have hix : idxC (c :: r) = ((i + 1 : Nat) : Int) := by unfold idxC; rw [List.findIdx?_cons, hcl, hf]; rfl
          have hil : i < r.length := by
            obtain ⟨h, _⟩ := List.findIdx?_eq_some_iff_getElem.1 hf
            exact h
          have hst : parseL (c :: r) = match wordsN (cutB 32 (r.take i)) with
              | none => none
              | some ns => (parseL (trimS (r.drop (i + 1)))).map ((kindB c, ns) :: ·) := by rw [parseL_cons, if_neg hk, hf]; rfl
          rw [hix] at K2
          obtain ⟨ws, hws⟩ : ∃ ws, ws = cutB 32 (r.take i) := ⟨_, rfl⟩
          have hwl : ws.length ≤ 100001 := by
            rw [hws]
            have := cutB_len 32 (r.take i)
            rw [List.length_take] at this; omega
          have hwp : ∀ x ∈ ws, x.length ≤ 100000 := fun x hx => by
            rw [hws] at hx
            have := cutB_piece 32 (r.take i) x hx
            rw [List.length_take] at this; omega
          have K3 := hide (fun w' (hb : Below wo.heap.size wo w') => split_any (r.take i) w' (by rw [List.length_take]; omega) (HTW.out.below hb))
          have K4 := hide (fun w' => trim_any (r.drop (i + 1)) w')
          rw [← hws] at K3 hst
          have x1i := x1 i
          have x2i := x2 i
          have hk0 := hk1.1
          have hk2 := hk1.2
          have htl := trimS_len (r.drop (i + 1))
          rw [List.length_drop] at htl
          have HST := Lib.hid hst
          have HRL := Lib.hid hrel
          obtain ⟨kk, hkk⟩ : ∃ kk, kk = kindB c := ⟨_, rfl⟩
          rw [← hkk] at K1 hk0 hk2 hst
          rw [hst] at hrel
          have HREL := Lib.hid hrel
          clear hk hki x1 x2 hix hf hcl hk1 hws hst hrel HST HRL hkk
          go_wp2_with (first
            | (go_at_call 32; refine K1.out.mono ?_; rintro e w1 ⟨rfl, hb1⟩
               have c51 := cell_below c5 hb1)
            | (go_at_call 34; refine (K2.out _).mono ?_; rintro e w2 ⟨rfl, hb2⟩
               have hb12 := hb1.trans (hb2.mono hb1.size)
               have c52 := cell_below c5 hb12
               have c53 := cell_below c52 ((Below.refl w2.heap.size w2).alloc (Nat.le_refl _) (Obj.cells #[.int .i64 kk, .slice none 0 0] 40))))
          refine (K3.out _ (hb12.alloc hb12.size _)).mono ?_
          rintro e W6 ⟨rfl, hW6⟩
          have hz6 : W6.heap.size = w2.heap.size + 2 := by rw [hW6]; simp
          have hb8 : W6.heap[w2.heap.size]? = some (.cells #[.int .i64 kk, .slice none 0 0] 40 (0, 0)) := by rw [hW6]; exact (Below.heap_alloc _ _ _ (by simp)).trans (heap_alloc_new w2 _)
          have hbS : W6.heap[w2.heap.size + 1]? = some (.cells (strV ws).toArray 9 (0, 0)) := by rw [hW6]; exact heap_alloc2_new w2 _ _
          have hb6 : Below wo.heap.size wo W6 := by rw [hW6]; exact (hb12.alloc hb12.size _).alloc (by have := hb12.size; simp; omega) _
          have hz2 := hb12.size
          have HB6 := hide hb6
          clear hW6 hb6 hb1 hb2 hb12 c51 c52 c53 K1 K2 K3 c5
          go_wp2_with fail
          go_loopw [34] (fun ix wi => ∃ (j : Nat) (ns : List Int) (sv : Value), j ≤ ws.length ∧ ix = .int .i64 j ∧ Hid (wordsN (ws.take j) = some ns) ∧ Hid (wi.heap[w2.heap.size]? = some (.cells #[.int .i64 kk, sv] 40 (0, 0))) ∧
            Hid (wi.ownsRow (w2.heap.size + 2) 41 1 sv j (uV ns)) ∧ Hid (W6.grownBy wi (some w2.heap.size))) (fun ix _ => ws.length - (intOf ix).toNat)
          case atStart => exact ⟨0, [], _, Nat.zero_le _, rfl, hide (by rw [List.take_zero, wordsN_nil]), hide hb8, hide (by simpa [uV] using World.ownsRow_nil _ _ _ _), hide (World.grownBy.refl _ _)⟩
          case round =>
            obtain ⟨j, ns, sv, hj, rfl, HW, HB, HO, HG⟩ := hrel
            have hzi : w2.heap.size + 2 ≤ wr.heap.size := by have := HG.out.size; omega
            have hkS : wr.heap[w2.heap.size + 1]? = some (.cells (strV ws).toArray 9 (0, 0)) := (HG.out.block _ (by omega) (by intro e; injection e; omega)).trans hbS
            have hbi : Below wo.heap.size wo wr := HB6.out.grown HG.out HB6.out.size (fun x hx => by injection hx; omega)
            by_cases jlt : j < ws.length
            · have cS : wr.cell? ⟨w2.heap.size + 1, j, none⟩ = some (.string (strB ws[j])) := by
                rw [cell_of_row _ _ _ _ _ _ hkS]
                simp [strV, jlt]
              have hN := num_any ws[j] wr (by have := hwp ws[j] (List.getElem_mem jlt); omega) (HTW.out.below hbi)
              have HN := hide hN
              have HBI := hide hbi
              clear hN hkS hbi
              go_wp2_with fail
              refine HN.out.mono ?_
              rintro e w7 ⟨hb7, he⟩
              rcases he with ⟨u, hu, hwu, rfl⟩ | ⟨hwn, y, t, p, rfl⟩
              · have hB7 : w7.heap[w2.heap.size]? = some (.cells #[.int .i64 kk, sv] 40 (0, 0)) := (hb7.block _ (by omega)).trans HB.out
                have HO7 := hide (own_keep HO.out fun x hx => hb7.block x (HO.out.lt x hx).2)
                have HG7 := hide (HG.out.trans (only_of_below hb7 (some w2.heap.size)))
                have cS1 : w7.cell? ⟨w2.heap.size, 1, none⟩ = some sv := by rw [cell_of_row _ _ 1 _ _ _ hB7]; rfl
                have hz7 : w2.heap.size + 2 ≤ w7.heap.size := by have := hb7.size; omega
                have hz71 : w2.heap.size < w7.heap.size := by omega
                have HB7 := hide hB7
                have hws := wordsN_snoc ws j ns u jlt HW.out hwu
                have HWS := Lib.hid hws
                have hui : (u : Int) < 4294967296 := by omega
                clear hB7 hws hwu cS HN
                go_wp2_with (at_builtin
                             refine wpList_append_lies _ rfl (.tmp 46) (.tmp 49) _ rfl (w2.heap.size + 2) 41 iu _ 1 4 Tryz.underlying38 hu0 hu1 hu2 hu3 rfl (by omega) sv j _ rfl (HO7.out.alloc _)
                               ⟨w7.heap.size, 0, none⟩ 1 1 [.int .u32 u] rfl rfl (World.news_of_block (cs := #[.int .u32 u]) (t := 41) (fr := (0, 0)) (heap_alloc_new w7 _)) (by simp [Value.oneCell'])
                               (by omega) (by simp only [maxLen]; omega) (by omega) (by simp; omega) _ rfl ?_
                             intro g cap w8 hown8 hgrow hat hltg
                             obtain ⟨q1, q2, Q3⟩ := push3 HB7.out HO7.out (by omega) (by omega) HG7.out hgrow hown8
                             clear hown8 hgrow hat)
                go_roundw
                case rel => exact ⟨j + 1, ns ++ [(u : Int)], _, by omega, by go_num, hide HWS.out, hide Q3.out.1, hide (by simpa [uV] using Q3.out.2.1), hide Q3.out.2.2⟩
                case measure => simp [intOf]; omega
              · have hpp : parP s = none := by
                  have := wordsN_fail ws j jlt hwn
                  have hr := HREL.out
                  rw [this] at hr
                  unfold parP; rw [hr]; rfl
                have HPP := Lib.hid hpp
                clear hpp hwn
                go_wp2
                go_ret2
                rw [HPP.out]
                exact ⟨_, rfl, OwnP.of (l := []) (World.ownsRow_nil _ _ _ _) SegsO.nil_, HP.out.bel.trans ((HBI.out.trans (hb7.mono HBI.out.size)).mono HP.out.bel.size)⟩
            · have hjw : j = ws.length := by omega
              subst hjw
              have hW := HW.out
              rw [List.take_length] at hW
              have hrel := HREL.out
              rw [hW] at hrel
              have hns := (wordsN_us ws ns hW).1
              have hownr : wr.ownsRow w.heap.size 40 2 u4 l.length vs := own_keep HP.out.own fun x hx => hbi.block x (HP.out.own.lt x hx).2
              obtain ⟨sA, sc, hsv, _⟩ := slice_of_own HO.out
              have c0 : wr.cell? ⟨w2.heap.size, 0, none⟩ = some (.int .i64 kk) := by rw [cell_of_row _ _ 0 _ _ _ HB.out]; rfl
              have c1 : wr.cell? ⟨w2.heap.size, 1, none⟩ = some sv := by rw [cell_of_row _ _ 1 _ _ _ HB.out]; rfl
              have hz9 : w2.heap.size < wr.heap.size := by omega
              have hz0 := HP.out.bel.size
              have hzb := hbi.size
              have HOR := hide hownr
              have HSV := Lib.hid hsv
              have HBI := hide hbi
              have HRL := Lib.hid hrel
              have hlb5 : b5 < wo.heap.size := lt_of_block HP.out.b5_
              clear hkS hbi hW hrel hownr hsv hbS hb8 HREL HW
              go_wp2_with (first
                | (at_builtin
                   refine wpList_append_lies _ rfl (.tmp 53) (.tmp 55) _ rfl w.heap.size 40 ig _ 2 32 Tryz.underlying22 hg0 hg1 hg2 hg3 rfl (by omega) u4 l.length vs rfl (HOR.out.alloc _)
                     ⟨wr.heap.size, 0, none⟩ 1 1 [.int .i64 kk, sv] rfl rfl (World.news_of_block (cs := #[.int .i64 kk, sv]) (t := 40) (fr := (0, 0)) (heap_alloc_new wr _))
                     (by rw [HSV.out]; simp [Value.oneCell'])
                     (by omega) (by simp only [maxLen]; omega) (by omega) (by simp; omega) _ rfl ?_
                   intro g cap w8 hown8 hgrow hat hltg
                   obtain ⟨h58, Q⟩ := HP.out.next HBI.out HO.out (by omega) hns.symm hgrow hown8 (rest' := trimS (r.drop (i + 1))) (by simp only [List.length_cons]; omega) HRL.out
                   have c58 : w8.cell? ⟨b5, 0, none⟩ = some (.string RS) := by rw [cell_of_row _ _ 0 _ _ _ h58]; rw [HRS.out]; rfl
                   have f58 : w8.frozen? ⟨b5, 0, none⟩ = false := frozen_of_row _ _ 0 _ _ h58
                   have hb58 : b5 < w8.heap.size := lt_of_block h58
                   clear hown8 hgrow hat h58)
                | (go_at_call 37; refine (K4.out _).mono ?_; rintro e w9 ⟨rfl, rfl⟩))
              go_roundw
              case rel => exact ⟨_, _, _, _, rfl, Q⟩
              case measure =>
                rw [strLen_of Q.out.b5_, strLen_of HP.out.b5_]
                simp only [List.length_cons]; omega
end Go.Proofs.YtceolenmcpndaaaGreatDoor
