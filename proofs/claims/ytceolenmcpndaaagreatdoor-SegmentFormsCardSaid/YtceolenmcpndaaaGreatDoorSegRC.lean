/- segment.Read: the path that bytes stand for, or none; at lists of at most 100,000 bytes. -/
import Derived.Test.YtceolenmcpndaaaGreatDoorSegRB
import Derived.Test.YtceolenmcpndaaaGreatDoorOwnP
set_option autoImplicit false
namespace Go.Proofs.YtceolenmcpndaaaGreatDoor
open Go.RowKit

def readP (width : Int) (b : List Int) : Option (List Sg) := if width = 2 ∨ width = 4 then rdF width.toNat b else none
def lenOf : Value → Nat
  | .slice _ n _ => n
  | _ => 0
theorem okF_good {width : Int} {b : List Int} (h : okF width b = true) : (width = 2 ∨ width = 4) ∧ headOk width.toNat b = true := by
  simpa [okF] using h
theorem okF_bad {width : Int} {b : List Int} (h : okF width b = false) (hw : width = 2 ∨ width = 4) : headOk width.toNat b = false := by
  simpa [okF, hw] using h
theorem headOk_len {k : Nat} {b : List Int} (h : headOk k b = true) (hb : Bs b) : (headS k b).2.length ≤ 255 := by
  match b, h with
  | K :: n :: r, h =>
    have hn := hb n (by simp)
    simp only [headS, readN_len, List.getD_cons_succ, List.getD_cons_zero]
    omega

/-- The state of the loop: the reader at gr, the variables of the reader and of the width, the path so far in own rows from lo on. -/
structure Rd (w W : World) (gr bR bW lo : Nat) (width : Int) (b cur : List Int) (l : List Sg) (at_ : Int) (v : Value) (vs : List Value) : Prop where
  own : W.ownsRow lo 40 2 v l.length vs
  segs : SegsO W lo vs l
  cr : W.cell? ⟨bR, 0, none⟩ = some (.pointer (some ⟨gr, 0, none⟩))
  cw : W.cell? ⟨bW, 0, none⟩ = some (.int .i64 width)
  bel : Below w.heap.size w W
  rdr : Rdr W gr cur at_
  at_ : At at_ cur
  hbs : Bs cur
  sum : l.length + cur.length ≤ b.length
  sound : ∀ s ∈ l, s.2.length ≤ 100000 ∧ Us s.2
  rel : width = 2 ∨ width = 4 → rdF width.toNat b = (rdF width.toNat cur).map (l ++ ·)
  bad : ¬ (width = 2 ∨ width = 4) → l = []
  hR : bR < lo
  hg : gr < lo
  hW : bW < lo
  hgw : w.heap.size ≤ gr
  nR : bR ≠ gr
  nW : bW ≠ gr
  hlo : lo ≤ W.heap.size
  hlw : w.heap.size ≤ lo
section
variable {w W w4 w5 : World} {gr bR bW lo : Nat} {width at_ at' : Int} {b cur : List Int} {l : List Sg} {v sv : Value} {vs : List Value}
theorem Rd.own4 (h : Rd w W gr bR bW lo width b cur l at_ v vs) (hg : W.grownBy w4 (some gr)) : w4.ownsRow lo 40 2 v l.length vs :=
  own_keep h.own fun x hx => hg.block x (h.own.lt x hx).2 (by have := (h.own.lt x hx).1; have := h.hg; intro e; injection e; omega)
theorem Rd.bel4 (h : Rd w W gr bR bW lo width b cur l at_ v vs) (hg : W.grownBy w4 (some gr)) : Below w.heap.size w w4 :=
  h.bel.grown hg h.bel.size (fun x hx => by have := h.hgw; injection hx; omega)
theorem Rd.push (h : Rd w W gr bR bW lo width b cur l at_ v vs) (hg : W.grownBy w4 (some gr)) (hok : okF width cur = true)
    (hown : w4.ownsRow W.heap.size 41 1 sv (cur.getD 1 0).toNat (uV (headS width.toNat cur).2)) (hr : Rdr w4 gr (restB width.toNat cur) at') (ha : At at' (restB width.toNat cur)) {o1 o2 : Obj} {g cap : Nat} {x : Int} (hx : x = (headS width.toNat cur).1)
    (hgrow : ((w4.alloc o1).alloc o2).grownBy w5 v.ownBlock) (hown5 : w5.ownsRow lo 40 2 (.slice (some ⟨g, 0, none⟩) (l.length + 1) cap) (l.length + 1) (vs ++ [.int .i64 x, sv])) :
    Rd w w5 gr bR bW lo width b (restB width.toNat cur) (l ++ [headS width.toNat cur]) at' (.slice (some ⟨g, 0, none⟩) (l.length + 1) cap) (vs ++ [.int .i64 x, sv]) := by
  subst hx
  obtain ⟨hw, hok2⟩ := okF_good hok
  have hrl := restB_len width.toNat cur hok2
  have hsum := h.sum
  have hm : (cur.getD 1 0).toNat = (headS width.toNat cur).2.length := by simp [headS, readN_len]
  have ho4 := h.own4 hg
  have hs4 : SegsO w4 lo vs l := h.segs.keep fun x hx hx2 => hg.block x hx2 (by have := h.hg; intro e; injection e; omega)
  have hz4 := hg.size
  have hlo := h.hlo
  have hkeep : ∀ x, x < w4.heap.size → x < lo → w5.heap[x]? = w4.heap[x]? := fun x hx hxl =>
    (hgrow.block x (by simp; omega) (by intro e; have := (h.own.lt x e.symm).1; omega)).trans ((Below.heap_alloc _ o2 x (by simp; omega)).trans (Below.heap_alloc w4 o1 x hx))
  have hR := h.hR
  have hW := h.hW
  have hgl := h.hg
  have hps := push_seg (o := o2) (l := l) (k := l.length) (s := headS width.toNat cur) (ho4.alloc o1) (by rw [List.take_length]; exact (hs4.keep (w' := w4.alloc o1) fun x _ hx => Below.heap_alloc w4 o1 x hx)) (own_base (hown.alloc o1) hlo) ⟨rfl, hm⟩ hgrow
  rw [List.take_length] at hps
  exact {
    own := by simpa using hown5
    segs := hps
    cr := (World.cell?_of_block (a := ⟨bR, 0, none⟩) (hkeep bR (by omega) hR)).trans ((World.cell?_of_block (a := ⟨bR, 0, none⟩) (hg.block bR (by show bR < _; omega) (by intro e; injection e with e; exact h.nR e))).trans h.cr)
    cw := (World.cell?_of_block (a := ⟨bW, 0, none⟩) (hkeep bW (by omega) hW)).trans ((World.cell?_of_block (a := ⟨bW, 0, none⟩) (hg.block bW (by show bW < _; omega) (by intro e; injection e with e; exact h.nW e))).trans h.cw)
    bel := (((h.bel4 hg).alloc (h.bel4 hg).size o1).alloc (by have := (h.bel4 hg).size; simp; omega) o2).grown hgrow (by have := (h.bel4 hg).size; simp; omega) (fun x hx => by have := (h.own.lt x hx).1; have := h.hlw; omega)
    rdr := hr.keep fun x hx => hkeep x (by omega) (by omega)
    at_ := ha
    hbs := h.hbs.drop _
    sum := by simp; omega
    sound := fun s hs => by
      rw [List.mem_append] at hs
      rcases hs with hs | hs
      · exact h.sound s hs
      · have e : s = headS width.toNat cur := by simpa using hs
        subst e
        exact ⟨by have := headOk_len hok2 h.hbs; omega, readN_us _ _ (by omega) _ (h.hbs.drop _)⟩
    rel := fun hw => rd_step (h.rel hw) hok2
    bad := fun hw' => absurd hw hw'
    hR := hR
    hg := hgl
    hW := hW
    hgw := h.hgw
    nR := h.nR
    nW := h.nW
    hlo := by have := hgrow.size; simp at this; omega
    hlw := h.hlw }
end

set_option maxRecDepth 100000 in
set_option maxHeartbeats 8000000 in
theorem read_any (width : Int) (A : Option Addr) (c : Nat) (b : List Int) (w : World) (hby : Byts w w.heap.size A b) (hl : b.length ≤ 100000) (hbs : Bs b) :
    Calls Tryz.prog 13 #[.int .i64 width, .slice A b.length c] w fun e w' => ∃ v, e = .returned (.tuple #[v, .bool (readP width b).isSome]) ∧ OwnP w.heap.size ((readP width b).getD []) v w' ∧ Below w.heap.size w w' := by
  obtain ⟨ig, hg0, hg1, hg2, hg3⟩ := info_parts seg_info
  have hN := new_any A c b (w.alloc (Obj.cells #[.int .i64 width] 3)) ((hby.alloc (Nat.le_refl _) _).more (by simp)) (by omega)
  have HN := hide hN
  have HBS := hide hbs
  clear hN hby hbs
  go_enter Tryz.func13, Tryz.ntmps13
  go_wp2_with fail
  refine HN.out.mono ?_
  rintro e w1 ⟨gr, rfl, hgr, hr1, hb1⟩
  have hz1 := hb1.size
  simp at hgr hz1
  have hlt1 := hr1.lt
  have hrd : Rd w (w1.alloc (Obj.cells #[.pointer (some ⟨gr, 0, none⟩)] 58)) gr w1.heap.size w.heap.size (w1.heap.size + 1) width b b [] 0 (.slice none 0 0) [] := {
    own := World.ownsRow_nil _ _ _ _
    segs := SegsO.nil_
    cr := by rw [cell_of_row _ _ 0 _ _ _ (heap_alloc_new _ _)]; rfl
    cw := by
      rw [World.cell?_alloc_lt _ _ _ (by show w.heap.size < _; omega), hb1.cell (p := ⟨w.heap.size, 0, none⟩) (by simp), cell_of_row _ _ 0 _ _ _ (heap_alloc_new _ _)]; rfl
    bel := (((Below.refl w.heap.size w).alloc (Nat.le_refl _) (Obj.cells #[.int .i64 width] 3)).trans (hb1.mono (by simp))).alloc (by omega) _
    rdr := hr1.alloc _
    at_ := by unfold At; omega
    hbs := HBS.out
    sum := by simp
    sound := fun s hs => by cases hs
    rel := fun _ => rd_start _ _
    bad := fun _ => rfl
    hR := Nat.lt_succ_self _
    hg := by omega
    hW := by omega
    hgw := by omega
    nR := by omega
    nW := by omega
    hlo := by simp
    hlw := by omega }
  have HRD := hide hrd
  clear hrd hb1 hr1 HN
  have hmf : ∀ (fn : Fn) (first cap : Array Value) (w : World), (Instr.makeFunc fn first cap).run Tryz.prog w = .ok (.func fn first cap) w := fun _ _ _ _ => rfl
  go_wp2_with fail
  go_loopw [8] (fun v wi => ∃ cur l at' vs, Rd w wi gr w1.heap.size w.heap.size (w1.heap.size + 1) width b cur l at' v vs) (fun v _ => b.length - lenOf v)
  case atStart => exact ⟨_, _, _, _, HRD.out⟩
  case round =>
    obtain ⟨cur, l, at2, vs, hR⟩ := hrel
    obtain ⟨A2, c2, hv, _⟩ := slice_of_own hR.own
    subst hv
    have c1 := hR.cr
    have c3 := hR.cw
    have hL := left_any gr cur at2 wr hR.rdr
    have hsum := hR.sum
    have HL := hide hL
    have HR := hide hR
    clear hL hR
    by_cases he : cur = []
    · have h0 : cur.length = 0 := by rw [he]; rfl
      have hP : readP width b = if width = 2 ∨ width = 4 then some l else none := by
        unfold readP
        by_cases hw : width = 2 ∨ width = 4
        · rw [if_pos hw, if_pos hw]
          have := HR.out.rel hw
          rw [he] at this
          exact rd_end this
        · rw [if_neg hw, if_neg hw]
      have hso : Sound l := ⟨by omega, fun s hs => ⟨by have := (HR.out.sound s hs).1; omega, (HR.out.sound s hs).2⟩⟩
      have hval : validF width l = (readP width b).isSome := by
        rw [hP]
        by_cases hw : width = 2 ∨ width = 4
        · rw [if_pos hw]
          have hb := rdF_valid width.toNat (by omega) b.length b l (Nat.le_refl _) HBS.out (by unfold readP at hP; rw [if_pos hw, if_pos hw] at hP; exact hP)
          rw [show ((width.toNat : Nat) : Int) = width by omega] at hb
          rw [hb]; rfl
        · rw [if_neg hw]; simp [validF, hw]
      have hgD : OwnP w.heap.size ((readP width b).getD []) (.slice A2 l.length c2) wr := by
        have h1 := (OwnP.of HR.out.own HR.out.segs).more HR.out.hlw
        rw [hP]
        by_cases hw : width = 2 ∨ width = 4
        · rw [if_pos hw]; exact h1
        · rw [if_neg hw]
          have := HR.out.bad hw
          subst this
          exact h1
      have hpa := (HR.out.segs.path HR.out.own rfl)
      have hVA := valid_any width A2 c2 l wr hpa hso
      rw [hval] at hVA
      have HVA := hide hVA
      have HGD := hide hgD
      have HBL := hide HR.out.bel
      clear hP hso hval hgD hpa hVA HR he
      go_wp2_with (first
        | (go_at_call 31; refine HL.out.mono ?_; rintro e w3 ⟨rfl, rfl⟩)
        | (go_at_call 9; refine HVA.out.mono ?_; rintro e w4 ⟨rfl, hb4⟩))
      go_ret2
      exact ⟨_, rfl, HGD.out.keep hb4, HBL.out.trans (hb4.mono HBL.out.size)⟩
    · have h0 : (0 : Int) < (cur.length : Int) := by have := List.length_pos_iff.2 he; omega
      have hC := read1_any gr w1.heap.size w.heap.size width cur at2 wr HR.out.rdr HR.out.hbs he HR.out.at_ c1 c3 HR.out.nR HR.out.nW (by omega)
      cases hok : okF width cur
      · rw [hok] at hC
        have hP : readP width b = none := by
          unfold readP
          by_cases hw : width = 2 ∨ width = 4
          · rw [if_pos hw]; exact rd_fail (HR.out.rel hw) he (okF_bad hok hw)
          · rw [if_neg hw]
        have HC := hide hC
        have HP := Lib.hid hP
        have HOK := Lib.hid hok
        clear hC hP hok c1 c3 he
        have c1 := HR.out.cr
        go_wp2_with (first
          | (go_at_call 31; refine HL.out.mono ?_; rintro e w3 ⟨rfl, rfl⟩)
          | (go_at_call 29; refine HC.out.mono ?_; rintro e w4 ⟨x, A4, m4, c4, rfl, hg4, _⟩))
        go_ret2
        rw [HP.out]
        exact ⟨_, rfl, OwnP.of (l := []) (World.ownsRow_nil _ _ _ _) SegsO.nil_, (HR.out.bel4 hg4).alloc (HR.out.bel4 hg4).size _⟩
      · rw [hok] at hC
        have HC := hide hC
        have HOK := Lib.hid hok
        clear hC hok c1 c3 he
        have c1 := HR.out.cr
        go_wp2_with (first
          | (go_at_call 31; refine HL.out.mono ?_; rintro e w3 ⟨rfl, rfl⟩)
          | (go_at_call 29; refine HC.out.mono ?_; rintro e w4 ⟨x, A4, m4, c4, rfl, hg4, hyes⟩
             obtain ⟨hx, hown4, at4, hr4, ha4⟩ := hyes (by trivial)
             have HX := Lib.hid hx
             have HO4 := hide hown4
             have HR4 := hide hr4
             have HA4 := hide ha4
             have HG4 := hide hg4
             have hwz4 : w1.heap.size + 1 ≤ w4.heap.size := Nat.le_trans HR.out.hlo hg4.size
             clear hown4 hr4 ha4 hg4 hyes hx)
          | (at_builtin
             refine wpList_append_lies _ rfl (.tmp 24) (.tmp 26) _ rfl (w1.heap.size + 1) 40 ig _ 2 32 Tryz.underlying22 hg0 hg1 hg2 hg3 rfl (by omega) (.slice A2 l.length c2) l.length vs rfl (((HR.out.own4 HG4.out).alloc _).alloc _)
               ⟨w4.heap.size + 1, 0, none⟩ 1 1 [.int .i64 x, .slice A4 m4 c4] rfl rfl (World.news_of_block (cs := #[.int .i64 x, .slice A4 m4 c4]) (t := 40) (fr := (0, 0)) (heap_alloc2_new w4 _ _)) (by simp [Value.oneCell'])
               (by omega) (by simp only [maxLen]; omega) (by omega) (by simp; omega) _ rfl ?_
             intro g cap w5 hown5 hgrow hat hltg
             have Q := hide (HR.out.push HG4.out HOK.out HO4.out HR4.out HA4.out HX.out hgrow hown5)
             clear hown5 hgrow hat))
        go_roundw
        case rel => exact ⟨_, _, _, _, Q.out⟩
        case measure => simp [lenOf]; omega
end Go.Proofs.YtceolenmcpndaaaGreatDoor
