/- segment.Text at valid and other paths of up to 1,000 segments: the text as a Lean function. -/
import Derived.Test.YtceolenmcpndaaaGreatDoorSegC
import Derived.Test.YtceolenmcpndaaaGreatDoorSegV
import Derived.Lib.ItoaLen
import Derived.Test.YtceolenmcpndaaaGreatDoorFmt
set_option autoImplicit false
namespace Go.Proofs.YtceolenmcpndaaaGreatDoor
open Go.RowKit Go.Sort Go.Shelf

def brO (K : Int) : List UInt8 := if K = 1 then [123] else [91]
def brC (K : Int) : List UInt8 := if K = 1 then [125] else [93]
def numL (x : Int) : List UInt8 := Lib.decDigits x.toNat
def segT (s : Sg) : List UInt8 := brO s.1 ++ Lib.join (s.2.map numL) [32] ++ brC s.1
def textF (l : List Sg) : List UInt8 := if validF 4 l = true then Lib.join (l.map segT) [32] else []
def strB (l : List UInt8) : ByteArray := ⟨l.toArray⟩
def strV (l : List (List UInt8)) : List Value := l.map fun x => Value.string (strB x)
theorem strB_list (l : List UInt8) : (strB l).data.toList = l := rfl
theorem strV_len (l : List (List UInt8)) : (strV l).length = l.length := by simp [strV]
theorem str_info : (Tryz.prog.info? 9).map (fun i => (i.zero, i.size, i.bytes)) = some (some (.string ⟨#[]⟩), 1, 16) := by kernel_rfl

structure Tabs (w : World) : Prop where
  pow : Lib.TabIs Tryz.prog w "internal/strconv.uint64pow10" .u64 Lib.pow10Tab
  set_ : w.cell? ⟨0, 1, none⟩ = some (.string ⟨#[123, 125]⟩)
  seq_ : w.cell? ⟨0, 2, none⟩ = some (.string ⟨#[91, 93]⟩)
  size : 0 < w.heap.size
theorem Tabs.below {w w' : World} (h : Tabs w) (hb : Below w.heap.size w w') : Tabs w' :=
  ⟨tabIs_below h.pow hb, (hb.cell (p := ⟨_, _, none⟩) h.size).trans h.set_, (hb.cell (p := ⟨_, _, none⟩) h.size).trans h.seq_, Nat.lt_of_lt_of_le h.size hb.size⟩

theorem join_le (M s : Nat) (xs : List (List UInt8)) (sep : List UInt8) (hs : sep.length ≤ s) (h : ∀ x ∈ xs, x.length ≤ M) : (Lib.join xs sep).length ≤ xs.length * (M + s) := by
  cases xs with
  | nil => simp [Lib.join_nil]
  | cons x r =>
    have hl : ∀ r : List (List UInt8), (∀ x ∈ r, x.length ≤ M) → Lib.lens r ≤ r.length * M := by
      intro r
      induction r with
      | nil => intro _; simp [Lib.lens]
      | cons y r ih =>
        intro h
        have a := h y (by simp)
        have b := ih fun x hx => h x (by simp [hx])
        simp only [Lib.lens, List.map_cons, List.sum_cons, List.length_cons, Nat.succ_mul] at b ⊢
        omega
    rw [Lib.join_length]
    have a := hl (x :: r) h
    have b : sep.length * r.length ≤ s * r.length := Nat.mul_le_mul_right _ hs
    have c : s * r.length ≤ s * (x :: r).length := Nat.mul_le_mul_left _ (by simp)
    rw [Nat.mul_add, Nat.mul_comm _ s]
    omega
theorem numL_le (x : Int) (h : x < 4294967296) : (numL x).length ≤ 20 := by
  rw [numL, Lib.decDigits_length]; exact Lib.nDigits_le20 _ (by omega)
theorem segT_le (s : Sg) (hu : Us s.2) : (segT s).length ≤ 2 + s.2.length * 21 := by
  have h := join_le 20 1 (s.2.map numL) [32] (by simp) (by
    intro x hx; obtain ⟨y, hy, rfl⟩ := List.mem_map.1 hx; exact numL_le y (hu y hy).2)
  have a : (brO s.1).length = 1 := by unfold brO; split <;> rfl
  have b : (brC s.1).length = 1 := by unfold brC; split <;> rfl
  simp only [List.length_map] at h
  simp only [segT, List.length_append, a, b]
  omega

theorem segB_eq (s : Sg) (h : s.1 = 1) : strB (segT s) = ({ data := #[123, 125] } : ByteArray).extract 0 1 ++ strB (Lib.join (s.2.map numL) [32]) ++ ({ data := #[123, 125] } : ByteArray).extract 1 2 := by
  have a : ({ data := #[123, 125] } : ByteArray).extract 0 1 = strB [123] := by decide +kernel
  have b : ({ data := #[123, 125] } : ByteArray).extract 1 2 = strB [125] := by decide +kernel
  rw [a, b]
  apply ByteArray.ext
  simp [segT, brO, brC, h, strB, ByteArray.data_append]
theorem segB_eq2 (s : Sg) (h : s.1 = 2) : strB (segT s) = ({ data := #[91, 93] } : ByteArray).extract 0 1 ++ strB (Lib.join (s.2.map numL) [32]) ++ ({ data := #[91, 93] } : ByteArray).extract 1 2 := by
  have a : ({ data := #[91, 93] } : ByteArray).extract 0 1 = strB [91] := by decide +kernel
  have b : ({ data := #[91, 93] } : ByteArray).extract 1 2 = strB [93] := by decide +kernel
  rw [a, b]
  apply ByteArray.ext
  simp [segT, brO, brC, h, strB, ByteArray.data_append]

/-- strings.Join of a row of the call's own. -/
theorem join_own {w : World} {base : Nat} {v : Value} {n : Nat} (xs : List (List UInt8)) (sep : List UInt8) (h : w.ownsRow base 9 1 v n (strV xs)) (hn : n = xs.length)
    (hN : xs.length ≤ 100000) (hl : (Lib.join xs sep).length ≤ 140737488355328) :
    Calls Tryz.prog 21 #[v, .string (strB sep)] w fun e w' => e = .returned (.string (strB (Lib.join xs sep))) ∧ Below w.heap.size w w' := by
  subst hn
  rcases Nat.eq_zero_or_pos xs.length with h0 | h0
  · obtain ⟨A, c, rfl, _⟩ := slice_of_own h
    have : xs = [] := List.length_eq_zero_iff.1 h0
    subst this
    exact (Tryz.strings_Join_none A c (strB sep) w).mono fun e w' ⟨a, b⟩ => ⟨a, b ▸ Below.refl _ _⟩
  · obtain ⟨g, cap, rfl, hg0, hg1⟩ := h.form h0
    have hcap : xs.length ≤ cap := by obtain ⟨A, c, e, a, _⟩ := slice_of_own h; injection e with _ _ e; omega
    have hmap : (xs.map strB).map (·.data.toList) = xs := by simp [strB_list, Function.comp_def]
    have hj := Tryz.strings_Join g 0 cap (xs.map strB) (strB sep) w (fun j x hx => by
        rw [Nat.zero_add]
        have hj : j < xs.length := by
          have := (List.getElem?_eq_some_iff.1 hx).1; simpa using this
        rw [h.cellAt j (by omega)]
        simp only [List.getElem?_map] at hx
        simp only [strV, List.getElem?_map]
        rw [List.getElem?_eq_getElem hj] at hx ⊢
        injection hx with e
        simp [e]) hg1 (by simp; omega) (by simpa using hcap) (by rw [hmap]; exact hl)
    rw [hmap] at hj
    rw [List.length_map] at hj
    exact hj.mono fun e w' ⟨a, b⟩ => ⟨a, b⟩

theorem numL_take (l : List Int) (j : Nat) (h : j < l.length) : strV ((l.take (j + 1)).map numL) = strV ((l.take j).map numL) ++ [.string (strB (numL l[j]))] := by
  rw [List.take_succ_eq_append_getElem h]
  simp only [strV, List.map_append, List.map_cons, List.map_nil]
theorem segT_take (l : List Sg) (j : Nat) (h : j < l.length) : strV ((l.take (j + 1)).map segT) = strV ((l.take j).map segT) ++ [.string (strB (segT l[j]))] := by
  rw [List.take_succ_eq_append_getElem h]
  simp only [strV, List.map_append, List.map_cons, List.map_nil]

set_option maxRecDepth 100000 in
set_option maxHeartbeats 8000000 in
theorem text_any (A : Option Addr) (c : Nat) (l : List Sg) (w : World) (h : Path w w.heap.size A l) (hl : l.length ≤ 1000) (hm : ∀ s ∈ l, s.2.length ≤ 100000 ∧ Us s.2) (ht : Tabs w) :
    Calls Tryz.prog 8 #[.slice A l.length c] w fun e w' => e = .returned (.string (strB (textF l))) ∧ Below w.heap.size w w' := by
  obtain ⟨iu, hu0, hu1, hu2, hu3⟩ := info_parts str_info
  go_enter Tryz.func8, Tryz.ntmps8
  go_wp2_with fail
  refine (valid_any 4 A c l _ h ⟨by omega, fun s hs => ⟨by have := (hm s hs).1; omega, (hm s hs).2⟩⟩).mono ?_
  rintro e w1 ⟨rfl, hb1⟩
  by_cases hv : validF 4 l = true
  · rw [hv]
    go_wp2_with fail
    go_loopw [3, 15] (fun v i wr => ∃ k : Nat, k ≤ l.length ∧ i = .int .i64 k ∧ wr.ownsRow w.heap.size 9 1 v k (strV ((l.take k).map segT)) ∧ Below w.heap.size w wr) (fun _ i _ => l.length - (intOf i).toNat)
    case atStart => exact ⟨0, Nat.zero_le _, rfl, by simpa [strV] using World.ownsRow_nil _ _ _ _, hb1⟩
    case round =>
      obtain ⟨k, hk, rfl, hown, hbel⟩ := hrel
      obtain ⟨wo, rfl⟩ : ∃ wo : World, wo = wr := ⟨_, rfl⟩
      by_cases hlt : k < l.length
      · obtain ⟨ad, A', c', rfl, had, hc0, hc1, hbk, f2, f3, f4⟩ := (h.below hbel).at_ hlt
        have hmk := hm l[k] (List.getElem_mem hlt)
        have hk0 : (0 : Int) ≤ (k : Int) := Int.natCast_nonneg _
        have hk1 : (k : Int) < (l.length : Int) := by omega
        have hwz := hbel.size
        have hshape : shapeF l[k] = true := by
          have := hv
          simp only [validF, Bool.and_eq_true, List.all_eq_true] at this
          have := this.1 _ (List.getElem_mem hlt)
          simp only [rightF, Bool.and_eq_true] at this
          exact this.1
        have hK : l[k].1 = 1 ∨ l[k].1 = 2 := by simp [shapeF] at hshape; exact hshape.1
        have hn255 : l[k].2.length ≤ 255 := by simp [shapeF] at hshape; omega
        have htw := ht.below hbel
        have HOWN := hide hown
        have HBEL := hide hbel
        have HF4 := hide f4
        have HTW := hide htw
        have HH := hide h
        have HM := hide hm
        have HT := hide ht
        have HB1 := hide hb1
        have HV := Lib.hid hv
        clear h hm hown hbel f4 htw ht hb1 hv hshape
        go_wp2_with fail
        have hB5 : (wo.alloc (Obj.cells #[.int .i64 l[k].1, .slice A' l[k].2.length c'] 40)).heap[wo.heap.size]? = some (.cells #[.int .i64 l[k].1, .slice A' l[k].2.length c'] 40 (0, 0)) := heap_alloc_new _ _
        obtain ⟨w5, hw5⟩ : ∃ w5, w5 = wo.alloc (Obj.cells #[.int .i64 l[k].1, .slice A' l[k].2.length c'] 40) := ⟨_, rfl⟩
        rw [← hw5] at hB5 ⊢
        have hsw : w5.heap.size = wo.heap.size + 1 := by rw [hw5]; simp
        have hbo5 : Below wo.heap.size wo w5 := by rw [hw5]; exact (Below.refl _ _).alloc (Nat.le_refl _) _
        clear hw5
        go_loopw [6, 22] (fun v i wi => ∃ j : Nat, j ≤ l[k].2.length ∧ i = .int .i64 j ∧ wi.ownsRow w5.heap.size 9 1 v j (strV ((l[k].2.take j).map numL)) ∧ Below w5.heap.size w5 wi) (fun _ i _ => l[k].2.length - (intOf i).toNat)
        case atStart => exact ⟨0, Nat.zero_le _, rfl, by simpa [strV] using World.ownsRow_nil _ _ _ _, Below.refl _ _⟩
        case round =>
          obtain ⟨j, hj, rfl, hrow, hgi⟩ := hrel
          have hgz := hgi.size
          have hb5 : wr.heap[wo.heap.size]? = some (.cells #[.int .i64 l[k].1, .slice A' l[k].2.length c'] 40 (0, 0)) := (hgi.block _ (by omega)).trans hB5
          have hbr : Below wo.heap.size wo wr := hbo5.trans (hgi.mono (by omega))
          have c0 : wr.cell? ⟨wo.heap.size, 0, none⟩ = some (.int .i64 l[k].1) := by rw [cell_of_row _ _ 0 _ _ _ hb5]; rfl
          have c1 : wr.cell? ⟨wo.heap.size, 1, none⟩ = some (.slice A' l[k].2.length c') := by rw [cell_of_row _ _ 1 _ _ _ hb5]; rfl
          have hlt5 : wo.heap.size < wr.heap.size := by omega
          have htr := HTW.out.below hbr
          by_cases jlt : j < l[k].2.length
          · obtain ⟨ap, u, rfl, hap, hx, hc⟩ := (HF4.out.below (hbr.mono hwz)).at_ jlt
            obtain ⟨x, hx1, rfl⟩ := uV_get hx
            have hx2 : l[k].2[j] = x := by rw [List.getElem?_eq_getElem jlt] at hx1; injection hx1
            have hxu := hmk.2 x (hx2 ▸ List.getElem_mem jlt)
            have hap3 : (ap.add j).block < wr.heap.size := by rw [block_of_add]; omega
            have hsucc := numL_take l[k].2 j jlt
            rw [hx2] at hsucc
            obtain ⟨u, rfl⟩ : ∃ u : Nat, x = u := ⟨x.toNat, by omega⟩
            have hu32 : u < 4294967296 := by omega
            have hfm := format_any u (by omega) wr htr.pow
            have HFM := hide hfm
            have HSU := Lib.hid hsucc
            have HRW := hide hrow
            have HGI := hide hgi
            have HBR := hide hbr
            have hj0 : (0 : Int) ≤ (j : Int) := Int.natCast_nonneg _
            have hj1 : (j : Int) < (l[k].2.length : Int) := by omega
            clear hx hx1 hx2 hsucc hrow hgi hbr hb5 hB5 htr hfm hxu c0 c1 hmk hc0 hc1 hK
            go_wp2_with fail
            refine HFM.out.mono ?_
            rintro e w6 ⟨rfl, hb6⟩
            have hb6z := hb6.size
            have hrow6 : w6.ownsRow w5.heap.size 9 1 _ j _ := own_keep HRW.out fun b hb => hb6.block b (HRW.out.lt b hb).2
            have hbel6 : Below w5.heap.size w5 w6 := HGI.out.trans (hb6.mono hgz)
            have HR6 := hide hrow6
            have HB6 := hide hbel6
            clear hrow6 hbel6 HFM hb6
            go_wp2_with (at_builtin
                         refine wpList_append_lies _ rfl (.tmp 26) (.tmp 30) _ rfl w5.heap.size 9 iu _ 1 16 Tryz.underlying47 hu0 hu1 hu2 hu3 rfl (by omega) _ j _ rfl (HR6.out.alloc _)
                           ⟨w6.heap.size, 0, none⟩ 1 1 [.string (numS u)] rfl rfl (World.news_of_block (cs := #[.string (numS u)]) (t := 9) (fr := (0, 0)) (heap_alloc_new w6 _)) (by simp [Value.oneCell'])
                           (by omega) (by simp only [maxLen]; omega) (by omega) (by simp; omega) _ rfl ?_
                         intro g cap w7 hown7 hgrow hat hltg
                         have hb7 : Below w5.heap.size w5 w7 := (HB6.out.alloc HB6.out.size _).grown hgrow (by have := HB6.out.size; simp; omega) (fun x hx => (HR6.out.lt x hx).1)
                         have Q1 := hide hown7
                         have Q3 := hide hb7
                         clear hown7 hgrow hat hb7)
            go_roundw
            case rel => exact ⟨j + 1, by omega, by go_num, by rw [HSU.out]; exact Q1.out, Q3.out⟩
            case measure => simp [intOf]; omega
          · have hjk : j = l[k].2.length := by omega
            subst hjk
            rw [List.take_of_length_le (Nat.le_refl _)] at hrow
            have hjn := join_own (w := wr.drew) (l[k].2.map numL) [32] hrow (by simp) (by simp; omega) (by
              have := join_le 20 1 (l[k].2.map numL) [32] (by simp) (by
                intro x hx; obtain ⟨y, hy, rfl⟩ := List.mem_map.1 hx; exact numL_le y (hmk.2 y hy).2)
              simp only [List.length_map] at this
              omega)
            have hS : strB [32] = ⟨#[32]⟩ := rfl
            rw [hS] at hjn
            obtain ⟨J, hJ⟩ : ∃ J : ByteArray, J = strB (Lib.join (l[k].2.map numL) [32]) := ⟨_, rfl⟩
            have hJs : J.size ≤ 255 * 21 := by
              have := join_le 20 1 (l[k].2.map numL) [32] (by simp) (by
                intro x hx; obtain ⟨y, hy, rfl⟩ := List.mem_map.1 hx; exact numL_le y (hmk.2 y hy).2)
              simp only [List.length_map] at this
              rw [hJ]
              show (Lib.join (l[k].2.map numL) [32]).length ≤ _
              omega
            have hJ1 : ¬ 9223372036854775807 < 1 + J.size := by omega
            have hJ2 : ¬ 9223372036854775807 < 1 + J.size + 1 := by omega
            rw [← hJ] at hjn
            have HJJ := Lib.hid hJ
            clear hJ hJs
            have HJ := hide hjn
            have HGI := hide hgi
            have HBR := hide hbr
            clear hjn hS hrow hgi hb5 hB5 hmk hc0 c1
            rcases hK with hK | hK
            · have HT1 := htr.set_
              have HT2 := htr.size
              rw [hK] at c0
              clear htr
              go_wp2_with fail
              go_region_law (first
                | (go_simp; go_at_call 21; refine HJ.out.mono ?_; rintro e w6 ⟨rfl, hb6⟩
                   have hbo6 : Below wo.heap.size wo w6 := HBR.out.trans (Below.mono (w := wr) ⟨hb6.os, hb6.tape, hb6.output, hb6.size, hb6.block⟩ HBR.out.size)
                   have hr6 : w6.ownsRow w.heap.size 9 1 u3 k (strV ((l.take k).map segT)) := own_keep HOWN.out fun b hb => hbo6.block b (HOWN.out.lt b hb).2
                   have hb6b : Below w.heap.size w w6 := HBEL.out.trans (hbo6.mono hwz)
                   have hz6 := hb6b.size
                   have HR6 := hide hr6
                   have HB6 := hide hb6b
                   clear hbo6 hr6 hb6b hb6)
                | (refine step_append_lies _ rfl (.tmp 37) (.tmp 46) _ rfl w.heap.size 9 iu _ 1 16 Tryz.underlying47 hu0 hu1 hu2 hu3 rfl (by omega) u3 k _ rfl (HR6.out.alloc _)
                           ⟨w6.heap.size, 0, none⟩ 1 1 [.string (({ data := #[123, 125] } : ByteArray).extract 0 1 ++ J ++ ({ data := #[123, 125] } : ByteArray).extract 1 2)] rfl rfl
                           (World.news_of_block (cs := #[.string (({ data := #[123, 125] } : ByteArray).extract 0 1 ++ J ++ ({ data := #[123, 125] } : ByteArray).extract 1 2)]) (t := 9) (fr := (0, 0)) (heap_alloc_new w6 _)) (by simp [Value.oneCell'])
                           (by omega) (by simp only [maxLen]; omega) (by omega) (by simp; omega) _ rfl ?_
                   intro g cap w7 hown7 hgrow hat hltg
                   have hb7 : Below w.heap.size w w7 := (HB6.out.alloc HB6.out.size _).grown hgrow (by have := HB6.out.size; simp; omega) (fun x hx => (HR6.out.lt x hx).1)
                   have Q1 := hide hown7
                   have Q3 := hide hb7
                   clear hown7 hgrow hat hb7))
              all_goals
                go_wp2
                go_roundw
                case rel =>
                  refine ⟨k + 1, by omega, by go_num, ?_, Q3.out⟩
                  have hX : strB (segT l[k]) = ({ data := #[123, 125] } : ByteArray).extract 0 1 ++ J ++ ({ data := #[123, 125] } : ByteArray).extract 1 2 := by
                    rw [HJJ.out]
                    exact segB_eq _ hK
                  rw [segT_take l k hlt, hX]
                  exact Q1.out
                case measure => simp [intOf]; omega
            · have HT1 := htr.seq_
              have HT2 := htr.size
              rw [hK] at c0
              clear htr
              go_wp2_with fail
              go_region_law (first
                | (go_simp; go_at_call 21; refine HJ.out.mono ?_; rintro e w6 ⟨rfl, hb6⟩
                   have hbo6 : Below wo.heap.size wo w6 := HBR.out.trans (Below.mono (w := wr) ⟨hb6.os, hb6.tape, hb6.output, hb6.size, hb6.block⟩ HBR.out.size)
                   have hr6 : w6.ownsRow w.heap.size 9 1 u3 k (strV ((l.take k).map segT)) := own_keep HOWN.out fun b hb => hbo6.block b (HOWN.out.lt b hb).2
                   have hb6b : Below w.heap.size w w6 := HBEL.out.trans (hbo6.mono hwz)
                   have hz6 := hb6b.size
                   have HR6 := hide hr6
                   have HB6 := hide hb6b
                   clear hbo6 hr6 hb6b hb6)
                | (refine step_append_lies _ rfl (.tmp 37) (.tmp 46) _ rfl w.heap.size 9 iu _ 1 16 Tryz.underlying47 hu0 hu1 hu2 hu3 rfl (by omega) u3 k _ rfl (HR6.out.alloc _)
                           ⟨w6.heap.size, 0, none⟩ 1 1 [.string (({ data := #[91, 93] } : ByteArray).extract 0 1 ++ J ++ ({ data := #[91, 93] } : ByteArray).extract 1 2)] rfl rfl
                           (World.news_of_block (cs := #[.string (({ data := #[91, 93] } : ByteArray).extract 0 1 ++ J ++ ({ data := #[91, 93] } : ByteArray).extract 1 2)]) (t := 9) (fr := (0, 0)) (heap_alloc_new w6 _)) (by simp [Value.oneCell'])
                           (by omega) (by simp only [maxLen]; omega) (by omega) (by simp; omega) _ rfl ?_
                   intro g cap w7 hown7 hgrow hat hltg
                   have hb7 : Below w.heap.size w w7 := (HB6.out.alloc HB6.out.size _).grown hgrow (by have := HB6.out.size; simp; omega) (fun x hx => (HR6.out.lt x hx).1)
                   have Q1 := hide hown7
                   have Q3 := hide hb7
                   clear hown7 hgrow hat hb7))
              all_goals
                go_wp2
                go_roundw
                case rel =>
                  refine ⟨k + 1, by omega, by go_num, ?_, Q3.out⟩
                  have hX : strB (segT l[k]) = ({ data := #[91, 93] } : ByteArray).extract 0 1 ++ J ++ ({ data := #[91, 93] } : ByteArray).extract 1 2 := by
                    rw [HJJ.out]
                    exact segB_eq2 _ hK
                  rw [segT_take l k hlt, hX]
                  exact Q1.out
                case measure => simp [intOf]; omega
      · have hkl : k = l.length := by omega
        subst hkl
        rw [List.take_of_length_le (Nat.le_refl _)] at hown
        have hjn := join_own (l.map segT) [32] hown (by simp) (by simp; omega) (by
          have := join_le 2100002 1 (l.map segT) [32] (by simp) (by
            intro x hx; obtain ⟨y, hy, rfl⟩ := List.mem_map.1 hx
            have a := segT_le y (hm y hy).2; have b := (hm y hy).1; omega)
          simp only [List.length_map] at this
          have : l.length * (2100002 + 1) ≤ 1000 * 2100003 := Nat.mul_le_mul_right _ hl
          omega)
        have HJ := hide hjn
        have HB := hide hbel
        clear hjn hbel hown h hm ht hb1
        have hS : strB [32] = ⟨#[32]⟩ := rfl
        go_wp2_with fail
        rw [hS] at HJ
        refine HJ.out.mono ?_
        rintro e w2 ⟨rfl, hb2⟩
        go_wp2
        go_ret
        refine ⟨by simp [textF, hv], HB.out.trans (hb2.mono HB.out.size)⟩
  · have hv : validF 4 l = false := by simpa using hv
    rw [hv]
    go_wp2
    go_ret
    refine ⟨by simp [textF, hv, strB], hb1⟩
end Go.Proofs.YtceolenmcpndaaaGreatDoor
