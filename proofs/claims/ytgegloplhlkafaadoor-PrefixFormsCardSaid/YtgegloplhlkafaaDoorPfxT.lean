/- prefix.Text at a valid prefix of IPv4: four numbers with dots, a slash, the Len. -/
import Derived.Test.YtgegloplhlkafaaDoorPfxE
import Derived.Test.YtgegloplhlkafaaDoorShelfA
import Derived.Lib.ItoaLen
set_option autoImplicit false
namespace Go.Proofs.YtgegloplhlkafaaDoor
open Go.RowKit Go.Sort Go.Shelf

theorem tabIs_below {P : Program} {w w' : World} {name : String} {k : IntKind} {zs : List Int} (h : Lib.TabIs P w name k zs) (hb : Below w.heap.size w w') : Lib.TabIs P w' name k zs := by
  unfold Lib.TabIs World.var? at *
  cases hg : P.globalNamed name with
  | none => simp [hg] at h
  | some g =>
    simp only [hg, Option.bind_some] at h ⊢
    have hlt : g < w.heap.size := by
      rcases Nat.lt_or_ge g w.heap.size with h' | h'
      · exact h'
      · rw [Array.getElem?_eq_none h'] at h; simp at h
    rw [hb.block g hlt]
    exact h
def Tab (w : World) : Prop := Lib.TabIs Tryd.prog w "internal/strconv.uint64pow10" .u64 Lib.pow10Tab
theorem Tab.below {w w' : World} (h : Tab w) (hb : Below w.heap.size w w') : Tab w' := tabIs_below h hb
def strB (l : List UInt8) : ByteArray := ⟨l.toArray⟩
def strV (l : List (List UInt8)) : List Value := l.map fun x => Value.string (strB x)
theorem strB_list (l : List UInt8) : (strB l).data.toList = l := rfl
theorem str_info : (Tryd.prog.info? 9).map (fun i => (i.zero, i.size, i.bytes)) = some (some (.string ⟨#[]⟩), 1, 16) := by kernel_rfl
def numL (x : Int) : List UInt8 := Lib.decDigits x.toNat
theorem numL_le (x : Int) (h : x < 4294967296) : (numL x).length ≤ 20 := by
  rw [numL, Lib.decDigits_length]; exact Lib.nDigits_le20 _ (by omega)
theorem join_le (M s : Nat) (xs : List (List UInt8)) (sep : List UInt8) (hs : sep.length ≤ s) (h : ∀ x ∈ xs, x.length ≤ M) : (Lib.join xs sep).length ≤ xs.length * (M + s) := by
  cases xs with
  | nil => simp [Lib.join_nil]
  | cons x r =>
    have hl : ∀ r : List (List UInt8), (∀ x ∈ r, x.length ≤ M) → Lib.lens r ≤ r.length * M := by
      intro r
      induction r with
      | nil => intro _; simp [Lib.lens]
      | cons y r ih =>
        intro h
        have a := h y (by simp)
        have b := ih fun x hx => h x (by simp [hx])
        simp only [Lib.lens, List.map_cons, List.sum_cons, List.length_cons, Nat.succ_mul] at b ⊢
        omega
    rw [Lib.join_length]
    have a := hl (x :: r) h
    have b : sep.length * r.length ≤ s * r.length := Nat.mul_le_mul_right _ hs
    have c : s * r.length ≤ s * (x :: r).length := Nat.mul_le_mul_left _ (by simp)
    rw [Nat.mul_add, Nat.mul_comm _ s]
    omega
/-- strings.Join of a row of the call's own. -/
theorem join_own {w : World} {base : Nat} {v : Value} {n : Nat} (xs : List (List UInt8)) (sep : List UInt8) (h : w.ownsRow base 9 1 v n (strV xs)) (hn : n = xs.length)
    (hN : xs.length ≤ 100000) (hl : (Lib.join xs sep).length ≤ 140737488355328) :
    Calls Tryd.prog 55 #[v, .string (strB sep)] w fun e w' => e = .returned (.string (strB (Lib.join xs sep))) ∧ Below w.heap.size w w' := by
  subst hn
  rcases Nat.eq_zero_or_pos xs.length with h0 | h0
  · obtain ⟨A, c, rfl, _⟩ := slice_of_own h
    have : xs = [] := List.length_eq_zero_iff.1 h0
    subst this
    exact (Tryd.strings_Join_none A c (strB sep) w).mono fun e w' ⟨a, b⟩ => ⟨a, b ▸ Below.refl _ _⟩
  · obtain ⟨g, cap, rfl, hg0, hg1⟩ := h.form h0
    have hcap : xs.length ≤ cap := by obtain ⟨A, c, e, a, _⟩ := slice_of_own h; injection e with _ _ e; omega
    have hmap : (xs.map strB).map (·.data.toList) = xs := by simp [strB_list, Function.comp_def]
    have hj := Tryd.strings_Join g 0 cap (xs.map strB) (strB sep) w (fun j x hx => by
        rw [Nat.zero_add]
        have hj : j < xs.length := by
          have := (List.getElem?_eq_some_iff.1 hx).1; simpa using this
        rw [h.cellAt j (by omega)]
        simp only [List.getElem?_map] at hx
        simp only [strV, List.getElem?_map]
        rw [List.getElem?_eq_getElem hj] at hx ⊢
        injection hx with e
        simp [e]) hg1 (by simp; omega) (by simpa using hcap) (by rw [hmap]; exact hl)
    rw [hmap] at hj
    rw [List.length_map] at hj
    exact hj.mono fun e w' ⟨a, b⟩ => ⟨a, b⟩
theorem numL_take (l : List Int) (j : Nat) (h : j < l.length) : strV ((l.take (j + 1)).map numL) = strV ((l.take j).map numL) ++ [.string (strB (numL l[j]))] := by
  rw [List.take_succ_eq_append_getElem h]
  simp only [strV, List.map_append, List.map_cons, List.map_nil]
theorem itoa_num (n : Int) (h : 0 ≤ n) : Lib.itoa n = numL n := by unfold Lib.itoa numL; rw [if_neg (by omega)]

theorem below_grow (w : World) (k : Nat) (os : Array Obj) : Below w.heap.size w (grow (w.drewN k) os) :=
  ⟨rfl, rfl, rfl, by simp [grow, World.drewN], fun i hi => by
    show (w.heap ++ os)[i]? = w.heap[i]?
    rw [Array.getElem?_append_left hi]⟩
theorem itoa_any (n : Int) (h0 : 0 ≤ n) (h1 : n ≤ 9223372036854775807) (w : World) (ht : Tab w) : Calls Tryd.prog 53 #[.int .i64 n] w fun e w' => e = .returned (.string (strB (numL n))) ∧ Below w.heap.size w w' :=
  (Tryd.strconv_Itoa n (by omega) h1 w ht).mono fun e w' ⟨h2, k, os, h3⟩ => ⟨by rw [h2, itoa_num n h0]; rfl, by rw [h3]; exact below_grow w k os⟩

def text4 (len : Int) (a : List Int) : List UInt8 := Lib.join ((a.take 4).map numL) [46] ++ [47] ++ numL len

set_option maxRecDepth 100000 in
set_option maxHeartbeats 8000000 in
theorem text4_any (len : Int) (a : List Int) (ha : a.length = 16) (hb : Bs a) (w : World) (hv : vF 1 len a = true) (ht : Tab w) :
    Calls Tryd.prog 24 #[.agg (pvL 1 len a).toArray] w fun e w' => e = .returned (.string (strB (text4 len a))) ∧ Below w.heap.size w w' := by
  obtain ⟨iu, hu0, hu1, hu2, hu3⟩ := info_parts str_info
  have hr : rangedF 1 len = true := by unfold vF at hv; simp at hv; exact hv.1
  obtain ⟨_, h0, _, h1, _⟩ := ranged_bd hr
  have hva := valid_any 1 len a ha hb
  rw [hv] at hva
  have HV := hide hva
  have hx0 : (pvL 1 len a).toArray.extract 0 (0 + 18) = (pvL 1 len a).toArray := extract_all _ _ (by simp [pvL_len, ha])
  have hsz : (pvL 1 len a).toArray.size = 18 := by simp [pvL_len, ha]
  have HX0 := Lib.hid hx0
  have HSZ := Lib.hid hsz
  have HA := Lib.hid ha
  have HBS := hide hb
  have HT := hide ht
  clear hva hv hr hx0 hsz ha hb ht
  go_enter Tryd.func24, Tryd.ntmps24
  go_wp2_with (first
    | (refine wpList_load_mid rfl _ (.tmp 1) rfl w.heap.size 0 18 rfl 26 _ (0, 0) _ (heap_alloc_new _ _) Tryd.underlying26 rfl pfx_info (by rw [HSZ.out]; exact Nat.le_refl _) ?_
       rw [HX0.out])
    | (go_at_call 19
       refine (HV.out _).mono ?_
       rintro e w1 ⟨rfl, hb1⟩
       have hg1 : w1.heap[w.heap.size]? = some (.cells (pvL 1 len a).toArray 26 (0, 0)) := (hb1.block w.heap.size (by simp)).trans (heap_alloc_new _ _)
       have hF : w1.cell? ⟨w.heap.size, 0, none⟩ = some (.int .i64 1) := by rw [cell_of_row _ _ 0 _ _ _ hg1]; rfl
       have B1 := hide (((Below.refl _ _).alloc (Nat.le_refl _) _).trans (hb1.mono (by simp)))
       have hz1 : w.heap.size < w1.heap.size := lt_of_block hg1
       have G1 := Lib.hid hg1
       clear hg1 hb1))
  go_loopw [3, 17] (fun v i wr => ∃ k : Nat, k ≤ 4 ∧ i = .int .i64 k ∧ wr.ownsRow w1.heap.size 9 1 v k (strV ((a.take k).map numL)) ∧ Below w1.heap.size w1 wr) (fun _ i _ => 4 - (intOf i).toNat)
  case atStart => exact ⟨0, Nat.zero_le _, rfl, by simpa [strV] using World.ownsRow_nil _ _ _ _, Below.refl _ _⟩
  case round =>
    obtain ⟨k, hk, rfl, hown, hbel⟩ := hrel
    have hbz := hbel.size
    have hgr := (hbel.block w.heap.size hz1).trans G1.out
    by_cases hlt : k < 4
    · have hka : k < a.length := by have := HA.out; omega
      have hxb := HBS.out.get hka
      have hc : wr.cell? ⟨w.heap.size, 2 + k, none⟩ = some (.int .u8 a[k]) := by
        rw [cell_of_row _ _ _ _ _ _ hgr, show 2 + k = k + 1 + 1 by omega]
        simp [pvL, bV, hka]
      have hit := itoa_any a[k] (by omega) (by omega) wr (HT.out.below (B1.out.trans (hbel.mono (by have := B1.out.size; omega))))
      have hsu := numL_take a k hka
      have HIT := hide hit
      have HSU := Lib.hid hsu
      have HOWN := hide hown
      have HBEL := hide hbel
      have hi0 : (0 : Int) ≤ (k : Int) := Int.natCast_nonneg _
      clear hit hsu hown hbel hgr
      generalize a[k] = x at *
      go_wp2_with fail
      refine HIT.out.mono ?_
      rintro e w6 ⟨rfl, hb6⟩
      have hr6 : w6.ownsRow w1.heap.size 9 1 u3 k (strV ((a.take k).map numL)) := own_keep HOWN.out fun b hb => hb6.block b (HOWN.out.lt b hb).2
      have hb06 : Below w1.heap.size w1 w6 := HBEL.out.trans (hb6.mono hbz)
      have HR6 := hide hr6
      have HB6 := hide hb06
      clear hr6 hb06 hb6 HIT hc
      go_wp2_with (at_builtin
                   refine wpList_append_lies _ rfl (.tmp 21) (.tmp 25) _ rfl w1.heap.size 9 iu _ 1 16 Tryd.underlying79 hu0 hu1 hu2 hu3 rfl (by omega) _ k _ rfl (HR6.out.alloc _)
                     ⟨w6.heap.size, 0, none⟩ 1 1 [.string (strB (numL x))] rfl rfl (World.news_of_block (cs := #[.string (strB (numL x))]) (t := 9) (fr := (0, 0)) (heap_alloc_new w6 _)) (by simp [Value.oneCell'])
                     (by omega) (by simp only [maxLen]; omega) (by omega) (by have := HB6.out.size; simp; omega) _ rfl ?_
                   intro g cap w7 hown7 hgrow hat hltg
                   have hb7 : Below w1.heap.size w1 w7 := (HB6.out.alloc HB6.out.size _).grown hgrow (by have := HB6.out.size; simp; omega) (fun x hx => (HR6.out.lt x hx).1)
                   have Q1 := hide hown7
                   have Q3 := hide hb7
                   clear hown7 hgrow hat hb7)
      go_roundw
      case rel => exact ⟨k + 1, by omega, by go_num, by rw [HSU.out]; exact Q1.out, Q3.out⟩
      case measure => simp [intOf]; omega
    · have hk4 : k = 4 := by omega
      subst hk4
      have hL : wr.cell? ⟨w.heap.size, 1, none⟩ = some (.int .i64 len) := by rw [cell_of_row _ _ 1 _ _ _ hgr]; rfl
      have htl : ((a.take 4).map numL).length = 4 := by have := HA.out; simp; omega
      have hjb : ∀ x ∈ (a.take 4).map numL, x.length ≤ 20 := by
        intro x hx; obtain ⟨y, hy, rfl⟩ := List.mem_map.1 hx
        have := HBS.out y (List.mem_of_mem_take hy); exact numL_le y (by omega)
      have hjl := join_le 20 1 ((a.take 4).map numL) [46] (by simp) hjb
      rw [htl] at hjl
      have hb0 : Below w.heap.size w wr := B1.out.trans (hbel.mono (by have := B1.out.size; omega))
      have hJ : ∀ w', Below wr.heap.size wr w' → Calls Tryd.prog 55 #[u3, .string (strB [46])] w' fun e w'' => e = .returned (.string (strB (Lib.join ((a.take 4).map numL) [46]))) ∧ Below wr.heap.size wr w'' := fun w' hb' =>
        (join_own ((a.take 4).map numL) [46] (own_keep hown fun b hb => hb'.block b (hown.lt b hb).2) htl.symm (by omega) (by omega)).mono fun e w'' ⟨h1, h2⟩ => ⟨h1, hb'.trans (h2.mono hb'.size)⟩
      have hI : ∀ w', Below wr.heap.size wr w' → Calls Tryd.prog 53 #[.int .i64 len] w' fun e w'' => e = .returned (.string (strB (numL len))) ∧ Below wr.heap.size wr w'' := fun w' hb' =>
        (itoa_any len h0 (by omega) w' (HT.out.below (hb0.trans (hb'.mono hb0.size)))).mono fun e w'' ⟨h1, h2⟩ => ⟨h1, hb'.trans (h2.mono hb'.size)⟩
      have hS : strB [46] = ⟨#[46]⟩ := rfl
      have hnl := numL_le len (by omega)
      have hts : strB (text4 len a) = strB (Lib.join ((a.take 4).map numL) [46]) ++ ⟨#[47]⟩ ++ strB (numL len) := by
        apply ByteArray.ext; simp [text4, strB, ByteArray.data_append]
      rw [hS] at hJ
      have hz1J : (strB (Lib.join ((a.take 4).map numL) [46])).size ≤ 84 := by show (Lib.join ((a.take 4).map numL) [46]).length ≤ _; omega
      have hz2J : (strB (numL len)).size ≤ 20 := hnl
      have HTS := Lib.hid hts
      generalize strB (Lib.join ((a.take 4).map numL) [46]) = SJ at *
      generalize strB (numL len) = SN at *
      have HJ := hide hJ
      have HI := hide hI
      have HL := hide hL
      have HB0 := hide hb0
      clear hJ hI hL htl hjb hjl hS hts hown hbel hgr hb0 hnl
      go_wp2_with fail
      refine wp_region_quietC (fun w' => Below wr.heap.size wr w') (by kernel_rfl) (by kernel_rfl) (Below.refl _ _ |>.drew) ?_
      repeat (first
        | go_big_quiet_skip
        | (go_big_quiet_want
           first
           | (refine quiet_load _ _ rfl ⟨w.heap.size, 1, none⟩ rfl _ Tryd.underlying3 rfl _ (fun w' hw' => cell_below HL.out hw') ?_; go_big_quiet_on; simp only [Act.put, List.setIfInBounds_toArray, List.set_cons_zero, List.set_cons_succ])
           | (go_big_quiet_op
              first
                | go_big_quiet_on
                | (refine ⟨_, fun _ _ => rfl, ?_⟩; go_big_quiet_on)
                | (refine ⟨_, fun _ hw' => HJ.out _ hw', ?_⟩; go_big_quiet_on)
                | (refine ⟨_, fun _ hw' => HI.out _ hw', ?_⟩; go_big_quiet_on))))
      refine wpQuiet_nil ?_
      intro w' hw'
      have HW' := hide hw'
      clear hw'
      go_wp2
      go_ret
      exact ⟨by rw [HTS.out]; rfl, HB0.out.trans (HW'.out.mono HB0.out.size)⟩
end Go.Proofs.YtgegloplhlkafaaDoor
