/- The reference's Text of a path: at paths of at most 1,000 segments. -/
import Derived.Test.YtceolenmcpndaaaGreatDoorSegTA
set_option autoImplicit false
namespace Go.Proofs.YtceolenmcpndaaaGreatDoor
open Go.RowKit Go.Sort Go.Shelf

def sepL (k : Nat) : List UInt8 := if 0 < k then [32] else []
theorem join_snoc (xs : List (List UInt8)) (x : List UInt8) : Lib.join (xs ++ [x]) [32] = Lib.join xs [32] ++ sepL xs.length ++ x := by
  cases xs with
  | nil => rw [List.nil_append, Lib.join_one, Lib.join_nil]; rfl
  | cons y r =>
    rw [List.cons_append, Lib.join_cons, Lib.join_cons]
    have e : sepL (y :: r).length = [32] := by unfold sepL; rw [if_pos (by simp)]
    rw [e]
    simp [Lib.joinTail]
def tK (l : List Sg) (k : Nat) : List UInt8 := Lib.join ((l.take k).map segT) [32]
def uK (l : List Int) (k : Nat) : List UInt8 := Lib.join ((l.take k).map numL) [32]
theorem tK_zero (l : List Sg) : tK l 0 = [] := by unfold tK; rw [List.take_zero, List.map_nil, Lib.join_nil]
theorem uK_zero (l : List Int) : uK l 0 = [] := by unfold uK; rw [List.take_zero, List.map_nil, Lib.join_nil]
theorem tK_succ (l : List Sg) (k : Nat) (h : k < l.length) : tK l (k + 1) = tK l k ++ sepL k ++ segT l[k] := by
  unfold tK
  rw [List.take_succ_eq_append_getElem h, List.map_append, List.map_cons, List.map_nil, join_snoc, List.length_map, List.length_take, Nat.min_eq_left (by omega)]
theorem uK_succ (l : List Int) (k : Nat) (h : k < l.length) : uK l (k + 1) = uK l k ++ sepL k ++ numL l[k] := by
  unfold uK
  rw [List.take_succ_eq_append_getElem h, List.map_append, List.map_cons, List.map_nil, join_snoc, List.length_map, List.length_take, Nat.min_eq_left (by omega)]
theorem sp_eq : (⟨#[32]⟩ : ByteArray) = strB [32] := rfl
theorem o1_eq : (⟨#[123]⟩ : ByteArray) = strB [123] := rfl
theorem o2_eq : (⟨#[91]⟩ : ByteArray) = strB [91] := rfl
theorem c1_eq : (⟨#[125]⟩ : ByteArray) = strB [125] := rfl
theorem c2_eq : (⟨#[93]⟩ : ByteArray) = strB [93] := rfl
theorem sz32 : (⟨#[32]⟩ : ByteArray).size = 1 := rfl
theorem sz123 : (⟨#[123]⟩ : ByteArray).size = 1 := rfl
theorem sz91 : (⟨#[91]⟩ : ByteArray).size = 1 := rfl
theorem sz125 : (⟨#[125]⟩ : ByteArray).size = 1 := rfl
theorem sz93 : (⟨#[93]⟩ : ByteArray).size = 1 := rfl

set_option maxRecDepth 100000 in
set_option maxHeartbeats 8000000 in
theorem rtext_any (A : Option Addr) (c : Nat) (l : List Sg) (w : World) (h : Path w w.heap.size A l) (hl : l.length ≤ 1000) (hs : Sound l) :
    Calls Tryz.prog 12 #[.slice A l.length c] w fun e w' => e = .returned (.string (strB (textF l))) ∧ Below w.heap.size w w' := by
  have HV := hide (rvalid_any 4 A c l w h hs)
  cases hv : validF 4 l
  · have ht : textF l = [] := by unfold textF; rw [hv]; rfl
    rw [hv] at HV
    have HTX := Lib.hid ht
    clear ht hv h
    go_enter Tryz.func12, Tryz.ntmps12
    go_wp2_with (go_at_call 10; refine HV.out.mono ?_; rintro e w1 ⟨rfl, hb1⟩)
    go_ret
    exact ⟨by rw [HTX.out]; rfl, hb1⟩
  · have ht : textF l = tK l l.length := by unfold textF tK; rw [if_pos hv, List.take_length]
    have hsh : ∀ s ∈ l, (s.1 = 1 ∨ s.1 = 2) ∧ s.2.length ≤ 255 := fun s hs => by
      have := hv
      simp only [validF, Bool.and_eq_true, List.all_eq_true] at this
      have := this.1 s hs
      simp only [rightF, Bool.and_eq_true, shapeF, decide_eq_true_eq] at this
      exact ⟨this.1.1, this.1.2.2⟩
    rw [hv] at HV
    have HTX := Lib.hid ht
    have HSH := hide hsh
    have HSU := hide (fun s h => (hs.2 s h).2)
    clear ht hv hsh hs
    go_enter Tryz.func12, Tryz.ntmps12
    go_wp2_with (go_at_call 10; refine HV.out.mono ?_; rintro e w1 ⟨rfl, hb1⟩)
    go_loopw [3, 4] (fun sv i wr => ∃ (k : Nat) (S : ByteArray), k ≤ l.length ∧ i = .int .i64 k ∧ sv = .string S ∧ Hid (S = strB (tK l k)) ∧ S.size ≤ k * 6000 ∧ Hid (Below w.heap.size w wr)) (fun _ i _ => l.length - (intOf i).toNat)
    case atStart => exact ⟨0, _, Nat.zero_le _, rfl, rfl, hide (by rw [tK_zero]; rfl), by show 0 ≤ 0 * 6000; omega, hide hb1⟩
    case round =>
      obtain ⟨k, S, hk, rfl, rfl, HS, hsz, HB⟩ := hrel
      obtain ⟨wo, rfl⟩ : ∃ wo : World, wo = wr := ⟨_, rfl⟩
      have hwz := HB.out.size
      by_cases hlt : k < l.length
      · obtain ⟨ad, A', c', rfl, had, hc0, hc1, hbk, f2, f3, f4⟩ := (h.below HB.out).at_ hlt
        have hkk := (HSH.out l[k] (List.getElem_mem hlt)).1
        have hn255 := (HSH.out l[k] (List.getElem_mem hlt)).2
        have hus := HSU.out l[k] (List.getElem_mem hlt)
        have htk := tK_succ l k hlt
        have HTK := Lib.hid htk
        have HF4 := hide f4
        have HUS := hide hus
        have hk0 : (0 : Int) ≤ (k : Int) := Int.natCast_nonneg _
        have hk1 : (k : Int) < (l.length : Int) := by omega
        have hbr : segT l[k] = brO l[k].1 ++ uK l[k].2 l[k].2.length ++ brC l[k].1 := by unfold segT uK; rw [List.take_length]
        have HBR := Lib.hid hbr
        clear htk f4 hus hbr
        have hd : (l[k].1 == 1) = true ∧ brO l[k].1 = [123] ∧ brC l[k].1 = [125] ∨ (l[k].1 == 1) = false ∧ brO l[k].1 = [91] ∧ brC l[k].1 = [93] := by
          rcases hkk with e | e <;> rw [e]
          · exact .inl ⟨rfl, rfl, rfl⟩
          · exact .inr ⟨rfl, rfl, rfl⟩
        clear hkk
        have hz : (0 < k ∧ sepL k = [32]) ∨ (¬ 0 < (k : Int) ∧ sepL k = []) := by
          rcases Nat.eq_zero_or_pos k with e | e
          · exact .inr ⟨by omega, by unfold sepL; rw [if_neg (by omega)]⟩
          · exact .inl ⟨e, by unfold sepL; rw [if_pos e]⟩
        rcases hd with ⟨e1, hbo, hbc⟩ | ⟨e1, hbo, hbc⟩
        all_goals
          have HBO := Lib.hid hbo
          have HBC := Lib.hid hbc
          clear hbo hbc
          rcases hz with ⟨hkp, hsp⟩ | ⟨hkp, hsp⟩
          all_goals
            have HSP := Lib.hid hsp
            clear hsp
            go_wp2_with fail
            go_loopw [3, 7] (fun sv ix wi => ∃ (j : Nat) (S2 : ByteArray), j ≤ l[k].2.length ∧ ix = .int .i64 j ∧ sv = .string S2 ∧ Hid (S2 = strB (tK l k ++ sepL k ++ (brO l[k].1 ++ uK l[k].2 j))) ∧ S2.size ≤ k * 6000 + 2 + j * 21 ∧ Hid (Below wo.heap.size wo wi)) (fun _ ix _ => l[k].2.length - (intOf ix).toNat)
            case atStart => exact ⟨0, _, Nat.zero_le _, rfl, rfl, hide (by rw [HS.out, HSP.out, HBO.out, uK_zero]; simp only [sp_eq, o1_eq, o2_eq, strB_append]; simp), by simp only [ByteArray.size_append, sz32, sz123, sz91]; omega, hide (Below.refl _ _)⟩
            case round =>
              obtain ⟨j, S2, hj, rfl, rfl, HS2, hsz2, HI⟩ := hrel
              have hzi := HI.out.size
              have hc1' := cell_below hc1 HI.out
              have hbk' : (ad.add (k * 2)).block < wr.heap.size := by omega
              by_cases jlt : j < l[k].2.length
              · obtain ⟨ap, uu, rfl, hap, hx, hc⟩ := HF4.out.at_ jlt
                obtain ⟨x, hx1, rfl⟩ := uV_get hx
                have hx2 : l[k].2[j] = x := by rw [List.getElem?_eq_getElem jlt] at hx1; injection hx1
                have hxb := HUS.out x (by rw [← hx2]; exact List.getElem_mem jlt)
                obtain ⟨N, rfl⟩ : ∃ N : Nat, x = (N : Int) := ⟨x.toNat, by omega⟩
                have hcx : wr.cell? (ap.add j) = some (.int .u32 N) := (HI.out.cell (p := ap.add j) (by rw [block_of_add]; omega)).trans hc
                have hap3 : (ap.add j).block < wr.heap.size := by rw [block_of_add]; omega
                have hD := decimal_any N (by omega)
                have huk := uK_succ l[k].2 j jlt
                have hnl : numL l[k].2[j] = Lib.decDigits N := by rw [hx2]; rfl
                rw [hnl] at huk
                have hdl : (Lib.decDigits N).length ≤ 20 := by rw [← hnl, hx2]; exact numL_le _ hxb.2
                obtain ⟨D, hDD⟩ : ∃ D, D = strB (Lib.decDigits N) := ⟨_, rfl⟩
                rw [← hDD] at hD
                have hds : D.size ≤ 20 := by rw [hDD, strB_size]; exact hdl
                have HD := hide hD
                have HUK := Lib.hid huk
                have HDD := Lib.hid hDD
                have hN32 : (N : Int) < 4294967296 := hxb.2
                have hN0 : (0 : Int) ≤ (N : Int) := Int.natCast_nonneg _
                have hj0 : (0 : Int) ≤ (j : Int) := Int.natCast_nonneg _
                have hj1 : (j : Int) < (l[k].2.length : Int) := by omega
                clear hD huk hDD hnl hdl hx hx1 hx2 hc hc0 hc1 hxb
                rcases Nat.eq_zero_or_pos j with hj00 | hjp
                · subst hj00
                  have hsj : sepL 0 = [] := rfl
                  have hcx0 : wr.cell? ap = some (.int .u32 N) := hcx
                  have hap0 : ap.block < wr.heap.size := by omega
                  clear hj0 hcx hap3
                  have HSJ := Lib.hid hsj
                  clear hsj
                  go_wp2_with (go_at_call 27; refine (HD.out _).mono ?_; rintro e w3 ⟨rfl, hb3⟩)
                  go_roundw
                  case rel => exact ⟨1, _, by omega, by go_num, rfl, hide (by rw [HS2.out, HDD.out, HUK.out, HSJ.out]; simp only [strB_append]; simp), by simp only [ByteArray.size_append]; omega, hide (HI.out.trans (hb3.mono HI.out.size))⟩
                  case measure => simp [intOf]; omega
                · have hsj : sepL j = [32] := by unfold sepL; rw [if_pos hjp]
                  have HSJ := Lib.hid hsj
                  clear hsj
                  go_wp2_with (go_at_call 27; refine (HD.out _).mono ?_; rintro e w3 ⟨rfl, hb3⟩)
                  go_roundw
                  case rel => exact ⟨j + 1, _, by omega, by go_num, rfl, hide (by rw [HS2.out, HDD.out, HUK.out, HSJ.out]; simp only [sp_eq, strB_append]; simp), by simp only [ByteArray.size_append, sz32]; omega, hide (HI.out.trans (hb3.mono HI.out.size))⟩
                  case measure => simp [intOf]; omega
              · have hjl : j = l[k].2.length := by omega
                subst hjl
                clear hc0 hc1
                go_wp2_with fail
                go_roundw
                case rel => exact ⟨k + 1, _, by omega, by go_num, rfl, hide (by rw [HS2.out, HTK.out, HBR.out, HBC.out]; simp only [c1_eq, c2_eq, strB_append]; simp), by simp only [ByteArray.size_append, sz125, sz93]; omega, hide (HB.out.trans (HI.out.mono hwz))⟩
                case measure => simp [intOf]; omega
      · have hkl : k = l.length := by omega
        subst hkl
        go_wp2
        go_ret
        exact ⟨by rw [HTX.out, ← HS.out]; rfl, HB.out⟩
end Go.Proofs.YtceolenmcpndaaaGreatDoor
