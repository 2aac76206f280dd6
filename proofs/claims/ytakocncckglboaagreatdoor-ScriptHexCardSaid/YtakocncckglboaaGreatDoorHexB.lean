/- The reference's Hex, digit and Bytes. -/
import Derived.Test.YtakocncckglboaaGreatDoorProg
import Derived.Test.YtakocncckglboaaGreatDoorHexA
import Derived.WalkSpells
import Derived.Deep.QuietTactic
import Derived.BigQuiet
import Derived.BigRegion
import Derived.RegionTactic
import Derived.Lib.SliceRun
import Derived.KernelRfl
set_option autoImplicit false
namespace Go.Proofs.YtakocncckglboaaGreatDoor
open Go.RowKit

def bV (l : List Int) : List Value := l.map (Value.int .u8)
theorem bV_append (a b : List Int) : bV (a ++ b) = bV a ++ bV b := by simp [bV]
def Byts (w : World) (B : Nat) (A : Option Addr) (l : List Int) : Prop := Reads w B 1 A l.length (bV l)
def Bs (l : List Int) : Prop := ∀ x ∈ l, 0 ≤ x ∧ x < 256
theorem Bs.get {l : List Int} (h : Bs l) {i : Nat} (hi : i < l.length) : 0 ≤ l[i] ∧ l[i] < 256 := h _ (List.getElem_mem hi)
theorem u8_info : (Tryz.prog.info? 5).map (fun i => (i.zero, i.size, i.bytes)) = some (some (.int .u8 0), 1, 1) := by kernel_rfl
def strB (l : List UInt8) : ByteArray := ⟨l.toArray⟩
theorem strB_list (l : List UInt8) : (strB l).data.toList = l := rfl
theorem strB_eta (p : ByteArray) : strB p.data.toList = p := by cases p; simp [strB]
theorem strB_append (a b : List UInt8) : strB a ++ strB b = strB (a ++ b) := by
  apply ByteArray.ext
  simp [strB]
theorem strB_size (x : List UInt8) : (strB x).size = x.length := rfl
theorem hexS_at (d : Nat) (h : d < 16) : ByteArray.extract ⟨#[48, 49, 50, 51, 52, 53, 54, 55, 56, 57, 97, 98, 99, 100, 101, 102]⟩ d (d + 1) = strB [hx d] := by
  have key : ∀ d : Fin 16, (ByteArray.extract ⟨#[48, 49, 50, 51, 52, 53, 54, 55, 56, 57, 97, 98, 99, 100, 101, 102]⟩ d.1 (d.1 + 1)).data = #[hx d.1] := by decide
  exact ByteArray.ext (key ⟨d, h⟩)
theorem hexL_take (l : List Int) (k : Nat) (h : k < l.length) : hexL (l.take (k + 1)) = hexL (l.take k) ++ [hx (l[k].toNat / 16)] ++ [hx (l[k].toNat % 16)] := by
  rw [List.take_succ_eq_append_getElem h]; simp only [hexL, List.flatMap_append, List.flatMap_cons, List.flatMap_nil, List.append_nil, List.append_assoc, List.cons_append, List.nil_append]
/-- What a function that ends in the world where it began returns. -/
def RetI (v : Int) (w : World) (e : Ending) (w' : World) : Prop := e = .returned (.int .i64 v) ∧ w = w'

set_option maxHeartbeats 4000000 in
set_option maxRecDepth 100000 in
theorem rhex_any (A : Option Addr) (c : Nat) (l : List Int) (w : World) (h : Byts w w.heap.size A l) (hb : Bs l) (hn : l.length ≤ 100000) :
    Calls Tryz.prog 8 #[.slice A l.length c] w fun e w' => e = .returned (.string (strB (hexL l))) ∧ Below w.heap.size w w' := by
  have HB := hide hb
  have HR := hide h
  clear hb h
  go_enter Tryz.func8, Tryz.ntmps8
  go_wp2
  go_loopw [4, 5] (fun sv iv wr => ∃ (k : Nat) (S : ByteArray), sv = .string S ∧ iv = .int .i64 k ∧ k ≤ l.length ∧ Hid (S = strB (hexL (l.take k))) ∧ S.size ≤ 2 * k ∧ Hid (Below w.heap.size w wr)) (fun _ i _ => l.length - (intOf i).toNat)
  case atStart => exact ⟨0, _, rfl, rfl, Nat.zero_le _, hide rfl, Nat.le_refl 0, hide (Below.refl _ _)⟩
  case round =>
    obtain ⟨k, S, rfl, rfl, hk, HS, hsz, HBE⟩ := hrel
    have hk0 : (0 : Int) ≤ (k : Int) := Int.natCast_nonneg _
    by_cases hlt : k < l.length
    · obtain ⟨ad, uu, rfl, had, hx1, hc⟩ := (HR.out.below HBE.out).at_ hlt
      obtain ⟨x, hx2, rfl⟩ : ∃ x, l[k]? = some x ∧ uu = .int .u8 x := by
        simp only [bV, List.getElem?_map, List.getElem?_eq_getElem hlt, Option.map_some, Option.some.injEq] at hx1
        exact ⟨l[k], List.getElem?_eq_getElem hlt, hx1.symm⟩
      have hx3 : l[k] = x := by rw [List.getElem?_eq_getElem hlt] at hx2; injection hx2
      have hxb := HB.out.get hlt
      have htk := hexL_take l k hlt
      rw [hx3] at hxb htk
      obtain ⟨n, rfl⟩ : ∃ n : Nat, x = (n : Int) := ⟨x.toNat, by omega⟩
      rw [Int.toNat_natCast] at htk
      have hn256 : n < 256 := by omega
      have hs1 := hexS_at (n / 16) (by omega)
      have hs2 := hexS_at (n % 16) (by omega)
      obtain ⟨D1, hD1⟩ : ∃ D, D = strB [hx (n / 16)] := ⟨_, rfl⟩
      obtain ⟨D2, hD2⟩ : ∃ D, D = strB [hx (n % 16)] := ⟨_, rfl⟩
      rw [← hD1] at hs1
      rw [← hD2] at hs2
      have hz1 : D1.size = 1 := by rw [hD1]; rfl
      have hz2 : D2.size = 1 := by rw [hD2]; rfl
      have e1 : (n : Int).tdiv 16 = (n : Int) / 16 := Int.tdiv_eq_ediv_of_nonneg (by omega)
      have e2 : (n : Int).tmod 16 = (n : Int) % 16 := Int.tmod_eq_emod_of_nonneg (by omega)
      have e3 : IntKind.u8.wrap ((n : Int) / 16) = (n : Int) / 16 := by rw [IntKind.wrap_u8]; omega
      have e4 : IntKind.u8.wrap ((n : Int) / 16 + 1) = (n : Int) / 16 + 1 := by rw [IntKind.wrap_u8]; omega
      have e5 : IntKind.u8.wrap ((n : Int) % 16) = (n : Int) % 16 := by rw [IntKind.wrap_u8]; omega
      have e6 : IntKind.u8.wrap ((n : Int) % 16 + 1) = (n : Int) % 16 + 1 := by rw [IntKind.wrap_u8]; omega
      have f1 : ((n : Int) / 16).toNat = n / 16 := by omega
      have f2 : ((n : Int) / 16 + 1).toNat = n / 16 + 1 := by omega
      have f3 : ((n : Int) % 16).toNat = n % 16 := by omega
      have f4 : ((n : Int) % 16 + 1).toNat = n % 16 + 1 := by omega
      have g1 : (0 : Int) ≤ (n : Int) / 16 := by omega
      have g2 : (n : Int) / 16 + 1 ≤ 16 := by omega
      have g3 : (0 : Int) ≤ (n : Int) % 16 := by omega
      have g4 : (n : Int) % 16 + 1 ≤ 16 := by omega
      have g5 : (0 : Int) ≤ (n : Int) / 16 + 1 := by omega
      have g6 : (0 : Int) ≤ (n : Int) % 16 + 1 := by omega
      have g7 : (n : Int) / 16 ≤ (n : Int) / 16 + 1 := by omega
      have g8 : (n : Int) % 16 ≤ (n : Int) % 16 + 1 := by omega
      have j1 : ¬ 9223372036854775807 < S.size + 1 := by omega
      have j2 : ¬ 9223372036854775807 < S.size + 1 + 1 := by omega
      have hadw : ad.block < wr.heap.size := by have := HBE.out.size; omega
      have HD1 := Lib.hid hD1
      have HD2 := Lib.hid hD2
      have HTK := Lib.hid htk
      clear hx1 hx2 hx3 htk hD1 hD2 hxb had
      go_wp2_with fail
      go_region
      go_wp2_with fail
      go_roundw
      case rel => exact ⟨k + 1, _, rfl, by go_num, by omega, hide (by rw [HS.out, HD1.out, HD2.out, HTK.out, strB_append, strB_append]), by simp only [ByteArray.size_append]; omega, hide HBE.out.drew⟩
      case measure => simp [intOf]; omega
    · have hkk : k = l.length := by omega
      subst hkk
      have hS := HS.out
      rw [List.take_length] at hS
      have HS2 := Lib.hid hS
      clear hS
      go_wp2
      go_ret
      exact ⟨by rw [← HS2.out]; rfl, HBE.out⟩
theorem rvalue_any (c : UInt8) (w : World) : Calls Tryz.prog 14 #[.int .u8 c.toNat] w (RetI (nib c) w) := by
  have hc := c.toNat_lt
  have hv : nib c = if 48 ≤ c.toNat ∧ c.toNat ≤ 57 then c.toNat - 48 else if 97 ≤ c.toNat ∧ c.toNat ≤ 102 then c.toNat - 87 else 16 := rfl
  generalize nib c = v at *
  have h0 : (0 : Int) ≤ (c.toNat : Int) := Int.natCast_nonneg _
  have h1 : (c.toNat : Int) < 256 := by omega
  by_cases a1 : 48 ≤ c.toNat ∧ c.toNat ≤ 57
  · rw [if_pos a1] at hv
    have e : (v : Int) = (c.toNat : Int) - 48 := by omega
    have a2 : (48 : Int) ≤ (c.toNat : Int) := by omega
    have a3 : (c.toNat : Int) ≤ 57 := by omega
    rw [e]
    clear hv e hc a1
    generalize (c.toNat : Int) = x at *
    go_enter Tryz.func14, Tryz.ntmps14
    go_wp2
    go_ret
    exact ⟨rfl, rfl⟩
  · rw [if_neg a1] at hv
    have a4 : (c.toNat : Int) < 48 ∨ 57 < (c.toNat : Int) := by omega
    by_cases b1 : 97 ≤ c.toNat ∧ c.toNat ≤ 102
    · rw [if_pos b1] at hv
      have e : (v : Int) = (c.toNat : Int) - 97 + 10 := by omega
      have a2 : (97 : Int) ≤ (c.toNat : Int) := by omega
      have a3 : (c.toNat : Int) ≤ 102 := by omega
      rw [e]
      clear hv e hc a1 b1 a4
      generalize (c.toNat : Int) = x at *
      go_enter Tryz.func14, Tryz.ntmps14
      go_wp2
      go_ret
      exact ⟨rfl, rfl⟩
    · rw [if_neg b1] at hv
      subst hv
      have b4 : (c.toNat : Int) < 97 ∨ 102 < (c.toNat : Int) := by omega
      clear hc a1 b1
      generalize (c.toNat : Int) = x at *
      rcases a4 with a4 | a4
      · clear b4
        go_enter Tryz.func14, Tryz.ntmps14
        go_wp2
        go_ret
        exact ⟨rfl, rfl⟩
      · rcases b4 with b4 | b4
        · go_enter Tryz.func14, Tryz.ntmps14
          go_wp2
          go_ret
          exact ⟨rfl, rfl⟩
        · go_enter Tryz.func14, Tryz.ntmps14
          go_wp2
          go_ret
          exact ⟨rfl, rfl⟩

set_option maxRecDepth 100000 in
set_option maxHeartbeats 8000000 in
theorem rbytes_any (s : List UInt8) (w : World) (hl : s.length ≤ 100000) :
    Calls Tryz.prog 7 #[.string (strB s)] w fun e w' => ∃ A c, e = .returned (.tuple #[.slice A ((bytF s).getD []).length c, .bool (bytF s).isSome]) ∧ Byts w' w'.heap.size A ((bytF s).getD []) ∧ Below w.heap.size w w' := by
  obtain ⟨iu, hu0, hu1, hu2, hu3⟩ := info_parts u8_info
  have hsz := strB_size s
  by_cases h0 : s = []
  · subst h0
    have e0 : strB [] = ⟨#[]⟩ := rfl
    rw [e0]
    clear e0 hsz
    go_enter Tryz.func7, Tryz.ntmps7
    go_wp2
    go_ret2
    exact ⟨none, 0, rfl, Reads.none_, Below.refl _ _⟩
  have hs0 : 0 < s.length := List.length_pos_iff.2 h0
  have hby : bytF s = pairF s := by unfold bytF; rw [if_neg h0]
  rw [hby]
  have hat : ∀ (S : ByteArray), S = strB s → ∀ (k : Nat) (h : k < S.size) (h2 : k < s.length), S[k]'h = s[k]'h2 := by intro S hS k h h2; subst hS; rfl
  obtain ⟨S, hS⟩ : ∃ S, S = strB s := ⟨_, rfl⟩
  have HAT := hide (hat S hS)
  have hem : S.toList.isEmpty = false := by rw [hS, ByteArray.toList_eq, strB_list]; simpa using h0
  rw [← hS] at hsz ⊢
  clear hat hby hS h0
  by_cases hodd : s.length % 2 = 1
  · have hno : pairF s = none := pairF_bad _ s (Nat.le_refl _) (.inl hodd)
    have htm : ((s.length : Int) % 2 != 0) = true := by simp; omega
    have HNO := Lib.hid hno
    clear hno hodd HAT
    go_enter Tryz.func7, Tryz.ntmps7
    go_wp2
    go_ret2
    exact ⟨none, 0, by rw [HNO.out]; rfl, by rw [HNO.out]; exact Reads.none_, Below.refl _ _⟩
  · have htm : ((s.length : Int) % 2 != 0) = false := by simp; omega
    go_enter Tryz.func7, Tryz.ntmps7
    go_wp2
    go_loopw [4, 5] (fun ov iv wr => ∃ (d : List Int) (k : Nat), iv = .int .i64 k ∧ k = 2 * d.length ∧ k ≤ s.length ∧ Hid (pairF s = (pairF (s.drop k)).map (d ++ ·)) ∧ Hid (wr.ownsRow w.heap.size 5 1 ov d.length (bV d)) ∧ Hid (Below w.heap.size w wr)) (fun _ i _ => s.length - (intOf i).toNat)
    case atStart => exact ⟨[], 0, rfl, rfl, Nat.zero_le _, hide (by rw [List.drop_zero]; cases pairF s <;> simp), hide (by simpa [bV] using World.ownsRow_nil _ _ _ _), hide (Below.refl _ _)⟩
    case round =>
      obtain ⟨d, k, rfl, hkd, hk, HP, HO, HB⟩ := hrel
      have hbz := HB.out.size
      have hk0 : (0 : Int) ≤ (k : Int) := Int.natCast_nonneg _
      by_cases hlt : k < s.length
      · have hlt1 : k + 1 < s.length := by omega
        have hks : k < S.size := by omega
        have hks1 : k + 1 < S.size := by omega
        have hak := HAT.out k hks hlt
        have hak1 := HAT.out (k + 1) hks1 hlt1
        have hki : (k : Int) + 1 < (s.length : Int) := by omega
        have hdrop : s.drop k = s[k] :: s[k + 1] :: s.drop (k + 2) := by rw [List.drop_eq_getElem_cons hlt, List.drop_eq_getElem_cons hlt1]
        have hp := HP.out
        rw [hdrop, pairF] at hp
        have hw1 : IntKind.i64.wrap ((k : Int) + 1) = (k : Int) + 1 := by rw [IntKind.wrap_i64]; omega
        have hx1 : ((k : Int) + 1).toNat = k + 1 := by omega
        have HV1 := hide (fun W => rvalue_any s[k] W)
        have HV2 := hide (fun W => rvalue_any s[k + 1] W)
        have hn1 := nib_le s[k]
        have hn2 := nib_le s[k + 1]
        obtain ⟨x, hx⟩ : ∃ x, x = nib s[k] := ⟨_, rfl⟩
        obtain ⟨y, hy⟩ : ∃ y, y = nib s[k + 1] := ⟨_, rfl⟩
        rw [← hx] at hp HV1 hn1
        rw [← hy] at hp HV2 hn2
        have hx0 : (0 : Int) ≤ (x : Int) := Int.natCast_nonneg _
        have hy0 : (0 : Int) ≤ (y : Int) := Int.natCast_nonneg _
        clear hdrop hx hy HP
        by_cases hxx : x < 16
        · have hxi : (x : Int) ≤ 15 := by omega
          by_cases hyy : y < 16
          · have hyi : (y : Int) ≤ 15 := by omega
            rw [if_pos ⟨hxx, hyy⟩] at hp
            have hp2 : pairF s = (pairF (s.drop (k + 2))).map ((d ++ [((16 * x + y : Nat) : Int)]) ++ ·) := by
              rw [hp]; cases pairF (s.drop (k + 2)) <;> simp
            have HP2 := hide hp2
            have hm0 : (0 : Int) ≤ 16 * (x : Int) + (y : Int) := by omega
            have hm1 : 16 * (x : Int) + (y : Int) < 256 := by omega
            have hbv : bV (d ++ [((16 * x + y : Nat) : Int)]) = bV d ++ [.int .u8 (16 * (x : Int) + (y : Int))] := by
              rw [bV_append]; simp [bV]
            have HBV := Lib.hid hbv
            have HKD := Lib.hid hkd
            have hd6 : d.length ≤ 100000 := by omega
            clear hp hp2 hbv hkd hn1 hn2 hodd
            go_wp2_with (first
              | ((with_reducible refine (HV1.out _).mono ?_); rintro e w1 ⟨rfl, rfl⟩)
              | ((with_reducible refine (HV2.out _).mono ?_); rintro e w1 ⟨rfl, rfl⟩)
              | (at_builtin
                 refine wpList_append_lies _ rfl (.tmp 37) (.tmp 43) _ rfl w.heap.size 5 iu _ 1 1 Tryz.underlying22 hu0 hu1 hu2 hu3 rfl (by omega) _ d.length _ rfl (HO.out.alloc _)
                   ⟨wr.heap.size, 0, none⟩ 1 1 [.int .u8 (16 * (x : Int) + (y : Int))] rfl rfl (World.news_of_block (cs := #[.int .u8 (16 * (x : Int) + (y : Int))]) (t := 5) (fr := (0, 0)) (heap_alloc_new wr _)) (by simp [Value.oneCell'])
                   (by omega) (by simp only [maxLen]; omega) (by omega) (by simp; omega) _ rfl ?_
                 intro g7 cap7 w7 hown7 hgrow7 hat7 hltg7
                 have hb7 : Below w.heap.size w w7 := (HB.out.alloc HB.out.size _).grown hgrow7 (by simp; omega) (fun x hx => (HO.out.lt x hx).1)
                 have Q7 := hide hown7
                 have R7 := hide hb7
                 clear hown7 hgrow7 hat7 hb7))
            go_roundw
            case rel => exact ⟨d ++ [((16 * x + y : Nat) : Int)], k + 2, by go_num, by have := HKD.out; simp; omega, by omega, HP2, hide (by rw [HBV.out, List.length_append]; exact Q7.out), R7⟩
            case measure => simp [intOf]; omega
          · have hyi : (15 : Int) < (y : Int) := by omega
            rw [if_neg (fun h => hyy h.2)] at hp
            have HNO : Hid (pairF s = none) := Lib.hid hp
            clear hp hn1 hn2 hodd hkd
            go_wp2_with (first
              | ((with_reducible refine (HV1.out _).mono ?_); rintro e w1 ⟨rfl, rfl⟩)
              | ((with_reducible refine (HV2.out _).mono ?_); rintro e w1 ⟨rfl, rfl⟩))
            go_ret2
            exact ⟨none, 0, by rw [HNO.out]; rfl, by rw [HNO.out]; exact Reads.none_, HB.out⟩
        · have hxi : (15 : Int) < (x : Int) := by omega
          rw [if_neg (fun h => hxx h.1)] at hp
          have HNO : Hid (pairF s = none) := Lib.hid hp
          clear hp hn1 hn2 hodd hkd
          go_wp2_with (first
            | ((with_reducible refine (HV1.out _).mono ?_); rintro e w1 ⟨rfl, rfl⟩)
            | ((with_reducible refine (HV2.out _).mono ?_); rintro e w1 ⟨rfl, rfl⟩))
          go_ret2
          exact ⟨none, 0, by rw [HNO.out]; rfl, by rw [HNO.out]; exact Reads.none_, HB.out⟩
      · have hkk : k = s.length := by omega
        have hp := HP.out
        rw [hkk, List.drop_length] at hp
        have hp2 : pairF s = some d := by rw [hp]; simp [pairF]
        have HP2 := Lib.hid hp2
        have hgei : ¬ (k : Int) < (s.length : Int) := by omega
        obtain ⟨A, c, hA⟩ : ∃ A c, u4 = .slice A d.length c := by
          rcases HO.out.2 with ⟨h1, h2⟩ | ⟨g, cap, cur, h1, _⟩
          · exact ⟨none, 0, by rw [h1, h2]⟩
          · exact ⟨_, _, h1⟩
        subst hA
        clear hp hp2 HP hkk hlt hkd hodd
        go_wp2
        go_ret2
        exact ⟨A, ⟨c, by rw [HP2.out]; rfl⟩, by rw [HP2.out]; exact Reads.of_own HO.out, HB.out⟩
end Go.Proofs.YtakocncckglboaaGreatDoor
