/- script.Hex, script.value, script.Bytes. -/
import Derived.Test.YtakocncckglboaaGreatDoorHexC
import Derived.Test.YtakocncckglboaaGreatDoorShelfH
import Derived.Deep.LoopGhost
import Derived.WalkMore
import Derived.Laws.Runes
import Derived.Laws.RangeAny
set_option autoImplicit false
namespace Go.Proofs.YtakocncckglboaaGreatDoor
open Go.RowKit

theorem digit_at (d : Nat) (h : d < 16) : (ByteArray.mk #[48, 49, 50, 51, 52, 53, 54, 55, 56, 57, 97, 98, 99, 100, 101, 102])[d]'(by show d < 16; omega) = hx d := by
  rcases d with _ | _ | _ | _ | _ | _ | _ | _ | _ | _ | _ | _ | _ | _ | _ | _ | d
  all_goals first | rfl | omega
theorem byteCells_snoc (l : List UInt8) (c : UInt8) : Lib.byteCells (l ++ [c]) = Lib.byteCells l ++ [.int .u8 c.toNat] := by simp [Lib.byteCells]

set_option maxHeartbeats 4000000 in
set_option maxRecDepth 100000 in
theorem hex_any (A : Option Addr) (c : Nat) (l : List Int) (w : World) (h : Byts w w.heap.size A l) (hb : Bs l) (hn : l.length ≤ 100000) :
    Calls Tryz.prog 5 #[.slice A l.length c] w fun e w' => e = .returned (.string (strB (hexL l))) ∧ Below w.heap.size w w' := by
  have HB := hide hb
  have HR := hide h
  clear hb h
  have hb0 : Below w.heap.size w (w.alloc (.cells #[.pointer none, .slice none 0 0] 32)) := (Below.refl _ _).alloc (Nat.le_refl _) _
  have hi0 : Lib.IsBuilder 32 5 w.heap.size w.heap.size (Lib.byteCells (hexL (l.take 0))) (w.alloc (.cells #[.pointer none, .slice none 0 0] 32)) :=
    .inl ⟨Nat.le_refl _, .slice none 0 0, heap_alloc_new _ _, World.ownsRow_nil _ _ _ _, by simp [Value.ownBlock]⟩
  have HB0 := hide hb0
  have HI0 := hide hi0
  clear hb0 hi0
  go_enter Tryz.func5, Tryz.ntmps5
  go_wp2
  go_loopw [8] (fun iv wr => ∃ k : Nat, iv = .int .i64 k ∧ k ≤ l.length ∧ Hid (Lib.IsBuilder 32 5 w.heap.size w.heap.size (Lib.byteCells (hexL (l.take k))) wr) ∧ Hid (Below w.heap.size w wr)) (fun i _ => l.length - (intOf i).toNat)
  case atStart => exact ⟨0, rfl, Nat.zero_le _, HI0, HB0⟩
  case round =>
    obtain ⟨k, rfl, hk, HI, HBE⟩ := hrel
    have hk0 : (0 : Int) ≤ (k : Int) := Int.natCast_nonneg _
    have hbz := HBE.out.size
    by_cases hlt : k < l.length
    · obtain ⟨ad, uu, rfl, had, hx1, hc⟩ := (HR.out.below HBE.out).at_ hlt
      obtain ⟨x, hx2, rfl⟩ : ∃ x, l[k]? = some x ∧ uu = .int .u8 x := by
        simp only [bV, List.getElem?_map, List.getElem?_eq_getElem hlt, Option.map_some, Option.some.injEq] at hx1
        exact ⟨l[k], List.getElem?_eq_getElem hlt, hx1.symm⟩
      have hx3 : l[k] = x := by rw [List.getElem?_eq_getElem hlt] at hx2; injection hx2
      have hxb := HB.out.get hlt
      have htk := hexL_take l k hlt
      rw [hx3] at hxb htk
      obtain ⟨n, rfl⟩ : ∃ n : Nat, x = (n : Int) := ⟨x.toNat, by omega⟩
      rw [Int.toNat_natCast] at htk
      have hn256 : n < 256 := by omega
      have ht1 := digit_at (n / 16) (by omega)
      have ht2 := digit_at (n % 16) (by omega)
      have hln : (hexL (l.take k)).length ≤ 200000 := by rw [hexL_len, List.length_take]; omega
      have hand : bits .and .u8 (n : Int) 15 = (n : Int) % 16 := by
        have key : ∀ m : Fin 256, bits .and .u8 ((m.1 : Nat) : Int) 15 = ((m.1 : Nat) : Int) % 16 := by decide +kernel
        exact key ⟨n, hn256⟩
      have f1 : ((n : Int) / 16).toNat = n / 16 := by omega
      have f3 : ((n : Int) % 16).toNat = n % 16 := by omega
      have g1 : (0 : Int) ≤ (n : Int) / 16 := by omega
      have g2 : (n : Int) / 16 < 16 := by omega
      have g3 : (0 : Int) ≤ (n : Int) % 16 := by omega
      have g4 : (n : Int) % 16 < 16 := by omega
      have hadw : ad.block < wr.heap.size := by omega
      have HTK := Lib.hid htk
      have hl1 : (Lib.byteCells (hexL (l.take k))).length ≤ 200000 := by rw [Lib.byteCells_length]; exact hln
      clear hx1 hx2 hx3 htk had hln
      go_wp2_with (first
        | (go_at_call 11; with_reducible refine (wbyte_any w.heap.size w.heap.size _ _ wr HI.out (by omega) hbz).mono ?_; rintro e w1 ⟨rfl, ha1, hb1⟩
           have hbw1 := HBE.out.trans hb1
           have hz1 := hbw1.size
           have A1 : Hid (Lib.IsBuilder 32 5 w.heap.size w.heap.size (Lib.byteCells (hexL (l.take k)) ++ [.int .u8 (hx (n / 16)).toNat]) w1) := hide (.inr ha1)
           have B1 := hide hbw1
           clear ha1 hb1 hbw1)
        | (go_at_call 11; with_reducible refine (wbyte_any w.heap.size w.heap.size _ _ w1 A1.out (by simp only [List.length_append, List.length_cons, List.length_nil]; omega) hz1).mono ?_; rintro e w2 ⟨rfl, ha2, hb2⟩
           have hbw2 := B1.out.trans hb2
           have A2 := hide ha2
           have B2 := hide hbw2
           clear ha2 hb2 hbw2))
      go_roundw
      case rel => exact ⟨k + 1, by go_num, by omega, hide (.inr (by rw [HTK.out, byteCells_snoc, byteCells_snoc]; exact A2.out)), B2⟩
      case measure => simp [intOf]; omega
    · have hkk : k = l.length := by omega
      subst hkk
      have hI := HI.out
      rw [List.take_length] at hI
      have HS := hide (Tryz.Builder_String_any w.heap.size w.heap.size (hexL l) wr hI hbz)
      clear hI
      go_wp2_with (go_at_call 12; refine HS.out.mono ?_; rintro e w1 ⟨rfl, hb1⟩)
      go_ret
      exact ⟨rfl, HBE.out.trans hb1⟩
theorem nib_idx (c : UInt8) (h : c.toNat ≤ 102) : (nib c < 16 ∧ Lib.indexByte [48, 49, 50, 51, 52, 53, 54, 55, 56, 57, 97, 98, 99, 100, 101, 102] c = (nib c : Int)) ∨ (nib c = 16 ∧ Lib.indexByte [48, 49, 50, 51, 52, 53, 54, 55, 56, 57, 97, 98, 99, 100, 101, 102] c = -1) := by
  have key : ∀ m : Fin 103, (nib (UInt8.ofNat m.1) < 16 ∧ Lib.indexByte [48, 49, 50, 51, 52, 53, 54, 55, 56, 57, 97, 98, 99, 100, 101, 102] (UInt8.ofNat m.1) = (nib (UInt8.ofNat m.1) : Int)) ∨ (nib (UInt8.ofNat m.1) = 16 ∧ Lib.indexByte [48, 49, 50, 51, 52, 53, 54, 55, 56, 57, 97, 98, 99, 100, 101, 102] (UInt8.ofNat m.1) = -1) := by decide +kernel
  have h2 := key ⟨c.toNat, by omega⟩
  rw [show UInt8.ofNat c.toNat = c by simp] at h2
  exact h2
/-- script.value at a rune: the digit, or a number below 0. -/
theorem value_low (c : UInt8) (w : World) (h : c.toNat ≤ 102) : Calls Tryz.prog 13 #[.int .i32 c.toNat] w fun e w' => (∃ v : Int, e = .returned (.int .i64 v) ∧ ((nib c < 16 ∧ v = (nib c : Int)) ∨ (nib c = 16 ∧ v < 0))) ∧ w' = w := by
  have hI := fun W => Tryz.strings_IndexByte ⟨#[48, 49, 50, 51, 52, 53, 54, 55, 56, 57, 97, 98, 99, 100, 101, 102]⟩ (c.toNat : Int) W
  have hx := nib_idx c h
  have e : (c.toNat : Int).toNat.toUInt8 = c := by simp
  have hw : IntKind.u8.wrap (c.toNat : Int) = (c.toNat : Int) := by rw [IntKind.wrap_u8]; omega
  have hle : ¬ (102 : Int) < (c.toNat : Int) := by omega
  rw [e] at hI
  have hl : (⟨#[48, 49, 50, 51, 52, 53, 54, 55, 56, 57, 97, 98, 99, 100, 101, 102]⟩ : ByteArray).data.toList = [48, 49, 50, 51, 52, 53, 54, 55, 56, 57, 97, 98, 99, 100, 101, 102] := rfl
  rw [hl] at hI
  obtain ⟨v, hv⟩ : ∃ v, v = Lib.indexByte [48, 49, 50, 51, 52, 53, 54, 55, 56, 57, 97, 98, 99, 100, 101, 102] c := ⟨_, rfl⟩
  rw [← hv] at hI hx
  have HI := hide hI
  clear hI hv e hl h
  generalize (c.toNat : Int) = x at *
  go_enter Tryz.func13, Tryz.ntmps13
  go_wp2_with (go_at_call 22; refine (HI.out _).mono ?_; rintro e w1 ⟨rfl, rfl⟩)
  go_ret
  refine ⟨⟨v, rfl, ?_⟩, rfl⟩
  rcases hx with ⟨h1, h2⟩ | ⟨h1, h2⟩
  · exact .inl ⟨h1, h2⟩
  · exact .inr ⟨h1, by omega⟩
theorem value_high (r : Int) (w : World) (h : 102 < r) : Calls Tryz.prog 13 #[.int .i32 r] w fun e w' => (∃ v : Int, e = .returned (.int .i64 v) ∧ v < 0) ∧ w' = w := by
  go_enter Tryz.func13, Tryz.ntmps13
  go_wp2
  go_ret
  exact ⟨⟨-1, rfl, by decide⟩, rfl⟩
end Go.Proofs.YtakocncckglboaaGreatDoor
