/- Comparing: numbers (cmp.Compare, the reference's order), bytes (bytes.Compare: the model's entry), the first that is not zero (cmp.Or). -/
import Derived.Test.YtgegloplhlkafaaDoorPfxO
import Derived.Test.YtgegloplhlkafaaDoorOrdL
import Derived.Lib.BytesEntry
set_option autoImplicit false
namespace Go.Proofs.YtgegloplhlkafaaDoor
open Go.RowKit

theorem u8_lt (x y : Int) (hx : 0 ≤ x ∧ x < 256) (hy : 0 ≤ y ∧ y < 256) : (x.toNat.toUInt8 < y.toNat.toUInt8) ↔ x < y := by
  rw [UInt8.lt_iff_toNat_lt]
  simp only [Nat.toUInt8, UInt8.toNat_ofNat', Nat.reducePow]
  omega
theorem cmpB_lex : ∀ (a b : List Int), Bs a → Bs b → Lib.compareBytes (Lib.bytesOf a) (Lib.bytesOf b) = lexC a b
  | [], [], _, _ => rfl
  | [], _ :: _, _, _ => rfl
  | _ :: _, [], _, _ => rfl
  | x :: a, y :: b, ha, hb => by
    have hx := ha x (by simp)
    have hy := hb y (by simp)
    have ih := cmpB_lex a b (fun z hz => ha z (by simp [hz])) (fun z hz => hb z (by simp [hz]))
    show Lib.compareBytes (x.toNat.toUInt8 :: Lib.bytesOf a) (y.toNat.toUInt8 :: Lib.bytesOf b) = _
    unfold Lib.compareBytes lexC
    simp only [u8_lt x y hx hy, u8_lt y x hy hx, ih]
    by_cases h : x = y
    · subst h; simp
    · rw [if_neg h]; unfold cmpI
      by_cases h1 : x < y
      · simp [h1]
      · have : y < x := by omega
        simp [h1, this]
theorem run_cmp (w : World) (pa pb : Addr) (a b : List Int) (ca cb : Nat) (ha : Bs a) (hb : Bs b) (hca : ∀ j x, a[j]? = some x → w.cell? (pa.add j) = some (.int .u8 x)) (hcb : ∀ j x, b[j]? = some x → w.cell? (pb.add j) = some (.int .u8 x)) :
    (Extern.BytealgCompare.compare #[.slice (some pa) a.length ca, .slice (some pb) b.length cb]).run Tryd.prog w = .ok (.int .i64 (lexC a b)) w := by
  change Sem.run Tryd.prog (do pure (goInt (Extern.BytealgCompare.cmp (← Extern.Bytes.bytesOf (.slice (some pa) a.length ca)) (← Extern.Bytes.bytesOf (.slice (some pb) b.length cb))))) w = _
  simp only [Extern.Bytes.bytesOf, Sem.run_bind, Sem.run_pure, Result.andThen, Lib.run_loadBytesX w a pa _ hca, Lib.run_loadBytesX w b pb _ hcb]
  rw [Lib.cmp_eq]
  simp only [ByteArray.data_empty, Array.empty_append]
  have : Lib.compareBytes (Lib.bytesOf a).toArray.toList (Lib.bytesOf b).toArray.toList = lexC a b := by simpa using cmpB_lex a b ha hb
  rw [this]; rfl

theorem isnan_any (x : Int) (w : World) : Calls Tryd.prog 60 #[.int .i64 x] w (RetB false w) := by
  have h : (x != x) = false := by simp
  go_enter Tryd.func60, Tryd.ntmps60
  go_wp2
  go_ret
  exact ⟨rfl, rfl⟩
theorem cmpint_any (x y : Int) (w : World) : Calls Tryd.prog 42 #[.int .i64 x, .int .i64 y] w (RetI (cmpI x y) w) := by
  have HN := hide isnan_any
  by_cases h1 : x < y
  · have e : cmpI x y = -1 := by simp [cmpI, h1]
    rw [e]
    go_enter Tryd.func42, Tryd.ntmps42
    go_wp2_with (go_at_call 60; refine (HN.out _ _).mono ?_; rintro e w1 ⟨rfl, rfl⟩)
    go_ret
    exact ⟨rfl, rfl⟩
  · by_cases h2 : y < x
    · have e : cmpI x y = 1 := by simp [cmpI, h1, h2]
      rw [e]
      go_enter Tryd.func42, Tryd.ntmps42
      go_wp2_with (go_at_call 60; refine (HN.out _ _).mono ?_; rintro e w1 ⟨rfl, rfl⟩)
      go_ret
      exact ⟨rfl, rfl⟩
    · have e : cmpI x y = 0 := by simp [cmpI, h1, h2]
      rw [e]
      go_enter Tryd.func42, Tryd.ntmps42
      go_wp2_with (go_at_call 60; refine (HN.out _ _).mono ?_; rintro e w1 ⟨rfl, rfl⟩)
      go_ret
      exact ⟨rfl, rfl⟩
theorem order_any (x y : Int) (w : World) : Calls Tryd.prog 44 #[.int .i64 x, .int .i64 y] w (RetI (cmpI x y) w) := by
  by_cases h1 : x < y
  · have e : cmpI x y = -1 := by simp [cmpI, h1]
    rw [e]
    go_enter Tryd.func44, Tryd.ntmps44
    go_wp2
    go_ret
    exact ⟨rfl, rfl⟩
  · by_cases h2 : y < x
    · have e : cmpI x y = 1 := by simp [cmpI, h1, h2]
      rw [e]
      go_enter Tryd.func44, Tryd.ntmps44
      go_wp2
      go_ret
      exact ⟨rfl, rfl⟩
    · have e : cmpI x y = 0 := by simp [cmpI, h1, h2]
      rw [e]
      go_enter Tryd.func44, Tryd.ntmps44
      go_wp2
      go_ret
      exact ⟨rfl, rfl⟩

theorem bytescmp_any (w : World) (pa pb : Addr) (a b : List Int) (ca cb : Nat) (ha : Bs a) (hb : Bs b) (hca : ∀ j x, a[j]? = some x → w.cell? (pa.add j) = some (.int .u8 x)) (hcb : ∀ j x, b[j]? = some x → w.cell? (pb.add j) = some (.int .u8 x)) :
    Calls Tryd.prog 43 #[.slice (some pa) a.length ca, .slice (some pb) b.length cb] w (RetI (lexC a b) w) := by
  have hr := run_cmp w pa pb a b ca cb ha hb hca hcb
  have hd : (callFunc 61 #[.slice (some pa) a.length ca, .slice (some pb) b.length cb]).run Tryd.prog w = .ok (.value (.int .i64 (lexC a b))) w := by
    rw [run_callFunc_extern Tryd.func61 (by kernel_rfl) (by kernel_rfl) (by kernel_rfl) (e := Extern.BytealgCompare.compare) (by kernel_rfl), hr]
    rfl
  clear hr hca hcb
  go_enter Tryd.func43, Tryd.ntmps43
  go_wp2
  go_ret
  exact ⟨rfl, rfl⟩
end Go.Proofs.YtgegloplhlkafaaDoor
