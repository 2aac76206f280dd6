/- cmp.Or; the reference's Compare. -/
import Derived.Test.YtgegloplhlkafaaDoorPfxG
import Derived.Test.YtgegloplhlkafaaDoorPfxCA
set_option autoImplicit false
namespace Go.Proofs.YtgegloplhlkafaaDoor
open Go.RowKit

def firstF : List Int → Int
  | [] => 0
  | x :: r => orF x (firstF r)
theorem firstF_zero : ∀ (l : List Int), (∀ x ∈ l, x = 0) → firstF l = 0
  | [], _ => rfl
  | x :: r, h => by rw [firstF, h x (by simp), firstF_zero r (fun y hy => h y (by simp [hy]))]; rfl
theorem firstF_at : ∀ (l : List Int) (k : Nat) (x : Int), l[k]? = some x → x ≠ 0 → (∀ t : Nat, t < k → ∀ y, l[t]? = some y → y = 0) → firstF l = x
  | z :: r, 0, x, h, hx, _ => by
    have : z = x := by simpa using h
    subst this
    simp [firstF, orF, hx]
  | z :: r, k + 1, x, h, hx, hz => by
    have hz0 : z = 0 := hz 0 (by omega) z rfl
    subst hz0
    rw [firstF, firstF_at r k x (by simpa using h) hx (fun t ht y hy => hz (t + 1) (by omega) y (by simpa using hy))]
    simp [orF]
  | [], k, x, h, _, _ => by simp at h

set_option maxHeartbeats 1000000 in
theorem or_any (w : World) (A : Option Addr) (l : List Int) (c : Nat) (hl : l.length ≤ 1000) (hr : Reads w w.heap.size 1 A l.length (l.map (Value.int .i64))) :
    Calls Tryd.prog 41 #[.slice A l.length c] w (RetI (firstF l) w) := by
  have HR := hide hr
  clear hr
  go_enter Tryd.func41, Tryd.ntmps41
  go_wp2
  go_loop [8] (fun i => ∃ k : Nat, k ≤ l.length ∧ i = .int .i64 k ∧ ∀ t : Nat, t < k → ∀ y, l[t]? = some y → y = 0) (fun i => l.length - (intOf i).toNat)
  case atStart => exact ⟨0, by omega, rfl, fun t h => by omega⟩
  case round =>
    obtain ⟨k, hk, rfl, hz⟩ := hrel
    have HZ := hide hz
    have hk0 : (0 : Int) ≤ (k : Int) := Int.natCast_nonneg _
    clear hz
    by_cases hlt : k < l.length
    · obtain ⟨ad, u, rfl, had, hu, hc⟩ := Reads.at_ (k := k) HR.out hlt
      have hu' : u = .int .i64 l[k] := by
        rw [List.getElem?_map, List.getElem?_eq_getElem hlt] at hu
        simpa using hu.symm
      subst hu'
      have hlk : l[k]? = some l[k] := List.getElem?_eq_getElem hlt
      have HK := Lib.hid hlk
      have hlt' : (k : Int) < (l.length : Int) := by omega
      by_cases hx : l[k] = 0
      · have ht : (l[k] != 0) = false := by simp [hx]
        have HX := Lib.hid hx
        clear hx hlk hu
        generalize l[k] = x at *
        go_wp2
        go_roundw
        case rel => exact ⟨k + 1, by omega, by go_num, fun t h1 y hy => by
          by_cases e : t = k
          · subst e; rw [HK.out] at hy; injection hy with hy; rw [← hy]; exact HX.out
          · exact HZ.out t (by omega) y hy⟩
        case measure => simp [intOf]; omega
      · have ht : (l[k] != 0) = true := by simpa using hx
        have hres := firstF_at l k l[k] hlk hx HZ.out
        have HRES := Lib.hid hres
        clear hx hlk hu hres
        generalize l[k] = x at *
        go_wp2
        go_ret
        exact ⟨by rw [HRES.out]; rfl, rfl⟩
    · have hres : firstF l = 0 := firstF_zero l fun x hx => by
        obtain ⟨i, hi, rfl⟩ := List.getElem_of_mem hx
        exact HZ.out i (by omega) _ (List.getElem?_eq_getElem hi)
      have HRES := Lib.hid hres
      clear hres
      go_wp2
      go_ret
      exact ⟨by rw [HRES.out]; rfl, rfl⟩
end Go.Proofs.YtgegloplhlkafaaDoor
