/- peerageref02.Parse: what it returns. -/
import Derived.Test.YtgegloplhlkafaaDoorPfxZF
set_option autoImplicit false
namespace Go.Proofs.YtgegloplhlkafaaDoor
open Go.RowKit Go.Sort Go.Shelf

/-- A row of strings that a call laid. -/
def RowT (l : List (List UInt8)) (A : Option Addr) (_c : Nat) (W : World) : Prop := ∃ g, A = some ⟨g, 0, none⟩ ∧ g < W.heap.size ∧ ∀ j (h : j < l.length), W.cell? ⟨g, j, none⟩ = some (.string (strB l[j]))
def RowD (d : List Int) (A : Option Addr) (_c : Nat) (W : World) : Prop := Byts W W.heap.size A d
theorem rowT_own {w W : World} {v : Value} {l : List (List UInt8)} (h : W.ownsRow w.heap.size 9 1 v l.length (strV l)) (h0 : l ≠ []) : ∃ A c, v = .slice A l.length c ∧ RowT l A c W := by
  obtain ⟨g, cap, rfl, hg0, hg1⟩ := h.form (List.length_pos_iff.2 h0)
  exact ⟨_, _, rfl, g, rfl, hg1, fun j hj => by rw [h.cellAt j (by omega), strV, List.getElem?_map, List.getElem?_eq_getElem hj]; rfl⟩
theorem rowD_own {w W : World} {v : Value} {d : List Int} (h : W.ownsRow w.heap.size 5 1 v d.length (bV d)) : ∃ A c, v = .slice A d.length c ∧ RowD d A c W := by
  obtain ⟨A, c, rfl, _⟩ := slice_of_own h
  exact ⟨A, c, rfl, Reads.of_own h⟩
theorem split_row (l0 : List UInt8) (b : UInt8) (hl : l0.length ≤ 100000) (W : World) :
    Calls Tryd.prog 50 #[.string (strB l0), .int .u8 b.toNat] W fun e w' => ∃ A c, e = .returned (.slice A (cutB b l0).length c) ∧ RowT (cutB b l0) A c w' ∧ Below W.heap.size W w' :=
  (rsplit_any l0 b W hl).mono fun e w' ⟨v, h1, h2, h3⟩ => by
    obtain ⟨A, c, rfl, hr⟩ := rowT_own h2 (cutB_ne b l0)
    exact ⟨A, c, h1, hr, h3⟩
theorem addr16_row (l : List (List UInt8)) (A : Option Addr) (c : Nat) (W : World) (h : RowT l A c W) (hn : l.length ≤ 10000) (hx : ∀ x ∈ l, x.length ≤ 10000) :
    Calls Tryd.prog 51 #[.slice A l.length c, .int .i64 16, .int .i64 65535] W fun e w' => ∃ A' c', e = .returned (.tuple #[.slice A' (adB (addrF 16 65535 l)).length c', .bool (addrF 16 65535 l).isSome]) ∧ RowD (adB (addrF 16 65535 l)) A' c' w' ∧ Below W.heap.size W w' := by
  obtain ⟨g, rfl, hg, hc⟩ := h
  exact (addr16_any l g c W hg hc hn hx).mono fun e w' ⟨v, h1, h2, h3⟩ => by
    obtain ⟨A, c, rfl, hr⟩ := rowD_own h2
    exact ⟨A, c, h1, hr, h3⟩
theorem addr10_row (l : List (List UInt8)) (A : Option Addr) (c : Nat) (W : World) (h : RowT l A c W) (hn : l.length ≤ 10000) (hx : ∀ x ∈ l, x.length ≤ 10000) :
    Calls Tryd.prog 51 #[.slice A l.length c, .int .i64 10, .int .i64 255] W fun e w' => ∃ A' c', e = .returned (.tuple #[.slice A' (adB (addrF 10 255 l)).length c', .bool (addrF 10 255 l).isSome]) ∧ RowD (adB (addrF 10 255 l)) A' c' w' ∧ Below W.heap.size W w' := by
  obtain ⟨g, rfl, hg, hc⟩ := h
  exact (addr10_any l g c W hg hc hn hx).mono fun e w' ⟨v, h1, h2, h3⟩ => by
    obtain ⟨A, c, rfl, hr⟩ := rowD_own h2
    exact ⟨A, c, h1, hr, h3⟩
theorem rowD_below {d : List Int} (A : Option Addr) (c : Nat) (W W' : World) (h : RowD d A c W) (hb : Below W.heap.size W W') : RowD d A c W' := by
  have h' : Byts W W.heap.size A d := h
  refine ⟨h'.1, fun h0 => ?_⟩
  obtain ⟨ad, e, hx, hc⟩ := h'.2 h0
  have hz := hb.size
  exact ⟨ad, e, by omega, fun j u hu => (hb.cell (p := ad.add j) (by rw [block_of_add]; exact hx)).trans (hc j u hu)⟩
theorem rparse_any (s : List UInt8) (w : World) (hl : s.length ≤ 5000) :
    Calls Tryd.prog 23 #[.string (strB s)] w fun e w' => e = .returned (.tuple #[.agg (pvT ((parR s).getD ZP)).toArray, .bool (parR s).isSome]) ∧ Below w.heap.size w w' := by
  have hno : guessR s = none → (parR s).getD ZP = ZP ∧ (parR s).isSome = false := fun h => by unfold parR; rw [h]; exact ⟨rfl, rfl⟩
  have KS := split_row s 47 (by omega)
  have h47 : ((47 : UInt8).toNat : Int) = 47 := rfl
  have h46 : ((46 : UInt8).toNat : Int) = 46 := rfl
  have h58 : ((58 : UInt8).toNat : Int) = 58 := rfl
  by_cases h2 : (cutB 47 s).length = 2
  · obtain ⟨l0, l1, hc⟩ : ∃ l0 l1, cutB 47 s = [l0, l1] := by
      match cutB 47 s, h2 with
      | [a, b], _ => exact ⟨a, b, rfl⟩
    have hp0 := cutB_piece 47 s l0 (by rw [hc]; simp)
    have hp1 := cutB_piece 47 s l1 (by rw [hc]; simp)
    have hlen58 := cutB_len 58 l0
    have hlen46 := cutB_len 46 l0
    have hpc58 : ∀ x ∈ cutB 58 l0, x.length ≤ 10000 := fun x hx => by have := cutB_piece 58 l0 x hx; omega
    have hpc46 : ∀ x ∈ cutB 46 l0, x.length ≤ 10000 := fun x hx => by have := cutB_piece 46 l0 x hx; omega
    rw [hc] at KS
    have KS1 : ∀ W, Below w.heap.size w W → Calls Tryd.prog 50 #[.string (strB s), .int .u8 47] W fun e w' => ∃ g c, e = .returned (.slice (some ⟨g, 0, none⟩) 2 c) ∧ w'.cell? ⟨g, 0, none⟩ = some (.string (strB l0)) ∧ w'.cell? ⟨g, 1, none⟩ = some (.string (strB l1)) ∧ Below W.heap.size W w' := fun W _ =>
      (KS W).mono fun e w' ⟨A, c, h1, ⟨g, hA, _, hcell⟩, h3⟩ => by subst hA; exact ⟨g, c, h1, hcell 0 (by simp), hcell 1 (by simp), h3⟩
    have KS2 := split_row l0 46 (by omega)
    have KS3 := split_row l0 58 (by omega)
    have KN := fun W => number_any l1 10 128 W (by omega) (by omega) (by omega) (by omega)
    have KA1 : ∀ v W, (∃ A c, v = .slice A (cutB 46 l0).length c ∧ RowT (cutB 46 l0) A c W) → Calls Tryd.prog 51 #[v, .int .i64 10, .int .i64 255] W fun e w' => ∃ A' c', e = .returned (.tuple #[.slice A' (adB (addrF 10 255 (cutB 46 l0))).length c', .bool (addrF 10 255 (cutB 46 l0)).isSome]) ∧ RowD (adB (addrF 10 255 (cutB 46 l0))) A' c' w' ∧ Below W.heap.size W w' := fun v W h => by
      obtain ⟨A, c, rfl, hr⟩ := h
      exact addr10_row _ A c W hr (by omega) hpc46
    have KS2' : ∀ W, Calls Tryd.prog 50 #[.string (strB l0), .int .u8 46] W fun e w' => ∃ v, e = .returned v ∧ (∃ A c, v = .slice A (cutB 46 l0).length c ∧ RowT (cutB 46 l0) A c w') ∧ Below W.heap.size W w' := fun W =>
      (KS2 W).mono fun e w' ⟨A, c, h1, h2, h3⟩ => ⟨_, h1, ⟨A, c, rfl, h2⟩, h3⟩
    have KA2 : ∀ A c W, RowT (cutB 58 l0) A c W → Calls Tryd.prog 51 #[.slice A (cutB 58 l0).length c, .int .i64 16, .int .i64 65535] W fun e w' => ∃ A' c', e = .returned (.tuple #[.slice A' (adB (addrF 16 65535 (cutB 58 l0))).length c', .bool (addrF 16 65535 (cutB 58 l0)).isSome]) ∧ RowD (adB (addrF 16 65535 (cutB 58 l0))) A' c' w' ∧ Below W.heap.size W w' := fun A c W h => addr16_row _ A c W h (by omega) hpc58
    have hg : guessR s = (match bsR l0 with
      | some b => match numR 10 128 l1 with
        | some n => if famR l0 = 1 ∧ b.length ≠ 4 then none else some (mkP (famR l0) n b)
        | none => none
      | none => none) := by unfold guessR; rw [hc]; rfl
    have hneg : numR 10 128 l1 = none → numV (numR 10 128 l1) < 0 := fun h => by rw [h]; decide
    by_cases h8 : (cutB 58 l0).length = 8
    · have hbs : bsR l0 = addrF 16 65535 (cutB 58 l0) := by unfold bsR; rw [if_pos h8]
      have hfm : famR l0 = 2 := by unfold famR; rw [if_pos h8]
      rw [hbs, hfm] at hg
      by_cases hbad : (addrF 16 65535 (cutB 58 l0)).isSome = false ∨ numV (numR 10 128 l1) < 0
      · have : guessR s = none := by
          rw [hg]
          rcases hbad with h | h
          · cases ha : addrF 16 65535 (cutB 58 l0) with
            | none => rfl
            | some x => rw [ha] at h; cases h
          · cases ha : addrF 16 65535 (cutB 58 l0) with
            | none => rfl
            | some x =>
              cases hn : numR 10 128 l1 with
              | none => rfl
              | some n => rw [hn] at h; exact absurd h (by show ¬ ((n : Int) < 0); omega)
        rw [(hno this).1, (hno this).2]
        exact rparse_col_no (strB s) (strB l0) (strB l1) _ _ _ _ _ _ w _ _ _ _ h8 hbad KS1 KS2' KA1 KS3 KA2 KN
      · cases ha : addrF 16 65535 (cutB 58 l0) with
        | none => rw [ha] at hbad; exact absurd (.inl rfl) hbad
        | some d =>
          cases hn : numR 10 128 l1 with
          | none => exact absurd (.inr (hneg hn)) hbad
          | some n =>
            rw [ha, hn] at hg
            simp only [] at hg
            rw [if_neg (by omega)] at hg
            have hwf := guessR_wf s _ hg
            have hbd := addrF_bs 16 65535 (by omega) _ d ha
            have hnle := numR_le 10 128 l1 n hn
            rw [ha] at KA2
            rw [hn] at KN
            refine rparse_col (strB s) (strB l0) (strB l1) _ _ _ _ (strB (textP (mkP 2 n d))) (mkOk 2 n d) (vT (mkP 2 n d)) _ (mkP 2 n d) _ w _ _ _ _ hwf.1 _ _ rfl h8 (by show (0 : Int) ≤ (n : Int); omega) KS1 KS2' KA1 KS3 KA2 KN ?_ (fun W => rtext_any _ hwf.1 hwf.2 W) (fun W => rvalid_any _ _ _ hwf.1 hwf.2 W) ?_ ?_
            · intro A c W h
              exact rmake_any 2 n A c d W h hbd.1 (by have := hbd.2; omega) (by omega) (by omega)
            · intro h1 h2
              have h3 : textP (mkP 2 n d) = s := congrArg (·.data.toList) h2
              have : parR s = some (mkP 2 n d) := by unfold parR; rw [hg, keepP, if_pos ⟨h1, h3⟩]
              rw [this]; exact ⟨rfl, rfl⟩
            · intro h
              have : parR s = none := by unfold parR; rw [hg, keepP, if_neg (fun h' => h ⟨h'.1, by rw [h'.2]⟩)]
              rw [this]; exact ⟨rfl, rfl⟩
    · have hbs : bsR l0 = addrF 10 255 (cutB 46 l0) := by unfold bsR; rw [if_neg h8]
      have hfm : famR l0 = 1 := by unfold famR; rw [if_neg h8]
      rw [hbs, hfm] at hg
      by_cases hbad : (addrF 10 255 (cutB 46 l0)).isSome = false ∨ numV (numR 10 128 l1) < 0 ∨ (adB (addrF 10 255 (cutB 46 l0))).length ≠ 4
      · have : guessR s = none := by
          rw [hg]
          cases ha : addrF 10 255 (cutB 46 l0) with
          | none => rfl
          | some x =>
            cases hn : numR 10 128 l1 with
            | none => rfl
            | some n =>
              rw [ha, hn] at hbad
              simp only []
              rw [if_pos]
              refine ⟨by trivial, ?_⟩
              rcases hbad with h | h | h
              · cases h
              · exact absurd h (by show ¬ ((n : Int) < 0); omega)
              · exact h
        rw [(hno this).1, (hno this).2]
        exact rparse_dot_no (strB s) (strB l0) (strB l1) _ _ _ _ w _ _ _ h8 hbad KS1 KS2' KA1 KS3 KN
      · cases ha : addrF 10 255 (cutB 46 l0) with
        | none => rw [ha] at hbad; exact absurd (.inl rfl) hbad
        | some d =>
          cases hn : numR 10 128 l1 with
          | none => exact absurd (.inr (.inl (hneg hn))) hbad
          | some n =>
            rw [ha, hn] at hg
            rw [ha] at hbad KA1
            have hd4 : d.length = 4 := by
              by_cases h : d.length = 4
              · exact h
              · exact absurd (.inr (.inr h)) hbad
            simp only [] at hg
            rw [if_neg (by omega)] at hg
            have hwf := guessR_wf s _ hg
            have hbd := addrF_bs 10 255 (by omega) _ d ha
            have hnle := numR_le 10 128 l1 n hn
            rw [hn] at KN
            refine rparse_dot (strB s) (strB l0) (strB l1) _ _ _ (strB (textP (mkP 1 n d))) (mkOk 1 n d) (vT (mkP 1 n d)) _ (mkP 1 n d) _ w _ _ _ hwf.1 _ rfl h8 (by show (0 : Int) ≤ (n : Int); omega) hd4 KS1 KS2' KA1 KS3 KN rowD_below ?_ (fun W => rtext_any _ hwf.1 hwf.2 W) (fun W => rvalid_any _ _ _ hwf.1 hwf.2 W) ?_ ?_
            · intro A c W h
              exact rmake_any 1 n A c d W h hbd.1 (by have := hbd.2; omega) (by omega) (by omega)
            · intro h1 h2
              have h3 : textP (mkP 1 n d) = s := congrArg (·.data.toList) h2
              have : parR s = some (mkP 1 n d) := by unfold parR; rw [hg, keepP, if_pos ⟨h1, h3⟩]
              rw [this]; exact ⟨rfl, rfl⟩
            · intro h
              have : parR s = none := by unfold parR; rw [hg, keepP, if_neg (fun h' => h ⟨h'.1, by rw [h'.2]⟩)]
              rw [this]; exact ⟨rfl, rfl⟩
  · have : guessR s = none := by
      unfold guessR
      split
      · rename_i l0 l1 h; rw [h] at h2; exact absurd rfl h2
      · rfl
    rw [(hno this).1, (hno this).2]
    exact rparse_two (strB s) _ w h2 fun W _ => (KS W).mono fun e w' ⟨A, c, h1, _, h3⟩ => ⟨A, c, h1, h3⟩
end Go.Proofs.YtgegloplhlkafaaDoor
