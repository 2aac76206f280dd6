/- segment.Parse: what it calls: the kind of a bracket; at texts of at most 400 bytes. -/
import Derived.Test.YtceolenmcpndaaaGreatDoorSegTL
import Derived.BigQuiet
set_option autoImplicit false
namespace Go.Proofs.YtceolenmcpndaaaGreatDoor
open Go.RowKit Go.Sort Go.Shelf

set_option maxHeartbeats 1000000 in
theorem kind0_any (b5 : Nat) (w : World) :
    Calls Tryz.prog 33 #[.string ⟨#[]⟩, .pointer (some ⟨b5, 0, none⟩)] w fun e w' => e = .returned (.bool false) ∧ Below w.heap.size w w' := by
  go_enter Tryz.func33, Tryz.ntmps33
  go_wp2
  go_quiet (fail)
  go_wp2
  go_ret
  exact ⟨rfl, below_drewN (Below.refl _ _) _⟩
set_option maxHeartbeats 1000000 in
theorem kind1_any (b5 : Nat) (x y : UInt8) (rs : ByteArray) (h : 0 < rs.size) (w : World) (hc : w.cell? ⟨b5, 0, none⟩ = some (.string rs)) :
    Calls Tryz.prog 33 #[.string ⟨#[x, y]⟩, .pointer (some ⟨b5, 0, none⟩)] w fun e w' => e = .returned (.bool ((x.toNat : Int) == ((rs[0]'h).toNat : Int))) ∧ Below w.heap.size w w' := by
  have e0 : ((⟨#[x, y]⟩ : ByteArray)[0]'(by show 0 < 2; omega)) = x := rfl
  go_enter Tryz.func33, Tryz.ntmps33
  go_wp2
  go_quiet (fail)
  go_wp2
  go_ret
  exact ⟨rfl, below_drewN (Below.refl _ _) _⟩
/-- The tables of the brackets, the empty string among them. -/
structure TabsP (w : World) : Prop where
  tabs : Tabs w
  zero_ : w.cell? ⟨0, 0, none⟩ = some (.string ⟨#[]⟩)
theorem TabsP.below {w w' : World} (h : TabsP w) (hb : Below w.heap.size w w') : TabsP w' :=
  ⟨h.tabs.below hb, (hb.cell (p := ⟨_, _, none⟩) h.tabs.size).trans h.zero_⟩
def kindI (c : UInt8) : Int := if kindB c = 0 then -1 else kindB c
theorem nat_eqB (a b : UInt8) : (((a.toNat : Nat) : Int) == ((b.toNat : Nat) : Int)) = decide (a = b) := by
  by_cases h : a = b
  · subst h; simp
  · have : ¬ ((a.toNat : Nat) : Int) = ((b.toNat : Nat) : Int) := fun e => h (UInt8.toNat_inj.1 (by omega))
    rw [decide_eq_false h, beq_eq_false_iff_ne]; exact this

set_option maxHeartbeats 4000000 in
/-- Which bracket a text begins with. -/
theorem kind_any (b5 : Nat) (rs : ByteArray) (h : 0 < rs.size) (w : World) (hc : w.cell? ⟨b5, 0, none⟩ = some (.string rs)) (ht : TabsP w) :
    Calls Tryz.prog 32 #[.slice (some ⟨0, 0, none⟩) 3 3, .func (.func 33) #[] #[.pointer (some ⟨b5, 0, none⟩)]] w fun e w' =>
      e = .returned (.int .i64 (kindI (rs[0]'h))) ∧ Below w.heap.size w w' := by
  have hk : kindI (rs[0]'h) = if (rs[0]'h) = 123 then 1 else if (rs[0]'h) = 91 then 2 else -1 := by
    unfold kindI kindB
    by_cases e1 : (rs[0]'h) = 123
    · simp [e1]
    · by_cases e2 : (rs[0]'h) = 91
      · simp [e2]
      · simp [e1, e2]
  have K0 := hide (fun w' (hb : Below w.heap.size w w') => kind0_any b5 w')
  have K1 := hide (fun w' (hb : Below w.heap.size w w') => kind1_any b5 123 125 rs h w' (cell_below hc hb))
  have K2 := hide (fun w' (hb : Below w.heap.size w w') => kind1_any b5 91 93 rs h w' (cell_below hc hb))
  rw [nat_eqB] at K1 K2
  generalize (rs[0]'h) = c at *
  have HT := hide ht
  have HK := Lib.hid hk
  clear hk hc ht
  go_enter Tryz.func32, Tryz.ntmps32
  go_wp2_with fail
  go_loopw [8] (fun i wr => ∃ j : Nat, j ≤ 3 ∧ i = .int .i64 j ∧ Hid ((2 ≤ j → ¬ c = 123) ∧ (3 ≤ j → ¬ c = 91)) ∧ Below w.heap.size w wr) (fun i _ => 3 - (intOf i).toNat)
  case atStart => exact ⟨0, by omega, rfl, hide ⟨fun h => by omega, fun h => by omega⟩, Below.refl _ _⟩
  case round =>
    obtain ⟨j, hj, rfl, hno, hbel⟩ := hrel
    have HB := hide hbel
    have HTw := HT.out.below hbel
    have hg : 0 < wr.heap.size := HTw.tabs.size
    have q0 := HTw.zero_
    have q1 := HTw.tabs.set_
    have q2 := HTw.tabs.seq_
    clear hbel HTw
    match j, hj, hno with
    | 0, _, hno =>
      have H0 := hide (K0.out wr HB.out)
      clear K0 K1 K2
      go_wp2_with (go_at_call 33; refine H0.out.mono ?_; rintro e w1 ⟨rfl, hb1⟩)
      go_roundw
      case rel => exact ⟨1, by omega, rfl, hide ⟨fun h => by omega, fun h => by omega⟩, HB.out.trans (hb1.mono HB.out.size)⟩
      case measure => simp [intOf]
    | 1, _, hno =>
      have H1 := hide (K1.out wr HB.out)
      clear K0 K1 K2
      by_cases e : c = 123
      · have ed : decide ((123 : UInt8) = c) = true := decide_eq_true e.symm
        rw [ed] at H1
        have HE := Lib.hid e
        clear e ed
        go_wp2_with (go_at_call 33; refine H1.out.mono ?_; rintro e w1 ⟨rfl, hb1⟩)
        go_ret
        exact ⟨by rw [HK.out, if_pos HE.out]; rfl, HB.out.trans (hb1.mono HB.out.size)⟩
      · have ed : decide ((123 : UInt8) = c) = false := decide_eq_false fun h => e h.symm
        rw [ed] at H1
        have HE := Lib.hid e
        clear e ed
        go_wp2_with (go_at_call 33; refine H1.out.mono ?_; rintro e w1 ⟨rfl, hb1⟩)
        go_roundw
        case rel => exact ⟨2, by omega, rfl, hide ⟨fun _ => HE.out, fun h => by omega⟩, HB.out.trans (hb1.mono HB.out.size)⟩
        case measure => simp [intOf]
    | 2, _, hno =>
      have H2 := hide (K2.out wr HB.out)
      clear K0 K1 K2
      by_cases e : c = 91
      · have ed : decide ((91 : UInt8) = c) = true := decide_eq_true e.symm
        rw [ed] at H2
        have HE := Lib.hid e
        clear e ed
        go_wp2_with (go_at_call 33; refine H2.out.mono ?_; rintro e w1 ⟨rfl, hb1⟩)
        go_ret
        exact ⟨by rw [HK.out, if_neg (hno.out.1 (by omega)), if_pos HE.out]; rfl, HB.out.trans (hb1.mono HB.out.size)⟩
      · have ed : decide ((91 : UInt8) = c) = false := decide_eq_false fun h => e h.symm
        rw [ed] at H2
        have HE := Lib.hid e
        clear e ed
        go_wp2_with (go_at_call 33; refine H2.out.mono ?_; rintro e w1 ⟨rfl, hb1⟩)
        go_roundw
        case rel => exact ⟨3, by omega, rfl, hide ⟨fun _ => hno.out.1 (by omega), fun _ => HE.out⟩, HB.out.trans (hb1.mono HB.out.size)⟩
        case measure => simp [intOf]
    | 3, _, hno =>
      clear K0 K1 K2
      go_wp2
      go_ret
      exact ⟨by rw [HK.out, if_neg (hno.out.1 (by omega)), if_neg (hno.out.2 (by omega))]; rfl, HB.out⟩
end Go.Proofs.YtceolenmcpndaaaGreatDoor
