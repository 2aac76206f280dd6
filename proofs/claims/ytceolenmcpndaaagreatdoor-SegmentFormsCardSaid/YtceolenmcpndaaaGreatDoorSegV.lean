/- Validity of segments: of the reference (right, Valid) and of the program (Valid and its function literals); at paths of up to 2^47 bytes. -/
import Derived.Test.YtceolenmcpndaaaGreatDoorSeg
set_option autoImplicit false
namespace Go.Proofs.YtceolenmcpndaaaGreatDoor
open Go.RowKit

def smallF (width : Int) (l : List Int) : Bool := !(width == 2) || l.all (fun x => decide (x ≤ 65535))
def shapeF (s : Sg) : Bool := decide ((s.1 = 1 ∨ s.1 = 2) ∧ 1 ≤ s.2.length ∧ s.2.length ≤ 255)
def rightF (width : Int) (s : Sg) : Bool := shapeF s && smallF width s.2
def validF (width : Int) (l : List Sg) : Bool := l.all (rightF width) && decide (width = 2 ∨ width = 4)

theorem smallF_succ (width : Int) (l : List Int) (k : Nat) (h : k < l.length) (h0 : smallF width (l.take k) = true) (h1 : width = 2 → l[k] ≤ 65535) : smallF width (l.take (k + 1)) = true := by
  unfold smallF at *
  rw [List.take_succ_eq_append_getElem h, List.all_append]
  by_cases hw : width = 2
  · have := h1 hw
    subst hw
    simp_all
  · simp [hw]
theorem smallF_bad (l : List Int) (k : Nat) (h : k < l.length) (h1 : 65535 < l[k]) : smallF 2 l = false := by
  unfold smallF
  have : l.all (fun x => decide (x ≤ 65535)) = false := by
    rw [List.all_eq_false]
    exact ⟨l[k], List.getElem_mem h, by simpa using h1⟩
  simp [this]

set_option maxHeartbeats 4000000 in
theorem rright_any (width K : Int) (A : Option Addr) (c : Nat) (ns : List Int) (w : World) (h : Reads w w.heap.size 1 A ns.length (uV ns)) (hl : ns.length ≤ 140737488351232) (hu : Us ns) :
    Calls Tryz.prog 26 #[.int .i64 width, .agg #[.int .i64 K, .slice A ns.length c]] w fun e w' => e = .returned (.bool (rightF width (K, ns))) ∧ Below w.heap.size w w' := by
  have hA : Reads (w.alloc (Obj.cells #[.int .i64 K, .slice A ns.length c] 40)) w.heap.size 1 A ns.length (uV ns) := h.alloc (Nat.le_refl _) _
  have hB : Below w.heap.size w (w.alloc (Obj.cells #[.int .i64 K, .slice A ns.length c] 40)) := (Below.refl _ _).alloc (Nat.le_refl _) _
  by_cases hs : shapeF (K, ns) = true
  · have hs' := hs
    simp only [shapeF, decide_eq_true_eq] at hs'
    obtain ⟨hk, hn1, hn2⟩ := hs'
    have hr : rightF width (K, ns) = smallF width ns := by simp [rightF, hs]
    have HR := Lib.hid hr
    clear hs hr
    rcases hk with rfl | rfl
    all_goals
      go_enter Tryz.func26, Tryz.ntmps26
      go_wp2_with fail
      go_loop [5] (fun i => ∃ k : Nat, k ≤ ns.length ∧ i = .int .i64 k ∧ Hid (smallF width (ns.take k) = true)) (fun i => ns.length - (intOf i).toNat)
      case atStart => exact ⟨0, Nat.zero_le _, rfl, by show _ = _; simp [smallF]⟩
      case round =>
        obtain ⟨k, hk, rfl, hsm⟩ := hrel
        by_cases hlt : k < ns.length
        · obtain ⟨ad, u, rfl, had, hx, hc⟩ := hA.at_ hlt
          obtain ⟨x, hx1, rfl⟩ := uV_get hx
          have hx2 : ns[k] = x := by rw [List.getElem?_eq_getElem hlt] at hx1; injection hx1
          have hxb := hu x (by rw [← hx2]; exact List.getElem_mem hlt)
          have HX := Lib.hid hx2
          clear hx hx1 hx2 hu
          by_cases w2 : width = 2
          · subst w2
            by_cases hbig : 65535 < x
            · go_wp2
              go_ret
              exact ⟨ret_bool (by rw [HR.out, smallF_bad ns k hlt (by rw [HX.out]; exact hbig)]), hB⟩
            · go_wp2
              go_round
              case rel => exact ⟨k + 1, by omega, by go_num, smallF_succ 2 ns k hlt hsm.out (fun _ => by rw [HX.out]; omega)⟩
              case measure => simp [intOf]; omega
          · have e2 : (width == 2) = false := by simpa using w2
            have HW := Lib.hid w2
            clear w2
            go_wp2
            go_round
            case rel => exact ⟨k + 1, by omega, by go_num, smallF_succ width ns k hlt hsm.out (fun e => absurd e HW.out)⟩
            case measure => simp [intOf]; omega
        · go_wp2
          go_ret
          exact ⟨ret_bool (by rw [HR.out, ← hsm.out, List.take_of_length_le (by omega)]), hB⟩
  · have hr : rightF width (K, ns) = false := by simp [rightF, hs]
    have HR := Lib.hid hr
    have hs' : ¬ ((K = 1 ∨ K = 2) ∧ 1 ≤ ns.length ∧ ns.length ≤ 255) := by simpa [shapeF] using hs
    clear hs hr hA h
    by_cases k1 : K = 1
    · subst k1
      by_cases hn : 1 ≤ ns.length
      · have hn2 : 255 < ns.length := by omega
        clear hs'
        go_enter Tryz.func26, Tryz.ntmps26
        go_wp2
        go_ret
        exact ⟨ret_bool HR.out.symm, hB⟩
      · have hn2 : ns.length < 1 := by omega
        clear hs'
        go_enter Tryz.func26, Tryz.ntmps26
        go_wp2
        go_ret
        exact ⟨ret_bool HR.out.symm, hB⟩
    · by_cases k2 : K = 2
      · subst k2
        by_cases hn : 1 ≤ ns.length
        · have hn2 : 255 < ns.length := by omega
          clear hs'
          go_enter Tryz.func26, Tryz.ntmps26
          go_wp2
          go_ret
          exact ⟨ret_bool HR.out.symm, hB⟩
        · have hn2 : ns.length < 1 := by omega
          clear hs'
          go_enter Tryz.func26, Tryz.ntmps26
          go_wp2
          go_ret
          exact ⟨ret_bool HR.out.symm, hB⟩
      · have e1 : (K != 1) = true := by simpa using k1
        have e2 : (K != 2) = true := by simpa using k2
        clear hs' k1 k2
        go_enter Tryz.func26, Tryz.ntmps26
        go_wp2
        go_ret
        exact ⟨ret_bool HR.out.symm, hB⟩

theorem all_succ {α : Type} (p : α → Bool) (l : List α) (k : Nat) (h : k < l.length) (h0 : (l.take k).all p = true) (h1 : p l[k] = true) : (l.take (k + 1)).all p = true := by
  rw [List.take_succ_eq_append_getElem h, List.all_append, h0]
  simp [h1]
theorem all_bad {α : Type} (p : α → Bool) (l : List α) (k : Nat) (h : k < l.length) (h1 : p l[k] = false) : l.all p = false := by
  rw [List.all_eq_false]
  exact ⟨l[k], List.getElem_mem h, by simp [h1]⟩

/-- Numbers that can be read: lengths and ranges. -/
def Sound (l : List Sg) : Prop := l.length ≤ 140737488351232 ∧ ∀ s ∈ l, s.2.length ≤ 140737488351232 ∧ Us s.2

set_option maxHeartbeats 4000000 in
theorem rvalid_any (width : Int) (A : Option Addr) (c : Nat) (l : List Sg) (w : World) (h : Path w w.heap.size A l) (hs : Sound l) :
    Calls Tryz.prog 10 #[.int .i64 width, .slice A l.length c] w fun e w' => e = .returned (.bool (validF width l)) ∧ Below w.heap.size w w' := by
  have hl := hs.1
  go_enter Tryz.func10, Tryz.ntmps10
  go_wp2_with fail
  go_loopw [5] (fun i wr => ∃ k : Nat, k ≤ l.length ∧ i = .int .i64 k ∧ Hid ((l.take k).all (rightF width) = true) ∧ Below w.heap.size w wr) (fun i _ => l.length - (intOf i).toNat)
  case atStart => exact ⟨0, Nat.zero_le _, rfl, by show _ = _; simp, Below.refl _ _⟩
  case round =>
    obtain ⟨k, hk, rfl, hall, hbel⟩ := hrel
    by_cases hlt : k < l.length
    · obtain ⟨ad, A', c', rfl, had, hc0, hc1, hbk, h2, h3, h4⟩ := (h.below hbel).at_ hlt
      have hm := hs.2 l[k] (List.getElem_mem hlt)
      have hr := rright_any width l[k].1 A' c' l[k].2 wr (h4.more hbel.size) hm.1 hm.2
      have hp : rightF width (l[k].1, l[k].2) = rightF width l[k] := rfl
      rw [hp] at hr
      clear hs h h4 hm hp
      by_cases hb : rightF width l[k] = true
      · rw [hb] at hr
        have HR := hide hr
        have HBB := Lib.hid hb
        clear hr hb
        go_wp2_with (go_at_call 26; refine HR.out.mono ?_; rintro e w1 ⟨rfl, hb1⟩)
        go_roundw
        case rel => exact ⟨k + 1, by omega, by go_num, all_succ _ l k hlt hall.out HBB.out, hbel.trans (hb1.mono hbel.size)⟩
        case measure => simp [intOf]; omega
      · have hb' : rightF width l[k] = false := by simpa using hb
        rw [hb'] at hr
        have HR := hide hr
        have HBB := Lib.hid hb'
        clear hr hb hb'
        go_wp2_with (go_at_call 26; refine HR.out.mono ?_; rintro e w1 ⟨rfl, hb1⟩)
        go_ret
        exact ⟨ret_bool (by rw [validF, all_bad _ l k hlt HBB.out]; rfl), hbel.trans (hb1.mono hbel.size)⟩
    · have e : l.all (rightF width) = true := by rw [← hall.out, List.take_of_length_le (by omega)]
      have HE := Lib.hid e
      clear e hs h
      by_cases w2 : width = 2
      · subst w2
        go_wp2
        go_ret
        exact ⟨ret_bool (by rw [validF, HE.out]; rfl), hbel⟩
      · have e2 : (width == 2) = false := by simpa using w2
        have HW := Lib.hid w2
        clear w2
        go_wp2
        go_ret
        refine ⟨ret_bool ?_, hbel⟩
        rw [validF, HE.out, Bool.true_and]
        by_cases w4 : width = 4
        · simp [w4]
        · simp [w4, HW.out]

theorem valid11_any (x : Int) (w : World) : Calls Tryz.prog 25 #[.int .u32 x] w fun e w' => e = .returned (.bool (decide (65535 < x))) ∧ w = w' := by
  go_enter Tryz.func25, Tryz.ntmps25
  go_wp2
  go_ret
  exact ⟨rfl, rfl⟩

set_option maxHeartbeats 4000000 in
theorem indexU_any (A : Option Addr) (c : Nat) (ns : List Int) (w : World) (h : Reads w w.heap.size 1 A ns.length (uV ns)) (hl : ns.length ≤ 140737488351232) :
    Calls Tryz.prog 44 #[.slice A ns.length c, .func (.func 25) #[] #[]] w fun e w' => ∃ r : Int, e = .returned (.int .i64 r) ∧ (decide (0 ≤ r) = !smallF 2 ns) ∧ w = w' := by
  go_enter Tryz.func44, Tryz.ntmps44
  go_wp2_with fail
  go_loop [8] (fun i => ∃ k : Nat, k ≤ ns.length ∧ i = .int .i64 k ∧ Hid (smallF 2 (ns.take k) = true)) (fun i => ns.length - (intOf i).toNat)
  case atStart => exact ⟨0, Nat.zero_le _, rfl, by show _ = _; simp [smallF]⟩
  case round =>
    obtain ⟨k, hk, rfl, hsm⟩ := hrel
    by_cases hlt : k < ns.length
    · obtain ⟨ad, u, rfl, had, hx, hc⟩ := h.at_ hlt
      obtain ⟨x, hx1, rfl⟩ := uV_get hx
      have hx2 : ns[k] = x := by rw [List.getElem?_eq_getElem hlt] at hx1; injection hx1
      have HX := Lib.hid hx2
      clear hx hx1 hx2
      by_cases hbig : 65535 < x
      · have hv := valid11_any x w
        rw [decide_eq_true hbig] at hv
        have HV := hide hv
        clear hv
        go_wp2_with (go_at_call 25; refine HV.out.mono ?_; rintro e w1 ⟨rfl, rfl⟩)
        go_ret
        exact ⟨k, rfl, by rw [smallF_bad ns k hlt (by rw [HX.out]; exact hbig)]; simp, rfl⟩
      · have hv := valid11_any x w
        rw [decide_eq_false hbig] at hv
        have HV := hide hv
        clear hv
        go_wp2_with (go_at_call 25; refine HV.out.mono ?_; rintro e w1 ⟨rfl, rfl⟩)
        go_round
        case rel => exact ⟨k + 1, by omega, by go_num, smallF_succ 2 ns k hlt hsm.out (fun _ => by rw [HX.out]; omega)⟩
        case measure => simp [intOf]; omega
    · go_wp2
      go_ret
      exact ⟨-1, rfl, by rw [← List.take_of_length_le (l := ns) (i := k) (by omega), hsm.out]; rfl, rfl⟩

theorem containsU_any (A : Option Addr) (c : Nat) (ns : List Int) (w : World) (h : Reads w w.heap.size 1 A ns.length (uV ns)) (hl : ns.length ≤ 140737488351232) :
    Calls Tryz.prog 24 #[.slice A ns.length c, .func (.func 25) #[] #[]] w fun e w' => e = .returned (.bool (!smallF 2 ns)) ∧ w = w' := by
  go_enter Tryz.func24, Tryz.ntmps24
  go_wp2_with fail
  refine (indexU_any A c ns w h hl).mono ?_
  rintro e w1 ⟨r, rfl, hr, rfl⟩
  have HR := hide hr
  clear hr
  go_wp2_with fail
  go_ret
  exact ⟨ret_bool HR.out, rfl⟩

set_option maxHeartbeats 4000000 in
theorem valid1_any (width K : Int) (A : Option Addr) (c b : Nat) (ns : List Int) (w : World) (h : Reads w w.heap.size 1 A ns.length (uV ns)) (hl : ns.length ≤ 140737488351232)
    (hw : w.cell? ⟨b, 0, none⟩ = some (.int .i64 width)) :
    Calls Tryz.prog 23 #[.agg #[.int .i64 K, .slice A ns.length c], .pointer (some ⟨b, 0, none⟩)] w fun e w' => e = .returned (.bool (!rightF width (K, ns))) ∧ Below w.heap.size w w' := by
  have hblt : b < w.heap.size := World.block_lt_of_cell? w ⟨b, 0, none⟩ hw
  have hB : Below w.heap.size w (w.alloc (Obj.cells #[.int .i64 K, .slice A ns.length c] 40)) := (Below.refl _ _).alloc (Nat.le_refl _) _
  have hcc := containsU_any A c ns (w.alloc (Obj.cells #[.int .i64 K, .slice A ns.length c] 40)) ((h.alloc (Nat.le_refl _) _).more (by simp)) hl
  have hgood : (K = 1 ∨ K = 2) → ¬ ns.length = 0 → ¬ 255 < ns.length → rightF width (K, ns) = smallF width ns := by
    intro h1 h2 h3
    have : shapeF (K, ns) = true := by simp only [shapeF, decide_eq_true_eq]; exact ⟨h1, by omega, by omega⟩
    simp [rightF, this]
  have hbad : ¬ ((K = 1 ∨ K = 2) ∧ 1 ≤ ns.length ∧ ns.length ≤ 255) → rightF width (K, ns) = false := by
    intro h1
    have : shapeF (K, ns) = false := by simp only [shapeF, decide_eq_false_iff_not]; exact h1
    simp [rightF, this]
  have HG := Lib.hid hgood
  have HBD := Lib.hid hbad
  clear hgood hbad h
  by_cases w2 : width = 2
  all_goals
    first
      | (subst w2
         obtain ⟨T, hT⟩ : ∃ T, smallF 2 ns = T := ⟨_, rfl⟩
         rw [hT] at hcc
         have HT := Lib.hid hT
         have HCC := hide hcc
         clear hT hcc)
      | (have ew : (width == 2) = false := by simpa using w2
         obtain ⟨T, hT⟩ : ∃ T, smallF 2 ns = T := ⟨_, rfl⟩
         rw [hT] at hcc
         have HT := Lib.hid (show smallF width ns = true by simp [smallF, w2])
         have HCC := hide hcc
         clear w2 hT hcc)
    by_cases hk : K = 1 ∨ K = 2
    · by_cases hn : ns.length = 0
      · have en : ((ns.length : Int) == 0) = true := by simpa using hn
        have HF := Lib.hid (HBD.out (by omega))
        clear hn HG HBD
        rcases hk with rfl | rfl
        all_goals
          go_enter Tryz.func23, Tryz.ntmps23
          go_wp2_with (go_at_call 24; refine HCC.out.mono ?_; rintro e w1 ⟨rfl, rfl⟩)
          go_ret
          exact ⟨ret_bool (by rw [HF.out]; rfl), hB⟩
      · have en : ((ns.length : Int) == 0) = false := by simpa using hn
        by_cases hn2 : 255 < ns.length
        · have HF := Lib.hid (HBD.out (by omega))
          clear hn HG HBD
          rcases hk with rfl | rfl
          all_goals
            go_enter Tryz.func23, Tryz.ntmps23
            go_wp2_with (go_at_call 24; refine HCC.out.mono ?_; rintro e w1 ⟨rfl, rfl⟩)
            go_ret
            exact ⟨ret_bool (by rw [HF.out]; rfl), hB⟩
        · have HF := Lib.hid (HG.out hk hn hn2)
          clear hn HG HBD
          rcases hk with rfl | rfl
          all_goals
            go_enter Tryz.func23, Tryz.ntmps23
            go_wp2_with (go_at_call 24; refine HCC.out.mono ?_; rintro e w1 ⟨rfl, rfl⟩)
            go_ret
            have hd : decide (255 < (ns.length : Int)) = false := decide_eq_false (by omega)
            exact ⟨ret_bool (by rw [HF.out, HT.out, hd]; rfl), hB⟩
    · have e1 : (K != 1) = true := by simp; omega
      have e2 : (K != 2) = true := by simp; omega
      have HF := Lib.hid (HBD.out (by omega))
      clear hk HG HBD
      go_enter Tryz.func23, Tryz.ntmps23
      go_wp2_with (go_at_call 24; refine HCC.out.mono ?_; rintro e w1 ⟨rfl, rfl⟩)
      go_ret
      exact ⟨ret_bool (by rw [HF.out]; rfl), hB⟩

set_option maxHeartbeats 4000000 in
theorem indexS_any (width : Int) (A : Option Addr) (c b : Nat) (l : List Sg) (w : World) (h : Path w w.heap.size A l) (hs : Sound l) (hw : w.cell? ⟨b, 0, none⟩ = some (.int .i64 width)) :
    Calls Tryz.prog 43 #[.slice A l.length c, .func (.func 23) #[] #[.pointer (some ⟨b, 0, none⟩)]] w fun e w' =>
      ∃ r : Int, e = .returned (.int .i64 r) ∧ (decide (0 ≤ r) = !l.all (rightF width)) ∧ Below w.heap.size w w' := by
  have hl := hs.1
  have hblt : b < w.heap.size := World.block_lt_of_cell? w ⟨b, 0, none⟩ hw
  go_enter Tryz.func43, Tryz.ntmps43
  go_wp2_with fail
  go_loopw [8] (fun i wr => ∃ k : Nat, k ≤ l.length ∧ i = .int .i64 k ∧ Hid ((l.take k).all (rightF width) = true) ∧ Below w.heap.size w wr) (fun i _ => l.length - (intOf i).toNat)
  case atStart => exact ⟨0, Nat.zero_le _, rfl, by show _ = _; simp, Below.refl _ _⟩
  case round =>
    obtain ⟨k, hk, rfl, hall, hbel⟩ := hrel
    by_cases hlt : k < l.length
    · obtain ⟨ad, A', c', rfl, had, hc0, hc1, hbk, h2, h3, h4⟩ := (h.below hbel).at_ hlt
      have hm := hs.2 l[k] (List.getElem_mem hlt)
      have hr := valid1_any width l[k].1 A' c' b l[k].2 wr (h4.more hbel.size) hm.1 (cell_below hw hbel)
      have hp : rightF width (l[k].1, l[k].2) = rightF width l[k] := rfl
      rw [hp] at hr
      clear hs h h4 hm hp hw
      by_cases hb : rightF width l[k] = true
      · rw [hb] at hr
        have HR := hide hr
        have HBB := Lib.hid hb
        clear hr hb
        go_wp2_with (go_at_call 23; refine HR.out.mono ?_; rintro e w1 ⟨rfl, hb1⟩)
        go_roundw
        case rel => exact ⟨k + 1, by omega, by go_num, all_succ _ l k hlt hall.out HBB.out, hbel.trans (hb1.mono hbel.size)⟩
        case measure => simp [intOf]; omega
      · have hb' : rightF width l[k] = false := by simpa using hb
        rw [hb'] at hr
        have HR := hide hr
        have HBB := Lib.hid hb'
        clear hr hb hb'
        go_wp2_with (go_at_call 23; refine HR.out.mono ?_; rintro e w1 ⟨rfl, hb1⟩)
        go_ret
        exact ⟨k, rfl, by rw [all_bad _ l k hlt HBB.out]; simp, hbel.trans (hb1.mono hbel.size)⟩
    · have e : l.all (rightF width) = true := by rw [← hall.out, List.take_of_length_le (by omega)]
      have HE := Lib.hid e
      clear e hs h hw
      go_wp2
      go_ret
      exact ⟨-1, rfl, by rw [HE.out]; rfl, hbel⟩

theorem containsS_any (width : Int) (A : Option Addr) (c b : Nat) (l : List Sg) (w : World) (h : Path w w.heap.size A l) (hs : Sound l) (hw : w.cell? ⟨b, 0, none⟩ = some (.int .i64 width)) :
    Calls Tryz.prog 22 #[.slice A l.length c, .func (.func 23) #[] #[.pointer (some ⟨b, 0, none⟩)]] w fun e w' =>
      e = .returned (.bool (!l.all (rightF width))) ∧ Below w.heap.size w w' := by
  go_enter Tryz.func22, Tryz.ntmps22
  go_wp2_with fail
  refine (indexS_any width A c b l w h hs hw).mono ?_
  rintro e w1 ⟨r, rfl, hr, hb⟩
  have HR := hide hr
  clear hr
  go_wp2_with fail
  go_ret
  exact ⟨ret_bool HR.out, hb⟩

set_option maxHeartbeats 4000000 in
/-- segment.Valid. -/
theorem valid_any (width : Int) (A : Option Addr) (c : Nat) (l : List Sg) (w : World) (h : Path w w.heap.size A l) (hs : Sound l) :
    Calls Tryz.prog 9 #[.int .i64 width, .slice A l.length c] w fun e w' => e = .returned (.bool (validF width l)) ∧ Below w.heap.size w w' := by
  have hB : Below w.heap.size w (w.alloc (Obj.cells #[.int .i64 width] 3)) := (Below.refl _ _).alloc (Nat.le_refl _) _
  have hcc := containsS_any width A c w.heap.size l (w.alloc (Obj.cells #[.int .i64 width] 3)) ((h.alloc (Nat.le_refl _) _).more (by simp)) hs (by rw [cell_of_row _ _ 0 _ _ _ (heap_alloc_new _ _)]; rfl)
  have HCC := hide hcc
  clear hcc hs h
  by_cases w2 : width = 2
  · subst w2
    go_enter Tryz.func9, Tryz.ntmps9
    go_wp2_with (go_at_call 22; refine HCC.out.mono ?_; rintro e w1 ⟨rfl, hb1⟩)
    go_ret
    exact ⟨ret_bool (by simp [validF]), hB.trans (hb1.mono (by simp))⟩
  · by_cases w4 : width = 4
    · subst w4
      clear w2
      go_enter Tryz.func9, Tryz.ntmps9
      go_wp2_with (go_at_call 22; refine HCC.out.mono ?_; rintro e w1 ⟨rfl, hb1⟩)
      go_ret
      exact ⟨ret_bool (by simp [validF]), hB.trans (hb1.mono (by simp))⟩
    · have e2 : (width != 2) = true := by simpa using w2
      have e4 : (width != 4) = true := by simpa using w4
      have hv : validF width l = false := by simp [validF, w2, w4]
      have HV := Lib.hid hv
      clear w2 w4 hv
      go_enter Tryz.func9, Tryz.ntmps9
      go_wp2
      go_ret
      exact ⟨ret_bool HV.out.symm, hB⟩
end Go.Proofs.YtceolenmcpndaaaGreatDoor
