/- Paths (slices of segments) as lists, and the contracts of the functions that look at them: Few, Length, Same, Valid of the reference and of the program; no condition but sizes below 2^47. -/
import Derived.Test.YtnfclcbhehbchaaGreatDoorOctet
import Derived.Deep.CutBlock
import Derived.Deep.DeepCutAuto
set_option autoImplicit false
namespace Go.Proofs.YtnfclcbhehbchaaGreatDoor
open Go.RowKit

theorem ret_bool {a b : Bool} (h : a = b) : Ending.returned (.bool a) = .returned (.bool b) := by rw [h]
theorem ret_int {k : IntKind} {a b : Int} (h : a = b) : Ending.returned (.int k a) = .returned (.int k b) := by rw [h]

abbrev Sg := Int × List Int
def uV (l : List Int) : List Value := l.map (Value.int .u32)
def Us (l : List Int) : Prop := ∀ x ∈ l, 0 ≤ x ∧ x < 4294967296
theorem uV_len (l : List Int) : (uV l).length = l.length := by simp [uV]
theorem uV_one (l : List Int) : ∀ u ∈ uV l, u.oneCell' = true := by
  intro u hu; simp only [uV, List.mem_map] at hu; obtain ⟨x, _, rfl⟩ := hu; rfl
theorem uV_get {l : List Int} {i : Nat} {u : Value} (h : (uV l)[i]? = some u) : ∃ x, l[i]? = some x ∧ u = .int .u32 x := by
  simp only [uV, List.getElem?_map] at h
  cases hx : l[i]? with
  | none => rw [hx] at h; cases h
  | some x => rw [hx] at h; cases h; exact ⟨x, rfl, rfl⟩

/-- One segment as two cells. -/
def SegAt (w : World) (B : Nat) (v0 v1 : Value) (s : Sg) : Prop :=
  v0 = .int .i64 s.1 ∧ ∃ A c, v1 = .slice A s.2.length c ∧ s.2.length ≤ c ∧ c ≤ maxLen ∧ Reads w B 1 A s.2.length (uV s.2)
def Segs (w : World) (B : Nat) (vs : List Value) (l : List Sg) : Prop :=
  vs.length = l.length * 2 ∧ ∀ (i : Nat) (s : Sg), l[i]? = some s → ∃ v0 v1, vs[i * 2]? = some v0 ∧ vs[i * 2 + 1]? = some v1 ∧ SegAt w B v0 v1 s
def Path (w : World) (B : Nat) (A : Option Addr) (l : List Sg) : Prop := ∃ vs, Reads w B 2 A l.length vs ∧ Segs w B vs l

section
variable {w w' : World} {B B' : Nat} {A : Option Addr} {l : List Sg} {vs : List Value} {v0 v1 : Value} {s : Sg}
theorem SegAt.keep (h : SegAt w B v0 v1 s) (hk : ∀ p : Addr, p.block < B → w'.cell? p = w.cell? p) : SegAt w' B v0 v1 s := by
  obtain ⟨h0, A, c, h1, h2, h3, h4⟩ := h
  exact ⟨h0, A, c, h1, h2, h3, h4.keep hk⟩
theorem SegAt.more (h : SegAt w B v0 v1 s) (hB : B ≤ B') : SegAt w B' v0 v1 s := by
  obtain ⟨h0, A, c, h1, h2, h3, h4⟩ := h
  exact ⟨h0, A, c, h1, h2, h3, h4.more hB⟩
theorem Segs.keep (h : Segs w B vs l) (hk : ∀ p : Addr, p.block < B → w'.cell? p = w.cell? p) : Segs w' B vs l :=
  ⟨h.1, fun i s hs => by obtain ⟨v0, v1, a, b, c⟩ := h.2 i s hs; exact ⟨v0, v1, a, b, c.keep hk⟩⟩
theorem Segs.more (h : Segs w B vs l) (hB : B ≤ B') : Segs w B' vs l :=
  ⟨h.1, fun i s hs => by obtain ⟨v0, v1, a, b, c⟩ := h.2 i s hs; exact ⟨v0, v1, a, b, c.more hB⟩⟩
theorem Path.keep (h : Path w B A l) (hk : ∀ p : Addr, p.block < B → w'.cell? p = w.cell? p) : Path w' B A l := by
  obtain ⟨vs, h1, h2⟩ := h; exact ⟨vs, h1.keep hk, h2.keep hk⟩
theorem Path.more (h : Path w B A l) (hB : B ≤ B') : Path w B' A l := by
  obtain ⟨vs, h1, h2⟩ := h; exact ⟨vs, h1.more hB, h2.more hB⟩
theorem Path.below (h : Path w B A l) (hb : Below B w w') : Path w' B A l := h.keep fun _ hp => hb.cell hp
theorem Path.alloc (h : Path w B A l) (hB : B ≤ w.heap.size) (o : Obj) : Path (w.alloc o) B A l := h.keep fun p hp => World.cell?_alloc_lt w o p (by omega)
theorem Path.drew (h : Path w B A l) : Path w.drew B A l := h
theorem Path.nil_ : Path w B none [] := ⟨[], Reads.none_, by simp [Segs]⟩
/-- The element at i: its cells. -/
theorem Path.at_ (h : Path w B A l) {i : Nat} (hi : i < l.length) : ∃ ad A' c, A = some ad ∧ ad.block < B ∧ w.cell? (ad.add (i * 2)) = some (.int .i64 l[i].1) ∧
    w.cell? ⟨(ad.add (i * 2)).block, (ad.add (i * 2)).off + 1, none⟩ = some (.slice A' l[i].2.length c) ∧ (ad.add (i * 2)).block < B ∧ l[i].2.length ≤ c ∧ c ≤ maxLen ∧ Reads w B 1 A' l[i].2.length (uV l[i].2) := by
  obtain ⟨vs, hr, hs⟩ := h
  obtain ⟨ad, e, hb, hc⟩ := hr.2 (by omega)
  obtain ⟨v0, v1, g0, g1, k0, A', c, k1, k2, k3, k4⟩ := hs.2 i l[i] (List.getElem?_eq_getElem hi)
  subst k0; subst k1
  have e1 : (⟨(ad.add (i * 2)).block, (ad.add (i * 2)).off + 1, none⟩ : Addr) = ad.add (i * 2 + 1) := by rw [← add_of_add ad (i * 2) 1]; rfl
  exact ⟨ad, A', c, e, hb, hc _ _ g0, by rw [e1]; exact hc _ _ g1, by rw [block_of_add]; exact hb, k2, k3, k4⟩
end

def lenSum (l : List Sg) : Int := l.foldl (fun n s => n + min (s.2.length : Int) 1000) 0
def FewF (l : List Sg) : Bool := decide (l.length ≤ 50 ∧ lenSum l ≤ 600)
theorem lenSum_snoc (l : List Sg) (s : Sg) : lenSum (l ++ [s]) = lenSum l + min (s.2.length : Int) 1000 := by simp [lenSum]
theorem lenSum_bd (l : List Sg) : 0 ≤ lenSum l ∧ lenSum l ≤ 1000 * l.length := by
  have h : ∀ (l : List Sg) (n : Int), n ≤ l.foldl (fun n s => n + min (s.2.length : Int) 1000) n ∧ l.foldl (fun n s => n + min (s.2.length : Int) 1000) n ≤ n + 1000 * l.length := by
    intro l
    induction l with
    | nil => intro n; simp
    | cons s l ih =>
      intro n
      have := ih (n + min (s.2.length : Int) 1000)
      simp only [List.foldl_cons, List.length_cons]
      omega
  have := h l 0
  unfold lenSum; omega
theorem lenSum_succ (l : List Sg) (i : Nat) (hi : i < l.length) : lenSum (l.take (i + 1)) = lenSum (l.take i) + min (l[i].2.length : Int) 1000 := by
  rw [List.take_succ_eq_append_getElem hi, lenSum_snoc]

set_option maxHeartbeats 1000000 in
theorem few_any (A : Option Addr) (c : Nat) (l : List Sg) (w : World) (h : Path w w.heap.size A l) (hl : l.length ≤ 140737488351232) (hn : ∀ s ∈ l, s.2.length ≤ 140737488351232) :
    Calls Tryz.prog 43 #[.slice A l.length c] w fun e w' => e = .returned (.bool (FewF l)) ∧ w = w' := by
  go_enter Tryz.func43, Tryz.ntmps43
  go_wp2_with fail
  go_loop [3, 4] (fun n i => ∃ k : Nat, k ≤ l.length ∧ i = .int .i64 k ∧ n = .int .i64 (lenSum (l.take k))) (fun _ i => l.length - (intOf i).toNat)
  case atStart => exact ⟨0, Nat.zero_le _, rfl, rfl⟩
  case round =>
    obtain ⟨k, hk, rfl, rfl⟩ := hrel
    have hbd := lenSum_bd (l.take k)
    have hkl : (l.take k).length = k := by rw [List.length_take]; omega
    have hb0 := hbd.1
    have hb1 : lenSum (l.take k) ≤ 140737488351232000 := by omega
    clear hbd hkl
    by_cases hlt : k < l.length
    · obtain ⟨ad, A', c', rfl, had, hc0, hc1, hbk, h2, h3, h4⟩ := h.at_ hlt
      have hm := hn l[k] (List.getElem_mem hlt)
      have hs := lenSum_succ l k hlt
      have HS := Lib.hid hs
      clear hs hn h h4
      go_wp2
      all_goals
        go_round
        case rel => exact ⟨k + 1, by omega, by go_num, by rw [HS.out]; first | rfl | go_num⟩
        case measure => simp [intOf]; omega
    · have e : FewF l = decide (l.length ≤ 50 ∧ lenSum (l.take k) ≤ 600) := by rw [List.take_of_length_le (by omega)]; rfl
      have HE := Lib.hid e
      clear e
      go_wp2
      all_goals
        go_ret
        refine ⟨ret_bool ?_, rfl⟩
        rw [HE.out]
        first
          | (refine decide_eq_decide.2 ?_; omega)
          | (refine (decide_eq_false_iff_not.2 ?_).symm; omega)

def segLen (s : Sg) : Int := if s.1 = 1 then 1 else if s.1 = 2 then s.2.length else 0
def lenF (l : List Sg) : Int := l.foldl (fun n s => n + segLen s) 0
theorem lenF_snoc (l : List Sg) (s : Sg) : lenF (l ++ [s]) = lenF l + segLen s := by simp [lenF]
theorem lenF_succ (l : List Sg) (i : Nat) (hi : i < l.length) : lenF (l.take (i + 1)) = lenF (l.take i) + segLen l[i] := by
  rw [List.take_succ_eq_append_getElem hi, lenF_snoc]
theorem lenF_bd (M : Nat) (hM : 1 ≤ M) (l : List Sg) (h : ∀ s ∈ l, s.2.length ≤ M) : 0 ≤ lenF l ∧ lenF l ≤ M * l.length := by
  have key : ∀ (l : List Sg) (n : Int), (∀ s ∈ l, s.2.length ≤ M) → n ≤ l.foldl (fun n s => n + segLen s) n ∧ l.foldl (fun n s => n + segLen s) n ≤ n + M * l.length := by
    intro l
    induction l with
    | nil => intro n _; simp
    | cons s l ih =>
      intro n hs
      have h1 := hs s (by simp)
      have h2 := ih (n + segLen s) (fun x hx => hs x (by simp [hx]))
      have h3 : 0 ≤ segLen s ∧ segLen s ≤ M := by unfold segLen; split <;> (try split) <;> omega
      have h4 : (M : Int) * ((l.length + 1 : Nat) : Int) = M * l.length + M := by rw [Int.natCast_add, Int.mul_add]; simp
      simp only [List.foldl_cons, List.length_cons]
      rw [h4]
      omega
  have := key l 0 h
  unfold lenF; omega


end Go.Proofs.YtnfclcbhehbchaaGreatDoor
