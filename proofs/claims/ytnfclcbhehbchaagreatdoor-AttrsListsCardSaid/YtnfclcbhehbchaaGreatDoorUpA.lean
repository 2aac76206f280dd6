/- Lists of attributes as data; whether they are few; the reference's Same at them. -/
import Derived.Test.YtnfclcbhehbchaaGreatDoorRtG
set_option autoImplicit false
namespace Go.Proofs.YtnfclcbhehbchaaGreatDoor
open Go.RowKit

def chunk (vs : List Value) (i : Nat) : List Value := (vs.drop (i * 9)).take 9
def AttrsC (w : World) (B : Nat) (A : Option Addr) (l : List AttrD) : Prop := ∃ vs, Reads w B 9 A l.length vs ∧ ∀ (i : Nat) (d : AttrD), l[i]? = some d → AttrC w B (chunk vs i).toArray d
theorem AttrsC.keep {w w' : World} {B : Nat} {A : Option Addr} {l : List AttrD} (h : AttrsC w B A l) (hk : ∀ p : Addr, p.block < B → w'.cell? p = w.cell? p) : AttrsC w' B A l := by
  obtain ⟨vs, h1, h2⟩ := h; exact ⟨vs, h1.keep hk, fun i d hd => (h2 i d hd).keep hk⟩
theorem AttrsC.below {w w' : World} {B : Nat} {A : Option Addr} {l : List AttrD} (h : AttrsC w B A l) (hb : Below B w w') : AttrsC w' B A l := h.keep fun _ hp => hb.cell hp
theorem AttrsC.more {w : World} {B B' : Nat} {A : Option Addr} {l : List AttrD} (h : AttrsC w B A l) (hB : B ≤ B') : AttrsC w B' A l := by
  obtain ⟨vs, h1, h2⟩ := h; exact ⟨vs, h1.more hB, fun i d hd => (h2 i d hd).more hB⟩
theorem AttrsC.nil_ {w : World} {B : Nat} : AttrsC w B none [] := ⟨[], Reads.none_, fun i d hd => by simp at hd⟩
theorem chunk_get {vs : List Value} {i j : Nat} (hj : j < 9) : (chunk vs i)[j]? = vs[i * 9 + j]? := by
  unfold chunk
  rw [List.getElem?_take_of_lt hj, List.getElem?_drop]
theorem chunk_len {vs : List Value} {n i : Nat} (h : vs.length = n * 9) (hi : i < n) : (chunk vs i).length = 9 := by
  unfold chunk; rw [List.length_take, List.length_drop]; omega
/-- The attribute at k. -/
theorem AttrsC.at_ {w : World} {B : Nat} {A : Option Addr} {l : List AttrD} (h : AttrsC w B A l) {k : Nat} (hk : k < l.length) :
    ∃ (ad : Addr) (cs : List Value), A = some ad ∧ ad.block < B ∧ (∀ (j : Nat) (v : Value), cs[j]? = some v → w.cell? ((ad.add (k * 9)).add j) = some v) ∧ AttrC w B cs.toArray l[k] ∧ cs.length = 9 := by
  obtain ⟨vs, h1, h2⟩ := h
  obtain ⟨ad, e, hb, hc⟩ := h1.2 (by omega)
  have h9 := chunk_len (i := k) h1.1 hk
  refine ⟨ad, chunk vs k, e, hb, fun j v hv => ?_, h2 k _ (List.getElem?_eq_getElem hk), h9⟩
  have hj : j < 9 := by have := (List.getElem?_eq_some_iff.1 hv).1; omega
  rw [add_of_add]
  rw [chunk_get hj] at hv
  exact hc _ _ hv
theorem wpList_load_at {P : Program} {ops : Array Oper} {rest : List Oper} {o : Oper} {a : Act} {Q : Exit → Act → World → Prop} (w : World) (hgd : o.guard = none) (ty : TypeId) (x : Operand) (ho : o.op = .load ty x)
    (p : Addr) (cs : List Value) (d : TypeDesc) (hx : a.eval x = .pointer (some p)) (hc : ∀ j v, cs[j]? = some v → w.cell? (p.add j) = some v) (hu : P.underlying ty = some d) (hd : d.isRow = true) (hi : (P.info? ty).map (·.size) = some cs.length)
    (h : wpList P ops Q rest (a.put o.dst (.agg cs.toArray)) w) : wpList P ops Q (o :: rest) a w :=
  wpList_plain hgd fun _ hK => by
    unfold Oper.wp execOp
    simp only [ho, hx, Instr.loadAt, Instr.sureAddr, Sem.run_bind, Sem.run_pure, Result.andThen_ok, run_loadVar_at w p ty cs d hc hu hd hi]
    exact hK _ _ h

/-- What is known of a list of attributes. -/
def AttrsOk (l : List AttrD) : Prop := l.length ≤ 140737488351232 ∧ ∀ d ∈ l, AttrOk d
def FewL (l : List AttrD) : Bool := l.all FewA && decide (l.length ≤ 30)
theorem all_succU {α : Type} (p : α → Bool) (l : List α) (k : Nat) (h : k < l.length) (h0 : (l.take k).all p = true) (h1 : p l[k] = true) : (l.take (k + 1)).all p = true := by
  rw [List.take_succ_eq_append_getElem h, List.all_append, h0]
  simp [h1]
theorem all_badU {α : Type} (p : α → Bool) (l : List α) (k : Nat) (h : k < l.length) (h1 : p l[k] = false) : l.all p = false := by
  rw [List.all_eq_false]
  exact ⟨l[k], List.getElem_mem h, by simp [h1]⟩
set_option maxRecDepth 100000 in
set_option maxHeartbeats 4000000 in
theorem rfewL_any (A : Option Addr) (c : Nat) (l : List AttrD) (w : World) (h : AttrsC w w.heap.size A l) (ok : AttrsOk l) :
    Calls Tryz.prog 5 #[.slice A l.length c] w fun e w' => e = .returned (.bool (FewL l)) ∧ Below w.heap.size w w' := by
  have hl := ok.1
  have OK := Lib.hid ok
  have H := Lib.hid h
  clear ok h
  go_enter Tryz.func5, Tryz.ntmps5
  go_wp2_with fail
  go_loopw [3] (fun i wr => ∃ k : Nat, k ≤ l.length ∧ i = .int .i64 k ∧ Hid ((l.take k).all FewA = true) ∧ Below w.heap.size w wr) (fun i _ => l.length - (intOf i).toNat)
  case atStart => exact ⟨0, Nat.zero_le _, rfl, by show _ = _; simp, Below.refl _ _⟩
  case round =>
    obtain ⟨k, hk, rfl, hall, hbel⟩ := hrel
    obtain ⟨wo, rfl⟩ : ∃ wo : World, wo = wr := ⟨_, rfl⟩
    have hk0 : (0 : Int) ≤ (k : Int) := Int.natCast_nonneg _
    by_cases hlt : k < l.length
    · obtain ⟨ad, cs, rfl, had, hc, ha, h9⟩ := (H.out.below hbel).at_ hlt
      have hok := OK.out.2 _ (List.getElem_mem hlt)
      have hf := rfewA_any cs.toArray l[k] wo (ha.more hbel.size) hok.s1 hok.s2
      have hsz : (Tryz.prog.info? 38).map (·.size) = some cs.length := by rw [h9]; exact attr_size
      have hk1 : (k : Int) < (l.length : Int) := by omega
      have HC := Lib.hid hc
      have HSZ := Lib.hid hsz
      have HBE := hide hbel
      clear hc ha h9 hok hsz hbel
      by_cases hb : FewA l[k] = true
      · rw [hb] at hf
        have HF := hide hf
        have HBB := Lib.hid hb
        clear hf hb
        go_wp2_with (first
          | ((with_reducible refine wpList_load_at wo ?hgd1 38 (.tmp 12) ?ho1 (ad.add (k * 9)) cs _ ?hx1 HC.out Tryz.underlying38 ?hd1 ?hi1 ?_); (case hgd1 => rfl); (case ho1 => rfl); (case hx1 => rfl); (case hd1 => rfl); (case hi1 => exact HSZ.out))
          | (go_at_call 22; refine HF.out.mono ?_; rintro e w1 ⟨rfl, hb1⟩; have B1 := hide (HBE.out.trans (hb1.mono HBE.out.size)); clear hb1))
        go_roundw
        case rel => exact ⟨k + 1, by omega, by go_num, all_succU _ l k hlt hall.out HBB.out, B1.out⟩
        case measure => simp [intOf]; omega
      · have hb' : FewA l[k] = false := by simpa using hb
        rw [hb'] at hf
        have HF := hide hf
        have HBB := Lib.hid hb'
        clear hf hb hb'
        go_wp2_with (first
          | ((with_reducible refine wpList_load_at wo ?hgd2 38 (.tmp 12) ?ho2 (ad.add (k * 9)) cs _ ?hx2 HC.out Tryz.underlying38 ?hd2 ?hi2 ?_); (case hgd2 => rfl); (case ho2 => rfl); (case hx2 => rfl); (case hd2 => rfl); (case hi2 => exact HSZ.out))
          | (go_at_call 22; refine HF.out.mono ?_; rintro e w1 ⟨rfl, hb1⟩; have B1 := hide (HBE.out.trans (hb1.mono HBE.out.size)); clear hb1))
        go_ret
        exact ⟨ret_bool (by rw [FewL, all_badU _ l k hlt HBB.out]; rfl), B1.out⟩
    · have e : l.all FewA = true := by rw [← hall.out, List.take_of_length_le (by omega)]
      have HE := Lib.hid e
      have HBE := hide hbel
      have hk1 : ¬ (k : Int) < (l.length : Int) := by omega
      have e3 : decide ((l.length : Int) ≤ 30) = decide (l.length ≤ 30) := by rw [decide_eq_decide]; omega
      have E3 := Lib.hid e3
      clear e hbel e3
      go_wp2
      go_ret
      exact ⟨ret_bool (by rw [FewL, HE.out, Bool.true_and, ← E3.out]), HBE.out⟩
theorem few_boundsL {l : List AttrD} (h : FewL l = true) : l.length ≤ 30 ∧ ∀ d ∈ l, FewA d = true := by
  unfold FewL at h
  simp only [Bool.and_eq_true, decide_eq_true_eq, List.all_eq_true] at h
  exact ⟨h.2, h.1⟩
end Go.Proofs.YtnfclcbhehbchaaGreatDoor
