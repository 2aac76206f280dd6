/- merge.Paths, merge.Narrow; peerageref21.Paths, great, Narrow; peeragelaw21.right: what they compute, at paths of at most 1,000 segments of at most 100,000 numbers. -/
import Derived.Test.YtceolenmcpndaaaDoorRHead
import Derived.Test.YtceolenmcpndaaaDoorMergeL
import Derived.Test.YtceolenmcpndaaaDoorConS
set_option autoImplicit false
namespace Go.Proofs.YtceolenmcpndaaaDoor
open Go.RowKit

theorem SegsO.append {w : World} {lo : Nat} {vs vs2 : List Value} {l l2 : List Sg} (h : SegsO w lo vs l) (h2 : SegsO w lo vs2 l2) : SegsO w lo (vs ++ vs2) (l ++ l2) := by
  have e1 := h.1
  have e2 := h2.1
  refine ⟨by simp; omega, fun i s hs => ?_⟩
  rcases Nat.lt_or_ge i l.length with hi | hi
  · rw [List.getElem?_append_left hi] at hs
    obtain ⟨v0, v1, a, b, c⟩ := h.2 i s hs
    exact ⟨v0, v1, by rw [List.getElem?_append_left (by omega)]; exact a, by rw [List.getElem?_append_left (by omega)]; exact b, c⟩
  · rw [List.getElem?_append_right hi] at hs
    obtain ⟨v0, v1, a, b, c⟩ := h2.2 _ s hs
    refine ⟨v0, v1, ?_, ?_, c⟩
    · rw [List.getElem?_append_right (by omega), show i * 2 - vs.length = (i - l.length) * 2 by omega]; exact a
    · rw [List.getElem?_append_right (by omega), show i * 2 + 1 - vs.length = (i - l.length) * 2 + 1 by omega]; exact b
theorem SegsO.one {w : World} {lo : Nat} {vs : List Value} {l : List Sg} (h : SegsO w lo vs l) : ∀ u ∈ vs, u.oneCell' = true := by
  intro u hu
  obtain ⟨i, hi, rfl⟩ := List.getElem_of_mem hu
  have e := h.1
  have hi2 : i / 2 < l.length := by omega
  obtain ⟨v0, v1, a, b, e0, e1⟩ := h.2 (i / 2) _ (List.getElem?_eq_getElem hi2)
  obtain ⟨A, c, e2, _⟩ := slice_of_own e1
  rcases Nat.mod_two_eq_zero_or_one i with hp | hp
  · rw [show i / 2 * 2 = i by omega] at a
    rw [(List.getElem?_eq_some_iff.1 a).2, e0]; rfl
  · rw [show i / 2 * 2 + 1 = i by omega] at b
    rw [(List.getElem?_eq_some_iff.1 b).2, e2]; rfl
/-- A result that is a path in memory of the call's own. -/
def OwnP (lo : Nat) (l : List Sg) (v : Value) (w : World) : Prop := ∃ A c vs, v = .slice A l.length c ∧ l.length ≤ c ∧ c ≤ maxLen ∧ w.ownsRow lo 27 2 (.slice A l.length c) l.length vs ∧ SegsO w lo vs l
theorem OwnP.keep {lo : Nat} {l : List Sg} {v : Value} {w w' : World} (h : OwnP lo l v w) (hb : Below w.heap.size w w') : OwnP lo l v w' := by
  obtain ⟨A, c, vs, e, h1, h2, h3, h4⟩ := h
  exact ⟨A, c, vs, e, h1, h2, own_keep h3 fun b hb' => hb.block b (h3.lt b hb').2, h4.keep fun b _ hb' => hb.block b hb'⟩
theorem OwnP.more {lo lo' : Nat} {l : List Sg} {v : Value} {w : World} (h : OwnP lo l v w) (hl : lo' ≤ lo) : OwnP lo' l v w := by
  obtain ⟨A, c, vs, e, h1, h2, h3, h4⟩ := h
  exact ⟨A, c, vs, e, h1, h2, own_base h3 hl, h4.more hl⟩
theorem OwnP.path {lo : Nat} {l : List Sg} {v : Value} {w : World} (h : OwnP lo l v w) : ∃ A c, v = .slice A l.length c ∧ l.length ≤ c ∧ c ≤ maxLen ∧ Path w w.heap.size A l := by
  obtain ⟨A, c, vs, e, h1, h2, h3, h4⟩ := h
  exact ⟨A, c, e, h1, h2, h4.path h3 rfl⟩
theorem OwnP.of {lo : Nat} {l : List Sg} {A : Option Addr} {c : Nat} {vs : List Value} {w : World} (h3 : w.ownsRow lo 27 2 (.slice A l.length c) l.length vs) (h4 : SegsO w lo vs l) : OwnP lo l (.slice A l.length c) w := by
  obtain ⟨A', c', e, h1, h2⟩ := slice_of_own h3
  injection e with e1 e2 e3
  subst e3
  exact ⟨A, c, vs, rfl, h1, h2, h3, h4⟩
theorem lenF_up (l : List Sg) (hl : l.length ≤ 1000) (hm : ∀ s ∈ l, s.2.length ≤ 100000) : lenF l ≤ 100000000 := by
  have h1 := lenF_bd 100000 (by omega) l hm
  have h2 : (100000 : Nat) * l.length ≤ 100000 * 1000 := Nat.mul_le_mul_left _ hl
  omega

set_option maxRecDepth 100000 in
set_option maxHeartbeats 8000000 in
theorem paths_any (A A2 : Option Addr) (c c2 : Nat) (a b : List Sg) (w : World) (h : Path w w.heap.size A a) (h2 : Path w w.heap.size A2 b) (ha : a.length ≤ 1000) (hb : b.length ≤ 1000)
    (hm : ∀ s ∈ a, s.2.length ≤ 100000) (hm2 : ∀ s ∈ b, s.2.length ≤ 100000) :
    Calls Tryd.prog 32 #[.slice A a.length c, .slice A2 b.length c2] w fun e w' => ∃ v, e = .returned v ∧ OwnP w.heap.size (pathsF a b) v w' ∧ Below w.heap.size w w' := by
  have ha0 := lenF_nn a
  have hb0 := lenF_nn b
  have ha8 := lenF_up a ha hm
  have hb8 := lenF_up b hb hm2
  have hP : pathsF a b = if lenF a - lenF b < 0 then a else headF (lenF a - lenF b) a ++ b := rfl
  have HA := hide (fun w' (hb' : Below w.heap.size w w') => head_any (lenF a - lenF b) A c a w' ((h.below hb').more hb'.size) ha hm (by omega) (by omega))
  have HL := hide (fun w' (hb' : Below w.heap.size w w') => length_any A2 c2 b w' ((h2.below hb').more hb'.size) hb hm2)
  have HF := hide (fun w' (hb' : Below w.heap.size w w') => all_any A c a w' ((h.below hb').more hb'.size) ha hm)
  have HF2 := hide (fun w' (hb' : Below w.heap.size w w') => all_any A2 c2 b w' ((h2.below hb').more hb'.size) hb hm2)
  have HL0 := hide (length_any A c a w h ha hm)
  have hhl := headF_length a (lenF a - lenF b)
  generalize pathsF a b = Pab at hP ⊢
  generalize lenF a = x at *
  generalize lenF b = y at *
  have HP := Lib.hid hP
  clear hP h h2 hm hm2
  go_enter Tryd.func32, Tryd.ntmps32
  go_wp2_with fail
  refine HL0.out.mono ?_
  rintro e w1 ⟨rfl, hb1⟩
  have HLb := hide (HL.out w1 hb1)
  have HB1 := hide hb1
  have hz1 := hb1.size
  clear hb1 HL HL0
  go_wp2_with fail
  refine HLb.out.mono ?_
  rintro e w2 ⟨rfl, hb2⟩
  have hb02 : Below w.heap.size w w2 := HB1.out.trans (hb2.mono hz1)
  have hz2 := hb02.size
  by_cases hlt : x - y < 0
  · have HH := hide (HF.out w2 hb02)
    have HB2 := hide hb02
    clear hb2 hb02 HF HF2 HA HLb HB1
    go_wp2_with fail
    refine HH.out.mono ?_
    rintro e w3 ⟨A', c', vs, rfl, hown, hseg, hb3⟩
    have Q1 := hide ((OwnP.of hown hseg).more hz2)
    have Q3 := hide (HB2.out.trans (hb3.mono hz2))
    clear hown hseg hb3 HH
    go_wp2
    go_ret
    exact ⟨_, rfl, by rw [HP.out, if_pos hlt]; exact Q1.out, Q3.out⟩
  · have HLT := Lib.hid hlt
    have HH := hide (HA.out w2 hb02)
    have HB2 := hide hb02
    clear hb2 hb02 HF HA HLb HB1
    go_wp2_with fail
    refine HH.out.mono ?_
    rintro e w3 ⟨A3, c3, vs3, rfl, hown3, hseg3, hb3⟩
    have hb03 : Below w.heap.size w w3 := HB2.out.trans (hb3.mono hz2)
    have hz3 := hb03.size
    have HH2 := hide (HF2.out w3 hb03)
    have H3 := hide ((OwnP.of hown3 hseg3).more hz2)
    have HB3 := hide hb03
    clear hown3 hseg3 hb3 hb03 HF2 HH HB2
    go_wp2_with fail
    refine HH2.out.mono ?_
    rintro e w4 ⟨A4, c4, vs4, rfl, hown4, hseg4, hb4⟩
    have hb04 : Below w.heap.size w w4 := HB3.out.trans (hb4.mono hz3)
    have hz4 := hb04.size
    have H3' := hide (H3.out.keep (hb4.mono (Nat.le_refl _)))
    have H4 := hide ((OwnP.of hown4 hseg4).more hz3)
    have HB4 := hide hb04
    clear hown4 hseg4 hb4 hb04 H3 HB3 HH2
    go_wp2_with fail
    obtain ⟨A5, c5, vs5, e5, h5a, h5b, hown5, hseg5⟩ := H3'.out
    injection e5 with e51 e52 e53
    subst e51; subst e53
    obtain ⟨A6, c6, vs6, e6, h6a, h6b, hown6, hseg6⟩ := H4.out
    injection e6 with e61 e62 e63
    subst e61; subst e63
    obtain ⟨n3, hn3⟩ : ∃ n3, n3 = (headF (x - y) a).length := ⟨_, rfl⟩
    rw [← hn3] at hown5 ⊢
    obtain ⟨W, hW⟩ : ∃ W, W = w4.alloc (Obj.cells #[Value.slice A3 n3 c3, Value.slice A4 b.length c4] 22) := ⟨_, rfl⟩
    have hWs : W.heap.size = w4.heap.size + 1 := by rw [hW]; simp
    have hWb : Below w4.heap.size w4 W := by rw [hW]; exact (Below.refl _ _).alloc (Nat.le_refl _) _
    have hWB : W.heap[w4.heap.size]? = some (.cells #[Value.slice A3 n3 c3, Value.slice A4 b.length c4] 22 (0, 0)) := by rw [hW]; exact heap_alloc_new _ _
    have hwW : Below w.heap.size w W := HB4.out.trans (hWb.mono hz4)
    have hcon := concatS_any (some ⟨w4.heap.size, 0, none⟩) 2 [.slice A3 n3 c3, .slice A4 b.length c4] [(n3, vs5), (b.length, vs6)] W
      ⟨by simp, fun _ => ⟨_, rfl, by show w4.heap.size < _; omega, fun j u hu => World.news_of_block (cs := #[.slice A3 n3 c3, .slice A4 b.length c4]) hWB j u (by simpa using hu)⟩⟩ rfl (by simp)
      (fun i v p hv hp => by
        rcases i with _ | _ | i
        · simp at hv hp; subst hv; subst hp
          exact ⟨_, _, rfl, ((Reads.of_own hown5).below hWb).more hWb.size, SegsO.one hseg5⟩
        · simp at hv hp; subst hv; subst hp
          exact ⟨_, _, rfl, ((Reads.of_own hown6).below hWb).more hWb.size, SegsO.one hseg6⟩
        · simp at hv) (by simp [totS]; omega)
    have hk5 := (hseg5.keep (w' := W) fun b _ hb => hWb.block b hb)
    have hk6 := (hseg6.keep (w' := W) fun b _ hb => hWb.block b hb)
    have hk := hk5.append hk6
    have HC := hide hcon
    have HK := hide hk
    have HWW := hide hwW
    have HN3 := Lib.hid hn3
    rw [← hW]
    clear hcon hk hk5 hk6 hwW hWB hWb hW hown5 hown6 hseg5 hseg6 hn3 H3' H4 HB4
    refine HC.out.mono ?_
    rintro e w7 ⟨v7, rfl, hown7, hb7⟩
    have hzW := HWW.out.size
    have e7 : totS [(n3, vs5), (b.length, vs6)] = (headF (x - y) a ++ b).length := by simp [totS, ← HN3.out]
    have e8 : catS [(n3, vs5), (b.length, vs6)] = vs5 ++ vs6 := by simp [catS]
    rw [e7, e8] at hown7
    have hown8 := own_base hown7 hzW
    have hseg8 : SegsO w7 w.heap.size (vs5 ++ vs6) (headF (x - y) a ++ b) := HK.out.keep fun b _ hb => hb7.block b hb
    obtain ⟨A7, c7, rfl, h71, h72⟩ := slice_of_own hown8
    have Q1 := hide (OwnP.of hown8 hseg8)
    have Q3 := hide (HWW.out.trans (hb7.mono hzW))
    clear hown7 hown8 hseg8 hb7 e7 e8 HC HK
    go_wp2
    go_ret
    exact ⟨_, rfl, by rw [HP.out, if_neg (by omega)]; have := Q1.out; rw [List.length_append] at this; exact this, Q3.out⟩

theorem Segs.append {w : World} {B : Nat} {vs vs2 : List Value} {l l2 : List Sg} (h : Segs w B vs l) (h2 : Segs w B vs2 l2) : Segs w B (vs ++ vs2) (l ++ l2) := by
  have e1 := h.1
  have e2 := h2.1
  refine ⟨by simp; omega, fun i s hs => ?_⟩
  rcases Nat.lt_or_ge i l.length with hi | hi
  · rw [List.getElem?_append_left hi] at hs
    obtain ⟨v0, v1, a, b, c⟩ := h.2 i s hs
    exact ⟨v0, v1, by rw [List.getElem?_append_left (by omega)]; exact a, by rw [List.getElem?_append_left (by omega)]; exact b, c⟩
  · rw [List.getElem?_append_right hi] at hs
    obtain ⟨v0, v1, a, b, c⟩ := h2.2 _ s hs
    refine ⟨v0, v1, ?_, ?_, c⟩
    · rw [List.getElem?_append_right (by omega), show i * 2 - vs.length = (i - l.length) * 2 by omega]; exact a
    · rw [List.getElem?_append_right (by omega), show i * 2 + 1 - vs.length = (i - l.length) * 2 + 1 by omega]; exact b

set_option maxRecDepth 100000 in
set_option maxHeartbeats 4000000 in
theorem rpaths_any (A A2 : Option Addr) (c c2 : Nat) (a b : List Sg) (w : World) (h : Path w w.heap.size A a) (h2 : Path w w.heap.size A2 b) (ha : a.length ≤ 1000) (hb : b.length ≤ 1000)
    (hm : ∀ s ∈ a, s.2.length ≤ 100000) (hm2 : ∀ s ∈ b, s.2.length ≤ 100000) (hac : a.length ≤ c) (hcm : c ≤ maxLen) :
    Calls Tryd.prog 33 #[.slice A a.length c, .slice A2 b.length c2] w fun e w' => ∃ A' c', e = .returned (.slice A' (pathsF a b).length c') ∧ Path w' w'.heap.size A' (pathsF a b) ∧ Below w.heap.size w w' := by
  have ha0 := lenF_nn a
  have hb0 := lenF_nn b
  have ha8 := lenF_up a ha hm
  have hb8 := lenF_up b hb hm2
  obtain ⟨ig, hg0, hg1, hg2, hg3⟩ := info_parts seg_info
  have hP : pathsF a b = if lenF a - lenF b < 0 then a else headF (lenF a - lenF b) a ++ b := rfl
  have HA := hide (rhead_any (lenF a - lenF b) A c a w h ha hm (by omega) (by omega) hac hcm)
  have HL := hide (rlength_any A2 c2 b w h2 hb hm2)
  have HL0 := hide (rlength_any A c a w h ha hm)
  have hhl := headF_length a (lenF a - lenF b)
  generalize pathsF a b = Pab at hP ⊢
  generalize lenF a = x at *
  generalize lenF b = y at *
  have HP := Lib.hid hP
  have HH1 := hide h
  have HH2 := hide h2
  clear hP h h2 hm hm2
  go_enter Tryd.func33, Tryd.ntmps33
  go_wp2_with fail
  refine HL0.out.mono ?_
  rintro e w1 ⟨rfl, rfl⟩
  go_wp2_with fail
  refine HL.out.mono ?_
  rintro e w2 ⟨rfl, rfl⟩
  by_cases hlt : x - y < 0
  · go_wp2
    go_ret
    have e : Pab = a := by rw [HP.out, if_pos hlt]
    rw [e]
    exact ⟨A, c, rfl, HH1.out, Below.refl _ _⟩
  · have HLT := Lib.hid hlt
    go_wp2_with fail
    refine HA.out.mono ?_
    rintro e w3 ⟨A3, c3, vs3, rfl, hown3, hseg3, hb3⟩
    have hz3 := hb3.size
    obtain ⟨vsb, hrb, hsb⟩ := HH2.out.below hb3
    have hob : ∀ u ∈ vsb, u.oneCell' = true := by
      intro u hu
      obtain ⟨i, hi, rfl⟩ := List.getElem_of_mem hu
      have e := hsb.1
      have hi2 : i / 2 < b.length := by omega
      obtain ⟨v0, v1, p, q, e0, A', c', e1, _⟩ := hsb.2 (i / 2) _ (List.getElem?_eq_getElem hi2)
      rcases Nat.mod_two_eq_zero_or_one i with hp | hp
      · rw [show i / 2 * 2 = i by omega] at p
        rw [(List.getElem?_eq_some_iff.1 p).2, e0]; rfl
      · rw [show i / 2 * 2 + 1 = i by omega] at q
        rw [(List.getElem?_eq_some_iff.1 q).2, e1]; rfl
    obtain ⟨n3, hn3⟩ : ∃ n3, n3 = (headF (x - y) a).length := ⟨_, rfl⟩
    rw [← hn3] at hown3 hhl ⊢
    have HN3 := Lib.hid hn3
    have HO3 := hide hown3
    have HS3 := hide hseg3
    have HB3 := hide hb3
    have HRB := hide hrb
    have HSB := hide hsb
    have HOB := hide hob
    clear hn3 hown3 hseg3 hb3 hrb hsb hob HH1 HH2 HA HL HL0
    go_wp2_with (at_builtin
                 refine wpList_append_any _ rfl (.tmp 16) (.tmp 17) _ rfl w.heap.size 27 ig _ 2 32 Tryd.underlying22 hg0 hg1 hg2 hg3 rfl (by omega) _ n3 vs3 rfl HO3.out
                   w.heap.size A2 b.length c2 vsb rfl HRB.out HOB.out (by simp only [maxLen]; omega) (by omega) hz3 ?_
                 intro v7 w7 hown7 hgrow7 hat7
                 have hb7 : Below w.heap.size w w7 := HB3.out.grown hgrow7 hz3 (fun x hx => (HO3.out.lt x hx).1)
                 have hsb7 : Segs w7 w7.heap.size vsb b := (HSB.out.keep (w' := w7) fun p hp => by
                   have hq := hgrow7.block p.block (by omega) (fun e => by have := (HO3.out.lt _ e.symm).1; omega)
                   exact World.cell?_of_block hq).more hb7.size
                 have hs37 : SegsO w7 w.heap.size vs3 (headF (x - y) a) := ⟨HS3.out.1, fun i s hs => by
                   obtain ⟨v0, v1, p, q, r⟩ := HS3.out.2 i s hs
                   exact ⟨v0, v1, p, q, r.1, own_other r.2 hgrow7 HO3.out⟩⟩
                 have hal := hs37.segs.append hsb7
                 have Q1 := hide hown7
                 have Q2 := hide hal
                 have Q3 := hide hb7
                 clear hown7 hgrow7 hat7 hb7 hsb7 hs37 hal)
    go_ret
    have e : Pab = headF (x - y) a ++ b := by rw [HP.out, if_neg (by omega)]
    have en : n3 + b.length = Pab.length := by rw [e, List.length_append, HN3.out]
    have hown := Q1.out
    rw [en] at hown
    obtain ⟨A7, c7, rfl, h71, h72⟩ := slice_of_own hown
    exact ⟨A7, c7, rfl, ⟨_, Reads.of_own hown, by rw [e]; exact Q2.out⟩, Q3.out⟩

set_option maxRecDepth 100000 in
theorem great_any (A : Option Addr) (c : Nat) (l : List Sg) (w : World) (h : Path w w.heap.size A l) (hs : Sound l) :
    Calls Tryd.prog 65 #[.slice A l.length c] w fun e w' => e = .returned (.bool (!validF 2 l)) ∧ Below w.heap.size w w' := by
  have HV := hide (rvalid_any 2 A c l w h hs)
  clear h hs
  go_enter Tryd.func65, Tryd.ntmps65
  go_wp2_with fail
  refine HV.out.mono ?_
  rintro e w1 ⟨rfl, hb⟩
  go_wp2
  go_ret
  exact ⟨rfl, hb⟩

set_option maxRecDepth 100000 in
theorem right_any (A : Option Addr) (c : Nat) (l : List Sg) (w : World) (h : Path w w.heap.size A l) (hs : Sound l) :
    Calls Tryd.prog 28 #[.slice A l.length c] w fun e w' => e = .returned (.bool (FewF l && validF 4 l)) ∧ Below w.heap.size w w' := by
  have HV := hide (rvalid_any 4 A c l w h hs)
  have HF := hide (few_any A c l w h hs.1 (fun s h => (hs.2 s h).1))
  clear h hs
  go_enter Tryd.func28, Tryd.ntmps28
  go_wp2_with fail
  refine HF.out.mono ?_
  rintro e w1 ⟨rfl, rfl⟩
  by_cases hf : FewF l = true
  · rw [hf]
    go_wp2_with fail
    refine HV.out.mono ?_
    rintro e w1 ⟨rfl, hb⟩
    go_wp2
    go_ret
    exact ⟨ret_bool (by rw [hf]; rfl), hb⟩
  · have hf : FewF l = false := by simpa using hf
    rw [hf]
    go_wp2
    go_ret
    exact ⟨ret_bool (by rw [hf]; rfl), Below.refl _ _⟩

def wideF (l : List Sg) : List Sg := if validF 2 l = true then [] else l

set_option maxRecDepth 100000 in
set_option maxHeartbeats 4000000 in
theorem mnarrow_any (A : Option Addr) (c : Nat) (l : List Sg) (w : World) (h : Path w w.heap.size A l) (hs : Sound l) (hl : l.length ≤ 1000) (hm : ∀ s ∈ l, s.2.length ≤ 100000) :
    Calls Tryd.prog 34 #[.slice A l.length c] w fun e w' => ∃ v1 v2, e = .returned (.tuple #[v1, v2]) ∧ OwnP w.heap.size (narP l) v1 w' ∧ OwnP w.heap.size (wideF l) v2 w' ∧ Below w.heap.size w w' := by
  have HV := hide (valid_any 2 A c l w h hs)
  have HN := hide (fun w' (hb' : Below w.heap.size w w') => narrow_any A c l w' ((h.below hb').more hb'.size) hl hm)
  have HA := hide (fun w' (hb' : Below w.heap.size w w') => all_any A c l w' ((h.below hb').more hb'.size) hl hm)
  have hnl := narP_len l
  have HNL := Lib.hid hnl
  clear h hs hl hm hnl
  go_enter Tryd.func34, Tryd.ntmps34
  go_wp2_with fail
  refine HV.out.mono ?_
  rintro e w1 ⟨rfl, hb1⟩
  have hz1 := hb1.size
  by_cases hv : validF 2 l = true
  · have HN1 := hide (HN.out w1 hb1)
    have HB1 := hide hb1
    rw [hv]
    have HVV := Lib.hid hv
    clear hb1 HN HA hv
    go_wp2_with fail
    refine HN1.out.mono ?_
    rintro e w2 ⟨A2, c2, vs2, rfl, hown, hseg, hb2⟩
    have e2 : l.length = (narP l).length := HNL.out.symm
    rw [e2] at hown ⊢
    have Q1 := hide ((OwnP.of hown hseg).more hz1)
    have Q3 := hide (HB1.out.trans (hb2.mono hz1))
    clear hown hseg hb2 e2
    go_wp2
    go_ret2
    refine ⟨_, _, rfl, Q1.out, ?_, Q3.out⟩
    have e : wideF l = [] := by unfold wideF; rw [if_pos HVV.out]
    rw [e]
    exact ⟨none, 0, [], rfl, Nat.le_refl _, by simp [maxLen], World.ownsRow_nil _ _ _ _, SegsO.nil_⟩
  · have hv : validF 2 l = false := by simpa using hv
    have HA1 := hide (HA.out w1 hb1)
    have HB1 := hide hb1
    rw [hv]
    have HVV := Lib.hid hv
    clear hb1 HA hv
    go_wp2_with fail
    refine HA1.out.mono ?_
    rintro e w2 ⟨A2, c2, vs2, rfl, hown, hseg, hb2⟩
    have hb02 := HB1.out.trans (hb2.mono hz1)
    have hz2 := hb02.size
    have R1 := hide ((OwnP.of hown hseg).more hz1)
    have HN2 := hide (HN.out w2 hb02)
    have HB2 := hide hb02
    clear hown hseg hb2 hb02 HN HB1
    go_wp2_with fail
    refine HN2.out.mono ?_
    rintro e w3 ⟨A3, c3, vs3, rfl, hown, hseg, hb3⟩
    have e2 : l.length = (narP l).length := HNL.out.symm
    have R2 := hide (R1.out.keep (hb3.mono (Nat.le_refl _)))
    rw [e2] at hown
    have Q1 := hide ((OwnP.of hown hseg).more hz2)
    have Q3 := hide (HB2.out.trans (hb3.mono hz2))
    clear hown hseg hb3 e2
    go_wp2
    go_ret2
    have e2 : l.length = (narP l).length := HNL.out.symm
    have e : wideF l = l := by unfold wideF; rw [if_neg (by rw [HVV.out]; decide)]
    refine ⟨_, _, rfl, ?_, ?_, Q3.out⟩
    · have := Q1.out
      rw [← e2] at this; exact this
    · rw [e]; exact R2.out

set_option maxRecDepth 100000 in
set_option maxHeartbeats 4000000 in
theorem rmnarrow_any (A : Option Addr) (c : Nat) (l : List Sg) (w : World) (h : Path w w.heap.size A l) (hs : Sound l) (hl : l.length ≤ 1000) (hm : ∀ s ∈ l, s.2.length ≤ 100000) :
    Calls Tryd.prog 35 #[.slice A l.length c] w fun e w' => ∃ v1 A2 c2, e = .returned (.tuple #[v1, .slice A2 (wideF l).length c2]) ∧ OwnP w.heap.size (narP l) v1 w' ∧ Path w' w'.heap.size A2 (wideF l) ∧ Below w.heap.size w w' := by
  have HV := hide (great_any A c l w h hs)
  have HN := hide (fun w' (hb' : Below w.heap.size w w') => rnarrow_any A c l w' ((h.below hb').more hb'.size) hl hm)
  have hnl := narP_len l
  have HNL := Lib.hid hnl
  have HH := hide h
  clear h hs hl hm hnl
  go_enter Tryd.func35, Tryd.ntmps35
  go_wp2_with fail
  refine HV.out.mono ?_
  rintro e w1 ⟨rfl, hb1⟩
  have hz1 := hb1.size
  have HN1 := hide (HN.out w1 hb1)
  have HB1 := hide hb1
  clear hb1 HN
  by_cases hv : validF 2 l = true
  · rw [hv]
    have HVV := Lib.hid hv
    clear hv
    go_wp2_with fail
    refine HN1.out.mono ?_
    rintro e w2 ⟨A2, c2, vs2, rfl, hown, hseg, hb2⟩
    have e2 : l.length = (narP l).length := HNL.out.symm
    rw [e2] at hown ⊢
    have Q1 := hide ((OwnP.of hown hseg).more hz1)
    have Q3 := hide (HB1.out.trans (hb2.mono hz1))
    clear hown hseg hb2 e2
    go_wp2
    go_ret2
    have e : wideF l = [] := by unfold wideF; rw [if_pos HVV.out]
    rw [e]
    exact ⟨_, none, 0, rfl, Q1.out, Path.nil_, Q3.out⟩
  · have hv : validF 2 l = false := by simpa using hv
    rw [hv]
    have HVV := Lib.hid hv
    clear hv
    go_wp2_with fail
    refine HN1.out.mono ?_
    rintro e w2 ⟨A2, c2, vs2, rfl, hown, hseg, hb2⟩
    have e2 : l.length = (narP l).length := HNL.out.symm
    rw [e2] at hown
    have Q1 := hide ((OwnP.of hown hseg).more hz1)
    have hb02 := HB1.out.trans (hb2.mono hz1)
    have Q2 := hide ((HH.out.below hb02).more hb02.size)
    have Q3 := hide hb02
    clear hown hseg hb2 hb02 e2
    go_wp2
    go_ret2
    have e2 : l.length = (narP l).length := HNL.out.symm
    have e : wideF l = l := by unfold wideF; rw [if_neg (by rw [HVV.out]; decide)]
    rw [e]
    refine ⟨_, A, c, rfl, ?_, Q2.out, Q3.out⟩
    have := Q1.out
    rw [← e2] at this; exact this
end Go.Proofs.YtceolenmcpndaaaDoor
