/- peeragelaw21.alive: the example of the chapter returns true wherever the tables are laid. -/
import Derived.Test.YtceolenmcpndaaaDoorMergeW
set_option autoImplicit false
namespace Go.Proofs.YtceolenmcpndaaaDoor
open Go.RowKit Go.Sort Go.Shelf

set_option maxRecDepth 100000 in
theorem seq_any (ns : List Int) (A : Option Addr) (c : Nat) (w : World) (h : Reads w w.heap.size 1 A ns.length (uV ns)) (hc : ns.length ≤ c) (hm : c ≤ maxLen) :
    Calls Tryd.prog 61 #[.slice A ns.length c] w fun e w' => ∃ A' c', e = .returned (.slice A' 1 c') ∧ Path w' w'.heap.size A' [(2, ns)] ∧ Below w.heap.size w w' := by
  have H := hide h
  clear h
  go_enter Tryd.func61, Tryd.ntmps61
  go_wp2
  go_ret
  have hb : Below w.heap.size w (w.alloc (Obj.cells #[.int .i64 2, .slice A ns.length c] 27)) := (Below.refl _ _).alloc (Nat.le_refl _) _
  refine ⟨_, _, rfl, path_lit [.int .i64 2, .slice A ns.length c] [(2, ns)] (heap_alloc_new _ _) (by simp) (segs_one ⟨rfl, A, c, rfl, hc, hm, (H.out.below hb).more hb.size⟩), hb⟩

def exA : List Sg := [(2, [1, 23456])]
def exB : List Sg := [(2, [70000])]
theorem exAB : pathsF exA exB = [(2, [1]), (2, [70000])] := by decide
theorem exAB_text : strB (textF (pathsF exA exB)) = ⟨#[91, 49, 93, 32, 91, 55, 48, 48, 48, 48, 93]⟩ := by
  have d1 : numL 1 = [49] := by simp [numL, Lib.decDigits]
  have d2 : numL 70000 = [55, 48, 48, 48, 48] := by simp [numL, Lib.decDigits]
  rw [exAB]
  have hv : validF 4 [((2 : Int), [(1 : Int)]), (2, [70000])] = true := by decide
  have : textF [((2 : Int), [(1 : Int)]), (2, [70000])] = [91, 49, 93, 32, 91, 55, 48, 48, 48, 48, 93] := by
    simp [textF, hv]
    simp [segT, d1, d2, brO, brC, Lib.join, List.intercalate]
  rw [this]; rfl

set_option maxRecDepth 100000 in
set_option maxHeartbeats 4000000 in
theorem alive21_any (w : World) (ht : Tabs w) :
    Calls Tryd.prog 29 #[] w fun e w' => e = .returned (.bool true) ∧ Below w.heap.size w w' := by
  have hlit : ∀ (w : World) (ns : List Int), Reads (w.alloc (Obj.cells (uV ns).toArray 29)) (w.alloc (Obj.cells (uV ns).toArray 29)).heap.size 1 (some ⟨w.heap.size, 0, none⟩) ns.length (uV ns) := fun w ns =>
    ⟨by simp [uV], fun _ => ⟨_, rfl, by simp, fun j u hu => World.news_of_block (cs := (uV ns).toArray) (heap_alloc_new w _) j u (by simpa using hu)⟩⟩
  have s1 := seq_any [1, 23456] (some ⟨w.heap.size, 0, none⟩) 2 _ (hlit w [1, 23456]) (by simp) (by simp [maxLen])
  have HL := hide hlit
  have HS1 := hide s1
  have HT := hide ht
  clear hlit s1 ht
  go_enter Tryd.func29, Tryd.ntmps29
  go_wp2_with fail
  refine HS1.out.mono ?_
  rintro e w1 ⟨A1, c1, rfl, hp1, hb1⟩
  have hb01 : Below w.heap.size w w1 := ((Below.refl _ _).alloc (Nat.le_refl _) _).trans (hb1.mono (by simp))
  have hz1 := hb01.size
  have s2 := seq_any [70000] (some ⟨w1.heap.size, 0, none⟩) 1 _ (HL.out w1 [70000]) (by simp) (by simp [maxLen])
  have HS2 := hide s2
  have HP1 := hide hp1
  have HB1 := hide hb01
  clear s2 hp1 hb1 hb01 HS1 HL
  go_wp2_with fail
  refine HS2.out.mono ?_
  rintro e w2 ⟨A2, c2, rfl, hp2, hb2⟩
  have hb12 : Below w1.heap.size w1 w2 := ((Below.refl _ _).alloc (Nat.le_refl _) _).trans (hb2.mono (by simp))
  have hb02 := HB1.out.trans (hb12.mono hz1)
  have hz2 := hb02.size
  have hpt := paths_any A1 A2 c1 c2 exA exB w2 ((HP1.out.below hb12).more hb12.size) hp2 (by decide) (by decide) (by decide) (by decide)
  have HPT := hide hpt
  have HB2 := hide hb02
  clear hpt hp2 hb2 hb12 hb02 HS2 HP1 HB1
  go_wp2_with fail
  refine HPT.out.mono ?_
  rintro e w3 ⟨v3, rfl, ho3, hb3⟩
  obtain ⟨A3, c3, rfl, hc3, hm3, hp3⟩ := ho3.path
  have hb03 := HB2.out.trans (hb3.mono hz2)
  have hz3 := hb03.size
  have htx := text_any A3 c3 (pathsF exA exB) w3 hp3 (by decide) (by rw [exAB]; intro s hs; simp at hs; rcases hs with rfl | rfl <;> simp [Us]) (HT.out.below hb03)
  rw [exAB_text] at htx
  have HX := hide htx
  have HB3 := hide hb03
  clear htx ho3 hb3 hp3 hb03 HPT HB2
  go_wp2_with fail
  refine HX.out.mono ?_
  rintro e w4 ⟨rfl, hb4⟩
  have HB4 := hide (HB3.out.trans (hb4.mono hz3))
  clear hb4
  go_wp2
  go_ret
  exact ⟨rfl, HB4.out⟩
end Go.Proofs.YtceolenmcpndaaaDoor
