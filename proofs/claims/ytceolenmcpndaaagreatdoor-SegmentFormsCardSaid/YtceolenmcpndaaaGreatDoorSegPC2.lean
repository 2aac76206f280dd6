/- What segment.Parse calls, at texts as lists of bytes: IndexAny, Split, TrimPrefix, ParseUint. -/
import Derived.Test.YtceolenmcpndaaaGreatDoorSegPB2
set_option autoImplicit false
namespace Go.Proofs.YtceolenmcpndaaaGreatDoor
open Go.RowKit Go.Sort Go.Shelf

/-- The variables that the library's functions read. -/
structure TabsQ (w : World) : Prop where
  tabs : TabsP w
  len : ∃ m, w.cell? ⟨2, 0, none⟩ = some (.int .i64 m)
  syn : ∃ t p, w.cell? ⟨3, 0, none⟩ = some (.iface t p)
  rng : ∃ t p, w.cell? ⟨4, 0, none⟩ = some (.iface t p)
theorem TabsQ.below {w w' : World} (h : TabsQ w) (hb : Below w.heap.size w w') : TabsQ w' := by
  obtain ⟨m, hm⟩ := h.len
  obtain ⟨t, p, hs⟩ := h.syn
  obtain ⟨t', p', hr⟩ := h.rng
  exact ⟨h.tabs.below hb, ⟨m, cell_below hm hb⟩, ⟨t, p, cell_below hs hb⟩, ⟨t', p', cell_below hr hb⟩⟩

def idxC (l : List UInt8) : Int := match l.findIdx? clB with
  | some i => i
  | none => -1
theorem set_info : (Tryz.prog.info? 95).map (fun i => (i.zero, i.size)) = some (some (.agg (Array.replicate 256 (.bool false))), 256) := by kernel_rfl
theorem idx_any (l : List UInt8) (w : World) (hl : l.length ≤ 100000) :
    Calls Tryz.prog 34 #[.string (strB l), .string ⟨#[93, 125]⟩] w fun e w' => e = .returned (.int .i64 (idxC l)) ∧ Below w.heap.size w w' := by
  have e : idxC l = Lib.indexAny (strB l).data.toList [93, 125] := by rw [strB_list, any_close]; rfl
  have hsz : (strB l).size = l.length := by rw [Lib.size_eq]; rfl
  rw [e]
  by_cases h8 : (strB l).size ≤ 8
  · exact idx_short (strB l) w h8
  · refine (Tryz.strings_IndexAny_long (zero_of_info set_info).1 (strB l) ⟨#[93, 125]⟩ w (by decide) (by omega) (by omega) (by decide) (fun j b hb => ?_)).mono fun e w' ⟨h1, h2⟩ => ⟨h1, ?_⟩
    · have : b = 93 ∨ b = 125 := by
        have hm := List.mem_of_getElem? hb
        simpa using hm
      rcases this with rfl | rfl <;> decide
    · rw [h2]
      exact ((Below.refl _ _).alloc (Nat.le_refl _) _).alloc (by simp) _
theorem strB_eta (p : ByteArray) : strB p.data.toList = p := by cases p; simp [strB]
theorem strV_map (ps : List ByteArray) : ps.map Value.string = strV (ps.map (·.data.toList)) := by
  simp only [strV, List.map_map]
  refine List.map_congr_left fun p _ => ?_
  show Value.string p = Value.string (strB p.data.toList)
  rw [strB_eta]
theorem split_any (l : List UInt8) (w : World) (hl : l.length ≤ 100000) (ht : TabsQ w) :
    Calls Tryz.prog 35 #[.string (strB l), .string ⟨#[32]⟩] w fun e w' => e = .returned (.slice (some ⟨w.heap.size, 0, none⟩) (cutB 32 l).length (cutB 32 l).length) ∧ w' = w.alloc (.cells (strV (cutB 32 l)).toArray 9) := by
  obtain ⟨m, hm⟩ := ht.len
  have hsz : (strB l).size = l.length := by rw [Lib.size_eq]; rfl
  have hd : (Lib.splitB ⟨#[32]⟩ 0 (Lib.countB (strB l) ⟨#[32]⟩) (strB l)).map (·.data.toList) = cutB 32 l := by
    rw [Lib.splitB_data]
    exact split_cut 32 l
  have hn : Lib.countB (strB l) ⟨#[32]⟩ + 1 = (cutB 32 l).length := by
    rw [← hd, List.length_map, Lib.splitB_all ⟨#[32]⟩ (by decide) 0 _ _ rfl]
  have := Tryz.strings_Split (strB l) ⟨#[32]⟩ m w (by omega) hm (by decide)
  rw [hn, strV_map, hd] at this
  exact this
theorem trim_any (l : List UInt8) (w : World) :
    Calls Tryz.prog 37 #[.string (strB l), .string ⟨#[32]⟩] w fun e w' => e = .returned (.string (strB (trimS l))) ∧ w' = w := by
  have e : Lib.trimPrefix (strB l).data.toList [32] = trimS l := by
    rw [strB_list]
    cases l with
    | nil => rfl
    | cons c r =>
      by_cases h : c = 32
      · subst h; simp [Lib.trimPrefix, Lib.hasPrefix, trimS]
      · have h2 : trimS (c :: r) = c :: r := by
          unfold trimS
          split
          · rename_i r' e; injection e with e1 e2; exact absurd e1 h
          · rfl
        rw [h2]
        simp [Lib.trimPrefix, Lib.hasPrefix, Ne.symm h]
  have := Tryz.strings_TrimPrefix (strB l) ⟨#[32]⟩ w
  rw [show (⟨#[32]⟩ : ByteArray).data.toList = [32] from rfl, e] at this
  exact this
theorem num_any (x : List UInt8) (w : World) (hl : x.length ≤ 100000) (ht : TabsQ w) :
    Calls Tryz.prog 36 #[.string (strB x), .int .i64 10, .int .i64 32] w fun e w' => Below w.heap.size w w' ∧
      ((∃ u : Nat, u < 4294967296 ∧ wordN x = some (u : Int) ∧ e = .returned (.tuple #[.int .u64 u, .nilIface])) ∨ (wordN x = none ∧ ∃ y t p, e = .returned (.tuple #[.int .u64 y, .iface t p]))) := by
  obtain ⟨t, p, hs⟩ := ht.syn
  obtain ⟨t', p', hr⟩ := ht.rng
  have hsz : (strB x).size = x.length := by rw [Lib.size_eq]; rfl
  rcases hh : Lib.parseUintB 32 (strB x).data.toList with u | _ | _
  · obtain ⟨h1, h2⟩ := word_ok x u hh
    refine (Any.strconv_ParseUint_10_at32_ok Tryz.laysPu14 (strB x) (by omega) u hh w).mono fun e w' ⟨h3, h4⟩ => ⟨?_, .inl ⟨u, h2, h1, h3⟩⟩
    rcases h4 with rfl | rfl
    · exact Below.refl _ _
    · exact Lib.bytesWorld_below _ _ _
  · have hno := word_no x (fun u h => by have := hh.symm.trans h; cases this)
    exact (Any.strconv_ParseUint_10_at32_syntax Tryz.laysPu14 (strB x) (by omega) hh _ w hs (.inr ⟨_, _, rfl⟩)).mono fun e w' ⟨N, h1, _, _, h4⟩ => ⟨h4, .inr ⟨hno, _, _, _, h1⟩⟩
  · have hno := word_no x (fun u h => by have := hh.symm.trans h; cases this)
    exact (Any.strconv_ParseUint_10_at32_range Tryz.laysPu14 (strB x) (by omega) hh _ w hr (.inr ⟨_, _, rfl⟩)).mono fun e w' ⟨N, h1, _, _, h4⟩ => ⟨h4, .inr ⟨hno, _, _, _, h1⟩⟩
end Go.Proofs.YtceolenmcpndaaaGreatDoor
