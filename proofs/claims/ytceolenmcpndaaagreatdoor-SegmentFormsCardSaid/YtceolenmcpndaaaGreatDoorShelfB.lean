/- A part of the shelf's contracts at this dump, in plain words (written by the kit's lay-plain.mjs; cut by shelfcut.py). -/
import Derived.Shelf.Pu.ParseUintPublic10
import Derived.Shelf.Strings.Prefix
import Derived.Shelf.Strings.Split
import Derived.Shelf.Strings.IndexAnyAll
import Derived.Shelf.Strings.Runes
import Derived.Shelf.Small.Utf8
import Derived.Shelf.Small.Strs
import Derived.Shelf.Strings.IndexAny
import Derived.Shelf.Strings.AsciiSet
import Derived.Laws.RangeAny
import Derived.Test.YtceolenmcpndaaaGreatDoorProg
namespace Go.Proofs
open Go.Shelf
def Tryz.lays119_ren : Go.Shelf.Ren := ⟨fun | 119 => 64 | n => n, fun | 21 => 21 | 4 => 4 | n => n, fun | n => n⟩
theorem Tryz.lays119 : Go.Proofs.Lays.n119 Tryz.prog Tryz.lays119_ren := {
  mixed := by kernel_rfl
  f119 := Tryz.func64.trans (congrArg some (by kernel_rfl))
  t4 := Tryz.underlying4
  a4 := Tryz.isAgg4
  z4 := Tryz.sizeOf4
  v4 := Tryz.zeroValue4
  t21 := Tryz.underlying21
  a21 := Tryz.isAgg21
  z21 := Tryz.sizeOf21
  v21 := Tryz.zeroValue21 }
/-- utf8.ValidRune: "ValidRune reports whether r can be legally encoded as UTF-8. Code points that are out of range or a surrogate half are illegal.": IT RETURNS 'Lib.validRune r'; the world is as it was. (LAID: no walk: one application.) -/
theorem Tryz.utf8_ValidRune (r : Int) (w : World) :
    Calls Tryz.prog 64 #[.int .i32 r] w fun e w' => e = .returned (.bool (Lib.validRune r)) ∧ w' = w := Any.utf8_ValidRune Tryz.lays119 r w
def Tryz.lays137_ren : Go.Shelf.Ren := ⟨fun | 137 => 63 | 217 => 84 | 266 => 94 | n => n, fun | 9 => 9 | 5 => 5 | 3 => 3 | n => n, fun | n => n⟩
theorem Tryz.lays137 : Go.Proofs.Lays.n137 Tryz.prog Tryz.lays137_ren := {
  mixed := by kernel_rfl
  f137 := Tryz.func63.trans (congrArg some (by kernel_rfl))
  f217 := Tryz.func84.trans (congrArg some (by kernel_rfl))
  f266 := Tryz.func94.trans (congrArg some (by kernel_rfl))
  t3 := Tryz.underlying3
  a3 := Tryz.isAgg3
  z3 := Tryz.sizeOf3
  v3 := Tryz.zeroValue3
  t5 := Tryz.underlying5
  a5 := Tryz.isAgg5
  z5 := Tryz.sizeOf5
  v5 := Tryz.zeroValue5
  t9 := Tryz.underlying9
  a9 := Tryz.isAgg9
  z9 := Tryz.sizeOf9
  v9 := Tryz.zeroValue9 }
open Go.RowKit in
/-- strings.IndexByte: "IndexByte returns the index of the first instance of c in s, or -1 if c is not present in s.": IT RETURNS 'Lib.indexByte s c'; the world is as it was. (LAID: no walk: one application.) -/
theorem Tryz.strings_IndexByte (s : ByteArray) (c : Int) (w : World) :
    Calls Tryz.prog 63 #[.string s, .int .u8 c] w fun e w' => e = .returned (.int .i64 (Lib.indexByte s.data.toList c.toNat.toUInt8)) ∧ w' = w := Any.strings_IndexByte Tryz.lays137 s c w
def Tryz.laysPu14_ren : Go.Shelf.Ren := ⟨fun | 14 => 36 | 16 => 53 | 17 => 54 | 19 => 70 | 20 => 71 | 21 => 72 | 22 => 73 | 23 => 74 | 24 => 75 | 25 => 89 | 27 => 91 | 26 => 90 | 28 => 97 | 29 => 99 | 30 => 57 | 31 => 58 | 32 => 59 | 33 => 60 | 35 => 78 | 34 => 77 | 36 => 79 | 37 => 80 | 38 => 81 | 39 => 92 | 40 => 93 | n => n, fun | 9 => 9 | 3 => 3 | 22 => 49 | 24 => 70 | 25 => 71 | 4 => 4 | 34 => 114 | 5 => 5 | 36 => 74 | 37 => 25 | 0 => 0 | 39 => 116 | 21 => 21 | 44 => 132 | 47 => 107 | 50 => 137 | 48 => 135 | 2 => 2 | 52 => 102 | 55 => 105 | 59 => 121 | 60 => 41 | 20 => 20 | 61 => 122 | 65 => 138 | 66 => 139 | 67 => 81 | n => n, fun | 0 => 3 | 1 => 4 | 2 => 1 | 3 => 5 | 4 => 6 | n => n⟩
theorem Tryz.laysPu14 : Go.Proofs.LaysPu.n14 Tryz.prog Tryz.laysPu14_ren := {
  mixed := by kernel_rfl
  f14 := Tryz.func36.trans (congrArg some (by kernel_rfl))
  f16 := Tryz.func53.trans (congrArg some (by kernel_rfl))
  f17 := Tryz.func54.trans (congrArg some (by kernel_rfl))
  f19 := Tryz.func70.trans (congrArg some (by kernel_rfl))
  f20 := Tryz.func71.trans (congrArg some (by kernel_rfl))
  f21 := Tryz.func72.trans (congrArg some (by kernel_rfl))
  f22 := Tryz.func73.trans (congrArg some (by kernel_rfl))
  f23 := Tryz.func74.trans (congrArg some (by kernel_rfl))
  f24 := Tryz.func75.trans (congrArg some (by kernel_rfl))
  f25 := Tryz.func89.trans (congrArg some (by kernel_rfl))
  f26 := Tryz.func90.trans (congrArg some (by kernel_rfl))
  f27 := Tryz.func91.trans (congrArg some (by kernel_rfl))
  f28 := Tryz.func97.trans (congrArg some (by kernel_rfl))
  f29 := Tryz.func99.trans (congrArg some (by kernel_rfl))
  f30 := Tryz.func57.trans (congrArg some (by kernel_rfl))
  f31 := Tryz.func58.trans (congrArg some (by kernel_rfl))
  f32 := Tryz.func59.trans (congrArg some (by kernel_rfl))
  f33 := Tryz.func60.trans (congrArg some (by kernel_rfl))
  f34 := Tryz.func77.trans (congrArg some (by kernel_rfl))
  f35 := Tryz.func78.trans (congrArg some (by kernel_rfl))
  f36 := Tryz.func79.trans (congrArg some (by kernel_rfl))
  f37 := Tryz.func80.trans (congrArg some (by kernel_rfl))
  f38 := Tryz.func81.trans (congrArg some (by kernel_rfl))
  f39 := Tryz.func92.trans (congrArg some (by kernel_rfl))
  f40 := Tryz.func93.trans (congrArg some (by kernel_rfl))
  t0 := Tryz.underlying0
  a0 := Tryz.isAgg0
  z0 := Tryz.sizeOf0
  v0 := Tryz.zeroValue0
  i0 := by kernel_rfl
  t2 := Tryz.underlying2
  a2 := Tryz.isAgg2
  z2 := Tryz.sizeOf2
  v2 := Tryz.zeroValue2
  i2 := by kernel_rfl
  t3 := Tryz.underlying3
  a3 := Tryz.isAgg3
  z3 := Tryz.sizeOf3
  v3 := Tryz.zeroValue3
  i3 := by kernel_rfl
  t4 := Tryz.underlying4
  a4 := Tryz.isAgg4
  z4 := Tryz.sizeOf4
  v4 := Tryz.zeroValue4
  i4 := by kernel_rfl
  t5 := Tryz.underlying5
  a5 := Tryz.isAgg5
  z5 := Tryz.sizeOf5
  v5 := Tryz.zeroValue5
  i5 := by kernel_rfl
  t9 := Tryz.underlying9
  a9 := Tryz.isAgg9
  z9 := Tryz.sizeOf9
  v9 := Tryz.zeroValue9
  i9 := by kernel_rfl
  t20 := Tryz.underlying20
  a20 := Tryz.isAgg20
  z20 := Tryz.sizeOf20
  v20 := Tryz.zeroValue20
  i20 := by kernel_rfl
  t21 := Tryz.underlying21
  a21 := Tryz.isAgg21
  z21 := Tryz.sizeOf21
  v21 := Tryz.zeroValue21
  i21 := by kernel_rfl
  t22 := Tryz.underlying49
  a22 := Tryz.isAgg49
  z22 := Tryz.sizeOf49
  v22 := Tryz.zeroValue49
  i22 := by kernel_rfl
  t24 := Tryz.underlying70
  a24 := Tryz.isAgg70
  z24 := Tryz.sizeOf70
  v24 := Tryz.zeroValue70
  i24 := by kernel_rfl
  t25 := Tryz.underlying71
  a25 := Tryz.isAgg71
  z25 := Tryz.sizeOf71
  v25 := Tryz.zeroValue71
  i25 := by kernel_rfl
  t34 := Tryz.underlying114
  a34 := Tryz.isAgg114
  z34 := Tryz.sizeOf114
  v34 := Tryz.zeroValue114
  i34 := by kernel_rfl
  c34 := by kernel_rfl
  t36 := Tryz.underlying74
  a36 := Tryz.isAgg74
  z36 := Tryz.sizeOf74
  v36 := Tryz.zeroValue74
  i36 := by kernel_rfl
  t37 := Tryz.underlying25
  a37 := Tryz.isAgg25
  z37 := Tryz.sizeOf25
  v37 := Tryz.zeroValue25
  i37 := by kernel_rfl
  t39 := Tryz.underlying116
  a39 := Tryz.isAgg116
  z39 := Tryz.sizeOf116
  v39 := Tryz.zeroValue116
  i39 := by kernel_rfl
  t44 := Tryz.underlying132
  a44 := Tryz.isAgg132
  z44 := Tryz.sizeOf132
  v44 := Tryz.zeroValue132
  i44 := by kernel_rfl
  t47 := Tryz.underlying107
  a47 := Tryz.isAgg107
  z47 := Tryz.sizeOf107
  v47 := Tryz.zeroValue107
  i47 := by kernel_rfl
  t48 := Tryz.underlying135
  a48 := Tryz.isAgg135
  z48 := Tryz.sizeOf135
  v48 := Tryz.zeroValue135
  i48 := by kernel_rfl
  t50 := Tryz.underlying137
  a50 := Tryz.isAgg137
  z50 := Tryz.sizeOf137
  v50 := Tryz.zeroValue137
  i50 := by kernel_rfl
  t52 := Tryz.underlying102
  a52 := Tryz.isAgg102
  z52 := Tryz.sizeOf102
  v52 := Tryz.zeroValue102
  i52 := by kernel_rfl
  t55 := Tryz.underlying105
  a55 := Tryz.isAgg105
  z55 := Tryz.sizeOf105
  v55 := Tryz.zeroValue105
  i55 := by kernel_rfl
  t59 := Tryz.underlying121
  a59 := Tryz.isAgg121
  z59 := Tryz.sizeOf121
  v59 := Tryz.zeroValue121
  i59 := by kernel_rfl
  t60 := Tryz.underlying41
  a60 := Tryz.isAgg41
  z60 := Tryz.sizeOf41
  v60 := Tryz.zeroValue41
  i60 := by kernel_rfl
  t61 := Tryz.underlying122
  a61 := Tryz.isAgg122
  z61 := Tryz.sizeOf122
  t65 := Tryz.underlying138
  a65 := Tryz.isAgg138
  z65 := Tryz.sizeOf138
  v65 := Tryz.zeroValue138
  i65 := by kernel_rfl
  t66 := Tryz.underlying139
  a66 := Tryz.isAgg139
  z66 := Tryz.sizeOf139
  v66 := Tryz.zeroValue139
  i66 := by kernel_rfl
  t67 := Tryz.underlying81
  a67 := Tryz.isAgg81
  z67 := Tryz.sizeOf81
  v67 := Tryz.zeroValue81
  i67 := by kernel_rfl
  g0 := by kernel_rfl
  m0 := by kernel_rfl
  g1 := by kernel_rfl
  m1 := by kernel_rfl
  g2 := by kernel_rfl
  m2 := by kernel_rfl
  g3 := by kernel_rfl
  m3 := by kernel_rfl
  g4 := by kernel_rfl
  m4 := by kernel_rfl }
def Tryz.lays101_ren : Go.Shelf.Ren := ⟨fun | 101 => 37 | 208 => 55 | 206 => 76 | n => n, fun | 9 => 9 | 4 => 4 | 3 => 3 | n => n, fun | n => n⟩
theorem Tryz.lays101 : Go.Proofs.Lays.n101 Tryz.prog Tryz.lays101_ren := {
  mixed := by kernel_rfl
  f101 := Tryz.func37.trans (congrArg some (by kernel_rfl))
  f206 := Tryz.func76.trans (congrArg some (by kernel_rfl))
  f208 := Tryz.func55.trans (congrArg some (by kernel_rfl))
  t3 := Tryz.underlying3
  a3 := Tryz.isAgg3
  z3 := Tryz.sizeOf3
  v3 := Tryz.zeroValue3
  t4 := Tryz.underlying4
  a4 := Tryz.isAgg4
  z4 := Tryz.sizeOf4
  v4 := Tryz.zeroValue4
  t9 := Tryz.underlying9
  a9 := Tryz.isAgg9
  z9 := Tryz.sizeOf9
  v9 := Tryz.zeroValue9 }
open Go.RowKit Go.Lib in
/-- strings.TrimPrefix: "TrimPrefix returns s without the provided leading prefix string. If s doesn't start with prefix, s is returned unchanged.": IT RETURNS 'Lib.trimPrefix s prefix'; the world is as it was. (LAID: no walk: one application.) -/
theorem Tryz.strings_TrimPrefix (s p : ByteArray) (w : World) :
    Calls Tryz.prog 37 #[.string s, .string p] w fun e w' => e = .returned (.string ⟨(Lib.trimPrefix s.data.toList p.data.toList).toArray⟩) ∧ w' = w := Any.strings_TrimPrefix Tryz.lays101 s p w
def Tryz.lays146_ren : Go.Shelf.Ren := ⟨fun | 146 => 35 | 221 => 52 | 268 => 67 | 138 => 68 | 143 => 69 | 195 => 85 | 197 => 86 | 218 => 87 | 219 => 88 | 260 => 95 | 217 => 84 | 225 => 66 | 224 => 65 | 267 => 96 | 266 => 94 | 314 => 98 | n => n, fun | 9 => 9 | 31 => 47 | 3 => 3 | 4 => 4 | 0 => 0 | 105 => 128 | 21 => 21 | 5 => 5 | 46 => 74 | 119 => 140 | 139 => 143 | 138 => 142 | 146 => 144 | 51 => 41 | n => n, fun | 1 => 2 | 3 => 7 | 4 => 8 | n => n⟩
theorem Tryz.lays146 : Go.Proofs.Lays.n146 Tryz.prog Tryz.lays146_ren := {
  mixed := by kernel_rfl
  f138 := Tryz.func68.trans (congrArg some (by kernel_rfl))
  f143 := Tryz.func69.trans (congrArg some (by kernel_rfl))
  f146 := Tryz.func35.trans (congrArg some (by kernel_rfl))
  f195 := Tryz.func85.trans (congrArg some (by kernel_rfl))
  f197 := Tryz.func86.trans (congrArg some (by kernel_rfl))
  f217 := Tryz.func84.trans (congrArg some (by kernel_rfl))
  f218 := Tryz.func87.trans (congrArg some (by kernel_rfl))
  f219 := Tryz.func88.trans (congrArg some (by kernel_rfl))
  f221 := Tryz.func52.trans (congrArg some (by kernel_rfl))
  f224 := Tryz.func65.trans (congrArg some (by kernel_rfl))
  f225 := Tryz.func66.trans (congrArg some (by kernel_rfl))
  f260 := Tryz.func95.trans (congrArg some (by kernel_rfl))
  f266 := Tryz.func94.trans (congrArg some (by kernel_rfl))
  f267 := Tryz.func96.trans (congrArg some (by kernel_rfl))
  f268 := Tryz.func67.trans (congrArg some (by kernel_rfl))
  f314 := Tryz.func98.trans (congrArg some (by kernel_rfl))
  t0 := Tryz.underlying0
  a0 := Tryz.isAgg0
  z0 := Tryz.sizeOf0
  v0 := Tryz.zeroValue0
  t3 := Tryz.underlying3
  a3 := Tryz.isAgg3
  z3 := Tryz.sizeOf3
  v3 := Tryz.zeroValue3
  t4 := Tryz.underlying4
  a4 := Tryz.isAgg4
  z4 := Tryz.sizeOf4
  v4 := Tryz.zeroValue4
  t5 := Tryz.underlying5
  a5 := Tryz.isAgg5
  z5 := Tryz.sizeOf5
  v5 := Tryz.zeroValue5
  t9 := Tryz.underlying9
  a9 := Tryz.isAgg9
  z9 := Tryz.sizeOf9
  v9 := Tryz.zeroValue9
  t21 := Tryz.underlying21
  a21 := Tryz.isAgg21
  z21 := Tryz.sizeOf21
  v21 := Tryz.zeroValue21
  t31 := Tryz.underlying47
  a31 := Tryz.isAgg47
  z31 := Tryz.sizeOf47
  v31 := Tryz.zeroValue47
  t46 := Tryz.underlying74
  a46 := Tryz.isAgg74
  z46 := Tryz.sizeOf74
  v46 := Tryz.zeroValue74
  t51 := Tryz.underlying41
  a51 := Tryz.isAgg41
  z51 := Tryz.sizeOf41
  v51 := Tryz.zeroValue41
  t105 := Tryz.underlying128
  a105 := Tryz.isAgg128
  z105 := Tryz.sizeOf128
  v105 := Tryz.zeroValue128
  t119 := Tryz.underlying140
  a119 := Tryz.isAgg140
  z119 := Tryz.sizeOf140
  t138 := Tryz.underlying142
  a138 := Tryz.isAgg142
  z138 := Tryz.sizeOf142
  v138 := Tryz.zeroValue142
  t139 := Tryz.underlying143
  a139 := Tryz.isAgg143
  z139 := Tryz.sizeOf143
  v139 := Tryz.zeroValue143
  t146 := Tryz.underlying144
  a146 := Tryz.isAgg144
  z146 := Tryz.sizeOf144
  v146 := Tryz.zeroValue144
  g1 := by kernel_rfl
  g3 := by kernel_rfl
  g4 := by kernel_rfl }
open Go.RowKit Go.Lib in
/-- strings.Split. (LAID: no walk: one application.) -/
theorem Tryz.strings_Split (s sep : ByteArray) (m : Int) (w : World) (hs : s.size < 4294967281) (hm : w.cell? ⟨2, 0, none⟩ = some (.int .i64 m)) (h1 : 1 ≤ sep.size) :
    Calls Tryz.prog 35 #[.string s, .string sep] w fun e w' =>
      e = .returned (.slice (some ⟨w.heap.size, 0, none⟩) (Lib.countB s sep + 1) (Lib.countB s sep + 1)) ∧ w' = w.alloc (.cells ((Lib.splitB sep 0 (Lib.countB s sep) s).map Value.string).toArray 9) := Any.strings_Split Tryz.lays146 (by kernel_rfl) s sep m w hs hm h1
def Tryz.lays152_ren : Go.Shelf.Ren := ⟨fun | 152 => 48 | 137 => 63 | 119 => 64 | 224 => 65 | 225 => 66 | 217 => 84 | 266 => 94 | n => n, fun | 9 => 9 | 21 => 21 | 3 => 3 | 4 => 4 | 5 => 5 | 0 => 0 | 46 => 74 | n => n, fun | n => n⟩
theorem Tryz.lays152 : Go.Proofs.Lays.n152 Tryz.prog Tryz.lays152_ren := {
  mixed := by kernel_rfl
  f119 := Tryz.func64.trans (congrArg some (by kernel_rfl))
  f137 := Tryz.func63.trans (congrArg some (by kernel_rfl))
  f152 := Tryz.func48.trans (congrArg some (by kernel_rfl))
  f217 := Tryz.func84.trans (congrArg some (by kernel_rfl))
  f224 := Tryz.func65.trans (congrArg some (by kernel_rfl))
  f225 := Tryz.func66.trans (congrArg some (by kernel_rfl))
  f266 := Tryz.func94.trans (congrArg some (by kernel_rfl))
  t0 := Tryz.underlying0
  a0 := Tryz.isAgg0
  z0 := Tryz.sizeOf0
  v0 := Tryz.zeroValue0
  t3 := Tryz.underlying3
  a3 := Tryz.isAgg3
  z3 := Tryz.sizeOf3
  v3 := Tryz.zeroValue3
  t4 := Tryz.underlying4
  a4 := Tryz.isAgg4
  z4 := Tryz.sizeOf4
  v4 := Tryz.zeroValue4
  t5 := Tryz.underlying5
  a5 := Tryz.isAgg5
  z5 := Tryz.sizeOf5
  v5 := Tryz.zeroValue5
  t9 := Tryz.underlying9
  a9 := Tryz.isAgg9
  z9 := Tryz.sizeOf9
  v9 := Tryz.zeroValue9
  t21 := Tryz.underlying21
  a21 := Tryz.isAgg21
  z21 := Tryz.sizeOf21
  v21 := Tryz.zeroValue21
  t46 := Tryz.underlying74
  a46 := Tryz.isAgg74
  z46 := Tryz.sizeOf74
  v46 := Tryz.zeroValue74 }
open Go.RowKit Go.Lib in
theorem Tryz.strings_IndexRune_ascii (s : ByteArray) (r : Int) (w : World) (h0 : 0 ≤ r) (h1 : r < 128) :
    Calls Tryz.prog 48 #[.string s, .int .i32 r] w fun e w' => e = .returned (.int .i64 (Lib.indexByte s.data.toList r.toNat.toUInt8)) ∧ w' = w := Any.strings_IndexRune_ascii Tryz.lays152 s r w h0 h1
def Tryz.lays226_ren : Go.Shelf.Ren := ⟨fun | 226 => 49 | n => n, fun | 3 => 3 | 4 => 4 | n => n, fun | n => n⟩
theorem Tryz.lays226 : Go.Proofs.Lays.n226 Tryz.prog Tryz.lays226_ren := {
  mixed := by kernel_rfl
  f226 := Tryz.func49.trans (congrArg some (by kernel_rfl))
  t3 := Tryz.underlying3
  a3 := Tryz.isAgg3
  z3 := Tryz.sizeOf3
  v3 := Tryz.zeroValue3
  t4 := Tryz.underlying4
  a4 := Tryz.isAgg4
  z4 := Tryz.sizeOf4
  v4 := Tryz.zeroValue4 }
open Go.RowKit Go.Lib in
theorem Tryz.strings_shouldUseASCIISet (n : Int) (w : World) :
    Calls Tryz.prog 49 #[.int .i64 n] w fun e w' => e = .returned (.bool (decide (8 < n))) ∧ w' = w := Any.strings_shouldUseASCIISet Tryz.lays226 n w
def Tryz.lays153_ren : Go.Shelf.Ren := ⟨fun | 153 => 34 | 152 => 48 | 226 => 49 | 227 => 50 | 228 => 51 | 137 => 63 | 119 => 64 | 224 => 65 | 225 => 66 | 217 => 84 | 266 => 94 | n => n, fun | 9 => 9 | 3 => 3 | 4 => 4 | 5 => 5 | 21 => 21 | 117 => 96 | 116 => 95 | 0 => 0 | 46 => 74 | 124 => 112 | n => n, fun | n => n⟩
theorem Tryz.lays153 : Go.Proofs.Lays.n153 Tryz.prog Tryz.lays153_ren := {
  mixed := by kernel_rfl
  f119 := Tryz.func64.trans (congrArg some (by kernel_rfl))
  f137 := Tryz.func63.trans (congrArg some (by kernel_rfl))
  f152 := Tryz.func48.trans (congrArg some (by kernel_rfl))
  f153 := Tryz.func34.trans (congrArg some (by kernel_rfl))
  f217 := Tryz.func84.trans (congrArg some (by kernel_rfl))
  f224 := Tryz.func65.trans (congrArg some (by kernel_rfl))
  f225 := Tryz.func66.trans (congrArg some (by kernel_rfl))
  f226 := Tryz.func49.trans (congrArg some (by kernel_rfl))
  f227 := Tryz.func50.trans (congrArg some (by kernel_rfl))
  f228 := Tryz.func51.trans (congrArg some (by kernel_rfl))
  f266 := Tryz.func94.trans (congrArg some (by kernel_rfl))
  t0 := Tryz.underlying0
  a0 := Tryz.isAgg0
  z0 := Tryz.sizeOf0
  v0 := Tryz.zeroValue0
  t3 := Tryz.underlying3
  a3 := Tryz.isAgg3
  z3 := Tryz.sizeOf3
  v3 := Tryz.zeroValue3
  t4 := Tryz.underlying4
  a4 := Tryz.isAgg4
  z4 := Tryz.sizeOf4
  v4 := Tryz.zeroValue4
  t5 := Tryz.underlying5
  a5 := Tryz.isAgg5
  z5 := Tryz.sizeOf5
  v5 := Tryz.zeroValue5
  t9 := Tryz.underlying9
  a9 := Tryz.isAgg9
  z9 := Tryz.sizeOf9
  v9 := Tryz.zeroValue9
  t21 := Tryz.underlying21
  a21 := Tryz.isAgg21
  z21 := Tryz.sizeOf21
  v21 := Tryz.zeroValue21
  t46 := Tryz.underlying74
  a46 := Tryz.isAgg74
  z46 := Tryz.sizeOf74
  v46 := Tryz.zeroValue74
  t116 := Tryz.underlying95
  a116 := Tryz.isAgg95
  z116 := Tryz.sizeOf95
  t117 := Tryz.underlying96
  a117 := Tryz.isAgg96
  z117 := Tryz.sizeOf96
  v117 := Tryz.zeroValue96
  t124 := Tryz.underlying112
  a124 := Tryz.isAgg112
  z124 := Tryz.sizeOf112
  v124 := Tryz.zeroValue112 }
open Go.RowKit Go.Lib in
theorem Tryz.strings_IndexAny_long (hv116 : ∀ w, (zeroValue 95).run Tryz.prog w = .ok (.agg (Array.replicate 256 (.bool false))) w) (s chars : ByteArray) (w : World) (h2 : 2 ≤ chars.size) (h8 : 8 < s.size) (hs : s.size < 4294967281) (hcs : chars.size < 4294967281) (hascii : ∀ (j : Nat) b, chars.data.toList[j]? = some b → b.toNat < 128) :
    Calls Tryz.prog 34 #[.string s, .string chars] w fun e w' => e = .returned (.int .i64 (Lib.indexAny s.data.toList chars.data.toList)) ∧ w' = ((w.alloc (.cells (Lib.setCells chars.data.toList) 95)).alloc (.cells (Lib.setCells chars.data.toList) 95)) := Any.strings_IndexAny_long Tryz.lays153 hv116 (by kernel_rfl) s chars w h2 h8 hs hcs hascii
end Go.Proofs
