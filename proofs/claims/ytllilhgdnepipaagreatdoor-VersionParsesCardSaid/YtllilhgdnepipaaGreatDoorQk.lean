-- Merged by a small program of this claim's maker out of 1 texts.
import Derived.Shelf.LaysM
import Derived.Shelf.Spec.SlicesGrow
import Derived.Shelf.Strings.Builder1
import Derived.Shelf.Strconv.Itoa3
import Derived.Shelf.Strings.Runes
import Derived.Shelf.Strings.IndexAny
import Derived.Shelf.Strings.AsciiSet
import Derived.Shelf.Strings.IndexAnyAll
import Derived.Test.YtllilhgdnepipaaGreatDoorProg

/-
  Contracts of Go's library at this program (strconv.Itoa, strings.IndexRune of an ASCII rune, strings.IndexAny), written by the kit's tool lay-plain out of what lay-shelf wrote.
-/
namespace Go.Proofs
open Go.Shelf
def Tryz.laysM171_ren : Go.Shelf.Ren := ⟨fun | 171 => 97 | 243 => 143 | 246 => 161 | 283 => 173 | 284 => 174 | 285 => 175 | 286 => 176 | 129 => 180 | 317 => 179 | 318 => 181 | 319 => 182 | 320 => 183 | 337 => 185 | 338 => 186 | n => n, fun | 3 => 3 | 9 => 9 | 2 => 2 | 4 => 4 | 171 => 199 | 0 => 0 | 53 => 200 | 37 => 77 | 5 => 5 | 173 => 203 | 212 => 208 | 51 => 196 | 20 => 20 | 213 => 209 | 46 => 186 | 232 => 216 | 233 => 217 | n => n, fun | 17 => 14 | 18 => 17 | 19 => 18 | n => n⟩
theorem Tryz.laysM171 : Go.Proofs.LaysM.n171 Tryz.prog Tryz.laysM171_ren := {
  mixed := by kernel_rfl
  f129 := Tryz.func180.trans (congrArg some (by kernel_rfl))
  f171 := Tryz.func97.trans (congrArg some (by kernel_rfl))
  f243 := Tryz.func143.trans (congrArg some (by kernel_rfl))
  f246 := Tryz.func161.trans (congrArg some (by kernel_rfl))
  f283 := Tryz.func173.trans (congrArg some (by kernel_rfl))
  f284 := Tryz.func174.trans (congrArg some (by kernel_rfl))
  f285 := Tryz.func175.trans (congrArg some (by kernel_rfl))
  f286 := Tryz.func176.trans (congrArg some (by kernel_rfl))
  f317 := Tryz.func179.trans (congrArg some (by kernel_rfl))
  f318 := Tryz.func181.trans (congrArg some (by kernel_rfl))
  f319 := Tryz.func182.trans (congrArg some (by kernel_rfl))
  f320 := Tryz.func183.trans (congrArg some (by kernel_rfl))
  f337 := Tryz.func185.trans (congrArg some (by kernel_rfl))
  f338 := Tryz.func186.trans (congrArg some (by kernel_rfl))
  t0 := Tryz.underlying0
  a0 := Tryz.isAgg0
  z0 := Tryz.sizeOf0
  v0 := Tryz.zeroValue0
  t2 := Tryz.underlying2
  a2 := Tryz.isAgg2
  z2 := Tryz.sizeOf2
  v2 := Tryz.zeroValue2
  t3 := Tryz.underlying3
  a3 := Tryz.isAgg3
  z3 := Tryz.sizeOf3
  v3 := Tryz.zeroValue3
  t4 := Tryz.underlying4
  a4 := Tryz.isAgg4
  z4 := Tryz.sizeOf4
  v4 := Tryz.zeroValue4
  t5 := Tryz.underlying5
  a5 := Tryz.isAgg5
  z5 := Tryz.sizeOf5
  v5 := Tryz.zeroValue5
  t9 := Tryz.underlying9
  a9 := Tryz.isAgg9
  z9 := Tryz.sizeOf9
  v9 := Tryz.zeroValue9
  t20 := Tryz.underlying20
  a20 := Tryz.isAgg20
  z20 := Tryz.sizeOf20
  v20 := Tryz.zeroValue20
  t37 := Tryz.underlying77
  a37 := Tryz.isAgg77
  z37 := Tryz.sizeOf77
  v37 := Tryz.zeroValue77
  t46 := Tryz.underlying186
  a46 := Tryz.isAgg186
  z46 := Tryz.sizeOf186
  v46 := Tryz.zeroValue186
  t51 := Tryz.underlying196
  a51 := Tryz.isAgg196
  z51 := Tryz.sizeOf196
  v51 := Tryz.zeroValue196
  t53 := Tryz.underlying200
  a53 := Tryz.isAgg200
  z53 := Tryz.sizeOf200
  v53 := Tryz.zeroValue200
  t171 := Tryz.underlying199
  a171 := Tryz.isAgg199
  z171 := Tryz.sizeOf199
  v171 := Tryz.zeroValue199
  t173 := Tryz.underlying203
  a173 := Tryz.isAgg203
  z173 := Tryz.sizeOf203
  v173 := Tryz.zeroValue203
  t212 := Tryz.underlying208
  a212 := Tryz.isAgg208
  z212 := Tryz.sizeOf208
  v212 := Tryz.zeroValue208
  t213 := Tryz.underlying209
  a213 := Tryz.isAgg209
  z213 := Tryz.sizeOf209
  t232 := Tryz.underlying216
  a232 := Tryz.isAgg216
  z232 := Tryz.sizeOf216
  v232 := Tryz.zeroValue216
  t233 := Tryz.underlying217
  a233 := Tryz.isAgg217
  z233 := Tryz.sizeOf217
  v233 := Tryz.zeroValue217
  g17 := by kernel_rfl
  g18 := by kernel_rfl
  g19 := by kernel_rfl
  i0 := by kernel_rfl
  i2 := by kernel_rfl
  i3 := by kernel_rfl
  i4 := by kernel_rfl
  i5 := by kernel_rfl
  i9 := by kernel_rfl
  i20 := by kernel_rfl
  i37 := by kernel_rfl
  i46 := by kernel_rfl
  i51 := by kernel_rfl
  i53 := by kernel_rfl
  i171 := by kernel_rfl
  i173 := by kernel_rfl
  i212 := by kernel_rfl
  i232 := by kernel_rfl
  i233 := by kernel_rfl
  m17 := by kernel_rfl
  m18 := by kernel_rfl
  m19 := by kernel_rfl }
open Go.RowKit Go.Sort Go.Lib in
/-- strconv.Itoa: "Itoa is equivalent to FormatInt(int64(i), 10).": i's DECIMAL NUMERAL ('Lib.itoa': a '-' where i is negative, then the digits), FOR EVERY int. The world behind the call: the world before it, new blocks behind the heap (the library's 'var a [24]byte'), draws. (LAID: no walk: one application.) -/
theorem Tryz.strconv_Itoa (n : Int) (h0 : -9223372036854775808 ≤ n) (h1 : n ≤ 9223372036854775807) (w : World) (htab : Lib.TabIs Tryz.prog w "internal/strconv.uint64pow10" .u64 Lib.pow10Tab) :
    Calls Tryz.prog 97 #[.int .i64 n] w fun e w' => e = .returned (.string ⟨(Lib.itoa n).toArray⟩) ∧ ∃ k os, w' = grow (w.drewN k) os := Any.strconv_Itoa Tryz.laysM171 n h0 h1 w htab
def Tryz.lays152_ren : Go.Shelf.Ren := ⟨fun | 152 => 137 | 137 => 159 | 119 => 160 | 224 => 157 | 225 => 156 | 217 => 155 | 266 => 171 | n => n, fun | 9 => 9 | 21 => 21 | 3 => 3 | 4 => 4 | 5 => 5 | 0 => 0 | 46 => 186 | n => n, fun | n => n⟩
theorem Tryz.lays152 : Go.Proofs.Lays.n152 Tryz.prog Tryz.lays152_ren := {
  mixed := by kernel_rfl
  f119 := Tryz.func160.trans (congrArg some (by kernel_rfl))
  f137 := Tryz.func159.trans (congrArg some (by kernel_rfl))
  f152 := Tryz.func137.trans (congrArg some (by kernel_rfl))
  f217 := Tryz.func155.trans (congrArg some (by kernel_rfl))
  f224 := Tryz.func157.trans (congrArg some (by kernel_rfl))
  f225 := Tryz.func156.trans (congrArg some (by kernel_rfl))
  f266 := Tryz.func171.trans (congrArg some (by kernel_rfl))
  t0 := Tryz.underlying0
  a0 := Tryz.isAgg0
  z0 := Tryz.sizeOf0
  v0 := Tryz.zeroValue0
  t3 := Tryz.underlying3
  a3 := Tryz.isAgg3
  z3 := Tryz.sizeOf3
  v3 := Tryz.zeroValue3
  t4 := Tryz.underlying4
  a4 := Tryz.isAgg4
  z4 := Tryz.sizeOf4
  v4 := Tryz.zeroValue4
  t5 := Tryz.underlying5
  a5 := Tryz.isAgg5
  z5 := Tryz.sizeOf5
  v5 := Tryz.zeroValue5
  t9 := Tryz.underlying9
  a9 := Tryz.isAgg9
  z9 := Tryz.sizeOf9
  v9 := Tryz.zeroValue9
  t21 := Tryz.underlying21
  a21 := Tryz.isAgg21
  z21 := Tryz.sizeOf21
  v21 := Tryz.zeroValue21
  t46 := Tryz.underlying186
  a46 := Tryz.isAgg186
  z46 := Tryz.sizeOf186
  v46 := Tryz.zeroValue186 }
open Go.RowKit Go.Lib in
theorem Tryz.strings_IndexRune_ascii (s : ByteArray) (r : Int) (w : World) (h0 : 0 ≤ r) (h1 : r < 128) :
    Calls Tryz.prog 137 #[.string s, .int .i32 r] w fun e w' => e = .returned (.int .i64 (Lib.indexByte s.data.toList r.toNat.toUInt8)) ∧ w' = w := Any.strings_IndexRune_ascii Tryz.lays152 s r w h0 h1
def Tryz.lays153_ren : Go.Shelf.Ren := ⟨fun | 153 => 89 | 152 => 137 | 226 => 138 | 227 => 139 | 228 => 140 | 137 => 159 | 119 => 160 | 224 => 157 | 225 => 156 | 217 => 155 | 266 => 171 | n => n, fun | 9 => 9 | 3 => 3 | 4 => 4 | 5 => 5 | 21 => 21 | 117 => 162 | 116 => 161 | 0 => 0 | 46 => 186 | 124 => 188 | n => n, fun | n => n⟩
theorem Tryz.lays153 : Go.Proofs.Lays.n153 Tryz.prog Tryz.lays153_ren := {
  mixed := by kernel_rfl
  f119 := Tryz.func160.trans (congrArg some (by kernel_rfl))
  f137 := Tryz.func159.trans (congrArg some (by kernel_rfl))
  f152 := Tryz.func137.trans (congrArg some (by kernel_rfl))
  f153 := Tryz.func89.trans (congrArg some (by kernel_rfl))
  f217 := Tryz.func155.trans (congrArg some (by kernel_rfl))
  f224 := Tryz.func157.trans (congrArg some (by kernel_rfl))
  f225 := Tryz.func156.trans (congrArg some (by kernel_rfl))
  f226 := Tryz.func138.trans (congrArg some (by kernel_rfl))
  f227 := Tryz.func139.trans (congrArg some (by kernel_rfl))
  f228 := Tryz.func140.trans (congrArg some (by kernel_rfl))
  f266 := Tryz.func171.trans (congrArg some (by kernel_rfl))
  t0 := Tryz.underlying0
  a0 := Tryz.isAgg0
  z0 := Tryz.sizeOf0
  v0 := Tryz.zeroValue0
  t3 := Tryz.underlying3
  a3 := Tryz.isAgg3
  z3 := Tryz.sizeOf3
  v3 := Tryz.zeroValue3
  t4 := Tryz.underlying4
  a4 := Tryz.isAgg4
  z4 := Tryz.sizeOf4
  v4 := Tryz.zeroValue4
  t5 := Tryz.underlying5
  a5 := Tryz.isAgg5
  z5 := Tryz.sizeOf5
  v5 := Tryz.zeroValue5
  t9 := Tryz.underlying9
  a9 := Tryz.isAgg9
  z9 := Tryz.sizeOf9
  v9 := Tryz.zeroValue9
  t21 := Tryz.underlying21
  a21 := Tryz.isAgg21
  z21 := Tryz.sizeOf21
  v21 := Tryz.zeroValue21
  t46 := Tryz.underlying186
  a46 := Tryz.isAgg186
  z46 := Tryz.sizeOf186
  v46 := Tryz.zeroValue186
  t116 := Tryz.underlying161
  a116 := Tryz.isAgg161
  z116 := Tryz.sizeOf161
  t117 := Tryz.underlying162
  a117 := Tryz.isAgg162
  z117 := Tryz.sizeOf162
  v117 := Tryz.zeroValue162
  t124 := Tryz.underlying188
  a124 := Tryz.isAgg188
  z124 := Tryz.sizeOf188
  v124 := Tryz.zeroValue188 }
open Go.RowKit Go.Lib in
theorem Tryz.strings_IndexAny_long (hv116 : ∀ w, (zeroValue 161).run Tryz.prog w = .ok (.agg (Array.replicate 256 (.bool false))) w) (s chars : ByteArray) (w : World) (h2 : 2 ≤ chars.size) (h8 : 8 < s.size) (hs : s.size < 4294967281) (hcs : chars.size < 4294967281) (hascii : ∀ (j : Nat) b, chars.data.toList[j]? = some b → b.toNat < 128) :
    Calls Tryz.prog 89 #[.string s, .string chars] w fun e w' => e = .returned (.int .i64 (Lib.indexAny s.data.toList chars.data.toList)) ∧ w' = ((w.alloc (.cells (Lib.setCells chars.data.toList) 161)).alloc (.cells (Lib.setCells chars.data.toList) 161)) := Any.strings_IndexAny_long Tryz.lays153 hv116 (by kernel_rfl) s chars w h2 h8 hs hcs hascii
def Tryz.grow98_ren : Go.Shelf.Ren := ⟨fun | 4 => 98 | n => n, fun | 22 => 23 | 25 => 87 | 3 => 3 | 4 => 4 | 9 => 9 | 20 => 20 | 0 => 0 | n => n, fun | n => n⟩
theorem Tryz.grow98 : Go.Proofs.Lays8.n4 Tryz.prog Tryz.grow98_ren := {
  mixed := by kernel_rfl
  f4 := ⟨Tryz.f98.name, by decide, Tryz.func98.trans (congrArg some (by kernel_rfl))⟩
  t0 := Tryz.underlying0
  a0 := Tryz.isAgg0
  z0 := Tryz.sizeOf0
  v0 := Tryz.zeroValue0
  t3 := Tryz.underlying3
  a3 := Tryz.isAgg3
  z3 := Tryz.sizeOf3
  v3 := Tryz.zeroValue3
  t4 := Tryz.underlying4
  a4 := Tryz.isAgg4
  z4 := Tryz.sizeOf4
  v4 := Tryz.zeroValue4
  t9 := Tryz.underlying9
  a9 := Tryz.isAgg9
  z9 := Tryz.sizeOf9
  v9 := Tryz.zeroValue9
  t20 := Tryz.underlying20
  a20 := Tryz.isAgg20
  z20 := Tryz.sizeOf20
  v20 := Tryz.zeroValue20
  t22 := Tryz.underlying23
  a22 := Tryz.isAgg23
  z22 := Tryz.sizeOf23
  v22 := Tryz.zeroValue23 }
end Go.Proofs
