/- Texts of this claim, joined by a program: Shelf, StrA, K, K2, Cat, GPa, GSa, Enc, Map, Mut, Deep, EncD, Pool, DeepO, CatI. -/
import Derived.Test.YtjhipfdbionpoaaGreatDoorJ1
import Derived.Shelf.SlIter.Sorted
import Derived.Ground.GgzProg
import Derived.Shelf.Strings.Builder1
import Derived.Shelf.Strings.Builder2
import Derived.Shelf.Small.Bits
import Derived.Shelf.Small.Strs
import Derived.Shelf.Small.Wraps
import Derived.Shelf.Strings.BuilderF
import Derived.Shelf.Strings.BuilderK
import Derived.Shelf.Utf8.RuneCount
import Derived.Shelf.Strings.Builder2Cap
import Derived.Shelf.Strconv.Itoa0
import Derived.Shelf.Strconv.Itoa1
import Derived.Shelf.LaysM
import Derived.Shelf.Strconv.Itoa2
import Derived.Shelf.Strconv.Itoa3
import Derived.Shelf.Strings.Search1
import Derived.Shelf.Strings.Search2
import Derived.Shelf.Strings.Search3
import Derived.Shelf.Strings.Count
import Derived.Shelf.Strings.Shaped
import Derived.Shelf.Sort.Plain
import Derived.Shelf.Strings.Prefix
import Derived.Shelf.Strings.Split
import Derived.Shelf.Strings.Replace
import Derived.Shelf.Strings.SplitShaped
import Derived.Shelf.Unicode.Decode
import Derived.Shelf.Strings.RuneCount
import Derived.Shelf.Strings.Explode
import Derived.Shelf.Unicode.DecodeSlow
import Derived.Shelf.Unicode.DecodeAny
import Derived.Shelf.Strings.BuilderCap
import Derived.Shelf.Slices.Turned
import Derived.Ground.Names2Prog
import Derived.Shelf.Slices.ReverseS
import Derived.Shelf.Slices.Clone
import Derived.Shelf.Slices.CompactI
import Derived.Shelf.Slices.CompactS
import Derived.Shelf.Slices.SearchI
import Derived.Shelf.Slices.Cells
import Derived.Shelf.Slices.In.SortNone
import Derived.Ground.SlgnProg
import Derived.Shelf.SlicesE.Reverse
import Derived.Shelf.SlicesE.Clone
import Derived.Test.YtjhipfdbionpoaaGreatDoorProg
import Derived.Lib.SplitLaws
import Derived.Lib.SliceRun
import Derived.Sort.OwnSorted
import Derived.Maps.RangeRun
import Derived.Maps.Keyed
import Derived.Carry
import Derived.StringKeys
import Derived.Sort.OwnSortedInts
/-
  DERIVED: THE SHELF's CONTRACTS AT THIS DUMP, IN PLAIN WORDS (tools/lay-plain.mjs out of 'TryzShelf.lean', which tools/lay-shelf.mjs wrote): THE SAME DECLARATIONS UNDER THE SAME NAMES: 'import', 'namespace', 'open', 'def', 'theorem' AND NOTHING ELSE: no command of the shelf's: FOR A HAND-IN. Each laying: the table of numbers ('.._ren') and one theorem, a field a fact of the dump's own or the kernel's comparison; each contract: ONE APPLICATION.
-/
namespace Go.Proofs
open Go.Shelf
def Tryz.sorted161_ren : Go.Shelf.Ren := ⟨fun | 6 => 161 | 8 => 178 | 9 => 179 | 11 => 194 | 13 => 67 | 12 => 195 | 23 => 93 | 24 => 94 | 14 => 203 | 15 => 204 | 16 => 205 | 17 => 206 | 18 => 207 | 19 => 208 | 20 => 209 | 21 => 210 | 22 => 211 | 25 => 214 | 26 => 125 | 27 => 126 | 28 => 215 | 29 => 216 | 30 => 217 | 31 => 218 | n => n, fun | 26 => 9 | 28 => 207 | 24 => 41 | 0 => 0 | 3 => 3 | 37 => 113 | 48 => 130 | 50 => 131 | 4 => 4 | 40 => 140 | 39 => 139 | 45 => 87 | 5 => 5 | 9 => 9 | 51 => 169 | 55 => 173 | 57 => 195 | 58 => 190 | 33 => 101 | n => n, fun | n => n⟩
theorem Tryz.sorted161 : Go.Proofs.SlLaysZ.n6 Tryz.prog Tryz.sorted161_ren := {
  mixed := by kernel_rfl
  f6 := ⟨Tryz.f161.name, by decide, Tryz.func161.trans (congrArg some (by kernel_rfl))⟩
  f8 := ⟨Tryz.f178.name, by decide, Tryz.func178.trans (congrArg some (by kernel_rfl))⟩
  f11 := ⟨Tryz.f194.name, by decide, Tryz.func194.trans (congrArg some (by kernel_rfl))⟩
  t0 := Tryz.underlying0
  a0 := Tryz.isAgg0
  z0 := Tryz.sizeOf0
  v0 := Tryz.zeroValue0
  t24 := Tryz.underlying41
  a24 := Tryz.isAgg41
  z24 := Tryz.sizeOf41
  v24 := Tryz.zeroValue41
  t26 := Tryz.underlying9
  a26 := Tryz.isAgg9
  z26 := Tryz.sizeOf9
  v26 := Tryz.zeroValue9
  t28 := Tryz.underlying207
  a28 := Tryz.isAgg207
  z28 := Tryz.sizeOf207
  v28 := Tryz.zeroValue207
  i26 := by kernel_rfl }
def Tryz.lays169_ren : Go.Shelf.Ren := ⟨fun | 169 => 139 | n => n, fun | 70 => 182 | 9 => 9 | 0 => 0 | 72 => 184 | 37 => 112 | 127 => 210 | 3 => 3 | 5 => 5 | n => n, fun | n => n⟩
theorem Tryz.lays169 : Go.Proofs.Lays.n169 Tryz.prog Tryz.lays169_ren := {
  mixed := by kernel_rfl
  f169 := Tryz.func139.trans (congrArg some (by kernel_rfl))
  t0 := Tryz.underlying0
  a0 := Tryz.isAgg0
  z0 := Tryz.sizeOf0
  v0 := Tryz.zeroValue0
  t3 := Tryz.underlying3
  a3 := Tryz.isAgg3
  z3 := Tryz.sizeOf3
  v3 := Tryz.zeroValue3
  t9 := Tryz.underlying9
  a9 := Tryz.isAgg9
  z9 := Tryz.sizeOf9
  v9 := Tryz.zeroValue9
  t37 := Tryz.underlying112
  a37 := Tryz.isAgg112
  z37 := Tryz.sizeOf112
  v37 := Tryz.zeroValue112
  t70 := Tryz.underlying182
  a70 := Tryz.isAgg182
  z70 := Tryz.sizeOf182
  v70 := Tryz.zeroValue182
  t72 := Tryz.underlying184
  a72 := Tryz.isAgg184
  z72 := Tryz.sizeOf184
  v72 := Tryz.zeroValue184
  t127 := Tryz.underlying210
  a127 := Tryz.isAgg210
  z127 := Tryz.sizeOf210
  v127 := Tryz.zeroValue210 }
theorem Tryz.Builder_Extra_169 : Builder.Extra Tryz.prog Tryz.lays169_ren := {
  sizeBuilder := by kernel_rfl
  liesBuilder := by kernel_rfl
  t5 := Tryz.underlying5
  a5 := Tryz.isAgg5
  z5 := Tryz.sizeOf5
  v5 := Tryz.zeroValue5
  infoByte := by kernel_rfl
  cellsByte := by kernel_rfl
  sizeByte := by kernel_rfl
  neB5 := by decide }
open Go.RowKit in
/-- (*strings.Builder).String: "String returns the accumulated string.": WHATEVER THE BUILDER HOLDS. (LAID: no walk: one application.) -/
theorem Tryz.Builder_String_any (B b : Nat) (l : List UInt8) (w : World) (h : Lib.IsBuilder 184 5 B b (Lib.byteCells l) w) (hBw : B ≤ w.heap.size) :
    Calls Tryz.prog 139 #[.pointer (some ⟨b, 0, none⟩)] w fun e w' => e = .returned (.string ⟨l.toArray⟩) ∧ Below B w w' := Any.Builder_String_any Tryz.lays169 Tryz.Builder_Extra_169 B b l w h hBw
def Tryz.lays106_ren : Go.Shelf.Ren := ⟨fun | 106 => 45 | 213 => 72 | 265 => 109 | n => n, fun | 9 => 9 | 3 => 3 | n => n, fun | n => n⟩
theorem Tryz.lays106 : Go.Proofs.Lays.n106 Tryz.prog Tryz.lays106_ren := {
  mixed := by kernel_rfl
  f106 := Tryz.func45.trans (congrArg some (by kernel_rfl))
  f213 := Tryz.func72.trans (congrArg some (by kernel_rfl))
  f265 := Tryz.func109.trans (congrArg some (by kernel_rfl))
  t3 := Tryz.underlying3
  a3 := Tryz.isAgg3
  z3 := Tryz.sizeOf3
  v3 := Tryz.zeroValue3
  t9 := Tryz.underlying9
  a9 := Tryz.isAgg9
  z9 := Tryz.sizeOf9
  v9 := Tryz.zeroValue9 }
open Go.RowKit in
/-- strings.Compare: "Compare returns an integer comparing two strings lexicographically. The result will be 0 if a == b, -1 if a < b, and +1 if a > b.": IT RETURNS 'Lib.compareBytes a b'; the world is as_ it was. (LAID: no walk: one application.) -/
theorem Tryz.strings_Compare (a b : ByteArray) (w : World) :
    Calls Tryz.prog 45 #[.string a, .string b] w fun e w' => e = .returned (.int .i64 (Lib.compareBytes a.data.toList b.data.toList)) ∧ w' = w := Any.strings_Compare Tryz.lays106 a b w
def Tryz.lays137_ren : Go.Shelf.Ren := ⟨fun | 137 => 150 | 217 => 171 | 266 => 190 | n => n, fun | 9 => 9 | 5 => 5 | 3 => 3 | n => n, fun | n => n⟩
theorem Tryz.lays137 : Go.Proofs.Lays.n137 Tryz.prog Tryz.lays137_ren := {
  mixed := by kernel_rfl
  f137 := Tryz.func150.trans (congrArg some (by kernel_rfl))
  f217 := Tryz.func171.trans (congrArg some (by kernel_rfl))
  f266 := Tryz.func190.trans (congrArg some (by kernel_rfl))
  t3 := Tryz.underlying3
  a3 := Tryz.isAgg3
  z3 := Tryz.sizeOf3
  v3 := Tryz.zeroValue3
  t5 := Tryz.underlying5
  a5 := Tryz.isAgg5
  z5 := Tryz.sizeOf5
  v5 := Tryz.zeroValue5
  t9 := Tryz.underlying9
  a9 := Tryz.isAgg9
  z9 := Tryz.sizeOf9
  v9 := Tryz.zeroValue9 }
open Go.RowKit in
/-- strings.IndexByte: "IndexByte returns the index of the first instance of c in s, or -1 if c is not present in s.": IT RETURNS 'Lib.indexByte s c'; the world is as_ it was. (LAID: no walk: one application.) -/
theorem Tryz.strings_IndexByte (s : ByteArray) (c : Int) (w : World) :
    Calls Tryz.prog 150 #[.string s, .int .u8 c] w fun e w' => e = .returned (.int .i64 (Lib.indexByte s.data.toList c.toNat.toUInt8)) ∧ w' = w := Any.strings_IndexByte Tryz.lays137 s c w
def Tryz.laysM171_ren : Go.Shelf.Ren := ⟨fun | 171 => 114 | 243 => 144 | 246 => 167 | 283 => 182 | 284 => 183 | 285 => 184 | 286 => 185 | 129 => 94 | 317 => 196 | 318 => 197 | 319 => 198 | 320 => 199 | 337 => 212 | 338 => 213 | n => n, fun | 3 => 3 | 9 => 9 | 2 => 2 | 4 => 4 | 171 => 224 | 0 => 0 | 53 => 131 | 37 => 112 | 5 => 5 | 173 => 226 | 212 => 232 | 51 => 130 | 20 => 20 | 213 => 233 | 46 => 113 | 232 => 46 | 233 => 247 | n => n, fun | 17 => 7 | 18 => 10 | 19 => 11 | n => n⟩
theorem Tryz.laysM171 : Go.Proofs.LaysM.n171 Tryz.prog Tryz.laysM171_ren := {
  mixed := by kernel_rfl
  f129 := Tryz.func94.trans (congrArg some (by kernel_rfl))
  f171 := Tryz.func114.trans (congrArg some (by kernel_rfl))
  f243 := Tryz.func144.trans (congrArg some (by kernel_rfl))
  f246 := Tryz.func167.trans (congrArg some (by kernel_rfl))
  f283 := Tryz.func182.trans (congrArg some (by kernel_rfl))
  f284 := Tryz.func183.trans (congrArg some (by kernel_rfl))
  f285 := Tryz.func184.trans (congrArg some (by kernel_rfl))
  f286 := Tryz.func185.trans (congrArg some (by kernel_rfl))
  f317 := Tryz.func196.trans (congrArg some (by kernel_rfl))
  f318 := Tryz.func197.trans (congrArg some (by kernel_rfl))
  f319 := Tryz.func198.trans (congrArg some (by kernel_rfl))
  f320 := Tryz.func199.trans (congrArg some (by kernel_rfl))
  f337 := Tryz.func212.trans (congrArg some (by kernel_rfl))
  f338 := Tryz.func213.trans (congrArg some (by kernel_rfl))
  t0 := Tryz.underlying0
  a0 := Tryz.isAgg0
  z0 := Tryz.sizeOf0
  v0 := Tryz.zeroValue0
  t2 := Tryz.underlying2
  a2 := Tryz.isAgg2
  z2 := Tryz.sizeOf2
  v2 := Tryz.zeroValue2
  t3 := Tryz.underlying3
  a3 := Tryz.isAgg3
  z3 := Tryz.sizeOf3
  v3 := Tryz.zeroValue3
  t4 := Tryz.underlying4
  a4 := Tryz.isAgg4
  z4 := Tryz.sizeOf4
  v4 := Tryz.zeroValue4
  t5 := Tryz.underlying5
  a5 := Tryz.isAgg5
  z5 := Tryz.sizeOf5
  v5 := Tryz.zeroValue5
  t9 := Tryz.underlying9
  a9 := Tryz.isAgg9
  z9 := Tryz.sizeOf9
  v9 := Tryz.zeroValue9
  t20 := Tryz.underlying20
  a20 := Tryz.isAgg20
  z20 := Tryz.sizeOf20
  v20 := Tryz.zeroValue20
  t37 := Tryz.underlying112
  a37 := Tryz.isAgg112
  z37 := Tryz.sizeOf112
  v37 := Tryz.zeroValue112
  t46 := Tryz.underlying113
  a46 := Tryz.isAgg113
  z46 := Tryz.sizeOf113
  v46 := Tryz.zeroValue113
  t51 := Tryz.underlying130
  a51 := Tryz.isAgg130
  z51 := Tryz.sizeOf130
  v51 := Tryz.zeroValue130
  t53 := Tryz.underlying131
  a53 := Tryz.isAgg131
  z53 := Tryz.sizeOf131
  v53 := Tryz.zeroValue131
  t171 := Tryz.underlying224
  a171 := Tryz.isAgg224
  z171 := Tryz.sizeOf224
  v171 := Tryz.zeroValue224
  t173 := Tryz.underlying226
  a173 := Tryz.isAgg226
  z173 := Tryz.sizeOf226
  v173 := Tryz.zeroValue226
  t212 := Tryz.underlying232
  a212 := Tryz.isAgg232
  z212 := Tryz.sizeOf232
  v212 := Tryz.zeroValue232
  t213 := Tryz.underlying233
  a213 := Tryz.isAgg233
  z213 := Tryz.sizeOf233
  t232 := Tryz.underlying46
  a232 := Tryz.isAgg46
  z232 := Tryz.sizeOf46
  v232 := Tryz.zeroValue46
  t233 := Tryz.underlying247
  a233 := Tryz.isAgg247
  z233 := Tryz.sizeOf247
  v233 := Tryz.zeroValue247
  g17 := by kernel_rfl
  g18 := by kernel_rfl
  g19 := by kernel_rfl
  i0 := by kernel_rfl
  i2 := by kernel_rfl
  i3 := by kernel_rfl
  i4 := by kernel_rfl
  i5 := by kernel_rfl
  i9 := by kernel_rfl
  i20 := by kernel_rfl
  i37 := by kernel_rfl
  i46 := by kernel_rfl
  i51 := by kernel_rfl
  i53 := by kernel_rfl
  i171 := by kernel_rfl
  i173 := by kernel_rfl
  i212 := by kernel_rfl
  i232 := by kernel_rfl
  i233 := by kernel_rfl
  m17 := by kernel_rfl
  m18 := by kernel_rfl
  m19 := by kernel_rfl }
open Go.RowKit Go.Sort Go.Lib in
/-- strconv.Itoa: "Itoa is equivalent to FormatInt(int64(i), 10).": i's DECIMAL NUMERAL ('Lib.itoa': a '-' where i is negative, then the digits), FOR EVERY int. The world behind the call: the world before it, new blocks behind the heap (the library's 'var a [24]byte'), draws. (LAID: no walk: one application.) -/
theorem Tryz.strconv_Itoa (n : Int) (h0 : -9223372036854775808 ≤ n) (h1 : n ≤ 9223372036854775807) (w : World) (htab : Lib.TabIs Tryz.prog w "internal/strconv.uint64pow10" .u64 Lib.pow10Tab) :
    Calls Tryz.prog 114 #[.int .i64 n] w fun e w' => e = .returned (.string ⟨(Lib.itoa n).toArray⟩) ∧ ∃ k os, w' = grow (w.drewN k) os := Any.strconv_Itoa Tryz.laysM171 n h0 h1 w htab
def Tryz.lays144_ren : Go.Shelf.Ren := ⟨fun | 144 => 158 | 143 => 149 | 219 => 170 | 217 => 171 | 225 => 187 | 224 => 188 | 267 => 189 | 266 => 190 | 314 => 200 | n => n, fun | 9 => 9 | 4 => 4 | 3 => 3 | 5 => 5 | 46 => 113 | 146 => 238 | 51 => 130 | n => n, fun | 1 => 6 | n => n⟩
theorem Tryz.lays144 : Go.Proofs.Lays.n144 Tryz.prog Tryz.lays144_ren := {
  mixed := by kernel_rfl
  f143 := Tryz.func149.trans (congrArg some (by kernel_rfl))
  f144 := Tryz.func158.trans (congrArg some (by kernel_rfl))
  f217 := Tryz.func171.trans (congrArg some (by kernel_rfl))
  f219 := Tryz.func170.trans (congrArg some (by kernel_rfl))
  f224 := Tryz.func188.trans (congrArg some (by kernel_rfl))
  f225 := Tryz.func187.trans (congrArg some (by kernel_rfl))
  f266 := Tryz.func190.trans (congrArg some (by kernel_rfl))
  f267 := Tryz.func189.trans (congrArg some (by kernel_rfl))
  f314 := Tryz.func200.trans (congrArg some (by kernel_rfl))
  t3 := Tryz.underlying3
  a3 := Tryz.isAgg3
  z3 := Tryz.sizeOf3
  v3 := Tryz.zeroValue3
  t4 := Tryz.underlying4
  a4 := Tryz.isAgg4
  z4 := Tryz.sizeOf4
  v4 := Tryz.zeroValue4
  t5 := Tryz.underlying5
  a5 := Tryz.isAgg5
  z5 := Tryz.sizeOf5
  v5 := Tryz.zeroValue5
  t9 := Tryz.underlying9
  a9 := Tryz.isAgg9
  z9 := Tryz.sizeOf9
  v9 := Tryz.zeroValue9
  t46 := Tryz.underlying113
  a46 := Tryz.isAgg113
  z46 := Tryz.sizeOf113
  v46 := Tryz.zeroValue113
  t51 := Tryz.underlying130
  a51 := Tryz.isAgg130
  z51 := Tryz.sizeOf130
  v51 := Tryz.zeroValue130
  t146 := Tryz.underlying238
  a146 := Tryz.isAgg238
  z146 := Tryz.sizeOf238
  v146 := Tryz.zeroValue238
  g1 := by kernel_rfl }
open Go.RowKit Go.Lib in
/-- strings.Contains: "Contains reports whether substr is within s.": IT RETURNS 'Lib.contains s substr'; the world is as_ it was. (LAID: no walk: one application.) -/
theorem Tryz.strings_Contains (s sub : ByteArray) (m : Int) (w : World) (hs : s.size < 4294967281) (hm : w.cell? ⟨6, 0, none⟩ = some (.int .i64 m)) :
    Calls Tryz.prog 158 #[.string s, .string sub] w fun e w' => e = .returned (.bool (Lib.contains s.data.toList sub.data.toList)) ∧ w' = w := Any.strings_Contains Tryz.lays144 s sub m w hs hm
def Tryz.lays138_ren : Go.Shelf.Ren := ⟨fun | 138 => 133 | 195 => 155 | 218 => 156 | 143 => 149 | 219 => 170 | 217 => 171 | 225 => 187 | 224 => 188 | 267 => 189 | 266 => 190 | 314 => 200 | n => n, fun | 9 => 9 | 3 => 3 | 4 => 4 | 5 => 5 | 0 => 0 | 46 => 113 | 146 => 238 | 51 => 130 | n => n, fun | 1 => 6 | n => n⟩
theorem Tryz.lays138 : Go.Proofs.Lays.n138 Tryz.prog Tryz.lays138_ren := {
  mixed := by kernel_rfl
  f138 := Tryz.func133.trans (congrArg some (by kernel_rfl))
  f143 := Tryz.func149.trans (congrArg some (by kernel_rfl))
  f195 := Tryz.func155.trans (congrArg some (by kernel_rfl))
  f217 := Tryz.func171.trans (congrArg some (by kernel_rfl))
  f218 := Tryz.func156.trans (congrArg some (by kernel_rfl))
  f219 := Tryz.func170.trans (congrArg some (by kernel_rfl))
  f224 := Tryz.func188.trans (congrArg some (by kernel_rfl))
  f225 := Tryz.func187.trans (congrArg some (by kernel_rfl))
  f266 := Tryz.func190.trans (congrArg some (by kernel_rfl))
  f267 := Tryz.func189.trans (congrArg some (by kernel_rfl))
  f314 := Tryz.func200.trans (congrArg some (by kernel_rfl))
  t0 := Tryz.underlying0
  a0 := Tryz.isAgg0
  z0 := Tryz.sizeOf0
  v0 := Tryz.zeroValue0
  t3 := Tryz.underlying3
  a3 := Tryz.isAgg3
  z3 := Tryz.sizeOf3
  v3 := Tryz.zeroValue3
  t4 := Tryz.underlying4
  a4 := Tryz.isAgg4
  z4 := Tryz.sizeOf4
  v4 := Tryz.zeroValue4
  t5 := Tryz.underlying5
  a5 := Tryz.isAgg5
  z5 := Tryz.sizeOf5
  v5 := Tryz.zeroValue5
  t9 := Tryz.underlying9
  a9 := Tryz.isAgg9
  z9 := Tryz.sizeOf9
  v9 := Tryz.zeroValue9
  t46 := Tryz.underlying113
  a46 := Tryz.isAgg113
  z46 := Tryz.sizeOf113
  v46 := Tryz.zeroValue113
  t51 := Tryz.underlying130
  a51 := Tryz.isAgg130
  z51 := Tryz.sizeOf130
  v51 := Tryz.zeroValue130
  t146 := Tryz.underlying238
  a146 := Tryz.isAgg238
  z146 := Tryz.sizeOf238
  v146 := Tryz.zeroValue238
  g1 := by kernel_rfl }
def Tryz.lays189_ren : Go.Shelf.Ren := ⟨fun | 189 => 36 | 125 => 67 | 257 => 66 | 128 => 93 | 129 => 94 | 294 => 84 | 295 => 85 | 296 => 86 | 297 => 87 | 298 => 88 | 299 => 89 | 216 => 90 | 300 => 91 | 301 => 92 | 328 => 124 | 329 => 125 | 330 => 126 | 331 => 127 | 332 => 128 | 215 => 129 | 343 => 151 | n => n, fun | 28 => 38 | 3 => 3 | 46 => 113 | 0 => 0 | 51 => 130 | 53 => 131 | 4 => 4 | 183 => 140 | 182 => 139 | 131 => 87 | 5 => 5 | 9 => 9 | 218 => 169 | 222 => 173 | 228 => 195 | 229 => 190 | n => n, fun | n => n⟩
theorem Tryz.lays189 : Go.Proofs.Lays.n189 Tryz.prog Tryz.lays189_ren := {
  mixed := by kernel_rfl
  f125 := Tryz.func67.trans (congrArg some (by kernel_rfl))
  f128 := Tryz.func93.trans (congrArg some (by kernel_rfl))
  f129 := Tryz.func94.trans (congrArg some (by kernel_rfl))
  f189 := Tryz.func36.trans (congrArg some (by kernel_rfl))
  f215 := Tryz.func129.trans (congrArg some (by kernel_rfl))
  f216 := Tryz.func90.trans (congrArg some (by kernel_rfl))
  f257 := Tryz.func66.trans (congrArg some (by kernel_rfl))
  f294 := Tryz.func84.trans (congrArg some (by kernel_rfl))
  f295 := Tryz.func85.trans (congrArg some (by kernel_rfl))
  f296 := Tryz.func86.trans (congrArg some (by kernel_rfl))
  f297 := Tryz.func87.trans (congrArg some (by kernel_rfl))
  f298 := Tryz.func88.trans (congrArg some (by kernel_rfl))
  f299 := Tryz.func89.trans (congrArg some (by kernel_rfl))
  f300 := Tryz.func91.trans (congrArg some (by kernel_rfl))
  f301 := Tryz.func92.trans (congrArg some (by kernel_rfl))
  f328 := Tryz.func124.trans (congrArg some (by kernel_rfl))
  f329 := Tryz.func125.trans (congrArg some (by kernel_rfl))
  f330 := Tryz.func126.trans (congrArg some (by kernel_rfl))
  f331 := Tryz.func127.trans (congrArg some (by kernel_rfl))
  f332 := Tryz.func128.trans (congrArg some (by kernel_rfl))
  f343 := Tryz.func151.trans (congrArg some (by kernel_rfl))
  t0 := Tryz.underlying0
  a0 := Tryz.isAgg0
  z0 := Tryz.sizeOf0
  v0 := Tryz.zeroValue0
  t3 := Tryz.underlying3
  a3 := Tryz.isAgg3
  z3 := Tryz.sizeOf3
  v3 := Tryz.zeroValue3
  t4 := Tryz.underlying4
  a4 := Tryz.isAgg4
  z4 := Tryz.sizeOf4
  v4 := Tryz.zeroValue4
  t5 := Tryz.underlying5
  a5 := Tryz.isAgg5
  z5 := Tryz.sizeOf5
  v5 := Tryz.zeroValue5
  t9 := Tryz.underlying9
  a9 := Tryz.isAgg9
  z9 := Tryz.sizeOf9
  v9 := Tryz.zeroValue9
  t28 := Tryz.underlying38
  a28 := Tryz.isAgg38
  z28 := Tryz.sizeOf38
  v28 := Tryz.zeroValue38
  t46 := Tryz.underlying113
  a46 := Tryz.isAgg113
  z46 := Tryz.sizeOf113
  v46 := Tryz.zeroValue113
  t51 := Tryz.underlying130
  a51 := Tryz.isAgg130
  z51 := Tryz.sizeOf130
  v51 := Tryz.zeroValue130
  t53 := Tryz.underlying131
  a53 := Tryz.isAgg131
  z53 := Tryz.sizeOf131
  v53 := Tryz.zeroValue131
  t131 := Tryz.underlying87
  a131 := Tryz.isAgg87
  z131 := Tryz.sizeOf87
  v131 := Tryz.zeroValue87
  t182 := Tryz.underlying139
  a182 := Tryz.isAgg139
  z182 := Tryz.sizeOf139
  v182 := Tryz.zeroValue139
  t183 := Tryz.underlying140
  a183 := Tryz.isAgg140
  z183 := Tryz.sizeOf140
  v183 := Tryz.zeroValue140
  t218 := Tryz.underlying169
  a218 := Tryz.isAgg169
  z218 := Tryz.sizeOf169
  v218 := Tryz.zeroValue169
  t222 := Tryz.underlying173
  a222 := Tryz.isAgg173
  z222 := Tryz.sizeOf173
  v222 := Tryz.zeroValue173
  t228 := Tryz.underlying195
  a228 := Tryz.isAgg195
  z228 := Tryz.sizeOf195
  v228 := Tryz.zeroValue195
  t229 := Tryz.underlying190
  a229 := Tryz.isAgg190
  z229 := Tryz.sizeOf190
  v229 := Tryz.zeroValue190 }
open Go.Sort Go.RowKit in
theorem Tryz.slices_Sort_int (blk off cap : Nat) (zs : List Int) (w : World) (hH : Holds (Value.int .i64) w blk off zs.toArray) (hblk : blk < w.heap.size) (hsz : zs.length < 4611686018427387904) :
    Calls Tryz.prog 36 #[.slice (some ⟨blk, off, none⟩) zs.length cap] w fun e w' =>
      e = .returned (.tuple #[]) ∧ ∃ n os, w' = grow (putRow (Value.int .i64) (Sort.ahead w n) blk off (zs.mergeSort fun x y => decide (x ≤ y)).toArray) os := Any.slices_Sort_int Tryz.lays189 blk off cap zs w hH hblk hsz
def Tryz.lays190_ren : Go.Shelf.Ren := ⟨fun | 190 => 179 | 125 => 67 | 258 => 195 | 128 => 93 | 129 => 94 | 302 => 203 | 303 => 204 | 304 => 205 | 305 => 206 | 306 => 207 | 307 => 208 | 308 => 209 | 309 => 210 | 310 => 211 | 333 => 214 | 329 => 125 | 330 => 126 | 334 => 215 | 335 => 216 | 336 => 217 | 344 => 218 | n => n, fun | 31 => 41 | 9 => 9 | 3 => 3 | 46 => 113 | 0 => 0 | 51 => 130 | 53 => 131 | 4 => 4 | 183 => 140 | 182 => 139 | 131 => 87 | 5 => 5 | 218 => 169 | 222 => 173 | 228 => 195 | 229 => 190 | n => n, fun | n => n⟩
theorem Tryz.lays190 : Go.Proofs.Lays.n190 Tryz.prog Tryz.lays190_ren := {
  mixed := by kernel_rfl
  f125 := Tryz.func67.trans (congrArg some (by kernel_rfl))
  f128 := Tryz.func93.trans (congrArg some (by kernel_rfl))
  f129 := Tryz.func94.trans (congrArg some (by kernel_rfl))
  f190 := Tryz.func179.trans (congrArg some (by kernel_rfl))
  f258 := Tryz.func195.trans (congrArg some (by kernel_rfl))
  f302 := Tryz.func203.trans (congrArg some (by kernel_rfl))
  f303 := Tryz.func204.trans (congrArg some (by kernel_rfl))
  f304 := Tryz.func205.trans (congrArg some (by kernel_rfl))
  f305 := Tryz.func206.trans (congrArg some (by kernel_rfl))
  f306 := Tryz.func207.trans (congrArg some (by kernel_rfl))
  f307 := Tryz.func208.trans (congrArg some (by kernel_rfl))
  f308 := Tryz.func209.trans (congrArg some (by kernel_rfl))
  f309 := Tryz.func210.trans (congrArg some (by kernel_rfl))
  f310 := Tryz.func211.trans (congrArg some (by kernel_rfl))
  f329 := Tryz.func125.trans (congrArg some (by kernel_rfl))
  f330 := Tryz.func126.trans (congrArg some (by kernel_rfl))
  f333 := Tryz.func214.trans (congrArg some (by kernel_rfl))
  f334 := Tryz.func215.trans (congrArg some (by kernel_rfl))
  f335 := Tryz.func216.trans (congrArg some (by kernel_rfl))
  f336 := Tryz.func217.trans (congrArg some (by kernel_rfl))
  f344 := Tryz.func218.trans (congrArg some (by kernel_rfl))
  t0 := Tryz.underlying0
  a0 := Tryz.isAgg0
  z0 := Tryz.sizeOf0
  v0 := Tryz.zeroValue0
  t3 := Tryz.underlying3
  a3 := Tryz.isAgg3
  z3 := Tryz.sizeOf3
  v3 := Tryz.zeroValue3
  t4 := Tryz.underlying4
  a4 := Tryz.isAgg4
  z4 := Tryz.sizeOf4
  v4 := Tryz.zeroValue4
  t5 := Tryz.underlying5
  a5 := Tryz.isAgg5
  z5 := Tryz.sizeOf5
  v5 := Tryz.zeroValue5
  t9 := Tryz.underlying9
  a9 := Tryz.isAgg9
  z9 := Tryz.sizeOf9
  v9 := Tryz.zeroValue9
  t31 := Tryz.underlying41
  a31 := Tryz.isAgg41
  z31 := Tryz.sizeOf41
  v31 := Tryz.zeroValue41
  t46 := Tryz.underlying113
  a46 := Tryz.isAgg113
  z46 := Tryz.sizeOf113
  v46 := Tryz.zeroValue113
  t51 := Tryz.underlying130
  a51 := Tryz.isAgg130
  z51 := Tryz.sizeOf130
  v51 := Tryz.zeroValue130
  t53 := Tryz.underlying131
  a53 := Tryz.isAgg131
  z53 := Tryz.sizeOf131
  v53 := Tryz.zeroValue131
  t131 := Tryz.underlying87
  a131 := Tryz.isAgg87
  z131 := Tryz.sizeOf87
  v131 := Tryz.zeroValue87
  t182 := Tryz.underlying139
  a182 := Tryz.isAgg139
  z182 := Tryz.sizeOf139
  v182 := Tryz.zeroValue139
  t183 := Tryz.underlying140
  a183 := Tryz.isAgg140
  z183 := Tryz.sizeOf140
  v183 := Tryz.zeroValue140
  t218 := Tryz.underlying169
  a218 := Tryz.isAgg169
  z218 := Tryz.sizeOf169
  v218 := Tryz.zeroValue169
  t222 := Tryz.underlying173
  a222 := Tryz.isAgg173
  z222 := Tryz.sizeOf173
  v222 := Tryz.zeroValue173
  t228 := Tryz.underlying195
  a228 := Tryz.isAgg195
  z228 := Tryz.sizeOf195
  v228 := Tryz.zeroValue195
  t229 := Tryz.underlying190
  a229 := Tryz.isAgg190
  z229 := Tryz.sizeOf190
  v229 := Tryz.zeroValue190 }
open Go.Sort Go.RowKit in
theorem Tryz.slices_Sort_string (blk off cap : Nat) (ss : List (List UInt8)) (w : World) (hH : Holds encStr w blk off ss.toArray) (hblk : blk < w.heap.size) (hsz : ss.length < 4611686018427387904) :
    Calls Tryz.prog 179 #[.slice (some ⟨blk, off, none⟩) ss.length cap] w fun e w' =>
      e = .returned (.tuple #[]) ∧ ∃ n os, w' = grow (putRow encStr (Sort.ahead w n) blk off (ss.mergeSort fun x y => decide (x ≤ y)).toArray) os := Any.slices_Sort_string Tryz.lays190 blk off cap ss w hH hblk hsz
open Go.RowKit Go.Lib in
/-- strings.Count at whatever sep that is not empty: the two roads under one statement. (LAID: no walk: one application.) -/
theorem Tryz.strings_Count_any (s sep : ByteArray) (m : Int) (w : World) (hs : s.size < 4294967281) (hm : w.cell? ⟨6, 0, none⟩ = some (.int .i64 m)) (h1 : 1 ≤ sep.size) :
    Calls Tryz.prog 133 #[.string s, .string sep] w fun e w' => e = .returned (.int .i64 (Lib.countB s sep)) ∧ w' = w := Any.strings_Count_any Tryz.lays138 s sep m w hs hm h1
def Tryz.lays146_ren : Go.Shelf.Ren := ⟨fun | 146 => 81 | 221 => 121 | 268 => 148 | 138 => 133 | 143 => 149 | 195 => 155 | 197 => 169 | 218 => 156 | 219 => 170 | 260 => 186 | 217 => 171 | 225 => 187 | 224 => 188 | 267 => 189 | 266 => 190 | 314 => 200 | n => n, fun | 9 => 9 | 31 => 41 | 3 => 3 | 4 => 4 | 0 => 0 | 105 => 213 | 21 => 21 | 5 => 5 | 46 => 113 | 119 => 234 | 139 => 237 | 138 => 236 | 146 => 238 | 51 => 130 | n => n, fun | 1 => 6 | 3 => 8 | 4 => 9 | n => n⟩
theorem Tryz.lays146 : Go.Proofs.Lays.n146 Tryz.prog Tryz.lays146_ren := {
  mixed := by kernel_rfl
  f138 := Tryz.func133.trans (congrArg some (by kernel_rfl))
  f143 := Tryz.func149.trans (congrArg some (by kernel_rfl))
  f146 := Tryz.func81.trans (congrArg some (by kernel_rfl))
  f195 := Tryz.func155.trans (congrArg some (by kernel_rfl))
  f197 := Tryz.func169.trans (congrArg some (by kernel_rfl))
  f217 := Tryz.func171.trans (congrArg some (by kernel_rfl))
  f218 := Tryz.func156.trans (congrArg some (by kernel_rfl))
  f219 := Tryz.func170.trans (congrArg some (by kernel_rfl))
  f221 := Tryz.func121.trans (congrArg some (by kernel_rfl))
  f224 := Tryz.func188.trans (congrArg some (by kernel_rfl))
  f225 := Tryz.func187.trans (congrArg some (by kernel_rfl))
  f260 := Tryz.func186.trans (congrArg some (by kernel_rfl))
  f266 := Tryz.func190.trans (congrArg some (by kernel_rfl))
  f267 := Tryz.func189.trans (congrArg some (by kernel_rfl))
  f268 := Tryz.func148.trans (congrArg some (by kernel_rfl))
  f314 := Tryz.func200.trans (congrArg some (by kernel_rfl))
  t0 := Tryz.underlying0
  a0 := Tryz.isAgg0
  z0 := Tryz.sizeOf0
  v0 := Tryz.zeroValue0
  t3 := Tryz.underlying3
  a3 := Tryz.isAgg3
  z3 := Tryz.sizeOf3
  v3 := Tryz.zeroValue3
  t4 := Tryz.underlying4
  a4 := Tryz.isAgg4
  z4 := Tryz.sizeOf4
  v4 := Tryz.zeroValue4
  t5 := Tryz.underlying5
  a5 := Tryz.isAgg5
  z5 := Tryz.sizeOf5
  v5 := Tryz.zeroValue5
  t9 := Tryz.underlying9
  a9 := Tryz.isAgg9
  z9 := Tryz.sizeOf9
  v9 := Tryz.zeroValue9
  t21 := Tryz.underlying21
  a21 := Tryz.isAgg21
  z21 := Tryz.sizeOf21
  v21 := Tryz.zeroValue21
  t31 := Tryz.underlying41
  a31 := Tryz.isAgg41
  z31 := Tryz.sizeOf41
  v31 := Tryz.zeroValue41
  t46 := Tryz.underlying113
  a46 := Tryz.isAgg113
  z46 := Tryz.sizeOf113
  v46 := Tryz.zeroValue113
  t51 := Tryz.underlying130
  a51 := Tryz.isAgg130
  z51 := Tryz.sizeOf130
  v51 := Tryz.zeroValue130
  t105 := Tryz.underlying213
  a105 := Tryz.isAgg213
  z105 := Tryz.sizeOf213
  v105 := Tryz.zeroValue213
  t119 := Tryz.underlying234
  a119 := Tryz.isAgg234
  z119 := Tryz.sizeOf234
  t138 := Tryz.underlying236
  a138 := Tryz.isAgg236
  z138 := Tryz.sizeOf236
  v138 := Tryz.zeroValue236
  t139 := Tryz.underlying237
  a139 := Tryz.isAgg237
  z139 := Tryz.sizeOf237
  v139 := Tryz.zeroValue237
  t146 := Tryz.underlying238
  a146 := Tryz.isAgg238
  z146 := Tryz.sizeOf238
  v146 := Tryz.zeroValue238
  g1 := by kernel_rfl
  g3 := by kernel_rfl
  g4 := by kernel_rfl }
open Go.RowKit Go.Lib in
/-- strings.Split. (LAID: no walk: one application.) -/
theorem Tryz.strings_Split (s sep : ByteArray) (m : Int) (w : World) (hs : s.size < 4294967281) (hm : w.cell? ⟨6, 0, none⟩ = some (.int .i64 m)) (h1 : 1 ≤ sep.size) :
    Calls Tryz.prog 81 #[.string s, .string sep] w fun e w' =>
      e = .returned (.slice (some ⟨w.heap.size, 0, none⟩) (Lib.countB s sep + 1) (Lib.countB s sep + 1)) ∧ w' = w.alloc (.cells ((Lib.splitB sep 0 (Lib.countB s sep) s).map Value.string).toArray 9) := Any.strings_Split Tryz.lays146 (by kernel_rfl) s sep m w hs hm h1
def Tryz.lays155_ren : Go.Shelf.Ren := ⟨fun | 155 => 134 | 154 => 157 | 138 => 133 | 165 => 175 | 143 => 149 | 166 => 138 | 197 => 169 | 169 => 139 | 195 => 155 | 218 => 156 | 240 => 165 | 241 => 192 | 219 => 170 | 260 => 186 | 276 => 181 | 277 => 201 | 217 => 171 | 225 => 187 | 224 => 188 | 267 => 189 | 266 => 190 | 314 => 200 | n => n, fun | 9 => 9 | 3 => 3 | 4 => 4 | 72 => 184 | 0 => 0 | 76 => 185 | 105 => 213 | 21 => 21 | 5 => 5 | 70 => 182 | 20 => 20 | 37 => 112 | 75 => 29 | 127 => 210 | 164 => 222 | 46 => 113 | 119 => 234 | 139 => 237 | 138 => 236 | 146 => 238 | 51 => 130 | 80 => 187 | n => n, fun | 1 => 6 | 3 => 8 | 4 => 9 | n => n⟩
theorem Tryz.lays155 : Go.Proofs.Lays.n155 Tryz.prog Tryz.lays155_ren := {
  mixed := by kernel_rfl
  f138 := Tryz.func133.trans (congrArg some (by kernel_rfl))
  f143 := Tryz.func149.trans (congrArg some (by kernel_rfl))
  f154 := Tryz.func157.trans (congrArg some (by kernel_rfl))
  f155 := Tryz.func134.trans (congrArg some (by kernel_rfl))
  f165 := Tryz.func175.trans (congrArg some (by kernel_rfl))
  f166 := Tryz.func138.trans (congrArg some (by kernel_rfl))
  f169 := Tryz.func139.trans (congrArg some (by kernel_rfl))
  f195 := Tryz.func155.trans (congrArg some (by kernel_rfl))
  f197 := Tryz.func169.trans (congrArg some (by kernel_rfl))
  f217 := Tryz.func171.trans (congrArg some (by kernel_rfl))
  f218 := Tryz.func156.trans (congrArg some (by kernel_rfl))
  f219 := Tryz.func170.trans (congrArg some (by kernel_rfl))
  f224 := Tryz.func188.trans (congrArg some (by kernel_rfl))
  f225 := Tryz.func187.trans (congrArg some (by kernel_rfl))
  f240 := Tryz.func165.trans (congrArg some (by kernel_rfl))
  f241 := Tryz.func192.trans (congrArg some (by kernel_rfl))
  f260 := Tryz.func186.trans (congrArg some (by kernel_rfl))
  f266 := Tryz.func190.trans (congrArg some (by kernel_rfl))
  f267 := Tryz.func189.trans (congrArg some (by kernel_rfl))
  f276 := Tryz.func181.trans (congrArg some (by kernel_rfl))
  f277 := Tryz.func201.trans (congrArg some (by kernel_rfl))
  f314 := Tryz.func200.trans (congrArg some (by kernel_rfl))
  t0 := Tryz.underlying0
  a0 := Tryz.isAgg0
  z0 := Tryz.sizeOf0
  v0 := Tryz.zeroValue0
  t3 := Tryz.underlying3
  a3 := Tryz.isAgg3
  z3 := Tryz.sizeOf3
  v3 := Tryz.zeroValue3
  t4 := Tryz.underlying4
  a4 := Tryz.isAgg4
  z4 := Tryz.sizeOf4
  v4 := Tryz.zeroValue4
  t5 := Tryz.underlying5
  a5 := Tryz.isAgg5
  z5 := Tryz.sizeOf5
  v5 := Tryz.zeroValue5
  t9 := Tryz.underlying9
  a9 := Tryz.isAgg9
  z9 := Tryz.sizeOf9
  v9 := Tryz.zeroValue9
  t20 := Tryz.underlying20
  a20 := Tryz.isAgg20
  z20 := Tryz.sizeOf20
  v20 := Tryz.zeroValue20
  t21 := Tryz.underlying21
  a21 := Tryz.isAgg21
  z21 := Tryz.sizeOf21
  v21 := Tryz.zeroValue21
  t37 := Tryz.underlying112
  a37 := Tryz.isAgg112
  z37 := Tryz.sizeOf112
  v37 := Tryz.zeroValue112
  t46 := Tryz.underlying113
  a46 := Tryz.isAgg113
  z46 := Tryz.sizeOf113
  v46 := Tryz.zeroValue113
  t51 := Tryz.underlying130
  a51 := Tryz.isAgg130
  z51 := Tryz.sizeOf130
  v51 := Tryz.zeroValue130
  t70 := Tryz.underlying182
  a70 := Tryz.isAgg182
  z70 := Tryz.sizeOf182
  v70 := Tryz.zeroValue182
  t72 := Tryz.underlying184
  a72 := Tryz.isAgg184
  z72 := Tryz.sizeOf184
  v72 := Tryz.zeroValue184
  t75 := Tryz.underlying29
  a75 := Tryz.isAgg29
  z75 := Tryz.sizeOf29
  v75 := Tryz.zeroValue29
  t76 := Tryz.underlying185
  a76 := Tryz.isAgg185
  z76 := Tryz.sizeOf185
  v76 := Tryz.zeroValue185
  t105 := Tryz.underlying213
  a105 := Tryz.isAgg213
  z105 := Tryz.sizeOf213
  v105 := Tryz.zeroValue213
  t119 := Tryz.underlying234
  a119 := Tryz.isAgg234
  z119 := Tryz.sizeOf234
  t127 := Tryz.underlying210
  a127 := Tryz.isAgg210
  z127 := Tryz.sizeOf210
  v127 := Tryz.zeroValue210
  t138 := Tryz.underlying236
  a138 := Tryz.isAgg236
  z138 := Tryz.sizeOf236
  v138 := Tryz.zeroValue236
  t139 := Tryz.underlying237
  a139 := Tryz.isAgg237
  z139 := Tryz.sizeOf237
  v139 := Tryz.zeroValue237
  t146 := Tryz.underlying238
  a146 := Tryz.isAgg238
  z146 := Tryz.sizeOf238
  v146 := Tryz.zeroValue238
  t164 := Tryz.underlying222
  a164 := Tryz.isAgg222
  z164 := Tryz.sizeOf222
  v164 := Tryz.zeroValue222
  g1 := by kernel_rfl
  g3 := by kernel_rfl
  g4 := by kernel_rfl }
theorem Tryz.Builder_Extra_155 : Builder.Extra Tryz.prog Tryz.lays155_ren := {
  sizeBuilder := by kernel_rfl
  liesBuilder := by kernel_rfl
  t5 := Tryz.underlying5
  a5 := Tryz.isAgg5
  z5 := Tryz.sizeOf5
  v5 := Tryz.zeroValue5
  infoByte := by kernel_rfl
  cellsByte := by kernel_rfl
  sizeByte := by kernel_rfl
  neB5 := by decide }
open Go.RowKit Go.Lib in
/-- strings.ReplaceAll: "ReplaceAll returns a copy of the string s with all non-overlapping instances of old replaced by new.": AT AN old THAT IS NOT EMPTY: 'Lib.replaceAll s old new'. (LAID: no walk: one application.) -/
theorem Tryz.strings_ReplaceAll (s old new : ByteArray) (m : Int) (w : World) (hs : s.size < 4294967281) (hm : w.cell? ⟨6, 0, none⟩ = some (.int .i64 m)) (h1 : 1 ≤ old.size) (hlen : s.size + Lib.countB s old * new.size ≤ 140737488355328) :
    Calls Tryz.prog 134 #[.string s, .string old, .string new] w fun e w' =>
      e = .returned (.string ⟨(Lib.replaceAll s.data.toList old.data.toList new.data.toList).toArray⟩) ∧ Below w.heap.size w w' := Any.strings_ReplaceAll Tryz.lays155 Tryz.Builder_Extra_155 s old new m w hs hm h1 hlen
def Tryz.laysNm217_ren : Go.Shelf.Ren := ⟨fun | 17 => 164 | n => n, fun | 24 => 41 | 9 => 9 | 3 => 3 | 4 => 4 | 0 => 0 | n => n, fun | n => n⟩
theorem Tryz.laysNm217 : Go.Proofs.Lays2.n17 Tryz.prog Tryz.laysNm217_ren := {
  mixed := by kernel_rfl
  f17 := Tryz.func164.trans (congrArg some (by kernel_rfl))
  t0 := Tryz.underlying0
  a0 := Tryz.isAgg0
  z0 := Tryz.sizeOf0
  v0 := Tryz.zeroValue0
  t3 := Tryz.underlying3
  a3 := Tryz.isAgg3
  z3 := Tryz.sizeOf3
  v3 := Tryz.zeroValue3
  t4 := Tryz.underlying4
  a4 := Tryz.isAgg4
  z4 := Tryz.sizeOf4
  v4 := Tryz.zeroValue4
  t9 := Tryz.underlying9
  a9 := Tryz.isAgg9
  z9 := Tryz.sizeOf9
  v9 := Tryz.zeroValue9
  t24 := Tryz.underlying41
  a24 := Tryz.isAgg41
  z24 := Tryz.sizeOf41
  v24 := Tryz.zeroValue41 }
open Go.RowKit Go.Lib Go.Sort in
/-- slices.Reverse at []string: "Reverse reverses the elements of the slice in place.": THE SLICE's CELLS HOLD 'zs.reverse' BEHIND THE CALL; all else is as_ it was, but for the count of draws (the exchange 's[i], s[j] = s[j], s[i]' draws its order, once a round). IN THE WORDS OF slices.Sort's CONTRACT: 'Holds': the cells hold zs and none is frozen; 'putRow': the world with those cells holding another array. A slice of length 0 that is not nil is among them ('zs = []'); nil: '.._nil'. (LAID: no walk: one application.) -/
theorem Tryz.slices_Reverse_string (blk off cap : Nat) (zs : List (List UInt8)) (w : World) (hH : Holds encStr w blk off zs.toArray) (hsz : zs.length ≤ 9223372036854775807) :
    Calls Tryz.prog 164 #[.slice (some ⟨blk, off, none⟩) zs.length cap] w fun e w' => e = .returned (.tuple #[]) ∧ ∃ n, w' = putRow encStr (Sort.ahead w n) blk off zs.reverse.toArray := Any.slices_Reverse_string Tryz.laysNm217 blk off cap zs w hH hsz
open Go.RowKit Go.Lib Go.Sort in
/-- The same at a slice of length 0, a nil one too: nothing is read, nothing written, nothing drawn. (LAID: no walk: one application.) -/
theorem Tryz.slices_Reverse_string_empty (a : Option Addr) (cap : Nat) (w : World) :
    Calls Tryz.prog 164 #[.slice a 0 cap] w fun e w' => e = .returned (.tuple #[]) ∧ w' = w := Any.slices_Reverse_string_empty Tryz.laysNm217 a cap w
def Tryz.laysNm220_ren : Go.Shelf.Ren := ⟨fun | 20 => 37 | n => n, fun | 22 => 38 | 3 => 3 | 4 => 4 | 0 => 0 | n => n, fun | n => n⟩
theorem Tryz.laysNm220 : Go.Proofs.Lays2.n20 Tryz.prog Tryz.laysNm220_ren := {
  mixed := by kernel_rfl
  f20 := Tryz.func37.trans (congrArg some (by kernel_rfl))
  t0 := Tryz.underlying0
  a0 := Tryz.isAgg0
  z0 := Tryz.sizeOf0
  v0 := Tryz.zeroValue0
  t3 := Tryz.underlying3
  a3 := Tryz.isAgg3
  z3 := Tryz.sizeOf3
  v3 := Tryz.zeroValue3
  t4 := Tryz.underlying4
  a4 := Tryz.isAgg4
  z4 := Tryz.sizeOf4
  v4 := Tryz.zeroValue4
  t22 := Tryz.underlying38
  a22 := Tryz.isAgg38
  z22 := Tryz.sizeOf38
  v22 := Tryz.zeroValue38
  i3 := by kernel_rfl }
open Go.RowKit Go.Lib Go.Sort in
/-- slices.Compact at []int: "Compact replaces consecutive runs of equal elements with a single copy. This is like the uniq command found on Unix. Compact modifies the contents of the slice s and returns the modified slice, which may have a smaller length. Compact zeroes the elements between the new length and the original length. The result preserves the nilness of s.": IT RETURNS THE SLICE CUT TO 'Lib.compact zs'; ITS CELLS HOLD 'Lib.compact zs', THEN ZERO VALUES up to the old length; all else is as_ it was, but for the count of draws. IN THE WORDS OF slices.Sort's CONTRACT ('Holds', 'putRow'): so the everyday 'slices.Sort(xs); xs = slices.Compact(xs)' goes from the one contract to the other. It asks 'zs.length ≤ cap' (every slice's: the reslicing 's[:k]' looks at it). Length 0, nil: '.._empty'. (LAID: no walk: one application.) -/
theorem Tryz.slices_Compact_int (blk off cap : Nat) (zs : List Int) (w : World) (hH : Holds (Value.int .i64) w blk off zs.toArray) (hsz : zs.length ≤ 9223372036854775807) (hcap : zs.length ≤ cap) :
    Calls Tryz.prog 37 #[.slice (some ⟨blk, off, none⟩) zs.length cap] w fun e w' => e = .returned (.slice (some ⟨blk, off, none⟩) (Lib.compact zs).length cap) ∧ ∃ q, w' = putRow (Value.int .i64) (Sort.ahead w q) blk off (Lib.compact zs ++ List.replicate (zs.length - (Lib.compact zs).length) 0).toArray := Any.slices_Compact_int Tryz.laysNm220 blk off cap zs w hH hsz hcap
open Go.RowKit Go.Lib Go.Sort in
/-- The same at a slice of length 0, a nil one too: it comes back as_ it is. (LAID: no walk: one application.) -/
theorem Tryz.slices_Compact_int_empty (a : Option Addr) (cap : Nat) (w : World) :
    Calls Tryz.prog 37 #[.slice a 0 cap] w fun e w' => e = .returned (.slice a 0 cap) ∧ w' = w := Any.slices_Compact_int_empty Tryz.laysNm220 a cap w
def Tryz.lays194_ren : Go.Shelf.Ren := ⟨fun | 194 => 163 | n => n, fun | 31 => 41 | 9 => 9 | 3 => 3 | 4 => 4 | 0 => 0 | n => n, fun | n => n⟩
theorem Tryz.lays194 : Go.Proofs.Lays.n194 Tryz.prog Tryz.lays194_ren := {
  mixed := by kernel_rfl
  f194 := Tryz.func163.trans (congrArg some (by kernel_rfl))
  t0 := Tryz.underlying0
  a0 := Tryz.isAgg0
  z0 := Tryz.sizeOf0
  v0 := Tryz.zeroValue0
  t3 := Tryz.underlying3
  a3 := Tryz.isAgg3
  z3 := Tryz.sizeOf3
  v3 := Tryz.zeroValue3
  t4 := Tryz.underlying4
  a4 := Tryz.isAgg4
  z4 := Tryz.sizeOf4
  v4 := Tryz.zeroValue4
  t9 := Tryz.underlying9
  a9 := Tryz.isAgg9
  z9 := Tryz.sizeOf9
  v9 := Tryz.zeroValue9
  t31 := Tryz.underlying41
  a31 := Tryz.isAgg41
  z31 := Tryz.sizeOf41
  v31 := Tryz.zeroValue41 }
open Go.RowKit Go.Lib Go.Sort in
/-- slices.Compact at []string: "Compact replaces consecutive runs of equal elements with a single copy. This is like the uniq command found on Unix. Compact modifies the contents of the slice s and returns the modified slice, which may have a smaller length. Compact zeroes the elements between the new length and the original length. The result preserves the nilness of s.": IT RETURNS THE SLICE CUT TO 'Lib.compact zs'; ITS CELLS HOLD 'Lib.compact zs', THEN ZERO VALUES up to the old length; all else is as_ it was, but for the count of draws. IN THE WORDS OF slices.Sort's CONTRACT ('Holds', 'putRow'): so the everyday 'slices.Sort(xs); xs = slices.Compact(xs)' goes from the one contract to the other. It asks 'zs.length ≤ cap' (every slice's: the reslicing 's[:k]' looks at it). Length 0, nil: '.._empty'. (LAID: no walk: one application.) -/
theorem Tryz.slices_Compact_string (blk off cap : Nat) (zs : List (List UInt8)) (w : World) (hH : Holds encStr w blk off zs.toArray) (hsz : zs.length ≤ 9223372036854775807) (hcap : zs.length ≤ cap) :
    Calls Tryz.prog 163 #[.slice (some ⟨blk, off, none⟩) zs.length cap] w fun e w' => e = .returned (.slice (some ⟨blk, off, none⟩) (Lib.compact zs).length cap) ∧ ∃ q, w' = putRow encStr (Sort.ahead w q) blk off (Lib.compact zs ++ List.replicate (zs.length - (Lib.compact zs).length) []).toArray := Any.slices_Compact_string Tryz.lays194 blk off cap zs w hH hsz hcap
open Go.RowKit Go.Lib Go.Sort in
/-- The same at a slice of length 0, a nil one too: it comes back as_ it is. (LAID: no walk: one application.) -/
theorem Tryz.slices_Compact_string_empty (a : Option Addr) (cap : Nat) (w : World) :
    Calls Tryz.prog 163 #[.slice a 0 cap] w fun e w' => e = .returned (.slice a 0 cap) ∧ w' = w := Any.slices_Compact_string_empty Tryz.lays194 a cap w
open Go.RowKit Go.Sort in
/-- .. and plain. (LAID: no walk: one application.) -/
theorem Tryz.slices_Sort_string_none (p : Option Addr) (cap : Nat) (w : World) :
    Calls Tryz.prog 179 #[.slice p 0 cap] w fun e w' => e = .returned (.tuple #[]) ∧ w' = w := Any.slices_Sort_string_none Tryz.lays190 p cap w
open Go.RowKit Go.Sort in
/-- .. and plain. (LAID: no walk: one application.) -/
theorem Tryz.slices_Sort_int_none (p : Option Addr) (cap : Nat) (w : World) :
    Calls Tryz.prog 36 #[.slice p 0 cap] w fun e w' => e = .returned (.tuple #[]) ∧ w' = w := Any.slices_Sort_int_none Tryz.lays189 p cap w
end Go.Proofs

 /- The library's contracts (the kit's shelf) in the generator's form. -/
namespace Go.Proofs.YtjhipfdbionpoaaGreatDoor
open Go Go.RowKit
theorem Fn.ofCalls {P : Program} {f : FuncId} {args : Array Value} {w : World} {v : Value} (hgo : goesIn P f = true) (h : ∀ w1, Calls P f args w1 fun e w' => e = .returned v ∧ w' = w1) : Fn P f args w (fun r w' => w = w' ∧ r = v) :=
  ⟨hgo, fun w1 e => (h w1).mono fun _ _ ⟨he, hw⟩ => ⟨v, w, he, by rw [hw]; exact e, rfl, rfl⟩⟩
theorem bs (l : List UInt8) : (Value.string ⟨⟨l⟩⟩) = vs l := rfl
def M_strings_IndexByte (s : List UInt8) (c : Int) (K : Int → Prop) : Prop := K (Lib.indexByte s c.toNat.toUInt8)
theorem W_strings_IndexByte {w : World} {s : List UInt8} {c : Int} {K : Int → Prop} (H : M_strings_IndexByte s c K) : Fn Tryz.prog 150 ⟨[vs s, .int .u8 c]⟩ w (fun v w' => w = w' ∧ ∃ r : Int, v = .int .i64 r ∧ K r) :=
  (Fn.ofCalls (by kernel_rfl) (fun w1 => Tryz.strings_IndexByte ⟨⟨s⟩⟩ c w1)).mono fun _ _ ⟨h1, h2⟩ => ⟨h1, _, h2, H⟩
def M_strings_Contains (s sub : List UInt8) (K : Bool → Prop) : Prop := s.length < 4294967281 ∧ K (Lib.contains s sub)
theorem W_strings_Contains {S : List Nat} {w : World} {s sub : List UInt8} {K : Bool → Prop} (hG : GOK S w) (h100 : 100 ∈ S) (H : M_strings_Contains s sub K) : Fn Tryz.prog 158 ⟨[vs s, vs sub]⟩ w (fun v w' => w = w' ∧ ∃ r : Bool, v = .bool r ∧ K r) := by
  obtain ⟨m, hm⟩ := hG.ml h100
  refine ⟨by kernel_rfl, fun w1 e => (Tryz.strings_Contains ⟨⟨s⟩⟩ ⟨⟨sub⟩⟩ m w1 H.1 (by rw [e.cell]; exact hm)).mono fun _ _ ⟨he, hw⟩ => ⟨_, w, he, by rw [hw]; exact e, rfl, _, rfl, H.2⟩⟩
def splitL (sep s : List UInt8) : List (List UInt8) := Lib.splitK sep 0 (Lib.countB ⟨⟨s⟩⟩ ⟨⟨sep⟩⟩) s
theorem splitL_map (sep s : List UInt8) : (Lib.splitB ⟨⟨sep⟩⟩ 0 (Lib.countB ⟨⟨s⟩⟩ ⟨⟨sep⟩⟩) ⟨⟨s⟩⟩).map Value.string = (splitL sep s).map vs := by
  have h := Lib.splitB_data ⟨⟨sep⟩⟩ 0 (Lib.countB ⟨⟨s⟩⟩ ⟨⟨sep⟩⟩) ⟨⟨s⟩⟩
  unfold splitL
  rw [show Lib.splitK sep 0 (Lib.countB ⟨⟨s⟩⟩ ⟨⟨sep⟩⟩) s = _ from h.symm, List.map_map]
  rfl
def M_strings_Split (s sep : List UInt8) (K : List (List UInt8) → Prop) : Prop := s.length < 4294967281 ∧ 1 ≤ sep.length ∧ K (splitL sep s)
theorem splitL_length {sep : List UInt8} (h : 1 ≤ sep.length) (s : List UInt8) : (splitL sep s).length = Lib.countB ⟨⟨s⟩⟩ ⟨⟨sep⟩⟩ + 1 := by
  have h1 := Lib.splitB_all ⟨⟨sep⟩⟩ h 0 _ ⟨⟨s⟩⟩ rfl
  have h2 := congrArg List.length (splitL_map sep s)
  simp only [List.length_map] at h2
  omega
theorem W_strings_Split {S : List Nat} {w : World} {s sep : List UInt8} {K : List (List UInt8) → Prop} (hG : GOK S w) (h100 : 100 ∈ S) (H : M_strings_Split s sep K) : Fn Tryz.prog 81 ⟨[vs s, vs sep]⟩ w (fun v w' => w.grownBy w' none ∧ ∃ (r : List (List UInt8)) (A : Option Addr) (c : Nat), v = .slice A r.length c ∧ Own vs w' w.heap.size 9 A c r ∧ K r) := by
  obtain ⟨m, hm⟩ := hG.ml h100
  refine ⟨by kernel_rfl, fun w1 e => (Tryz.strings_Split ⟨⟨s⟩⟩ ⟨⟨sep⟩⟩ m w1 H.1 (by rw [e.cell]; exact hm) H.2.1).mono fun _ w' ⟨he, hw⟩ => ?_⟩
  have hlen := splitL_length H.2.1 s
  obtain ⟨hB, hg⟩ := newBlock w1 e ((splitL sep s).map vs) 9
  have hw' : w' = w1.alloc (.cells ⟨(splitL sep s).map vs⟩ 9) := by rw [hw, splitL_map]
  rw [← hw'] at hB hg
  have hml : (splitL sep s).length ≤ maxLen := by
    have h3 := Lib.countB_le ⟨⟨sep⟩⟩ H.2.1 s.length ⟨⟨s⟩⟩ (Nat.le_refl _)
    have h3' : Lib.countB ⟨⟨s⟩⟩ ⟨⟨sep⟩⟩ ≤ s.length := h3
    have h4 := H.1
    simp only [maxLen]
    omega
  exact ⟨_, w', he, Eqv.refl _, hg, splitL sep s, some ⟨w.heap.size, 0, none⟩, Lib.countB ⟨⟨s⟩⟩ ⟨⟨sep⟩⟩ + 1, by rw [e.heap, hlen], Own.ofBl hB (Nat.le_refl _) hml hlen.symm, H.2.2⟩
def M_strings_ReplaceAll (s old new : List UInt8) (K : List UInt8 → Prop) : Prop := s.length < 4294967281 ∧ 1 ≤ old.length ∧ s.length + Lib.countB ⟨⟨s⟩⟩ ⟨⟨old⟩⟩ * new.length ≤ 140737488355328 ∧ K (Lib.replaceAll s old new)
theorem W_strings_ReplaceAll {S : List Nat} {w : World} {s old new : List UInt8} {K : List UInt8 → Prop} (hG : GOK S w) (h100 : 100 ∈ S) (H : M_strings_ReplaceAll s old new K) : Fn Tryz.prog 134 ⟨[vs s, vs old, vs new]⟩ w (fun v w' => w.grownBy w' none ∧ ∃ r : List UInt8, v = vs r ∧ K r) := by
  obtain ⟨m, hm⟩ := hG.ml h100
  refine ⟨by kernel_rfl, fun w1 e => (Tryz.strings_ReplaceAll ⟨⟨s⟩⟩ ⟨⟨old⟩⟩ ⟨⟨new⟩⟩ m w1 H.1 (by rw [e.cell]; exact hm) H.2.1 H.2.2.1).mono fun _ w' ⟨he, hb⟩ => ⟨_, w', he, Eqv.refl _, eqv_gr e (gr_below hb none), _, rfl, H.2.2.2⟩⟩
def M_strings_Count (s sub : List UInt8) (K : Int → Prop) : Prop := s.length < 4294967281 ∧ 1 ≤ sub.length ∧ K ((Lib.countB ⟨⟨s⟩⟩ ⟨⟨sub⟩⟩ : Nat) : Int)
theorem W_strings_Count {S : List Nat} {w : World} {s sub : List UInt8} {K : Int → Prop} (hG : GOK S w) (h100 : 100 ∈ S) (H : M_strings_Count s sub K) : Fn Tryz.prog 133 ⟨[vs s, vs sub]⟩ w (fun v w' => w = w' ∧ ∃ r : Int, v = .int .i64 r ∧ K r) := by
  obtain ⟨m, hm⟩ := hG.ml h100
  refine ⟨by kernel_rfl, fun w1 e => (Tryz.strings_Count_any ⟨⟨s⟩⟩ ⟨⟨sub⟩⟩ m w1 H.1 (by rw [e.cell]; exact hm) H.2.1).mono fun _ _ ⟨he, hw⟩ => ⟨_, w, he, by rw [hw]; exact e, rfl, _, rfl, H.2.2⟩⟩
end Go.Proofs.YtjhipfdbionpoaaGreatDoor


 /- Slices whose elements take k cells each: structs and arrays; their rules. -/
namespace Go.Proofs.YtjhipfdbionpoaaGreatDoor
open Go Go.RowKit

/-- f's values take k cells. -/
structure OneK {α : Type} (k : Nat) (f : α → List Value) : Prop where
  pos : 0 < k
  len : ∀ x, (f x).length = k
  one : ∀ x, ∀ u ∈ f x, u.oneCell' = true
structure RdK {α : Type} (k : Nat) (f : α → List Value) (w : World) (A : Option Addr) (c : Nat) (xs : List α) : Prop where
  ok : OneK k f
  cap : xs.length ≤ c
  max : c ≤ maxLen
  cells : xs ≠ [] → ∃ g o, A = some ⟨g, o, none⟩ ∧ ∀ j x i u, xs[j]? = some x → (f x)[i]? = some u → w.cell? ⟨g, o + (j * k + i), none⟩ = some u
def OwnK {α : Type} (k : Nat) (f : α → List Value) (w : World) (B : Nat) (e : TypeId) (A : Option Addr) (c : Nat) (xs : List α) : Prop := OneK k f ∧ w.ownsRow B e k (.slice A xs.length c) xs.length (xs.flatMap f)

section
variable {α : Type} {k : Nat} {f : α → List Value}
theorem OneK.flen (h : OneK k f) : ∀ xs : List α, (xs.flatMap f).length = xs.length * k
  | [] => by simp
  | x :: xs => by simp [List.flatMap_cons, h.flen xs, h.len x, Nat.add_mul, Nat.add_comm]
theorem OneK.fget (h : OneK k f) : ∀ (xs : List α) (j : Nat) (x : α) (i : Nat), xs[j]? = some x → i < k → (xs.flatMap f)[j * k + i]? = (f x)[i]?
  | [], _, _, _, hx, _ => by simp at hx
  | y :: xs, 0, x, i, hx, hi => by
    simp only [List.getElem?_cons_zero, Option.some.injEq] at hx
    subst hx
    rw [List.flatMap_cons, Nat.zero_mul, Nat.zero_add, List.getElem?_append_left (by rw [h.len]; exact hi)]
  | y :: xs, j + 1, x, i, hx, hi => by
    have e : (j + 1) * k + i = (f y).length + (j * k + i) := by rw [h.len, Nat.add_mul]; omega
    rw [List.flatMap_cons, e, List.getElem?_append_right (by omega)]
    simp only [Nat.add_sub_cancel_left]
    exact h.fget xs j x i (by simpa using hx) hi
theorem OneK.fset (h : OneK k f) : ∀ (xs : List α) (j : Nat) (y : α), j < xs.length → (xs.set j y).flatMap f = (xs.flatMap f).take (j * k) ++ f y ++ (xs.flatMap f).drop (j * k + k)
  | [], _, _, hj => by simp at hj
  | x :: xs, 0, y, _ => by
    have e : List.drop (0 * k + k) (f x ++ xs.flatMap f) = xs.flatMap f := by rw [Nat.zero_mul, Nat.zero_add, List.drop_left' (h.len x)]
    rw [List.set_cons_zero, List.flatMap_cons, List.flatMap_cons, e]
    simp
  | x :: xs, j + 1, y, hj => by
    have e1 : (j + 1) * k = (f x).length + j * k := by rw [h.len, Nat.add_mul]; omega
    have e2 : (j + 1) * k + k = (f x).length + (j * k + k) := by rw [e1]; omega
    rw [List.set_cons_succ, List.flatMap_cons, List.flatMap_cons, h.fset xs j y (by simpa using hj), e2, e1, List.take_length_add_append, List.drop_length_add_append]
    simp
theorem OneK.mem (h : OneK k f) {xs : List α} : ∀ u ∈ xs.flatMap f, u.oneCell' = true := fun u hu => by
  obtain ⟨x, _, hx⟩ := List.mem_flatMap.1 hu
  exact h.one x u hx
end

section
variable {α : Type} {k : Nat} {f : α → List Value} {w w' : World} {A : Option Addr} {c B g : Nat} {xs : List α} {e : TypeId} {row : Option Nat}
theorem RdK.nil (h : OneK k f) (w : World) {A : Option Addr} {c : Nat} (hc : c ≤ maxLen) : RdK k f w A c [] := ⟨h, Nat.zero_le _, hc, fun h => absurd rfl h⟩
theorem RdK.lt (h : RdK k f w A c xs) (hx : xs ≠ []) {g : Nat} (hg : blk A = some g) : g < w.heap.size := by
  obtain ⟨g', o, rfl, hc⟩ := h.cells hx
  obtain ⟨x, l, rfl⟩ := List.exists_cons_of_ne_nil hx
  have h0 : 0 < (f x).length := by rw [h.ok.len]; exact h.ok.pos
  have := World.block_lt_of_cell? w _ (hc 0 x 0 _ rfl (List.getElem?_eq_getElem h0))
  simp only [blk, Option.map_some, Option.some.injEq] at hg
  subst hg
  exact this
theorem RdK.keep (h : RdK k f w A c xs) (hg : w.grownBy w' row) (hne : xs ≠ [] → ∀ g, row = some g → blk A ≠ some g) : RdK k f w' A c xs :=
  ⟨h.ok, h.cap, h.max, fun hx => by
    obtain ⟨g', o, rfl, hc⟩ := h.cells hx
    refine ⟨g', o, rfl, fun j x i u hj hi => hg.cell (hc j x i u hj hi) (fun e => ?_)⟩
    exact hne hx _ e.symm (by simp [blk])⟩
theorem RdK.grown (h : RdK k f w A c xs) (hg : w.grownBy w' none) : RdK k f w' A c xs := h.keep hg (by simp)
theorem RdK.go (h : RdK k f w A c xs) (hg : w.grownBy w' row) (hd : Dn xs (blk A) row) : RdK k f w' A c xs := h.keep hg fun hx g e k => hd hx g k e
theorem RdK.lt' (h : RdK k f w A c xs) (hx : xs ≠ []) : Lt (blk A) w.heap.size := fun _ hg => h.lt hx hg
theorem RdK.eqv (hw : Eqv w w') (h : RdK k f w A c xs) : RdK k f w' A c xs := h.grown (gr_eqv (gr_refl w none) hw)
theorem RdK.cut (h : RdK k f w A c xs) {l m : Nat} (hl : l ≤ m) (hm : m ≤ xs.length) : RdK k f w (if c = l then A else A.map (·.add (l * k))) (c - l) ((xs.drop l).take (m - l)) := by
  have hlen : ((xs.drop l).take (m - l)).length = m - l := by simp; omega
  refine ⟨h.ok, by have := h.cap; omega, by have := h.max; omega, fun hx => ?_⟩
  have hx' : 0 < m - l := by
    rw [← hlen]
    exact List.length_pos_iff.2 hx
  obtain ⟨g', o, rfl, hc⟩ := h.cells (fun e => by rw [e] at hm; simp at hm; omega)
  rw [if_neg (by have := h.cap; omega)]
  refine ⟨g', o + l * k, by simp [Addr.add_mid], fun j x i u hj hi => ?_⟩
  have := hc (l + j) x i u (by
    rw [List.getElem?_take] at hj
    split at hj
    · rw [List.getElem?_drop] at hj; exact hj
    · cases hj) hi
  rw [show o + l * k + (j * k + i) = o + ((l + j) * k + i) by rw [Nat.add_mul]; omega]
  exact this
theorem OwnK.nil (h : OneK k f) (w : World) (B : Nat) (e : TypeId) : OwnK k f w B e none 0 [] := ⟨h, World.ownsRow_nil w B e k⟩
theorem OwnK.rd (h : OwnK k f w B e A c xs) : RdK k f w A c xs := by
  have h2 := h.2
  rcases h2.2 with ⟨hv, hn⟩ | ⟨g, cap, cur, hv, hb, hg, hnc, hcm, hcs, htake⟩
  · simp only [Value.slice.injEq] at hv
    obtain ⟨rfl, _, rfl⟩ := hv
    have : xs = [] := List.eq_nil_of_length_eq_zero hn
    subst this
    exact RdK.nil h.1 w (Nat.zero_le _)
  · simp only [Value.slice.injEq] at hv
    obtain ⟨rfl, _, rfl⟩ := hv
    refine ⟨h.1, hnc, hcm, fun _ => ⟨g, 0, rfl, fun j x i u hj hi => ?_⟩⟩
    have hik : i < k := by
      rcases Nat.lt_or_ge i k with h1 | h1
      · exact h1
      · rw [List.getElem?_eq_none (by rw [h.1.len]; exact h1)] at hi; cases hi
    have := h2.cells (g := g) rfl (j * k + i) u (by rw [h.1.fget xs j x i hj hik]; exact hi)
    rwa [Addr.add_mid] at this
theorem OwnK.keep (h : OwnK k f w B e A c xs) (hg : w.grownBy w' row) (hne : ∀ g, row = some g → blk A ≠ some g) : OwnK k f w' B e A c xs := by
  refine ⟨h.1, World.ownsRow.kept h.2 hg ?_⟩
  cases A with
  | none => exact .inl rfl
  | some a =>
    refine .inr ?_
    simp only [Value.ownBlock]
    intro e
    exact hne _ e.symm (by simp [blk])
theorem OwnK.grown (h : OwnK k f w B e A c xs) (hg : w.grownBy w' none) : OwnK k f w' B e A c xs := h.keep hg (by simp)
theorem OwnK.go (h : OwnK k f w B e A c xs) (hg : w.grownBy w' row) (hd : Dj (blk A) row) : OwnK k f w' B e A c xs := h.keep hg fun g e k => hd g k e
theorem OwnK.lt (h : OwnK k f w B e A c xs) {g : Nat} (hg : blk A = some g) : B ≤ g ∧ g < w.heap.size := by
  refine World.ownsRow.lt h.2 g ?_
  cases A with
  | none => simp [blk] at hg
  | some a => simpa [blk, Value.ownBlock] using hg
theorem OwnK.lt' (h : OwnK k f w B e A c xs) : Lt (blk A) w.heap.size := fun _ hg => (h.lt hg).2
theorem OwnK.ge' (h : OwnK k f w B e A c xs) : Ge (blk A) B := fun _ hg => (h.lt hg).1
theorem OwnK.eqv (hw : Eqv w w') (h : OwnK k f w B e A c xs) : OwnK k f w' B e A c xs := h.grown (gr_eqv (gr_refl w none) hw)
theorem OwnK.base {B' : Nat} (h : OwnK k f w B e A c xs) (hB : ∀ g, blk A = some g → B' ≤ g) : OwnK k f w B' e A c xs := by
  refine ⟨h.1, h.2.1, ?_⟩
  rcases h.2.2 with hn | ⟨g, cap, cur, hv, hb, rest⟩
  · exact .inl hn
  · refine .inr ⟨g, cap, cur, hv, ?_, rest⟩
    simp only [Value.slice.injEq] at hv
    exact hB g (by rw [hv.1]; rfl)
theorem OwnK.ofBl {m : Nat} (ho : OneK k f) (h : Bl w g e (xs.flatMap f)) (hB : B ≤ g) (hm : xs.length ≤ maxLen) (hn : m = xs.length) : OwnK k f w B e (some ⟨g, 0, none⟩) m xs := by
  subst hn
  refine ⟨ho, ho.flen xs, .inr ⟨g, _, _, rfl, hB, h, Nat.le_refl _, hm, by simpa using ho.flen xs, ?_⟩⟩
  rw [← ho.flen xs]
  exact List.take_length
theorem OwnK.take (h : OwnK k f w B e A c xs) (m : Nat) (hm : m ≤ xs.length) : OwnK k f w B e A c (xs.take m) := by
  rcases h.2.2 with ⟨hv, hn⟩ | ⟨g, cap, cur, hv, hb, hg, hnc, hcm, hcs, htake⟩
  · simp only [Value.slice.injEq] at hv
    obtain ⟨rfl, _, rfl⟩ := hv
    have : xs = [] := List.eq_nil_of_length_eq_zero hn
    subst this
    simpa using OwnK.nil h.1 w B e
  · simp only [Value.slice.injEq] at hv
    obtain ⟨rfl, _, rfl⟩ := hv
    have hl : (xs.take m).length = m := by simp; omega
    refine ⟨h.1, h.1.flen _, .inr ⟨g, c, cur, rfl, hb, hg, by omega, hcm, hcs, ?_⟩⟩
    rw [hl]
    have e1 : (xs.take m).flatMap f = (xs.flatMap f).take (m * k) := by
      have h2 := h.1.flen (xs.take m)
      rw [hl] at h2
      have h3 : xs.flatMap f = (xs.take m).flatMap f ++ (xs.drop m).flatMap f := by rw [← List.flatMap_append, List.take_append_drop]
      rw [h3, List.take_left' h2]
    rw [e1, ← htake, List.take_take, Nat.min_eq_left (Nat.mul_le_mul_right k hm)]
end

/-- elements' types of slices: size, bytes -/
def ckOwK (P : Program) (t e k b : Nat) : Bool := match P.underlying t with
  | some (.slice e') => Nat.beq e' e && (match P.info? e with
    | some i => Nat.beq i.size k && Nat.beq i.bytes b && (match i.zero with | some z => Nat.beq z.cells.size k | none => false)
    | _ => false)
  | _ => false
theorem ckOwK_spec {P : Program} {t e k b : Nat} (h : ckOwK P t e k b = true) : P.underlying t = some (.slice e) ∧ ∃ i z, P.info? e = some i ∧ i.zero = some z ∧ i.size = k ∧ i.bytes = b ∧ z.cells.size = k := by
  unfold ckOwK at h
  split at h
  · rename_i e' he
    simp only [Bool.and_eq_true] at h
    have h1 := Nat.eq_of_beq_eq_true h.1
    subst h1
    refine ⟨he, ?_⟩
    have h2 := h.2
    split at h2
    · rename_i i hi
      simp only [Bool.and_eq_true] at h2
      obtain ⟨⟨h3, h4⟩, h5⟩ := h2
      split at h5
      · rename_i z hz
        exact ⟨i, z, hi, hz, Nat.eq_of_beq_eq_true h3, Nat.eq_of_beq_eq_true h4, Nat.eq_of_beq_eq_true h5⟩
      · cases h5
    · cases h2
  · cases h

theorem splice_take {c v : List Value} {a k m : Nat} (hv : v.length = k) (h : a + k ≤ m) (hm : m ≤ c.length) : (c.take a ++ v ++ c.drop (a + k)).take m = (c.take m).take a ++ v ++ (c.take m).drop (a + k) := by
  have hl : (c.take a ++ v).length = a + k := by simp; omega
  rw [List.take_append, List.take_of_length_le (by omega), hl, List.take_take, Nat.min_eq_left (by omega), List.drop_take]
section rules
variable {P : Program} {T : Tab} {N : Nat} {ops : Array Oper} {Q : Post} {L : Slots} {w w0 : World} {rest : List Oper} {d : Nat} {dd : Option Tmp} {ty : TypeId} {pos : String} {af : Array Edge} {t t' : TypeId} {x y i : Operand} {kk kk' : IntKind} {q : Int}
variable {α : Type} {k : Nat} {f : α → List Value} {A : Option Addr} {c n B : Nat} {xs ys : List α} {e : TypeId} {us : List Value}
theorem Yld.iaddrK {e : TypeId} (hT : T.Ok P) (hR : RdK k f w0 A c xs) (hs : nk T.sl t = some (e, k)) (hx : opv L x = some (.slice A n c)) (hn : n = xs.length) (hi : opv L i = some (.int kk q)) (h0 : 0 ≤ q) (h1 : q < n) :
    Yld P N w ⟨dd, .indexAddr t x i, ty, pos, af, none⟩ L (.pointer (A.map (·.add (q.toNat * k)))) := fun a w1 _ ha => by
  obtain ⟨hu, j, hj, hj1⟩ := hT.sl hs
  obtain ⟨g, o, rfl, _⟩ := hR.cells (fun e => by rw [e] at hn; simp at hn; omega)
  unfold execOp
  simp [ha.ev hx, ha.ev hi, Instr.indexAt, run_underlying hu, asIntOf, h0, h1, sizeOf, typeInfo, hj, hj1]
theorem Yld.faddrK {m fi o j : Nat} {s : TypeId} {os : List Nat} (hT : T.Ok P) (hR : RdK k f w0 A c xs) (hj : j < xs.length) (hos : nk T.off s = some os) (ho : os[fi]? = some o) (hx : opv L x = some (.pointer (A.map (·.add m)))) :
    Yld P N w ⟨dd, .fieldAddr s x fi, ty, pos, af, none⟩ L (.pointer (A.map (·.add (m + o)))) := fun a w1 _ ha => by
  obtain ⟨g, p, rfl, _⟩ := hR.cells (fun e => by rw [e] at hj; simp at hj)
  obtain ⟨fs, hfs, hall⟩ := hT.off hos
  obtain ⟨fd, hfd, rfl, i, hi, hi0⟩ := hall _ _ ho
  unfold execOp
  simp [ha.ev hx, Instr.fieldAt, run_underlying hfs, hfd, Instr.sureAddr, fieldPlace, sizeOf, typeInfo, hi, hi0, Addr.add_mid, Nat.add_assoc]
theorem RdK.cellsAt (hR : RdK k f w A c xs) (dv : α) {j : Nat} (hj : j < xs.length) : ∃ g o, A = some ⟨g, o, none⟩ ∧ ∀ i u, (f (xs.getD j dv))[i]? = some u → w.cell? ⟨g, o + (j * k + i), none⟩ = some u := by
  obtain ⟨g, o, hA, hc⟩ := hR.cells (fun e => by rw [e] at hj; simp at hj)
  exact ⟨g, o, hA, fun i u hi => hc j _ i u (by simp [List.getD, hj]) hi⟩
theorem Yld.iloadK (dv : α) {j : Nat} (hT : T.Ok P) (hR : RdK k f w A c xs) (hs : nk T.agg t = some k) (hx : opv L x = some (.pointer (A.map (·.add (j * k))))) (hj : j < xs.length) :
    Yld P N w ⟨dd, .load t x, ty, pos, af, none⟩ L (.agg ⟨f (xs.getD j dv)⟩) := fun a w1 hw ha => by
  obtain ⟨⟨de, hu, hr⟩, i, hi, hi1⟩ := hT.agg hs
  obtain ⟨g, o, rfl, hc⟩ := hR.cellsAt dv hj
  have hrow : de.isRow = true := by cases de <;> simp_all [isRow]
  have := run_loadVar_mid (P := P) w1 g (o + j * k) t (f (xs.getD j dv)) de (fun p v hv' => by
    rw [hw.cell, Nat.add_assoc]
    exact hc p v hv') hu hrow (by simp [hi, hi1, hR.ok.len])
  unfold execOp
  simp only [ha.ev hx, Option.map_some, Addr.add_mid, Instr.loadAt, Instr.sureAddr, Sem.run_bind, Sem.run_pure, Result.andThen_ok, this]
theorem Yld.iloadF (dv : α) {j o : Nat} {u : Unit} {v : Value} (hT : T.Ok P) (hR : RdK k f w A c xs) (hs : nk T.one t = some u) (hx : opv L x = some (.pointer (A.map (·.add (j * k + o))))) (hj : j < xs.length) (hv : (f (xs.getD j dv))[o]? = some v) :
    Yld P N w ⟨dd, .load t x, ty, pos, af, none⟩ L v := by
  obtain ⟨g, p, rfl, hc⟩ := hR.cellsAt dv hj
  exact Yld.cell hT (hc o v hv) hs (by rw [hx, Option.map_some, Addr.add_mid])
/-- x[i] = v in a slice of the call's own -/
theorem Ef0.ostoreK {j : Nat} {v : α} (hT : T.Ok P) (h1 : nk T.agg t = some k) (hO : OwnK k f w B e A c xs) (hx : opv L x = some (.pointer (A.map (·.add (j * k))))) (hy : opv L y = some (.agg ⟨f v⟩)) (hj : j < xs.length) :
    Ef0 P N w ⟨none, .store t x y, ty, pos, af, none⟩ L fun w' => OwnK k f w' B e A c (xs.set j v) ∧ w.grownBy w' (blk A) := by
  rcases hO.2.2 with ⟨hv, hn⟩ | ⟨g, cap, cur, hs, hb, hg, hnc, hcm, hcs, htake⟩
  · omega
  · simp only [Value.slice.injEq] at hs
    obtain ⟨rfl, _, rfl⟩ := hs
    have hcl : cur.toList.length = c * k := by simpa using hcs
    have hjk : j * k + k ≤ xs.length * k := by rw [← Nat.succ_mul]; exact Nat.mul_le_mul_right k (by omega)
    have hck : xs.length * k ≤ c * k := Nat.mul_le_mul_right k hnc
    have hfl := hO.1.flen xs
    intro a w1 hw ha
    obtain ⟨_, i, hi, hi1⟩ := hT.agg h1
    have hg1 : w1.heap[g]? = some (.cells cur e (0, 0)) := by rw [hw.heap]; exact hg
    have hst := run_storeCells_at P g (j * k) e (f v) 0 cur w1 hg1 (by rw [hO.1.len]; omega) (hO.1.one v)
    refine ⟨w1.setRow g (List.take (j * k + 0) cur.toList ++ f v ++ List.drop (j * k + 0 + (f v).length) cur.toList).toArray, ?_, ⟨hO.1, hO.1.flen _, .inr ⟨g, c, _, by simp, hb, setRow_heap w1 g cur _ e _ hg1, by simpa using hnc, hcm, ?_, ?_⟩⟩, eqv_gr hw ⟨rfl, rfl, rfl, by simp, fun p _ hp => setRow_other w1 g p _ (fun e => hp (by simp [blk, e]))⟩⟩
    · unfold execOp
      have hcell : (Value.agg ⟨f v⟩).cells = ⟨f v⟩ := rfl
      have hsz : (⟨f v⟩ : Array Value).size = k := hO.1.len v
      simp only [ha.ev hx, ha.ev hy, Option.map_some, Addr.add_mid, Nat.zero_add, Sem.run_bind, Instr.storeAt, Instr.sureAddr, Sem.run_pure, Result.andThen_ok, storeVar, hcell, sizeOf, typeInfo, program, Sem.run, hi, hi1]
      simp only [hsz, ne_eq, not_true_eq_false, if_false]
      rw [hst]
      rfl
    · simp only [List.size_toArray, List.length_append, List.length_take, List.length_drop, hO.1.len, hcl]
      omega
    · rw [hO.1.fset xs j v hj, List.length_set, ← htake]
      simp only [Nat.add_zero, hO.1.len]
      exact splice_take (hO.1.len v) (by omega) (by omega)
theorem WL.ostoreK {j : Nat} {v : α} (hT : T.Ok P) (h1 : nk T.agg t = some k) (hO : OwnK k f w B e A c xs) (hx : opv L x = some (.pointer (A.map (·.add (j * k))))) (hy : opv L y = some (.agg ⟨f v⟩)) (hj : j < xs.length)
    (hk : ∀ w', OwnK k f w' B e A c (xs.set j v) → w.grownBy w' (blk A) → WL P N ops Q rest L w') : WL P N ops Q (⟨none, .store t x y, ty, pos, af, none⟩ :: rest) L w :=
  WL.eff (Ef0.ostoreK hT h1 hO hx hy hj) (fun w' ⟨h1, h2⟩ => hk w' h1 h2)
end rules
end Go.Proofs.YtjhipfdbionpoaaGreatDoor

 /- Slices whose elements take k cells each: append, literals, make. -/
namespace Go.Proofs.YtjhipfdbionpoaaGreatDoor
open Go Go.RowKit
section
variable {α : Type} {k : Nat} {f : α → List Value}
theorem OneK.fidx (h : OneK k f) : ∀ (xs : List α) (p : Nat) (u : Value), (xs.flatMap f)[p]? = some u → ∃ j x i, p = j * k + i ∧ xs[j]? = some x ∧ (f x)[i]? = some u
  | [], p, u, hu => by simp at hu
  | x :: xs, p, u, hu => by
    rw [List.flatMap_cons] at hu
    by_cases hp : p < k
    · rw [List.getElem?_append_left (by rw [h.len]; exact hp)] at hu
      exact ⟨0, x, p, by omega, rfl, hu⟩
    · rw [List.getElem?_append_right (by rw [h.len]; omega), h.len] at hu
      obtain ⟨j, y, i, h1, h2, h3⟩ := h.fidx xs _ u hu
      exact ⟨j + 1, y, i, by rw [Nat.add_mul]; omega, by simpa using h2, h3⟩
/-- the parts' cells of a literal -/
def partsA (L : Slots) : Nat → List (Nat × Operand) → Option (List (List Value))
  | _, [] => some []
  | j, (i, x) :: r => bif Nat.beq i j then (match opv L x, partsA L (j + 1) r with
    | some (.agg ⟨vs⟩), some us => some (vs :: us)
    | _, _ => none) else none
theorem fill_partsA {N : Nat} {L : Slots} {a : Act} (ha : Has N L a) (k : Nat) : ∀ (ps : List (Nat × Operand)) (j : Nat) (vs : List (List Value)) (done : List Value) (cells : Array Value), partsA L j ps = some vs → (∀ u ∈ vs, u.length = k) → done.length = j * k → cells.toList.take (j * k) = done → cells.size = (j + vs.length) * k →
    Instr.fill (fun i => some (i * k, k)) cells (ps.map fun p => (p.1, a.eval p.2)) = some ⟨done ++ vs.flatten⟩
  | [], j, vs, done, cells, hp, _, hdl, ht, hs => by
    simp only [partsA, Option.some.injEq] at hp
    subst hp
    simp only [List.map_nil, Instr.fill, List.flatten_nil, List.append_nil]
    congr 1
    apply Array.ext'
    rw [← ht, List.take_of_length_le (by simp at hs ⊢; omega)]
  | (i, x) :: ps, j, vs, done, cells, hp, h1, hdl, ht, hs => by
    simp only [partsA] at hp
    cases hij : Nat.beq i j with
    | false => simp [hij] at hp
    | true =>
      have := Nat.eq_of_beq_eq_true hij
      subst this
      simp only [hij, cond_true] at hp
      split at hp
      · rename_i v us hv hus
        simp only [Option.some.injEq] at hp
        subst hp
        have hvk : v.length = k := h1 v (by simp)
        have hcs : (Value.agg ⟨v⟩).cells = ⟨v⟩ := rfl
        simp only [List.length_cons] at hs
        have hs2 : cells.size = i * k + k + us.length * k := by rw [hs, Nat.add_mul, Nat.add_mul]; omega
        simp only [List.map_cons, Instr.fill, ha.ev hv, hcs]
        have h5 : ((⟨v⟩ : Array Value).zipIdx.foldl (fun cs (x : Value × Nat) => match x with | (c, j) => cs.setIfInBounds (i * k + j) c) cells).toList = splice cells.toList (i * k) v := by
          have h3 := foldl_splice v 0 cells (i * k) (by omega)
          rw [Nat.add_zero] at h3
          have h4 : ((⟨v⟩ : Array Value).zipIdx.foldl (fun (cs : Array Value) (x : Value × Nat) => cs.setIfInBounds (i * k + x.2) x.1) cells).toList = splice cells.toList (i * k) v := by
            rw [← h3, ← Array.foldl_toList]
            simp
          exact h4
        generalize hq : (⟨v⟩ : Array Value).zipIdx.foldl (fun cs (x : Value × Nat) => match x with | (c, j) => cs.setIfInBounds (i * k + j) c) cells = q at h5
        rw [if_neg (by simp [hvk]; omega)]
        have hql : q.size = cells.size := by
          have := congrArg List.length h5
          rw [splice_length _ _ _ (by simp; omega)] at this
          simpa using this
        have := fill_partsA ha k ps (i + 1) us (done ++ v) q hus (fun u hu => h1 u (by simp [hu])) (by rw [List.length_append, hdl, hvk, Nat.add_mul]; omega) (by
          rw [h5, Nat.add_mul, Nat.one_mul]
          unfold splice
          rw [ht, List.take_left' (by rw [List.length_append, hdl, hvk])]) (by rw [hql, hs2, Nat.add_mul, Nat.add_mul]; omega)
        rw [this]
        simp
      · cases hp
theorem flatten_map (f : α → List Value) : ∀ xs : List α, (xs.map f).flatten = xs.flatMap f
  | [] => rfl
  | x :: xs => by simp [List.flatMap_cons, flatten_map f xs]
end
section rules
variable {P : Program} {T : Tab} {N : Nat} {ops : Array Oper} {Q : Post} {L : Slots} {w : World} {rest : List Oper} {d : Nat} {ty : TypeId} {pos : String} {af : Array Edge} {t t' : TypeId} {x y : Operand} {kk kk' : IntKind}
variable {α : Type} {k : Nat} {f : α → List Value} {A : Option Addr} {c n B : Nat} {xs ys : List α} {e : TypeId}
theorem Eff.litK {b m : Nat} {ps : List (Nat × Operand)} (hf : OneK k f) (hs : ckOwK P t e k b = true) (hp : partsA L 0 ps = some (xs.map f)) (hm : xs.length = m) (hm2 : Nat.ble (m * k) 16777216 = true) :
    Eff P N w ⟨some d, .buildSlice t m ⟨ps⟩, ty, pos, af, none⟩ L (fun v w' => v = .slice (some ⟨w.heap.size, 0, none⟩) m m ∧ Bl w' w.heap.size e (xs.flatMap f) ∧ w.grownBy w' none) := fun a w1 hw ha => by
    have hs1 : w1.heap.size = w.heap.size := by rw [hw.heap]
    have hm2 : m * k ≤ 16777216 := by simpa using hm2
    obtain ⟨hu, j, z, hj, hz, hj1, _, hz1⟩ := ckOwK_spec hs
    refine ⟨_, w1.alloc (.cells ⟨xs.flatMap f⟩ e), ?_, rfl, newBlock w1 hw _ e⟩
    have hne : ¬ (m * k > 2 ^ 24) := by omega
    have hmap : ((⟨ps⟩ : Array (Nat × Operand)).map fun p => (p.1, a.eval p.2)).toList = ps.map fun p => (p.1, a.eval p.2) := by simp
    have hfill : ∀ cells : Array Value, cells.size = m * k → Instr.fill (fun i => some (i * k, k)) cells (ps.map fun p => (p.1, a.eval p.2)) = some ⟨xs.flatMap f⟩ := fun cells hc => by
      have := fill_partsA ha k ps 0 (xs.map f) [] cells hp (fun u hu => by
        obtain ⟨y, _, rfl⟩ := List.mem_map.1 hu
        exact hf.len y) (by simp) (by simp) (by rw [hc, List.length_map, hm, Nat.zero_add])
      rw [this, flatten_map]
      rfl
    have hzr : (zeroValue e).run P w1 = .ok z w1 := by simp [zeroValue, typeInfo, hj, hz]
    unfold execOp
    simp only [Instr.buildSlice, Sem.run_bind, run_underlying hu, Result.andThen_ok, sizeOf, typeInfo, program, Sem.run, hj, hj1, hne, if_false, Sem.run_pure, hmap]
    by_cases hm0 : m * k = 0
    · simp only [hm0, if_true, Sem.run_bind, Sem.run_pure, Result.andThen_ok]
      rw [hfill _ (by simp [hm0])]
      simp only [newRow, newObj, Sem.run_bind, Sem.run_pure]
      rw [← hs1]; rfl
    · rw [if_neg hm0]
      simp only [Sem.run_bind, hzr, Result.andThen_ok, Sem.run_pure]
      rw [hfill _ (by simp)]
      simp only [newRow, newObj, Sem.run_bind, Sem.run_pure]
      rw [← hs1]; rfl
theorem WL.litK {b m : Nat} {ps : List (Nat × Operand)} (xs : List α) (hf : OneK k f) (hd : Nat.blt d N = true) (hs : ckOwK P t e k b = true) (hp : partsA L 0 ps = some (xs.map f)) (hm : xs.length = m) (hm2 : Nat.ble (m * k) 16777216 = true)
    (hk : ∀ g w', Bl w' g e (xs.flatMap f) → w.grownBy w' none → w.heap.size ≤ g → WL P N ops Q rest ((d, .slice (some ⟨g, 0, none⟩) m m) :: L) w') :
    WL P N ops Q (⟨some d, .buildSlice t m ⟨ps⟩, ty, pos, af, none⟩ :: rest) L w :=
  WL.put (R := fun v w' => v = .slice (some ⟨w.heap.size, 0, none⟩) m m ∧ Bl w' w.heap.size e (xs.flatMap f) ∧ w.grownBy w' none) hd (Eff.litK hf hs hp hm hm2) (fun v w' ⟨hv, hb, hg⟩ => by subst hv; exact hk _ _ hb hg (Nat.le_refl _))
theorem run_append_own_srcK {w1 : World} {tx : TypeId} {v : Value} {b m : Nat} {ys : List α} (hs : ckOwK P t e k b = true) (hO : OwnK k f w1 B e A c xs) (hS : Src P k tx v m (ys.flatMap f) w1) (hm : m = ys.length) (hl : (xs.length + ys.length) * b ≤ 140737488355328) (h63 : xs.length + ys.length ≤ maxLen) (hB : B ≤ w1.heap.size) (ty : TypeId) :
    ∃ A' c' w', (Builtin.append_ #[t, tx] ty #[.slice A xs.length c, v]).run P w1 = .ok (.slice A' (xs ++ ys).length c') w' ∧ OwnK k f w' B e A' c' (xs ++ ys) ∧ w1.grownBy w' (blk A) ∧ (∀ g, blk A' = some g → blk A = some g ∨ w1.heap.size ≤ g) := by
  obtain ⟨hu, i, z, hi, hz, hi1, hib, hz1⟩ := ckOwK_spec hs
  subst hib
  subst hm
  have h63' : ((xs.length + ys.length : Nat) : Int) ≤ 9223372036854775807 := by simp only [maxLen] at h63; omega
  have hf := hO.1
  have hfx := hf.flen xs
  have hfy := hf.flen ys
  have hge := grownCap_ge w1 (xs.length + ys.length) c e
  have hcm := grownCap_le_maxLen w1 (xs.length + ys.length) c e (by omega)
  have grow : c < xs.length + ys.length → ∃ A' c' w', (Builtin.append_ #[t, tx] ty #[.slice A xs.length c, v]).run P w1 = .ok (.slice A' (xs ++ ys).length c') w' ∧ OwnK k f w' B e A' c' (xs ++ ys) ∧ w1.grownBy w' (blk A) ∧ (∀ g, blk A' = some g → blk A = some g ∨ w1.heap.size ≤ g) := by
    intro hlt
    have hold : (Builtin.firstCells i.size xs.length (.slice A xs.length c)).run P w1.drew = .ok ((xs.flatMap f).toArray) w1.drew := by
      rw [hi1]
      rcases hO.2.2 with ⟨hv, hn⟩ | ⟨g, cap, cur, hv, hb, hg, hnc, hcm', hcs, htake⟩
      · simp only [Value.slice.injEq] at hv
        obtain ⟨rfl, _, rfl⟩ := hv
        have : xs = [] := List.eq_nil_of_length_eq_zero hn
        subst this
        exact run_firstCells_none w1.drew k 0 0 0
      · simp only [Value.slice.injEq] at hv
        obtain ⟨rfl, _, rfl⟩ := hv
        exact run_firstCells_some w1.drew k xs.length ⟨g, 0, none⟩ xs.length c (xs.flatMap f) hfx (fun j u hj => hO.2.cells (g := g) rfl j u hj)
    have hr := run_append_grow_src (P := P) w1 t tx ty e i z hu hi hz A xs.length c (xs.flatMap f) hold v ys.length (ys.flatMap f) (by rw [hi1]; exact hS) hlt h63' (growslice_fits hlt hl)
    refine ⟨_, _, _, by rw [hr, List.length_append], ⟨hf, ?_⟩, ?_, ?_⟩
    · refine ⟨hf.flen _, .inr ⟨w1.heap.size, _, _, by rw [List.length_append], hB, heap_alloc_new w1.drew _, by rw [List.length_append]; exact hge, hcm, ?_, ?_⟩⟩
      · have : (grownCap w1 (xs.length + ys.length) c e) * k = xs.length * k + ys.length * k + (grownCap w1 (xs.length + ys.length) c e - (xs.length + ys.length)) * k := by
          rw [← Nat.add_mul, ← Nat.add_mul]
          congr 1
          omega
        simp only [Array.size_append, List.size_toArray, List.length_append, size_zeroCells, hz1, hfx, hfy]
        omega
      · rw [hf.flen (xs ++ ys) |>.symm]
        simp only [Array.toList_append, List.flatMap_append]
        rw [List.take_left' (by simp)]
    · exact ⟨rfl, rfl, rfl, by simp, fun k hk _ => heap_alloc_old w1.drew _ hk⟩
    · intro g hg
      simp only [blk, Option.map_some, Option.some.injEq] at hg
      exact .inr (by omega)
  by_cases hroom : xs.length + ys.length ≤ c
  · rcases hO.2.2 with ⟨hv, hn⟩ | ⟨g, cap, cur, hv, hb, hg, hnc, hcm', hcs, htake⟩
    · simp only [Value.slice.injEq] at hv
      obtain ⟨rfl, _, rfl⟩ := hv
      have hx0 : xs = [] := List.eq_nil_of_length_eq_zero hn
      have hy0 : ys = [] := List.eq_nil_of_length_eq_zero (by omega)
      subst hx0; subst hy0
      refine ⟨none, 0, w1, ?_, OwnK.nil hf w1 B e, gr_refl _ _, fun g hg => by simp [blk] at hg⟩
      have := hS.cells
      rcases hS.kind with ⟨e', hk⟩ | hk <;> simp [Builtin.append_, run_underlying hu, run_underlying hk, sizeOf, typeInfo, hi, hi1, hS.len] <;> simp at this <;> simp [this]
    · simp only [Value.slice.injEq] at hv
      obtain ⟨rfl, _, rfl⟩ := hv
      have hB1 : Bl w1 g e cur.toList := hg
      have hcl : cur.toList.length = c * k := by simpa using hcs
      have hxk : xs.length * k + ys.length * k ≤ c * k := by rw [← Nat.add_mul]; exact Nat.mul_le_mul_right k hroom
      have hr := run_append_room_src (P := P) w1 t tx ty e i hu hi g 0 xs.length c v ys.length (ys.flatMap f) (by rw [hi1]; exact hS) hroom (fun j hj => by
        rw [hi1, hB1.cell]
        rw [List.getElem?_eq_getElem (by omega)]
        rfl) (fun j _ => hB1.frozen _)
      have hst := run_storeCells_at P g (xs.length * k) e (ys.flatMap f) 0 cur w1 hg (by simp at hcl; omega) hS.one
      have hst2 := run_storeCells_cells (P := P) g (xs.length * k) (ys.flatMap f) 0 w1 (fun j hj => by
        rw [hB1.cell]
        rw [List.getElem?_eq_getElem (by omega)]
        rfl) (fun j _ => hB1.frozen _) hS.one
      have hw : w1.setCells g (0 + xs.length * i.size) (ys.flatMap f) = w1.setRow g (List.take (xs.length * k + 0) cur.toList ++ ys.flatMap f ++ List.drop (xs.length * k + 0 + (ys.flatMap f).length) cur.toList).toArray := by
        rw [hst] at hst2
        injection hst2 with _ h2
        rw [hi1, Nat.zero_add]
        exact h2.symm
      rw [hw] at hr
      refine ⟨_, _, _, by rw [hr, List.length_append], ⟨hf, ?_⟩, ?_, fun g' hg' => .inl hg'⟩
      · refine ⟨hf.flen _, .inr ⟨g, c, _, by rw [List.length_append], hb, setRow_heap w1 g cur _ e _ hg, by rw [List.length_append]; exact hroom, hcm', ?_, ?_⟩⟩
        · simp only [List.size_toArray, List.length_append, List.length_take, List.length_drop, hcl, hfy]
          omega
        · rw [hf.flen (xs ++ ys) |>.symm]
          simp only [Nat.add_zero, htake, List.flatMap_append]
          rw [List.take_left' (by simp)]
      · exact ⟨rfl, rfl, rfl, by simp, fun k _ hk => setRow_other w1 g k _ (fun e => hk (by simp [blk, e]))⟩
  · exact grow (by omega)
theorem src_rdK {w1 : World} {A2 : Option Addr} {c2 : Nat} {ys : List α} {e' : TypeId} (hu : P.underlying t = some (.slice e')) (hR : RdK k f w1 A2 c2 ys) : Src P k t (.slice A2 ys.length c2) ys.length (ys.flatMap f) w1 := by
  by_cases hy : ys = []
  · subst hy
    cases A2 with
    | none => exact Src.ofNil w1 hu c2
    | some ad => exact Src.ofSlice w1 hu ad 0 c2 [] (by simp) (by simp) (by simp)
  · obtain ⟨g, o, rfl, hc⟩ := hR.cells hy
    exact Src.ofSlice w1 hu ⟨g, o, none⟩ ys.length c2 (ys.flatMap f) (hR.ok.flen ys) (fun p u hp => by
      obtain ⟨j, x, i, rfl, hx, hi⟩ := hR.ok.fidx ys p u hp
      rw [Addr.add_mid]
      exact hc j x i u hx hi) hR.ok.mem
theorem Eff.appendK {A2 : Option Addr} {c2 n2 : Nat} {ys : List α} {b : Nat} (hs : ckOwK P t e k b = true) (hO : OwnK k f w B e A c xs) (hx : opv L x = some (.slice A n c)) (hn : n = xs.length) (hR : RdK k f w A2 c2 ys) (hy : opv L y = some (.slice A2 n2 c2)) (hn2 : n2 = ys.length) (hl : (xs.length + ys.length) * b ≤ 140737488355328) (h63 : xs.length + ys.length ≤ maxLen) (hB : B ≤ w.heap.size) :
    Eff P N w ⟨some d, .call ⟨.builtin .append, ⟨[x, y]⟩, ⟨[t, t]⟩⟩, ty, pos, af, none⟩ L (fun v w' => ∃ A' c', v = .slice A' (xs ++ ys).length c' ∧ OwnK k f w' B e A' c' (xs ++ ys) ∧ w.grownBy w' (blk A) ∧ (∀ g, blk A' = some g → blk A = some g ∨ w.heap.size ≤ g)) := fun a w1 hw ha => by
    obtain ⟨hu, _⟩ := ckOwK_spec hs
    subst hn; subst hn2
    have hs1 : w1.heap.size = w.heap.size := by rw [hw.heap]
    obtain ⟨A', c', w', hr, h1, h2, h3⟩ := run_append_own_srcK (P := P) (ty := ty) hs (hO.eqv hw) (src_rdK hu (hR.eqv hw)) rfl hl h63 (by omega)
    refine ⟨_, w', ?_, A', c', rfl, h1, eqv_gr hw h2, fun g hg => by rw [← hs1]; exact h3 g hg⟩
    unfold execOp
    simp [resolve, invoke, builtin, ha.ev hx, ha.ev hy, hr]
theorem WL.appendK {A2 : Option Addr} {c2 n2 : Nat} {ys : List α} {b : Nat} (hd : Nat.blt d N = true) (hs : ckOwK P t e k b = true) (hO : OwnK k f w B e A c xs) (hx : opv L x = some (.slice A n c)) (hn : n = xs.length) (hR : RdK k f w A2 c2 ys) (hy : opv L y = some (.slice A2 n2 c2)) (hn2 : n2 = ys.length)
    (hl : (xs.length + ys.length) * b ≤ 140737488355328) (h63 : xs.length + ys.length ≤ maxLen) (hB : B ≤ w.heap.size)
    (hk : ∀ A' c' w', OwnK k f w' B e A' c' (xs ++ ys) → w.grownBy w' (blk A) → (∀ g, blk A' = some g → blk A = some g ∨ w.heap.size ≤ g) → WL P N ops Q rest ((d, .slice A' (xs ++ ys).length c') :: L) w') :
    WL P N ops Q (⟨some d, .call ⟨.builtin .append, ⟨[x, y]⟩, ⟨[t, t]⟩⟩, ty, pos, af, none⟩ :: rest) L w :=
  WL.put (R := fun v w' => ∃ A' c', v = .slice A' (xs ++ ys).length c' ∧ OwnK k f w' B e A' c' (xs ++ ys) ∧ w.grownBy w' (blk A) ∧ (∀ g, blk A' = some g → blk A = some g ∨ w.heap.size ≤ g)) hd (Eff.appendK hs hO hx hn hR hy hn2 hl h63 hB) (fun v w' ⟨A', c', hv, h1, h2, h3⟩ => by subst hv; exact hk A' c' w' h1 h2 h3)
/-- make([]T, m) -/
theorem made_flat (z : List Value) (k : Nat) (hk : z.length = k) (hp : 0 < k) : ∀ m, (madeCells ⟨z⟩ (m * k)).toList = (List.replicate m z).flatten := fun m => by
  apply List.ext_getElem?
  intro j
  have hl : ((List.replicate m z).flatten).length = m * k := by simp [hk]
  by_cases hj : j < m * k
  · have h1 : (madeCells ⟨z⟩ (m * k)).toList[j]? = z[j % k]? := by
      have hlt : j % k < z.length := by rw [hk]; exact Nat.mod_lt _ hp
      simp [madeCells, hj, hk, List.getElem?_eq_getElem hlt]
    rw [h1]
    have gen : ∀ m j, j < m * k → ((List.replicate m z).flatten)[j]? = z[j % k]? := by
      intro m
      induction m with
      | zero => intro j hj; omega
      | succ m ih =>
        intro j hj
        rw [List.replicate_succ, List.flatten_cons]
        by_cases h : j < k
        · rw [List.getElem?_append_left (by omega), Nat.mod_eq_of_lt h]
        · rw [List.getElem?_append_right (by omega), hk, ih (j - k) (by rw [Nat.add_mul] at hj; omega)]
          rw [Nat.mod_eq_sub_mod (a := j) (by omega)]
    rw [gen m j hj]
  · rw [List.getElem?_eq_none (by simp [madeCells]; omega), List.getElem?_eq_none (by omega)]
theorem Eff.makeZK {q : Int} {z : α} {b : Nat} (hf : OneK k f) (hs : ckOwK P t e k b = true) (hz : zeroOf P e = some (f z)) (hx : opv L x = some (.int kk q)) (hy : opv L y = some (.int kk' q)) (h0 : 0 ≤ q) (hm : q * (b : Int) ≤ 140737488355328) (h63 : q ≤ 140737488355328) (hB : B ≤ w.heap.size) :
    Eff P N w ⟨some d, .makeSlice t x y, ty, pos, af, none⟩ L (fun v w' => v = .slice (some ⟨w.heap.size, 0, none⟩) q.toNat q.toNat ∧ OwnK k f w' B e (some ⟨w.heap.size, 0, none⟩) q.toNat (List.replicate q.toNat z) ∧ w.grownBy w' none) := fun a w1 hw ha => by
  obtain ⟨hu, i, z0, hi, hz0, hi1, hib, hz1⟩ := ckOwK_spec hs
  have hs1 : w1.heap.size = w.heap.size := by rw [hw.heap]
  have hzc : z0.cells = ⟨f z⟩ := by
    unfold zeroOf at hz
    rw [hi] at hz
    simp only [hz0, Option.some.injEq] at hz
    apply Array.ext'
    rw [hz]
  obtain ⟨m, rfl⟩ := Int.eq_ofNat_of_zero_le h0
  have hmb : m * b ≤ 140737488355328 := by
    have : ((m * b : Nat) : Int) ≤ 140737488355328 := by rw [Int.natCast_mul]; exact hm
    omega
  obtain ⟨w', hr, hO, hg⟩ := run_make_full (P := P) w1 B t e i z0 k hu hi hz0 hi1 kk kk' m (by rw [hib, Nat.mul_comm]; omega) (by simp only [maxLen]; omega) (by omega)
  simp only [Int.toNat_natCast]
  refine ⟨_, w', ?_, by rw [← hs1], ⟨hf, ?_⟩, eqv_gr hw hg⟩
  · unfold execOp
    simp only [ha.ev hx, ha.ev hy, Sem.run_bind, hr, Result.andThen_ok, Sem.run_pure]
  · have e1 : (madeCells z0.cells (m * k)).toList = (List.replicate m z).flatMap f := by
      rw [hzc, made_flat _ k (hf.len z) hf.pos, ← flatten_map, List.map_replicate]
    rw [e1] at hO
    rw [← hs1, List.length_replicate]
    exact hO
theorem WL.makeZK {q : Int} (z : α) {b : Nat} (hf : OneK k f) (hd : Nat.blt d N = true) (hs : ckOwK P t e k b = true) (hz : zeroOf P e = some (f z)) (hx : opv L x = some (.int kk q)) (hy : opv L y = some (.int kk' q)) (h0 : 0 ≤ q) (hm : q * (b : Int) ≤ 140737488355328) (h63 : q ≤ 140737488355328) (hB : B ≤ w.heap.size)
    (hk : ∀ g w', OwnK k f w' B e (some ⟨g, 0, none⟩) q.toNat (List.replicate q.toNat z) → w.grownBy w' none → w.heap.size ≤ g → WL P N ops Q rest ((d, .slice (some ⟨g, 0, none⟩) q.toNat q.toNat) :: L) w') :
    WL P N ops Q (⟨some d, .makeSlice t x y, ty, pos, af, none⟩ :: rest) L w :=
  WL.put (R := fun v w' => v = .slice (some ⟨w.heap.size, 0, none⟩) q.toNat q.toNat ∧ OwnK k f w' B e (some ⟨w.heap.size, 0, none⟩) q.toNat (List.replicate q.toNat z) ∧ w.grownBy w' none) hd (Eff.makeZK hf hs hz hx hy h0 hm h63 hB) (fun v w' ⟨hv, h1, h2⟩ => by subst hv; exact hk _ w' h1 h2 (Nat.le_refl _))
end rules
/-- arrays of 32 bytes, by value -/
def a32 (x : List UInt8) : List Value := [vb (x.getD 0 0), vb (x.getD 1 0), vb (x.getD 2 0), vb (x.getD 3 0), vb (x.getD 4 0), vb (x.getD 5 0), vb (x.getD 6 0), vb (x.getD 7 0), vb (x.getD 8 0), vb (x.getD 9 0), vb (x.getD 10 0), vb (x.getD 11 0), vb (x.getD 12 0), vb (x.getD 13 0), vb (x.getD 14 0), vb (x.getD 15 0), vb (x.getD 16 0), vb (x.getD 17 0), vb (x.getD 18 0), vb (x.getD 19 0), vb (x.getD 20 0), vb (x.getD 21 0), vb (x.getD 22 0), vb (x.getD 23 0), vb (x.getD 24 0), vb (x.getD 25 0), vb (x.getD 26 0), vb (x.getD 27 0), vb (x.getD 28 0), vb (x.getD 29 0), vb (x.getD 30 0), vb (x.getD 31 0)]
theorem a32_range (x : List UInt8) : a32 x = (List.range 32).map fun i => vb (x.getD i 0) := rfl
theorem a32_get (x : List UInt8) (i : Nat) (h : i < 32) : (a32 x)[i]? = some (vb (x.getD i 0)) := by
  rw [a32_range]; simp [h]
theorem a32_len (x : List UInt8) : (a32 x).length = 32 := rfl
theorem a32_one (x : List UInt8) : ∀ u ∈ a32 x, u.oneCell' = true := fun u hu => by
  rw [a32_range] at hu
  obtain ⟨i, _, rfl⟩ := List.mem_map.1 hu
  rfl
theorem a32_ok : OneK 32 a32 := ⟨by omega, a32_len, a32_one⟩
theorem a32_map (x : List UInt8) (h : x.length = 32) : a32 x = x.map vb := by
  apply List.ext_getElem?
  intro i
  by_cases hi : i < 32
  · rw [a32_get x i hi]; simp [List.getD, h, hi]
  · rw [List.getElem?_eq_none (by rw [a32_len]; omega), List.getElem?_eq_none (by simp; omega)]
theorem a32_zero : List.replicate 32 (.int .u8 0) = a32 (List.replicate 32 0) := by rw [a32_map _ (by simp), List.map_replicate]; rfl
/-! ## what yields, guarded; make, by an integer; what grew of p is new -/
section
variable {P : Program} {T : Tab} {N : Nat} {ops : Array Oper} {Q : Post} {L : Slots} {w : World} {rest : List Oper} {d : Nat} {ty : TypeId} {pos : String} {af : Array Edge} {t : TypeId} {x y : Operand} {k k' : IntKind} {α : Type} {f : α → Value} {B : Nat} {e : TypeId}
theorem WL.putw {op : Op} {gd : Option (Nat × Bool)} {R : Value → World → Prop} (hg : Wants N ops L gd) (hd : Nat.blt d N = true) (hr : Eff P N w ⟨some d, op, ty, pos, af, none⟩ L R)
    (hk : ∀ v w', R v w' → WL P N ops Q rest ((d, v) :: L) w') : WL P N ops Q (⟨some d, op, ty, pos, af, gd⟩ :: rest) L w := fun a w1 e ha =>
  wpList_step fun K hK => by
    rw [if_pos (Wants.wanted (o := ⟨some d, op, ty, pos, af, gd⟩) hg ha)]
    obtain ⟨v, w', h, hR⟩ := hr a w1 e ha
    have h' : (execOp a.eval ⟨some d, op, ty, pos, af, gd⟩).run P w1 = .ok (.value v) w' := h
    unfold Oper.wp
    rw [h']
    exact hK _ _ (hk v w' hR _ w' (Eqv.refl _) (ha.put hd v))
theorem Ge.app {p p' : Option Nat} {n m : Nat} (h : Ge p n) (k : ∀ g, p' = some g → p = some g ∨ m ≤ g) (hm : n ≤ m) : Ge p' n := fun g hg => (k g hg).elim (h g) (Nat.le_trans hm)
theorem Eff.makeZI {q : Int} {z : α} {b : Nat} (hT : T.Ok P) (hs : nk T.ow t = some (e, b)) (hz : zeroOf P e = some [f z]) (hx : opv L x = some (.int k q)) (hy : opv L y = some (.int k' q)) (h0 : 0 ≤ q) (hm : q * (b : Int) ≤ 140737488355328) (h63 : q ≤ 140737488355328) (hB : B ≤ w.heap.size) :
    Eff P N w ⟨some d, .makeSlice t x y, ty, pos, af, none⟩ L (fun v w' => v = .slice (some ⟨w.heap.size, 0, none⟩) q.toNat q.toNat ∧ Own f w' B e (some ⟨w.heap.size, 0, none⟩) q.toNat (List.replicate q.toNat z) ∧ w.grownBy w' none) := by
  have e1 : ((q.toNat : Nat) : Int) = q := Int.toNat_of_nonneg h0
  have e2 : q.toNat * b ≤ 140737488355328 := by
    have : ((q.toNat * b : Nat) : Int) ≤ 140737488355328 := by rw [Int.natCast_mul, e1]; exact hm
    omega
  exact Eff.makeZ hT hs hz (by rw [e1]; exact hx) (by rw [e1]; exact hy) e2 (by omega) hB
def isIf : TypeDesc → Bool
  | .interface _ => true
  | _ => false
theorem Yld.mki {dd : Option Tmp} {v : Value} {td : TypeDesc} (hu : P.underlying t = some td) (hi : isIf td = false) (hv : opv L x = some v) : Yld P N w ⟨dd, .makeInterface t x, ty, pos, af, none⟩ L (.iface t v) := fun a w1 _ ha => by
  unfold execOp
  simp only [Instr.makeInterface, ha.ev hv, Sem.run_bind, run_underlying hu w1, Result.andThen_ok]
  cases td <;> simp_all [isIf]
end
theorem Rd.take {α : Type} {f : α → Value} {w : World} {A : Option Addr} {c : Nat} {xs : List α} (h : Rd f w A c xs) (m : Nat) : Rd f w A c (xs.take m) :=
  ⟨by have := h.cap; simp; omega, h.max, fun hx => by
    obtain ⟨ad, e, hc⟩ := h.cells (fun e => hx (by rw [e]; simp))
    refine ⟨ad, e, fun j x hj => hc j x ?_⟩
    rw [List.getElem?_take] at hj
    split at hj
    · exact hj
    · cases hj⟩
theorem cells1 {v : Value} (h : v.oneCell' = true) : v.cells.toList = [v] := by cases v <;> first | rfl | simp [Value.oneCell'] at h
/-! ## function values -/
section
variable {P : Program} {T : Tab} {N : Nat} {ops : Array Oper} {Q : Post} {L : Slots} {w : World} {rest : List Oper} {d : Nat} {ty : TypeId} {pos : String} {af : Array Edge}
theorem Yld.mkf {dd : Option Tmp} {f : FuncId} {cs : List Operand} {vs : List Value} (hv : opvs L cs = some vs) : Yld P N w ⟨dd, .makeFunc (.func f) ⟨[]⟩ ⟨cs⟩, ty, pos, af, none⟩ L (.func (.func f) #[] ⟨vs⟩) := fun a w1 _ ha => by
  have hm : (⟨cs⟩ : Array Operand).map a.eval = ⟨vs⟩ := by rw [← ha.evs hv]; simp
  unfold execOp
  simp only [Instr.makeFunc, hm, Sem.run_bind, Sem.run_pure, Result.andThen_ok]
  simp
theorem run_callv {a : Act} {w1 : World} {g : FuncId} {x : Operand} {ao : List Operand} {ts : Array TypeId} {vs cs : List Value} {dd : Option Tmp} (ha : Has N L a) (hgo : goesIn P g = true) (hx : opv L x = some (.func (.func g) #[] ⟨cs⟩)) (hv : opvs L ao = some vs) :
    (execOp a.eval ⟨dd, .call ⟨.value x, ⟨ao⟩, ts⟩, ty, pos, af, none⟩).run P w1 = .ok (.enter g ⟨vs ++ cs⟩) w1 := by
  have hm : (⟨ao⟩ : Array Operand).map a.eval = ⟨vs⟩ := by rw [← ha.evs hv]; simp
  unfold goesIn at hgo
  split at hgo
  · rename_i fn hfn
    simp only [Bool.and_eq_true, Bool.not_eq_true'] at hgo
    have hnone : fn.body.isNone = false := by cases hb : fn.body <;> simp_all
    unfold execOp
    simp only [resolve, ha.ev hx, hm, Deferred.ofValue, Sem.run_bind, Sem.run_pure, Result.andThen_ok, invoke, callFunc, program, Sem.run, hfn, hgo.1, hnone, Bool.false_eq_true, if_false]
    simp
  · cases hgo
theorem WL.callv {R : Value → World → Prop} {g : FuncId} {x : Operand} {ao : List Operand} {ts : Array TypeId} {vs cs : List Value} (hd : Nat.blt d N = true) (hx : opv L x = some (.func (.func g) #[] ⟨cs⟩)) (hv : opvs L ao = some vs) (hf : Fn P g ⟨vs ++ cs⟩ w R) (hk : ∀ v w', R v w' → WL P N ops Q rest ((d, v) :: L) w') :
    WL P N ops Q (⟨some d, .call ⟨.value x, ⟨ao⟩, ts⟩, ty, pos, af, none⟩ :: rest) L w := fun a w1 e ha =>
  wpList_plain rfl fun K hK => by
    obtain ⟨hgo, hC⟩ := hf
    unfold Oper.wp
    rw [run_callv ha hgo hx hv]
    refine (hC w1 e).mono ?_
    rintro en w' ⟨v, w0, rfl, h0, hR⟩
    exact hK _ _ (hk v w0 hR _ w' h0 (ha.put hd v))
end
/-! a slice held against nil -/
theorem Yld.sleqnil {P : Program} {N : Nat} {L : Slots} {w : World} {ty : TypeId} {pos : String} {af : Array Edge} {dd : Option Tmp} {t t' e : TypeId} {x : Operand} {A : Option Addr} {n c : Nat} (h : P.underlying t = some (.slice e)) (hx : opv L x = some (.slice A n c)) :
    Yld P N w ⟨dd, .binOp .eql t x (.const (.slice none 0 0)) t', ty, pos, af, none⟩ L (.bool A.isNone) := fun a w1 _ ha => by
  refine exec_bin (ha.ev hx) rfl ?_ ?_
  · unfold eqGuard; rfl
  exact Go.Lib.run_eql_slice_nil w1 _ _ _ _ _ _ _ h
theorem Rd.nil_of {α : Type} {f : α → Value} {w : World} {A : Option Addr} {c : Nat} {xs : List α} (h : Rd f w A c xs) (hA : A.isNone = true) : xs = [] := by
  cases xs with
  | nil => rfl
  | cons x xs => obtain ⟨a, rfl, _⟩ := h.cells (by simp); cases hA
theorem RdK.nil_of {α : Type} {k : Nat} {f : α → List Value} {w : World} {A : Option Addr} {c : Nat} {xs : List α} (h : RdK k f w A c xs) (hA : A.isNone = true) : xs = [] := by
  cases xs with
  | nil => rfl
  | cons x xs => obtain ⟨g, o, rfl, _⟩ := h.cells (by simp); cases hA
end Go.Proofs.YtjhipfdbionpoaaGreatDoor

 /- slices.Concat, Sort, Compact of texts; strings.Cut and Compare, in the generator's form. -/
namespace Go.Proofs.YtjhipfdbionpoaaGreatDoor
open Go Go.RowKit
theorem enc_vs : encStr = vs := by funext l; rfl
def M_slices_Compact_string_string (xs : List (List UInt8)) (K : List (List UInt8) → Prop) : Prop := K (Lib.compact xs)
theorem compact_le (xs : List (List UInt8)) : (Lib.compact xs).length ≤ xs.length := by
  unfold Lib.compact Lib.compactUpTo
  rw [List.length_map]
  exact Nat.le_trans (List.length_filter_le _ _) (by simp)
theorem W_slices_Compact_string_string {w : World} {xs : List (List UInt8)} {A : Option Addr} {c n B : Nat} {e : TypeId} {K : List (List UInt8) → Prop} (hO : Own vs w B e A c xs) (hn : n = xs.length) (H : M_slices_Compact_string_string xs K) :
    Fn Tryz.prog 163 ⟨[.slice A n c]⟩ w (fun v w' => ∃ ys : List (List UInt8), v = .slice A ys.length c ∧ Own vs w' B e A c ys ∧ w.grownBy w' (blk A) ∧ K ys) := by
  subst hn
  refine ⟨by kernel_rfl, fun w1 e1 => ?_⟩
  have hO1 := own_eqv e1 hO
  rcases hO1.2 with ⟨hv, hn⟩ | ⟨g, cap, cur, hv, hb, hg, hnc, hcm, hcs, htake⟩
  · simp only [Value.slice.injEq] at hv
    obtain ⟨rfl, _, rfl⟩ := hv
    have : xs = [] := List.eq_nil_of_length_eq_zero hn
    subst this
    exact (Tryz.slices_Compact_string_empty none 0 w1).mono fun _ w' ⟨he, hw⟩ => ⟨_, w, he, by rw [hw]; exact e1, [], rfl, hO, gr_refl _ _, H⟩
  · simp only [Value.slice.injEq] at hv
    obtain ⟨rfl, _, rfl⟩ := hv
    have hmx : xs.length ≤ 9223372036854775807 := by simp only [maxLen] at hcm; omega
    refine (Tryz.slices_Compact_string g 0 c xs w1 (holds_of_block hg (by rw [enc_vs]; simpa using htake)) hmx hnc).mono fun _ w' ⟨he, q, hw⟩ => ?_
    have hle := compact_le xs
    have hl : (Lib.compact xs ++ List.replicate (xs.length - (Lib.compact xs).length) []).length = xs.length := by simp; omega
    have h1 := ownsRow_sorted (n := q) (os := #[]) hl hb hg hnc hcm hcs
    have h2 := grownBy_sorted (w := w1) (g := g) (n := q) (os := #[]) (Lib.compact xs ++ List.replicate (xs.length - (Lib.compact xs).length) []).toArray
    rw [Sort.grow_empty, ← hw] at h1 h2
    have hO2 : Own vs w' B e (some ⟨g, 0, none⟩) c (Lib.compact xs ++ List.replicate (xs.length - (Lib.compact xs).length) []) := by
      unfold Own
      rw [hl, ← enc_vs]
      exact h1
    have hO3 := hO2.take (Lib.compact xs).length (by rw [hl]; exact hle) (fun _ h => by cases h)
    rw [List.take_left' rfl] at hO3
    exact ⟨_, w', he, Eqv.refl _, _, rfl, hO3, eqv_gr e1 h2, H⟩
def M_slices_Reverse_string_string (xs : List (List UInt8)) (K : List (List UInt8) → Prop) : Prop := K xs.reverse
theorem W_slices_Reverse_string_string {w : World} {xs : List (List UInt8)} {A : Option Addr} {c n B : Nat} {e : TypeId} {K : List (List UInt8) → Prop} (hO : Own vs w B e A c xs) (hn : n = xs.length) (H : M_slices_Reverse_string_string xs K) :
    Fn Tryz.prog 164 ⟨[.slice A n c]⟩ w (fun v w' => ∃ ys : List (List UInt8), v = .tuple #[] ∧ Own vs w' B e A c ys ∧ w.grownBy w' (blk A) ∧ ys.length = xs.length ∧ K ys) := by
  subst hn
  refine ⟨by kernel_rfl, fun w1 e1 => ?_⟩
  have hO1 := own_eqv e1 hO
  rcases hO1.2 with ⟨hv, hn⟩ | ⟨g, cap, cur, hv, hb, hg, hnc, hcm, hcs, htake⟩
  · simp only [Value.slice.injEq] at hv
    obtain ⟨rfl, _, rfl⟩ := hv
    have : xs = [] := List.eq_nil_of_length_eq_zero hn
    subst this
    exact (Tryz.slices_Reverse_string_empty none 0 w1).mono fun _ w' ⟨he, hw⟩ => ⟨_, w, he, by rw [hw]; exact e1, [], rfl, hO, gr_refl _ _, rfl, H⟩
  · simp only [Value.slice.injEq] at hv
    obtain ⟨rfl, _, rfl⟩ := hv
    have hmx : xs.length ≤ 9223372036854775807 := by simp only [maxLen] at hcm; omega
    refine (Tryz.slices_Reverse_string g 0 c xs w1 (holds_of_block hg (by rw [enc_vs]; simpa using htake)) hmx).mono fun _ w' ⟨he, q, hw⟩ => ?_
    have hl : xs.reverse.length = xs.length := List.length_reverse
    have h1 := ownsRow_sorted (n := q) (os := #[]) hl hb hg hnc hcm hcs
    have h2 := grownBy_sorted (w := w1) (g := g) (n := q) (os := #[]) xs.reverse.toArray
    rw [Sort.grow_empty, ← hw] at h1 h2
    refine ⟨_, w', he, Eqv.refl _, _, rfl, ?_, eqv_gr e1 h2, hl, H⟩
    unfold Own
    rw [hl, ← enc_vs]
    exact h1
end Go.Proofs.YtjhipfdbionpoaaGreatDoor


 /- Printed by a program (wip/vg): what the functions mean, plainly, and their walks. -/
namespace Go.Proofs.YtjhipfdbionpoaaGreatDoor
open Go Go.RowKit
attribute [local irreducible] WL WC WX WQ WK WJ Yld Eff Ef0 Fn
def M_path_letter (c : Int) (K : Bool → Prop) : Prop :=
 ((((((decide ((48 : Int) ≤ c)) && (decide (c ≤ (57 : Int)))) || ((decide ((65 : Int) ≤ c)) && (decide (c ≤ (90 : Int))))) || ((decide ((97 : Int) ≤ c)) && (decide (c ≤ (122 : Int))))) = true → K true) ∧
 (((((decide ((48 : Int) ≤ c)) && (decide (c ≤ (57 : Int)))) || ((decide ((65 : Int) ≤ c)) && (decide (c ≤ (90 : Int))))) || ((decide ((97 : Int) ≤ c)) && (decide (c ≤ (122 : Int))))) = false → M_strings_IndexByte ([33, 35, 37, 43, 44, 45, 46, 61, 64, 95, 126] : List UInt8) c (fun (t26 : Int) =>
 K (decide ((0 : Int) ≤ t26)))))

def M_path_dots (s : List UInt8) (K : Bool → Prop) : Prop :=
 K (((decide (s = ([] : List UInt8))) || (decide (s = ([46] : List UInt8)))) || (decide (s = ([46, 46] : List UInt8))))

def M_path_fair (s : List UInt8) (K : Bool → Prop) : Prop :=
 Lp1 (fun (t6 : Int) kont1 => ((t6 < (s.length : Int) → (0 ≤ t6 ∧ t6 < s.length) ∧
 M_path_letter ((s.getD t6.toNat 0).toNat : Int) (fun (t12 : Bool) =>
 (((!t12) = true → K false) ∧
 ((!t12) = false → (In .i64 (t6 + (1 : Int))) ∧
 kont1 (t6 + (1 : Int)))))) ∧
 (¬ (t6 < (s.length : Int)) → M_path_dots s (fun (t16 : Bool) =>
 K (!t16))))) (0 : Int)

def M_path_Valid (p : List UInt8) (K : Bool → Prop) : Prop :=
 (((200 : Int) < (p.length : Int) → K false) ∧
 (¬ ((200 : Int) < (p.length : Int)) → M_strings_Split p ([47] : List UInt8) (fun (t9 : List (List UInt8)) =>
 Lp1 (fun (t11 : Int) kont1 => ((t11 < (t9.length : Int) → (0 ≤ t11 ∧ t11 < (t9.length : Nat)) ∧
 M_path_fair (t9.getD t11.toNat []) (fun (t16 : Bool) =>
 (((!t16) = true → K false) ∧
 ((!t16) = false → (In .i64 (t11 + (1 : Int))) ∧
 kont1 (t11 + (1 : Int)))))) ∧
 (¬ (t11 < (t9.length : Int)) → K true))) (0 : Int))))

def M_smithyworld_Number (n : Int) (below : Int) (K : Int → Prop) : Prop :=
 (below ≠ 0) ∧
 (In .i64 ((n.tmod below) + below)) ∧
 (below ≠ 0) ∧
 K (((n.tmod below) + below).tmod below)

set_option maxHeartbeats 8000000 in
theorem W_path_letter {w : World} {c : Int} {K : Bool → Prop} (H : M_path_letter c K) : Fn Tryz.prog 122 ⟨[.int .u8 c]⟩ w (fun v w' => w = w' ∧ ∃ (r : Bool), v = .bool r ∧ K r) := by
  unfold M_path_letter at H
  refine Fn.enter (by kernel_rfl) Tryz.func122 rfl Tryz.ntmps122 rfl ?_
  refine WC.seq ?_
  refine WC.region ?_
  refine WL.y rfl (Yld.pure tab_ok rfl) ?_
  refine WL.nil (WX.then_normal ?_)
  refine WC.seq ?_
  refine WC.seq ?_
  refine WC.region ?_
  refine WL.y rfl (Yld.pure tab_ok rfl) ?_
  refine WL.y rfl (Yld.pure tab_ok rfl) ?_
  refine WL.y rfl (Yld.pure tab_ok rfl) ?_
  refine WL.midF 3 (fun L' w' => ∃ q1 : Bool, L' = [(8, .bool q1), (0, .int .u8 c)] ∧ ((decide ((48 : Int) ≤ c)) && (decide (c ≤ (57 : Int)))) = q1 ∧ w = w') ?_ (fun hQ => ?_)
  · rintro _ _ ⟨q1, rfl, rfl, rfl⟩
    refine WL.y rfl (Yld.pure tab_ok rfl) ?_
    refine WL.midF 7 (fun L' w' => ∃ q2 : Bool, L' = [(16, .bool q2), (0, .int .u8 c)] ∧ (((decide ((48 : Int) ≤ c)) && (decide (c ≤ (57 : Int)))) || ((decide ((65 : Int) ≤ c)) && (decide (c ≤ (90 : Int))))) = q2 ∧ w = w') ?_ (fun hQ => ?_)
    · rintro _ _ ⟨q2, rfl, rfl, rfl⟩
      refine WL.y rfl (Yld.pure tab_ok rfl) ?_
      refine WL.midF 7 (fun L' w' => ∃ q3 : Bool, L' = [(24, .bool q3), (0, .int .u8 c)] ∧ ((((decide ((48 : Int) ≤ c)) && (decide (c ≤ (57 : Int)))) || ((decide ((65 : Int) ≤ c)) && (decide (c ≤ (90 : Int))))) || ((decide ((97 : Int) ≤ c)) && (decide (c ≤ (122 : Int))))) = q3 ∧ w = w') ?_ (fun hQ => ?_)
      · rintro _ _ ⟨q3, rfl, rfl, rfl⟩
        refine WL.nil (WX.then_normal ?_)
        refine WC.cond rfl (fun b1 => ?_) (fun b1 => ?_)
        · replace H := H.1 (b1)
          refine WC.seq ?_
          refine WC.region ?_
          refine WL.y rfl (Yld.pure tab_ok rfl) ?_
          refine WL.nil (WX.then_normal ?_)
          refine WC.ret (WX.then_ret ?_)
          exact WX.ret1 rfl rfl ⟨rfl, true, rfl, H⟩
        · replace H := H.2 (b1)
          refine WC.skip (WX.then_normal ?_)
          refine WC.seq ?_
          refine WC.region ?_
          refine WL.y rfl (Yld.pure tab_ok rfl) ?_
          refine WL.call rfl rfl (W_strings_IndexByte H) ?_
          rintro _ _ ⟨rfl, t26, rfl, H⟩
          refine WL.y rfl (Yld.pure tab_ok rfl) ?_
          refine WL.y rfl (Yld.pure tab_ok rfl) ?_
          refine WL.nil (WX.then_normal ?_)
          refine WC.ret ?_
          exact WX.ret1 rfl rfl ⟨rfl, decide ((0 : Int) ≤ t26), rfl, H⟩
      · clear H
        rcases Bool.eq_false_or_eq_true (((decide ((48 : Int) ≤ c)) && (decide (c ≤ (57 : Int)))) || ((decide ((65 : Int) ≤ c)) && (decide (c ≤ (90 : Int))))) with b2 | b2
        · refine WL.gno rfl rfl (okb b2) rfl ?_
          refine WL.gno rfl rfl (okb b2) rfl ?_
          refine WL.gno rfl rfl (okb b2) rfl ?_
          refine WL.gun rfl rfl rfl rfl ?_
          refine WL.gun rfl rfl rfl rfl ?_
          refine WL.gno rfl rfl (okb b2) rfl ?_
          refine WL.y rfl (Yld.pickT (okb b2) rfl) ?_
          exact WL.weaken (by repeat (first | exact Sub.nil | refine Sub.cons rfl ?_)) (hQ _ _ ⟨true, rfl, by rw [b2] <;> rfl, rfl⟩)
        · refine WL.gyes rfl rfl (okb b2) rfl (Yld.pure tab_ok rfl) ?_
          refine WL.gyes rfl rfl (okb b2) rfl (Yld.pure tab_ok rfl) ?_
          refine WL.gyes rfl rfl (okb b2) rfl (Yld.pure tab_ok rfl) ?_
          rcases Bool.eq_false_or_eq_true (decide ((97 : Int) ≤ c)) with b3 | b3
          · refine WL.gyes rfl rfl (okb b3) rfl (Yld.pure tab_ok rfl) ?_
            refine WL.gyes rfl rfl (okb b3) rfl (Yld.pure tab_ok rfl) ?_
            refine WL.gyes rfl rfl (okb b2) rfl (Yld.pickT (okb b3) rfl) ?_
            refine WL.y rfl (Yld.pickF (okb b2) rfl) ?_
            exact WL.weaken (by repeat (first | exact Sub.nil | refine Sub.cons rfl ?_)) (hQ _ _ ⟨decide (c ≤ (122 : Int)), rfl, by rw [b2, b3] <;> rfl, rfl⟩)
          · refine WL.gno rfl rfl (okb b3) rfl ?_
            refine WL.gno rfl rfl (okb b3) rfl ?_
            refine WL.gyes rfl rfl (okb b2) rfl (Yld.pickF (okb b3) rfl) ?_
            refine WL.y rfl (Yld.pickF (okb b2) rfl) ?_
            exact WL.weaken (by repeat (first | exact Sub.nil | refine Sub.cons rfl ?_)) (hQ _ _ ⟨false, rfl, by rw [b2, b3] <;> rfl, rfl⟩)
    · clear H
      rcases Bool.eq_false_or_eq_true ((decide ((48 : Int) ≤ c)) && (decide (c ≤ (57 : Int)))) with b4 | b4
      · refine WL.gno rfl rfl (okb b4) rfl ?_
        refine WL.gno rfl rfl (okb b4) rfl ?_
        refine WL.gno rfl rfl (okb b4) rfl ?_
        refine WL.gun rfl rfl rfl rfl ?_
        refine WL.gun rfl rfl rfl rfl ?_
        refine WL.gno rfl rfl (okb b4) rfl ?_
        refine WL.y rfl (Yld.pickT (okb b4) rfl) ?_
        exact WL.weaken (by repeat (first | exact Sub.nil | refine Sub.cons rfl ?_)) (hQ _ _ ⟨true, rfl, by rw [b4] <;> rfl, rfl⟩)
      · refine WL.gyes rfl rfl (okb b4) rfl (Yld.pure tab_ok rfl) ?_
        refine WL.gyes rfl rfl (okb b4) rfl (Yld.pure tab_ok rfl) ?_
        refine WL.gyes rfl rfl (okb b4) rfl (Yld.pure tab_ok rfl) ?_
        rcases Bool.eq_false_or_eq_true (decide ((65 : Int) ≤ c)) with b5 | b5
        · refine WL.gyes rfl rfl (okb b5) rfl (Yld.pure tab_ok rfl) ?_
          refine WL.gyes rfl rfl (okb b5) rfl (Yld.pure tab_ok rfl) ?_
          refine WL.gyes rfl rfl (okb b4) rfl (Yld.pickT (okb b5) rfl) ?_
          refine WL.y rfl (Yld.pickF (okb b4) rfl) ?_
          exact WL.weaken (by repeat (first | exact Sub.nil | refine Sub.cons rfl ?_)) (hQ _ _ ⟨decide (c ≤ (90 : Int)), rfl, by rw [b4, b5] <;> rfl, rfl⟩)
        · refine WL.gno rfl rfl (okb b5) rfl ?_
          refine WL.gno rfl rfl (okb b5) rfl ?_
          refine WL.gyes rfl rfl (okb b4) rfl (Yld.pickF (okb b5) rfl) ?_
          refine WL.y rfl (Yld.pickF (okb b4) rfl) ?_
          exact WL.weaken (by repeat (first | exact Sub.nil | refine Sub.cons rfl ?_)) (hQ _ _ ⟨false, rfl, by rw [b4, b5] <;> rfl, rfl⟩)
  · clear H
    rcases Bool.eq_false_or_eq_true (decide ((48 : Int) ≤ c)) with b6 | b6
    · refine WL.gyes rfl rfl (okb b6) rfl (Yld.pure tab_ok rfl) ?_
      refine WL.gyes rfl rfl (okb b6) rfl (Yld.pure tab_ok rfl) ?_
      refine WL.y rfl (Yld.pickT (okb b6) rfl) ?_
      exact WL.weaken (by repeat (first | exact Sub.nil | refine Sub.cons rfl ?_)) (hQ _ _ ⟨decide (c ≤ (57 : Int)), rfl, by rw [b6] <;> rfl, rfl⟩)
    · refine WL.gno rfl rfl (okb b6) rfl ?_
      refine WL.gno rfl rfl (okb b6) rfl ?_
      refine WL.y rfl (Yld.pickF (okb b6) rfl) ?_
      exact WL.weaken (by repeat (first | exact Sub.nil | refine Sub.cons rfl ?_)) (hQ _ _ ⟨false, rfl, by rw [b6] <;> rfl, rfl⟩)

set_option maxHeartbeats 8000000 in
theorem W_path_dots {w : World} {s : List UInt8} {K : Bool → Prop} (H : M_path_dots s K) : Fn Tryz.prog 123 ⟨[vs s]⟩ w (fun v w' => w = w' ∧ ∃ (r : Bool), v = .bool r ∧ K r) := by
  unfold M_path_dots at H
  refine Fn.enter (by kernel_rfl) Tryz.func123 rfl Tryz.ntmps123 rfl ?_
  refine WC.seq ?_
  refine WC.region ?_
  refine WL.y rfl (Yld.pure tab_ok rfl) ?_
  refine WL.nil (WX.then_normal ?_)
  refine WC.seq ?_
  refine WC.region ?_
  refine WL.y rfl (Yld.pure tab_ok rfl) ?_
  refine WL.y rfl (Yld.pure tab_ok rfl) ?_
  refine WL.y rfl (Yld.pure tab_ok rfl) ?_
  refine WL.midF 3 (fun L' w' => ∃ q1 : Bool, L' = [(8, .bool q1), (0, vs s)] ∧ ((decide (s = ([] : List UInt8))) || (decide (s = ([46] : List UInt8)))) = q1 ∧ w = w') ?_ (fun hQ => ?_)
  · rintro _ _ ⟨q1, rfl, rfl, rfl⟩
    refine WL.y rfl (Yld.pure tab_ok rfl) ?_
    refine WL.midF 3 (fun L' w' => ∃ q2 : Bool, L' = [(12, .bool q2)] ∧ (((decide (s = ([] : List UInt8))) || (decide (s = ([46] : List UInt8)))) || (decide (s = ([46, 46] : List UInt8)))) = q2 ∧ w = w') ?_ (fun hQ => ?_)
    · rintro _ _ ⟨q2, rfl, rfl, rfl⟩
      refine WL.y rfl (Yld.pure tab_ok rfl) ?_
      refine WL.nil (WX.then_normal ?_)
      refine WC.ret ?_
      exact WX.ret1 rfl rfl ⟨rfl, ((decide (s = ([] : List UInt8))) || (decide (s = ([46] : List UInt8)))) || (decide (s = ([46, 46] : List UInt8))), rfl, H⟩
    · clear H
      rcases Bool.eq_false_or_eq_true ((decide (s = ([] : List UInt8))) || (decide (s = ([46] : List UInt8)))) with b1 | b1
      · refine WL.gno rfl rfl (okb b1) rfl ?_
        refine WL.gno rfl rfl (okb b1) rfl ?_
        refine WL.y rfl (Yld.pickT (okb b1) rfl) ?_
        exact WL.weaken (by repeat (first | exact Sub.nil | refine Sub.cons rfl ?_)) (hQ _ _ ⟨true, rfl, by rw [b1] <;> rfl, rfl⟩)
      · refine WL.gyes rfl rfl (okb b1) rfl (Yld.pure tab_ok rfl) ?_
        refine WL.gyes rfl rfl (okb b1) rfl (Yld.pure tab_ok rfl) ?_
        refine WL.y rfl (Yld.pickF (okb b1) rfl) ?_
        exact WL.weaken (by repeat (first | exact Sub.nil | refine Sub.cons rfl ?_)) (hQ _ _ ⟨decide (s = ([46, 46] : List UInt8)), rfl, by rw [b1] <;> rfl, rfl⟩)
  · clear H
    rcases Bool.eq_false_or_eq_true (decide (s = ([] : List UInt8))) with b2 | b2
    · refine WL.gno rfl rfl (okb b2) rfl ?_
      refine WL.gno rfl rfl (okb b2) rfl ?_
      refine WL.y rfl (Yld.pickT (okb b2) rfl) ?_
      exact WL.weaken (by repeat (first | exact Sub.nil | refine Sub.cons rfl ?_)) (hQ _ _ ⟨true, rfl, by rw [b2] <;> rfl, rfl⟩)
    · refine WL.gyes rfl rfl (okb b2) rfl (Yld.pure tab_ok rfl) ?_
      refine WL.gyes rfl rfl (okb b2) rfl (Yld.pure tab_ok rfl) ?_
      refine WL.y rfl (Yld.pickF (okb b2) rfl) ?_
      exact WL.weaken (by repeat (first | exact Sub.nil | refine Sub.cons rfl ?_)) (hQ _ _ ⟨decide (s = ([46] : List UInt8)), rfl, by rw [b2] <;> rfl, rfl⟩)

set_option maxHeartbeats 8000000 in
theorem W_path_fair {w : World} {s : List UInt8} {K : Bool → Prop} (H : M_path_fair s K) : Fn Tryz.prog 82 ⟨[vs s]⟩ w (fun v w' => w = w' ∧ ∃ (r : Bool), v = .bool r ∧ K r) := by
  unfold M_path_fair at H
  refine Fn.enter (by kernel_rfl) Tryz.func82 rfl Tryz.ntmps82 rfl ?_
  refine WC.seq ?_
  refine WC.region ?_
  refine WL.y rfl (Yld.pure tab_ok rfl) ?_
  refine WL.nil (WX.then_normal ?_)
  refine WC.seq ?_
  refine WC.seq ?_
  refine WC.region ?_
  refine WL.y rfl (Yld.pure tab_ok rfl) ?_
  refine WL.y rfl (Yld.pure tab_ok rfl) ?_
  refine WL.y rfl (Yld.pure tab_ok rfl) ?_
  refine WL.nil (WX.then_normal ?_)
  refine WC.block ?_
  obtain ⟨I1, mu1, h0_1, HR1⟩ := H
  refine WC.loopF (fun n' L' w' => ∃ (t6 : Int), n' = mu1 t6 ∧ L' = [(0, vs s), (5, .int .i64 (s.length : Int)), (6, .int .i64 t6)] ∧ I1 t6 ∧ w = w') _ _ ⟨(0 : Int), rfl, rfl, h0_1, rfl⟩ (by repeat (first | exact Sub.nil | refine Sub.cons rfl ?_)) ?_
  clear h0_1
  rintro _ _ _ ⟨t6, rfl, rfl, hI1, rfl⟩
  have H := HR1 t6 hI1
  refine WC.seq ?_
  refine WC.region ?_
  refine WL.y rfl (Yld.pure tab_ok rfl) ?_
  refine WL.nil (WX.then_normal ?_)
  refine WC.seq ?_
  refine WC.cond rfl (fun b1 => ?_) (fun b1 => ?_)
  · replace H := H.1 (of_decide_eq_true b1)
    refine WC.skip (WX.then_normal ?_)
    refine WC.seq ?_
    refine WC.block ?_
    refine WC.seq ?_
    refine WC.region ?_
    refine WL.y rfl (Yld.pure tab_ok rfl) ?_
    refine WL.y rfl (Yld.pure tab_ok rfl) ?_
    refine WL.nil (WX.then_normal ?_)
    refine WC.seq ?_
    refine WC.region ?_
    refine WL.y rfl (Yld.pure tab_ok rfl) ?_
    refine WL.y rfl (Yld.pure tab_ok rfl) ?_
    obtain ⟨h1, H⟩ := H
    refine WL.y rfl (Yld.sidx tab_ok rfl rfl rfl h1.1 h1.2) ?_
    refine WL.call rfl rfl (W_path_letter H) ?_
    rintro _ _ ⟨rfl, t12, rfl, H⟩
    refine WL.y rfl (Yld.pure tab_ok rfl) ?_
    refine WL.nil (WX.then_normal ?_)
    refine WC.cond rfl (fun b2 => ?_) (fun b2 => ?_)
    · replace H := H.1 (b2)
      refine WC.seq ?_
      refine WC.region ?_
      refine WL.y rfl (Yld.pure tab_ok rfl) ?_
      refine WL.nil (WX.then_normal ?_)
      refine WC.ret (WX.block_ret (WX.then_ret (WX.then_ret (WX.block_ret (WX.then_ret ?_)))))
      exact WX.ret1 rfl rfl ⟨rfl, false, rfl, H⟩
    · replace H := H.2 (b2)
      refine WC.skip (WX.block_normal (WX.then_normal ?_))
      refine WC.region ?_
      obtain ⟨h2, H⟩ := H
      refine WL.y rfl (Yld.add rfl rfl h2) ?_
      refine WL.y rfl (Yld.pure tab_ok rfl) ?_
      refine WL.nil ?_
      exact WX.roundF _ ⟨t6 + (1 : Int), rfl, rfl, H.1, rfl⟩ (by repeat (first | exact Sub.nil | refine Sub.cons rfl ?_)) H.2
  · replace H := H.2 (of_decide_eq_false b1)
    refine WC.exit (WX.then_exit (WX.then_exit (WX.block_same (WX.then_normal ?_))))
    refine WC.seq ?_
    refine WC.region ?_
    refine WL.y rfl (Yld.pure tab_ok rfl) ?_
    refine WL.call rfl rfl (W_path_dots H) ?_
    rintro _ _ ⟨rfl, t16, rfl, H⟩
    refine WL.y rfl (Yld.pure tab_ok rfl) ?_
    refine WL.y rfl (Yld.pure tab_ok rfl) ?_
    refine WL.nil (WX.then_normal ?_)
    refine WC.ret ?_
    exact WX.ret1 rfl rfl ⟨rfl, !t16, rfl, H⟩

set_option maxHeartbeats 8000000 in
theorem W_path_Valid {S : List Nat} {w : World} {p : List UInt8} {K : Bool → Prop} (hG : GOK S w) (hS100 : 100 ∈ S) (H : M_path_Valid p K) : Fn Tryz.prog 62 ⟨[vs p]⟩ w (fun v w' => w.grownBy w' none ∧ ∃ (r : Bool), v = .bool r ∧ K r) := by
  unfold M_path_Valid at H
  refine Fn.enter (by kernel_rfl) Tryz.func62 rfl Tryz.ntmps62 rfl ?_
  refine WC.seq ?_
  refine WC.region ?_
  refine WL.y rfl (Yld.pure tab_ok rfl) ?_
  refine WL.nil (WX.then_normal ?_)
  refine WC.seq ?_
  refine WC.seq ?_
  refine WC.region ?_
  refine WL.y rfl (Yld.pure tab_ok rfl) ?_
  refine WL.y rfl (Yld.pure tab_ok rfl) ?_
  refine WL.y rfl (Yld.pure tab_ok rfl) ?_
  refine WL.nil (WX.then_normal ?_)
  refine WC.cond rfl (fun b1 => ?_) (fun b1 => ?_)
  · replace H := H.1 (of_decide_eq_true b1)
    refine WC.seq ?_
    refine WC.region ?_
    refine WL.y rfl (Yld.pure tab_ok rfl) ?_
    refine WL.nil (WX.then_normal ?_)
    refine WC.ret (WX.then_ret ?_)
    exact WX.ret1 rfl rfl ⟨(gr_refl _ _), false, rfl, H⟩
  · replace H := H.2 (of_decide_eq_false b1)
    refine WC.skip (WX.then_normal ?_)
    refine WC.seq ?_
    refine WC.seq ?_
    refine WC.region ?_
    refine WL.y rfl (Yld.pure tab_ok rfl) ?_
    refine WL.call rfl rfl (W_strings_Split hG hS100 H) ?_
    rintro _ w1 ⟨hg1, t9, A_t9, c_t9, rfl, ht9, H⟩
    have hb1 := ht9.ge'
    have k1 := ht9.base (fun g hg => Nat.le_trans (Nat.le_refl _) (hb1 g hg))
    have gr1 := hg1
    refine WL.y rfl (Yld.pure tab_ok rfl) ?_
    refine WL.y rfl (Yld.pure tab_ok rfl) ?_
    refine WL.nil (WX.then_normal ?_)
    refine WC.block ?_
    obtain ⟨I1, mu1, h0_1, HR1⟩ := H
    refine WC.loopF (fun n' L' w' => ∃ (t11 : Int), n' = mu1 t11 ∧ L' = [(9, .slice A_t9 t9.length c_t9), (10, .int .i64 (t9.length : Int)), (11, .int .i64 t11)] ∧ I1 t11 ∧ w1 = w') _ _ ⟨(0 : Int), rfl, rfl, h0_1, rfl⟩ (by repeat (first | exact Sub.nil | refine Sub.cons rfl ?_)) ?_
    clear h0_1
    rintro _ _ _ ⟨t11, rfl, rfl, hI1, rfl⟩
    have H := HR1 t11 hI1
    refine WC.seq ?_
    refine WC.region ?_
    refine WL.y rfl (Yld.pure tab_ok rfl) ?_
    refine WL.nil (WX.then_normal ?_)
    refine WC.seq ?_
    refine WC.cond rfl (fun b2 => ?_) (fun b2 => ?_)
    · replace H := H.1 (of_decide_eq_true b2)
      refine WC.skip (WX.then_normal ?_)
      refine WC.seq ?_
      refine WC.block ?_
      refine WC.seq ?_
      refine WC.region ?_
      obtain ⟨h1, H⟩ := H
      refine WL.y rfl (Yld.iaddrW tab_ok k1.rd rfl rfl rfl rfl h1.1 h1.2) ?_
      refine WL.y rfl (Yld.iload [] tab_ok k1.rd rfl rfl (iltN h1 rfl)) ?_
      refine WL.y rfl (Yld.pure tab_ok rfl) ?_
      refine WL.nil (WX.then_normal ?_)
      refine WC.seq ?_
      refine WC.region ?_
      refine WL.y rfl (Yld.pure tab_ok rfl) ?_
      refine WL.call rfl rfl (W_path_fair H) ?_
      rintro _ _ ⟨rfl, t16, rfl, H⟩
      refine WL.y rfl (Yld.pure tab_ok rfl) ?_
      refine WL.nil (WX.then_normal ?_)
      refine WC.cond rfl (fun b3 => ?_) (fun b3 => ?_)
      · replace H := H.1 (b3)
        refine WC.seq ?_
        refine WC.region ?_
        refine WL.y rfl (Yld.pure tab_ok rfl) ?_
        refine WL.nil (WX.then_normal ?_)
        refine WC.ret (WX.block_ret (WX.then_ret (WX.then_ret (WX.block_ret (WX.then_ret ?_)))))
        exact WX.ret1 rfl rfl ⟨gr1, false, rfl, H⟩
      · replace H := H.2 (b3)
        refine WC.skip (WX.block_normal (WX.then_normal ?_))
        refine WC.region ?_
        obtain ⟨h2, H⟩ := H
        refine WL.y rfl (Yld.add rfl rfl h2) ?_
        refine WL.y rfl (Yld.pure tab_ok rfl) ?_
        refine WL.nil ?_
        exact WX.roundF _ ⟨t11 + (1 : Int), rfl, rfl, H.1, rfl⟩ (by repeat (first | exact Sub.nil | refine Sub.cons rfl ?_)) H.2
    · replace H := H.2 (of_decide_eq_false b2)
      refine WC.exit (WX.then_exit (WX.then_exit (WX.block_same (WX.then_normal ?_))))
      refine WC.seq ?_
      refine WC.region ?_
      refine WL.y rfl (Yld.pure tab_ok rfl) ?_
      refine WL.nil (WX.then_normal ?_)
      refine WC.ret ?_
      exact WX.ret1 rfl rfl ⟨gr1, true, rfl, H⟩

set_option maxHeartbeats 8000000 in
theorem W_smithyworld_Number {w : World} {n : Int} {below : Int} {K : Int → Prop} (H : M_smithyworld_Number n below K) : Fn Tryz.prog 16 ⟨[.int .i64 n, .int .i64 below]⟩ w (fun v w' => w = w' ∧ ∃ (r : Int), v = .int .i64 r ∧ K r) := by
  unfold M_smithyworld_Number at H
  refine Fn.enter (by kernel_rfl) Tryz.func16 rfl Tryz.ntmps16 rfl ?_
  refine WC.seq ?_
  refine WC.region ?_
  refine WL.y rfl (Yld.pure tab_ok rfl) ?_
  refine WL.nil (WX.then_normal ?_)
  refine WC.seq ?_
  refine WC.region ?_
  refine WL.y rfl (Yld.pure tab_ok rfl) ?_
  refine WL.y rfl (Yld.pure tab_ok rfl) ?_
  obtain ⟨h1, H⟩ := H
  refine WL.y rfl (Yld.rem' rfl rfl h1) ?_
  refine WL.y rfl (Yld.pure tab_ok rfl) ?_
  obtain ⟨h2, H⟩ := H
  refine WL.y rfl (Yld.add rfl rfl h2) ?_
  refine WL.y rfl (Yld.pure tab_ok rfl) ?_
  obtain ⟨h3, H⟩ := H
  refine WL.y rfl (Yld.rem' rfl rfl h3) ?_
  refine WL.y rfl (Yld.pure tab_ok rfl) ?_
  refine WL.nil (WX.then_normal ?_)
  refine WC.ret ?_
  exact WX.ret1 rfl rfl ⟨rfl, ((n.tmod below) + below).tmod below, rfl, H⟩

end Go.Proofs.YtjhipfdbionpoaaGreatDoor

 /- Printed by a program (wip/vg): what the functions mean, plainly, and their walks. -/
namespace Go.Proofs.YtjhipfdbionpoaaGreatDoor
open Go Go.RowKit
attribute [local irreducible] WL WC WX WQ WK WJ Yld Eff Ef0 Fn
end Go.Proofs.YtjhipfdbionpoaaGreatDoor

 /- Printed by a program (wip/vg): elements of several cells. -/
namespace Go.Proofs.YtjhipfdbionpoaaGreatDoor
open Go Go.RowKit
def enc35 (x : List UInt8 × List UInt8) : List Value := [vs x.1, vs x.2]
theorem enc35_ok : OneK 2 enc35 := ⟨by omega, fun _ => rfl, fun _ => (all1c rfl (all1c rfl all1n))⟩
def enc49 (x : Int × List UInt8 × List UInt8) : List Value := [.int .i64 x.1, vs x.2.1] ++ a32 x.2.2
theorem enc49_ok : OneK 34 enc49 := ⟨by omega, fun _ => rfl, fun _ => (all1c rfl (all1c rfl (a32_one _)))⟩
theorem ow23 : ckOwK Tryz.prog 23 35 2 32 = true := by kernel_rfl
theorem ow32 : ckOwK Tryz.prog 32 49 34 56 = true := by kernel_rfl
theorem ow120 : ckOwK Tryz.prog 120 47 32 32 = true := by kernel_rfl
end Go.Proofs.YtjhipfdbionpoaaGreatDoor

 /- Maps: plainly, and in the world. -/
namespace Go.Proofs.YtjhipfdbionpoaaGreatDoor
open Go Go.RowKit Go.MapKept Go.ChangeMaps
open Go.Maps (Keyed)
/-! ## plainly: the entries, in the order in which they were laid -/
section
variable {κ ν : Type} [DecidableEq κ]
def mget : List (κ × ν) → κ → Option ν
  | [], _ => none
  | p :: m, k => if p.1 = k then some p.2 else mget m k
def mput : List (κ × ν) → κ → ν → List (κ × ν)
  | [], k, v => [(k, v)]
  | p :: m, k, v => if p.1 = k then (k, v) :: m else p :: mput m k v
def Uq (m : List (κ × ν)) : Prop := (m.map (·.1)).Nodup
theorem mget_none {m : List (κ × ν)} {k : κ} : mget m k = none ↔ ∀ p ∈ m, p.1 ≠ k := by
  induction m with
  | nil => simp [mget]
  | cons p m ih =>
    unfold mget
    split
    · rename_i h; simp [h]
    · rename_i h; rw [ih]; simp [h]
theorem mget_mput (m : List (κ × ν)) (k k' : κ) (v : ν) : mget (mput m k v) k' = if k = k' then some v else mget m k' := by
  induction m with
  | nil => simp [mget, mput]
  | cons p m ih =>
    unfold mput
    split
    · rename_i h
      subst h
      unfold mget
      split <;> simp_all
    · rename_i h
      unfold mget
      rw [ih]
      split
      · rename_i h2
        subst h2
        rw [if_neg (Ne.symm h)]
      · rfl
theorem mput_new {m : List (κ × ν)} {k : κ} {v : ν} (h : mget m k = none) : mput m k v = m ++ [(k, v)] := by
  induction m with
  | nil => rfl
  | cons p m ih =>
    unfold mget at h
    split at h
    · cases h
    · rename_i hne
      unfold mput
      rw [if_neg hne, ih h]
      rfl
theorem mput_set {m : List (κ × ν)} {k : κ} {v v0 : ν} {j : Nat} (hu : Uq m) (h : m[j]? = some (k, v0)) : mput m k v = m.set j (k, v) := by
  induction m generalizing j with
  | nil => simp at h
  | cons p m ih =>
    have hu' := List.nodup_cons.1 hu
    cases j with
    | zero =>
      simp only [List.getElem?_cons_zero, Option.some.injEq] at h
      subst h
      simp [mput]
    | succ j =>
      simp only [List.getElem?_cons_succ] at h
      have hne : p.1 ≠ k := fun e => hu'.1 (List.mem_map.2 ⟨(k, v0), List.mem_of_getElem? h, e.symm⟩)
      unfold mput
      rw [if_neg hne, ih hu'.2 h]
      rfl
theorem mget_mem {m : List (κ × ν)} {k : κ} {v : ν} (hu : Uq m) : mget m k = some v ↔ (k, v) ∈ m := by
  induction m with
  | nil => simp [mget]
  | cons p m ih =>
    have hu' := List.nodup_cons.1 hu
    unfold mget
    split
    · rename_i h
      subst h
      rw [Option.some.injEq, List.mem_cons]
      constructor
      · rintro rfl; exact .inl rfl
      · rintro (h | h)
        · exact (congrArg Prod.snd h).symm
        · exact absurd (List.mem_map.2 ⟨_, h, rfl⟩) hu'.1
    · rename_i h
      rw [ih hu'.2, List.mem_cons]
      constructor
      · exact .inr
      · rintro (h2 | h2)
        · exact absurd (congrArg Prod.fst h2).symm h
        · exact h2
theorem mput_len (m : List (κ × ν)) (k : κ) (v : ν) : (mput m k v).length = if (mget m k).isSome then m.length else m.length + 1 := by
  induction m with
  | nil => simp [mget, mput]
  | cons p m ih =>
    unfold mput mget
    split
    · simp
    · rw [List.length_cons, ih, List.length_cons]
      split <;> rfl
theorem mput_mem {m : List (κ × ν)} {k : κ} {v : ν} {p : κ × ν} (h : p ∈ mput m k v) : p = (k, v) ∨ p ∈ m := by
  induction m with
  | nil => simp [mput] at h; exact .inl h
  | cons q m ih =>
    unfold mput at h
    split at h
    · rcases List.mem_cons.1 h with h | h
      · exact .inl h
      · exact .inr (List.mem_cons_of_mem _ h)
    · rcases List.mem_cons.1 h with h | h
      · exact .inr (by rw [h]; exact List.mem_cons_self)
      · rcases ih h with h | h
        · exact .inl h
        · exact .inr (List.mem_cons_of_mem _ h)
theorem mput_keys (m : List (κ × ν)) (k : κ) (v : ν) : (mput m k v).map (·.1) = if (mget m k).isSome then m.map (·.1) else m.map (·.1) ++ [k] := by
  induction m with
  | nil => simp [mget, mput]
  | cons p m ih =>
    unfold mput mget
    split
    · rename_i h; simp [h]
    · rw [List.map_cons, ih, List.map_cons]
      split <;> rfl
theorem Uq.put {m : List (κ × ν)} (h : Uq m) (k : κ) (v : ν) : Uq (mput m k v) := by
  unfold Uq at *
  rw [mput_keys]
  split
  · exact h
  · rename_i hn
    have : mget m k = none := by simpa using hn
    rw [List.nodup_append]
    refine ⟨h, by simp, fun a ha b hb => ?_⟩
    obtain ⟨p, hp, rfl⟩ := List.mem_map.1 ha
    simp only [List.mem_cons, List.not_mem_nil, or_false] at hb
    subst hb
    exact mget_none.1 this p hp
end
/-! ## in the world -/
structure KeyF {κ : Type} (P : Program) (k : TypeId) (fk : κ → Value) (ok : κ → Prop) : Prop where
  keyed : Keyed P k
  key : ∀ x, ok x → ∃ l, keyOf P k (fk x) = some l
  inj : ∀ x y, ok x → ok y → fk x = fk y → x = y
def okS (s : List UInt8) : Prop := s.length ≤ maxLen
theorem keyF_s {P : Program} {k : TypeId} (h : P.underlying k = some .string) : KeyF P k vs okS where
  keyed := Go.Maps.string_keyed h
  key x hx := ⟨_, Go.WideMaps.keyOf_string_mk h (s := ⟨⟨x⟩⟩) hx⟩
  inj x y _ _ h := by unfold vs at h; injection h with h; injection h with h; injection h
def MapB {κ ν : Type} (fk : κ → Value) (ok : κ → Prop) (fv : ν → Value) (w : World) (b : Nat) (m : List (κ × ν)) : Prop :=
  ∃ es clock, w.heap[b]? = some (.map es clock) ∧ Stamped es clock ∧ es.size ≤ maxLen ∧ (∀ p ∈ m, ok p.1) ∧ es.toList.map (fun e => (e.key, e.val)) = m.map fun p => (fk p.1, fv p.2)
section
variable {κ ν : Type} {P : Program} {k e t : TypeId} {fk : κ → Value} {ok : κ → Prop} {fv : ν → Value} {w w' : World} {b : Nat} {m : List (κ × ν)} {row : Option Nat}
theorem MapB.lt (h : MapB fk ok fv w b m) : b < w.heap.size := by
  obtain ⟨es, clock, hb, _⟩ := h
  exact (Array.getElem?_eq_some_iff.1 hb).1
theorem MapB.lt' (h : MapB fk ok fv w b m) : Lt (some b) w.heap.size := Lt.box h.lt
theorem MapB.go (h : MapB fk ok fv w b m) (hg : w.grownBy w' row) (hd : Dj (some b) row) : MapB fk ok fv w' b m := by
  have hlt := h.lt
  obtain ⟨es, clock, hb, r⟩ := h
  exact ⟨es, clock, (hg.block b hlt (fun e => hd b rfl e.symm)).trans hb, r⟩
theorem MapB.g0 (h : MapB fk ok fv w b m) (hg : w.grownBy w' none) : MapB fk ok fv w' b m := h.go hg Dj.nr
theorem MapB.eqv (hw : Eqv w w') (h : MapB fk ok fv w b m) : MapB fk ok fv w' b m := h.g0 (gr_eqv (gr_refl w none) hw)
theorem MapB.len (h : MapB fk ok fv w b m) : m.length ≤ maxLen := by
  obtain ⟨es, clock, _, _, hs, _, he⟩ := h
  have := congrArg List.length he
  simp at this
  omega
theorem MapB.uq (h : MapB fk ok fv w b m) : Uq m := by
  obtain ⟨es, clock, _, hst, _, _, he⟩ := h
  have h1 : es.toList.map (·.key) = (m.map (·.1)).map fk := by
    have := congrArg (List.map Prod.fst) he
    simpa [Function.comp_def] using this
  have h2 := hst.2.2
  rw [h1] at h2
  unfold Uq
  rw [List.nodup_iff_pairwise_ne, List.pairwise_map] at h2
  rw [List.nodup_iff_pairwise_ne]
  exact h2.imp fun h e => h (by rw [e])
variable [DecidableEq κ]
theorem MapB.find {es : Array MapEntry} (K : KeyF P k fk ok) (hst : Uq m) (hok : ∀ p ∈ m, ok p.1) (he : es.toList.map (fun e => (e.key, e.val)) = m.map fun p => (fk p.1, fv p.2)) {q : κ} (hq : ok q) (w : World) :
    ((Instr.findKey k (fk q) es.toList).run P w = .ok none w ∧ mget m q = none ∧ ∀ x ∈ es.toList, x.key ≠ fk q) ∨ ∃ j v e0, (Instr.findKey k (fk q) es.toList).run P w = .ok (some (j, fv v)) w ∧ mget m q = some v ∧ m[j]? = some (q, v) ∧ es.toList[j]? = some e0 ∧ e0.key = fk q := by
  obtain ⟨l, hl⟩ := K.key q hq
  have hget : ∀ (j : Nat), (es.toList[j]?).map (fun e => (e.key, e.val)) = (m[j]?).map fun p => (fk p.1, fv p.2) := fun j => by
    have := congrArg (fun l => l[j]?) he
    simpa using this
  rcases K.keyed.find w hl es.toList (fun e he' => by
    obtain ⟨j, hj, rfl⟩ := List.getElem_of_mem he'
    have h1 := hget j
    rw [List.getElem?_eq_getElem hj] at h1
    simp only [Option.map_some] at h1
    obtain ⟨p, hp, hpe⟩ := Option.map_eq_some_iff.1 h1.symm
    obtain ⟨l', hl'⟩ := K.key p.1 (hok p (List.mem_of_getElem? hp))
    have h5 : fk p.1 = es.toList[j].key := congrArg Prod.fst hpe
    exact ⟨l', by rw [← h5]; exact hl'⟩) with ⟨h1, h2⟩ | ⟨j, e0, h1, h2, h3⟩
  · refine .inl ⟨h1, mget_none.2 fun p hp hpq => ?_, h2⟩
    obtain ⟨j, hj, rfl⟩ := List.getElem_of_mem hp
    have h4 := hget j
    rw [List.getElem?_eq_getElem hj] at h4
    simp only [Option.map_some] at h4
    obtain ⟨x, hx, hxe⟩ := Option.map_eq_some_iff.1 h4
    have h5 : x.key = fk m[j].1 := congrArg Prod.fst hxe
    exact h2 x (List.mem_of_getElem? hx) (by rw [h5, hpq])
  · have h4 := hget j
    rw [h2] at h4
    simp only [Option.map_some] at h4
    obtain ⟨p, hp, hpe⟩ := Option.map_eq_some_iff.1 h4.symm
    have hpq : p.1 = q := K.inj _ _ (hok p (List.mem_of_getElem? hp)) hq ((congrArg Prod.fst hpe).trans h3)
    have hpv : fv p.2 = e0.val := congrArg Prod.snd hpe
    refine .inr ⟨j, p.2, e0, by rw [hpv]; exact h1, (mget_mem hst).2 (by rw [← hpq]; exact List.mem_of_getElem? hp), by rw [hp, ← hpq], h2, h3⟩
theorem MapB.run_look (K : KeyF P k fk ok) (h : MapB fk ok fv w b m) (ht : P.underlying t = some (.map k e)) {z : ν} (hz : (zeroValue e).run P w = .ok (fv z) w) {q : κ} (hq : ok q) (c : Bool) :
    (Instr.lookup t (.map (some b)) (fk q) c).run P w = .ok (if c then .tuple #[fv ((mget m q).getD z), .bool (mget m q).isSome] else fv ((mget m q).getD z)) w := by
  have hu := h.uq
  obtain ⟨es, clock, hb, hst, hs, hok, he⟩ := h
  obtain ⟨l, hl⟩ := K.key q hq
  rcases MapB.find K hu hok he hq w with ⟨h1, h2, _⟩ | ⟨j, v, e0, h1, h2, _⟩
  · cases c <;> simp [Instr.lookup, run_underlying ht, MapKept.run_getObj_map hb, K.keyed.check w _ hl, h1, h2, hz, Result.andThen]
  · cases c <;> simp [Instr.lookup, run_underlying ht, MapKept.run_getObj_map hb, K.keyed.check w _ hl, h1, h2, Result.andThen]
theorem MapB.run_put (K : KeyF P k fk ok) (h : MapB fk ok fv w b m) (ht : P.underlying t = some (.map k e)) (hn : m.length < maxLen) {q : κ} (hq : ok q) (v : ν) :
    ∃ w', (Instr.mapUpdate t (.map (some b)) (fk q) (fv v)).run P w = .ok () w' ∧ MapB fk ok fv w' b (mput m q v) ∧ w.grownBy w' (some b) := by
  have hu := h.uq
  obtain ⟨es, clock, hb, hst, hs, hok, he⟩ := h
  obtain ⟨l, hl⟩ := K.key q hq
  have hlen : es.size = m.length := by have := congrArg List.length he; simpa using this
  have hok' : ∀ p ∈ mput m q v, ok p.1 := fun p hp => by
    rcases mput_mem hp with rfl | hp
    · exact hq
    · exact hok p hp
  have hgr : ∀ o, w.grownBy (setBlock w b o) (some b) := fun o => ⟨rfl, rfl, rfl, by simp [setBlock], fun i _ hi => heap_setBlock_other hb _ (fun e => hi (by rw [e]))⟩
  rcases MapB.find K hu hok he hq w with ⟨h1, h2, h3⟩ | ⟨j, v0, e0, h1, h2, h3, h4, h5⟩
  · refine ⟨setBlock w b (.map (es.push ⟨fk q, fv v, clock⟩) (clock + 1)), ?_, ⟨es.push ⟨fk q, fv v, clock⟩, clock + 1, heap_setBlock_same hb _, stamped_push hst h3, by simp; omega, hok', ?_⟩, hgr _⟩
    · simp [Instr.mapUpdate, run_underlying ht, MapKept.run_getObj_map hb, K.keyed.check w false hl, h1, MapKept.run_setObj_map _ hb, Result.andThen, setBlock]
    · rw [mput_new h2, Array.toList_push, List.map_append, List.map_append, he]
      rfl
  · have hj : es[j]? = some e0 := by simpa using h4
    have hkeyf : ∀ e', es[j]? = some e' → ({ e' with key := fk q, val := fv v } : MapEntry).key = e'.key := fun e' he' => by rw [hj] at he'; cases he'; exact h5.symm
    have hlist : (es.modify j (fun e' => { e' with key := fk q, val := fv v })).toList = es.toList.set j { e0 with key := fk q, val := fv v } := by rw [Array.toList_modify, modify_eq_set _ _ _ _ h4]
    refine ⟨setBlock w b (.map (es.modify j (fun e' => { e' with key := fk q, val := fv v })) clock), ?_, ⟨es.modify j (fun e' => { e' with key := fk q, val := fv v }), clock, heap_setBlock_same hb _, stamped_modify hst _ _ (fun _ _ => rfl) (fun e' _ he' => hkeyf e' he'), by simpa using hs, hok', ?_⟩, hgr _⟩
    · simp [Instr.mapUpdate, run_underlying ht, MapKept.run_getObj_map hb, K.keyed.check w false hl, h1, hj, h5, K.keyed.stays w hl, MapKept.run_setObj_map _ hb, Result.andThen, setBlock]
    · rw [hlist, mput_set hu h3, List.map_set, List.map_set, he]
 omit [DecidableEq κ] in
theorem MapB.made (w : World) (fk : κ → Value) (ok : κ → Prop) (fv : ν → Value) : MapB fk ok fv (w.alloc (.map #[] 0)) w.heap.size ([] : List (κ × ν)) :=
  ⟨#[], 0, (MapKept.heap_alloc w _).1, stamped_empty 0, by simp, by simp, rfl⟩
variable {N : Nat} {L : Slots} {ty : TypeId} {pos : String} {af : Array Edge} {dd : Option Tmp} {x y u : Operand}
theorem Yld.lookOk (hK : KeyF P k fk ok) (ht : P.underlying t = some (.map k e)) {z : ν} (hz : ∀ w, (zeroValue e).run P w = .ok (fv z) w) (hm : MapB fk ok fv w b m) (hx : opv L x = some (.map (some b))) {q : κ} (hy : opv L y = some (fk q)) (hq : ok q) :
    Yld P N w ⟨dd, .lookup t x y true, ty, pos, af, none⟩ L (.tuple #[fv ((mget m q).getD z), .bool (mget m q).isSome]) := fun a w1 hw ha => by
  unfold execOp
  simp [ha.ev hx, ha.ev hy, (MapB.eqv hw hm).run_look hK ht (hz w1) hq true]
 omit [DecidableEq κ] in
theorem Eff.makeMap (fk : κ → Value) (ok : κ → Prop) (fv : ν → Value) : Eff P N w ⟨dd, .makeMap t none, ty, pos, af, none⟩ L fun v w' => v = .map (some w.heap.size) ∧ MapB fk ok fv w' w.heap.size ([] : List (κ × ν)) ∧ w.grownBy w' none := fun a w1 hw ha => by
  refine ⟨_, w1.alloc (.map #[] 0), ?_, rfl, ?_, eqv_gr hw (gr_alloc w1 _ none)⟩
  · unfold execOp
    simp [run_makeMap]
    rw [hw.heap]
  · have := MapB.made w1 fk ok fv
    rwa [hw.heap] at this
theorem Ef0.mapPut (hK : KeyF P k fk ok) (ht : P.underlying t = some (.map k e)) (hm : MapB fk ok fv w b m) (hn : m.length < maxLen) (hx : opv L x = some (.map (some b))) {q : κ} (hy : opv L y = some (fk q)) (hq : ok q) {v : ν} (hu : opv L u = some (fv v)) :
    Ef0 P N w ⟨none, .mapUpdate t x y u, ty, pos, af, none⟩ L fun w' => MapB fk ok fv w' b (mput m q v) ∧ w.grownBy w' (some b) := fun a w1 hw ha => by
  obtain ⟨w', h1, h2, h3⟩ := (MapB.eqv hw hm).run_put hK ht hn hq v
  refine ⟨w', ?_, h2, eqv_gr hw h3⟩
  unfold execOp
  simp [ha.ev hx, ha.ev hy, ha.ev hu, h1]
theorem WL.ef0 {ops : Array Oper} {Q : Post} {rest : List Oper} {op : Op} {R : World → Prop} (hr : Ef0 P N w ⟨none, op, ty, pos, af, none⟩ L R) (hk : ∀ w', R w' → WL P N ops Q rest L w') : WL P N ops Q (⟨none, op, ty, pos, af, none⟩ :: rest) L w := WL.eff hr hk
end
end Go.Proofs.YtjhipfdbionpoaaGreatDoor

 /- Changes within blocks that are named: what calls do to what they are handed. -/
namespace Go.Proofs.YtjhipfdbionpoaaGreatDoor
open Go Go.RowKit
structure GrL (ps : List (Option Nat)) (w w' : World) : Prop where
  os : w'.os = w.os
  tape : w'.tape = w.tape
  output : w'.output = w.output
  size : w.heap.size ≤ w'.heap.size
  block : ∀ i, i < w.heap.size → (∀ p, List.Mem p ps → p ≠ some i) → w'.heap[i]? = w.heap[i]?
def AllP (Q : Option Nat → Prop) (ps : List (Option Nat)) : Prop := ∀ p, List.Mem p ps → Q p
theorem apN {Q : Option Nat → Prop} : AllP Q [] := fun _ h => by cases h
theorem apC {Q : Option Nat → Prop} {p : Option Nat} {ps : List (Option Nat)} (h : Q p) (t : AllP Q ps) : AllP Q (p :: ps) := fun x hx => by
  cases hx with
  | head => exact h
  | tail _ hx => exact t x hx
def InP (ps : List (Option Nat)) (n : Nat) (p : Option Nat) : Prop := ∀ g, p = some g → n ≤ g ∨ List.Mem (some g) ps
section
variable {ps qs : List (Option Nat)} {p p' q row : Option Nat} {n m : Nat} {a b c w w' : World}
theorem InP.mem (h : List.Mem p ps) : InP ps n p := fun _ hg => .inr (hg ▸ h)
theorem InP.none : InP ps n none := fun _ h => by cases h
theorem InP.app (h : InP ps n p) (k : ∀ g, p' = some g → p = some g ∨ m ≤ g) (hm : n ≤ m) : InP ps n p' := fun g hg => by
  rcases k g hg with h1 | h1
  · exact h g h1
  · exact .inl (Nat.le_trans hm h1)
theorem InP.trans (h : InP qs m p) (k : AllP (InP ps n) qs) (hm : n ≤ m) : InP ps n p := fun g hg => by
  rcases h g hg with h1 | h1
  · exact .inl (Nat.le_trans hm h1)
  · exact k _ h1 g rfl
theorem InP.dj (h : InP qs m p) (hq : Lt q m) (k : AllP (Dj q) qs) : Dj p q := fun g hg hqg => by
  rcases h g hg with h1 | h1
  · have := hq g hqg; omega
  · exact k _ h1 g hqg rfl
theorem InP.dn {α : Type} {xs : List α} (h : InP qs m p) (hq : xs ≠ [] → Lt q m) (k : AllP (Dn xs q) qs) : Dn xs q p := fun hx g hqg hg => by
  rcases h g hg with h1 | h1
  · have := hq hx g hqg; omega
  · exact k _ h1 hx g hqg rfl
theorem GrL.refl (w : World) : GrL ps w w := ⟨rfl, rfl, rfl, Nat.le_refl _, fun _ _ _ => rfl⟩
theorem GrL.of0 (h : w.grownBy w' none) : GrL ps w w' := ⟨h.os, h.tape, h.output, h.size, fun i hi _ => h.block i hi (by simp)⟩
theorem GrL.of1 (h : w.grownBy w' row) : GrL [row] w w' := ⟨h.os, h.tape, h.output, h.size, fun i hi k => h.block i hi fun e => k row (List.Mem.head _) e.symm⟩
theorem GrL.trans (h : GrL ps a b) (k : GrL ps b c) : GrL ps a c :=
  ⟨k.os.trans h.os, k.tape.trans h.tape, k.output.trans h.output, Nat.le_trans h.size k.size, fun i hi hp => (k.block i (Nat.lt_of_lt_of_le hi h.size) hp).trans (h.block i hi hp)⟩
theorem GrL.add0 (h : GrL ps a b) (k : b.grownBy c none) : GrL ps a c := h.trans (GrL.of0 k)
theorem GrL.eqv (h : GrL ps a b) (k : Eqv b c) : GrL ps a c := h.add0 (gr_eqv (gr_refl b none) k)
/-- one block's row, as_ 'grownBy' says it -/
theorem GrL.cell (h : GrL ps w w') {ad : Addr} {v : Value} (hc : w.cell? ad = some v) (hp : ∀ p, List.Mem p ps → p ≠ some ad.block) : w'.cell? ad = some v := by
  have hlt := World.block_lt_of_cell? w _ hc
  have := h.block ad.block hlt hp
  unfold World.cell? at hc ⊢
  rw [this]; exact hc
variable {α : Type} {f : α → Value} {A : Option Addr} {B cc g k : Nat} {xs : List α} {e : TypeId} {us : List Value} {fk : α → List Value}
theorem Bl.goL (h : Bl w g e us) (hg : GrL ps w w') (hd : AllP (Dj (some g)) ps) : Bl w' g e us := (hg.block g h.lt fun p hp e => hd p hp g rfl e).trans h
theorem Rd.goL (h : Rd f w A cc xs) (hg : GrL ps w w') (hd : AllP (Dn xs (blk A)) ps) : Rd f w' A cc xs :=
  ⟨h.cap, h.max, fun hx => by
    obtain ⟨ad, rfl, hc⟩ := h.cells hx
    refine ⟨ad, rfl, fun j x hj => hg.cell (hc j x hj) fun p hp e => ?_⟩
    rw [addr_block] at e
    exact hd p hp hx ad.block rfl e⟩
theorem RdK.goL (h : RdK k fk w A cc xs) (hg : GrL ps w w') (hd : AllP (Dn xs (blk A)) ps) : RdK k fk w' A cc xs :=
  ⟨h.ok, h.cap, h.max, fun hx => by
    obtain ⟨g', o, rfl, hc⟩ := h.cells hx
    refine ⟨g', o, rfl, fun j x i u hj hi => hg.cell (hc j x i u hj hi) fun p hp e => ?_⟩
    exact hd p hp hx g' rfl e⟩
theorem Own.goL (h : Own f w B e A cc xs) (hg : GrL ps w w') (hd : AllP (Dj (blk A)) ps) : Own f w' B e A cc xs := by
  have hlt := h.lt'
  unfold Own at h ⊢
  refine ⟨h.1, ?_⟩
  rcases h.2 with h2 | ⟨g, cap, cur, hv, hb, hg', r⟩
  · exact .inl h2
  · refine .inr ⟨g, cap, cur, hv, hb, ?_, r⟩
    simp only [Value.slice.injEq] at hv
    obtain ⟨rfl, _⟩ := hv
    exact (hg.block g (hlt g rfl) fun p hp e => hd p hp g rfl e).trans hg'
theorem OwnK.goL (h : OwnK k fk w B e A cc xs) (hg : GrL ps w w') (hd : AllP (Dj (blk A)) ps) : OwnK k fk w' B e A cc xs := by
  have hlt := h.lt'
  refine ⟨h.1, h.2.1, ?_⟩
  rcases h.2.2 with h2 | ⟨g, cap, cur, hv, hb, hg', r⟩
  · exact .inl h2
  · refine .inr ⟨g, cap, cur, hv, hb, ?_, r⟩
    simp only [Value.slice.injEq] at hv
    obtain ⟨rfl, _⟩ := hv
    exact (hg.block g (hlt g rfl) fun p hp e => hd p hp g rfl e).trans hg'
theorem MapB.goL {κ ν : Type} {mk : κ → Value} {ok : κ → Prop} {fv : ν → Value} {mm : List (κ × ν)} (h : MapB mk ok fv w g mm) (hg : GrL ps w w') (hd : AllP (Dj (some g)) ps) : MapB mk ok fv w' g mm := by
  have hlt := h.lt
  obtain ⟨es, clock, hb, r⟩ := h
  exact ⟨es, clock, (hg.block g hlt (fun p hp e => hd p hp g rfl e)).trans hb, r⟩
variable {S : List Nat}
/-- the variables hold what they were laid with; they all lie below B -/
def GB (S : List Nat) (B : Nat) (w : World) : Prop := ∃ W, GOK S W ∧ W.heap.size ≤ B ∧ Below W.heap.size W w
theorem GB.ok (h : GB S B w) : GOK S w := by
  obtain ⟨W, h1, _, h3⟩ := h
  exact h1.grown (gr_below h3 none)
theorem GB.of (h : GOK S w) : GB S w.heap.size w := ⟨w, h, Nat.le_refl _, Below.refl _ _⟩
theorem belowL {W : World} {n : Nat} (h3 : Below n W w) (hn : n ≤ B) (hg : GrL ps w w') (hp : AllP (fun p => Ge p B) ps) (hW : n ≤ W.heap.size) : Below n W w' := by
  refine ⟨hg.os.trans h3.os, hg.tape.trans h3.tape, hg.output.trans h3.output, Nat.le_trans h3.size hg.size, fun i hi => ?_⟩
  refine (hg.block i (Nat.lt_of_lt_of_le (Nat.lt_of_lt_of_le hi hW) h3.size) fun p hm e => ?_).trans (h3.block i hi)
  have := hp p hm i e
  omega
theorem GB.goL (h : GB S B w) (hg : GrL ps w w') (hp : AllP (fun p => Ge p B) ps) : GB S B w' := by
  obtain ⟨W, h1, h2, h3⟩ := h
  exact ⟨W, h1, h2, belowL h3 h2 hg hp (Nat.le_refl _)⟩
theorem GB.g0 (h : GB S B w) (hg : w.grownBy w' none) : GB S B w' := h.goL (ps := []) (GrL.of0 hg) apN
theorem GB.mono {B' : Nat} (h : GB S B w) (hB : B ≤ B') : GB S B' w := by
  obtain ⟨W, h1, h2, h3⟩ := h
  exact ⟨W, h1, Nat.le_trans h2 hB, h3⟩
theorem GB.grown {W : World} (h : GOK S W) (hg : W.grownBy w none) : GB S W.heap.size w := ⟨W, h, Nat.le_refl _, below_gr hg⟩
/-- no error with a place lies there -/
def NoAt (w : World) (p : Option Nat) : Prop := ∀ g us, p = some g → ¬ Bl w g 85 us
theorem NoAt.own (h : Own f w B e A cc xs) (ht : Nat.beq e 85 = false) : NoAt w (blk A) := fun g' us' hg' hB => by
  rcases h.2 with ⟨hv, _⟩ | ⟨g, cap, cur, hv, _, hb, _⟩
  · simp only [Value.slice.injEq] at hv
    obtain ⟨rfl, _⟩ := hv
    cases hg'
  · simp only [Value.slice.injEq] at hv
    obtain ⟨rfl, _⟩ := hv
    cases hg'
    exact Bl.ne (us := cur.toList) hb hB (Nat.ne_of_beq_eq_false ht) rfl
theorem NoAt.map {κ ν : Type} {mk : κ → Value} {ok : κ → Prop} {fv : ν → Value} {mm : List (κ × ν)} (h : MapB mk ok fv w g mm) : NoAt w (some g) := fun g' us' hg' hB => by
  cases hg'
  obtain ⟨es, clock, hb, _⟩ := h
  unfold Bl at hB
  rw [hb] at hB
  cases hB
end
end Go.Proofs.YtjhipfdbionpoaaGreatDoor

 /- Slices whose elements hold slices. -/
namespace Go.Proofs.YtjhipfdbionpoaaGreatDoor
open Go Go.RowKit
/-- a slice's head -/
structure Hdr where
  A : Option Addr
  n : Nat
  c : Nat
def hd0 : Hdr := ⟨none, 0, 0⟩
def vh (h : Hdr) : Value := .slice h.A h.n h.c
theorem One.h : One vh := fun _ => rfl
/-- how an element lies: H what its cells say, X what it means -/
structure DE (H X : Type) where
  rel : World → H → X → Prop
  dn : H → X → Option Nat → Prop
  goL : ∀ {w w' : World} {h : H} {x : X} {ps : List (Option Nat)}, rel w h x → GrL ps w w' → AllP (dn h x) ps → rel w' h x
  new : ∀ {w : World} {h : H} {x : X} {p : Option Nat}, rel w h x → Ge p w.heap.size → dn h x p
  app : ∀ {w : World} {h : H} {x : X} {ps : List (Option Nat)} {p : Option Nat}, rel w h x → AllP (dn h x) ps → InP ps w.heap.size p → dn h x p
def DE.flat (X : Type) : DE X X where
  rel _ h x := h = x
  dn _ _ _ := True
  goL h _ _ := h
  new _ _ := trivial
  app _ _ _ := trivial
def DE.sl {α : Type} (f : α → Value) : DE Hdr (List α) where
  rel w h x := h.n = x.length ∧ Rd f w h.A h.c x
  dn h x p := Dn x (blk h.A) p
  goL h k a := ⟨h.1, h.2.goL k a⟩
  new h k := Dn.new (fun hx => h.2.lt' hx) k
  app h a k := InP.dn k (fun hx => h.2.lt' hx) a
def DE.pr {H X K Y : Type} (d : DE H X) (e : DE K Y) : DE (H × K) (X × Y) where
  rel w h x := d.rel w h.1 x.1 ∧ e.rel w h.2 x.2
  dn h x p := d.dn h.1 x.1 p ∧ e.dn h.2 x.2 p
  goL h k a := ⟨d.goL h.1 k fun p hp => (a p hp).1, e.goL h.2 k fun p hp => (a p hp).2⟩
  new h k := ⟨d.new h.1 k, e.new h.2 k⟩
  app h a k := ⟨d.app h.1 (fun p hp => (a p hp).1) k, e.app h.2 (fun p hp => (a p hp).2) k⟩
/-- all elements lie so -/
def RelD {H X : Type} (d : DE H X) (w : World) (hs : List H) (xs : List X) : Prop := hs.length = xs.length ∧ ∀ (i : Nat) (h : H) (x : X), hs[i]? = some h → xs[i]? = some x → d.rel w h x
def DnD {H X : Type} (d : DE H X) (hs : List H) (xs : List X) (p : Option Nat) : Prop := ∀ (i : Nat) (h : H) (x : X), hs[i]? = some h → xs[i]? = some x → d.dn h x p
section
variable {H X : Type} {d : DE H X} {w w' : World} {hs hs' : List H} {xs xs' : List X} {ps : List (Option Nat)} {p : Option Nat} {i : Nat} {h : H} {x : X} {row : Option Nat}
theorem RelD.goL (k : RelD d w hs xs) (hg : GrL ps w w') (a : AllP (DnD d hs xs) ps) : RelD d w' hs xs := ⟨k.1, fun i h x hh hx => d.goL (k.2 i h x hh hx) hg fun p hp => a p hp i h x hh hx⟩
theorem RelD.go (k : RelD d w hs xs) (hg : w.grownBy w' row) (a : DnD d hs xs row) : RelD d w' hs xs := k.goL (GrL.of1 hg) (apC a apN)
theorem RelD.grown (k : RelD d w hs xs) (hg : w.grownBy w' none) : RelD d w' hs xs := k.goL (ps := []) (GrL.of0 hg) apN
theorem RelD.new (k : RelD d w hs xs) (hp : Ge p w.heap.size) : DnD d hs xs p := fun i h x hh hx => d.new (k.2 i h x hh hx) hp
theorem RelD.inp (k : RelD d w hs xs) (a : AllP (DnD d hs xs) ps) (hp : InP ps w.heap.size p) : DnD d hs xs p := fun i h x hh hx => d.app (k.2 i h x hh hx) (fun q hq => a q hq i h x hh hx) hp
theorem RelD.app {p' : Option Nat} (k : RelD d w hs xs) (a : DnD d hs xs p) (hk : ∀ g, p' = some g → p = some g ∨ w.heap.size ≤ g) : DnD d hs xs p' := fun i h x hh hx => d.app (k.2 i h x hh hx) (ps := [p]) (apC (a i h x hh hx) apN) (InP.app (ps := [p]) (InP.mem (List.Mem.head _)) hk (Nat.le_refl _))
theorem RelD.nil : RelD d w [] [] := ⟨rfl, fun i h x hh => by simp at hh⟩
theorem DnD.nil : DnD d [] [] p := fun i h x hh => by simp at hh
theorem DnD.none (k : RelD d w hs xs) : DnD d hs xs none := k.new Ge.none
theorem RelD.cons (k : d.rel w h x) (t : RelD d w hs xs) : RelD d w (h :: hs) (x :: xs) := ⟨by simp [t.1], fun i h' x' hh hx => by
  cases i with
  | zero => simp only [List.getElem?_cons_zero, Option.some.injEq] at hh hx; subst hh; subst hx; exact k
  | succ i => exact t.2 i h' x' (by simpa using hh) (by simpa using hx)⟩
theorem DnD.cons (k : d.dn h x p) (t : DnD d hs xs p) : DnD d (h :: hs) (x :: xs) p := fun i h' x' hh hx => by
  cases i with
  | zero => simp only [List.getElem?_cons_zero, Option.some.injEq] at hh hx; subst hh; subst hx; exact k
  | succ i => exact t i h' x' (by simpa using hh) (by simpa using hx)
theorem RelD.append (k : RelD d w hs xs) (t : RelD d w hs' xs') : RelD d w (hs ++ hs') (xs ++ xs') := ⟨by simp [k.1, t.1], fun i h x hh hx => by
  by_cases hi : i < hs.length
  · rw [List.getElem?_append_left hi] at hh
    rw [List.getElem?_append_left (by rw [← k.1]; exact hi)] at hx
    exact k.2 i h x hh hx
  · rw [List.getElem?_append_right (by omega)] at hh
    rw [List.getElem?_append_right (by rw [← k.1]; omega), ← k.1] at hx
    exact t.2 _ h x hh hx⟩
theorem DnD.append (hl : hs.length = xs.length) (k : DnD d hs xs p) (t : DnD d hs' xs' p) : DnD d (hs ++ hs') (xs ++ xs') p := fun i h x hh hx => by
  by_cases hi : i < hs.length
  · rw [List.getElem?_append_left hi] at hh
    rw [List.getElem?_append_left (by rw [← hl]; exact hi)] at hx
    exact k i h x hh hx
  · rw [List.getElem?_append_right (by omega)] at hh
    rw [List.getElem?_append_right (by rw [← hl]; omega), ← hl] at hx
    exact t _ h x hh hx
theorem RelD.rep (n : Nat) (k : d.rel w h x) : RelD d w (List.replicate n h) (List.replicate n x) := ⟨by simp, fun i h' x' hh hx => by
  rw [List.getElem?_replicate] at hh hx
  split at hh
  · simp only [Option.some.injEq] at hh
    rw [if_pos (by assumption)] at hx
    simp only [Option.some.injEq] at hx
    subst hh; subst hx; exact k
  · cases hh⟩
theorem DnD.rep (n : Nat) (k : d.dn h x p) : DnD d (List.replicate n h) (List.replicate n x) p := fun i h' x' hh hx => by
  rw [List.getElem?_replicate] at hh hx
  split at hh
  · simp only [Option.some.injEq] at hh
    rw [if_pos (by assumption)] at hx
    simp only [Option.some.injEq] at hx
    subst hh; subst hx; exact k
  · cases hh
theorem RelD.set (k : RelD d w hs xs) (t : d.rel w h x) (j : Nat) : RelD d w (hs.set j h) (xs.set j x) := ⟨by simp [k.1], fun i h' x' hh hx => by
  rw [List.getElem?_set] at hh hx
  by_cases hj : j = i
  · subst hj
    rw [if_pos rfl] at hh hx
    split at hh
    · split at hx
      · simp only [Option.some.injEq] at hh hx
        subst hh; subst hx; exact t
      · cases hx
    · cases hh
  · rw [if_neg hj] at hh hx
    exact k.2 i h' x' hh hx⟩
theorem DnD.set (k : DnD d hs xs p) (t : d.dn h x p) (j : Nat) : DnD d (hs.set j h) (xs.set j x) p := fun i h' x' hh hx => by
  rw [List.getElem?_set] at hh hx
  by_cases hj : j = i
  · subst hj
    rw [if_pos rfl] at hh hx
    split at hh
    · split at hx
      · simp only [Option.some.injEq] at hh hx
        subst hh; subst hx; exact t
      · cases hx
    · cases hh
  · rw [if_neg hj] at hh hx
    exact k i h' x' hh hx
/-- whatever the elements hold has come since -/
def NewD (d : DE H X) (hs : List H) (xs : List X) (n : Nat) : Prop := ∀ p : Option Nat, (∀ g, p = some g → g < n) → DnD d hs xs p
theorem NewD.nil {n : Nat} : NewD d [] [] n := fun _ _ => DnD.nil
theorem NewD.append {n : Nat} (hl : hs.length = xs.length) (a : NewD d hs xs n) (b : NewD d hs' xs' n) : NewD d (hs ++ hs') (xs ++ xs') n := fun p hp => DnD.append hl (a p hp) (b p hp)
theorem NewD.cons {n : Nat} (a : ∀ p : Option Nat, (∀ g, p = some g → g < n) → d.dn h x p) (b : NewD d hs xs n) : NewD d (h :: hs) (x :: xs) n := fun p hp => DnD.cons (a p hp) (b p hp)
theorem NewD.le {n m : Nat} (a : NewD d hs xs n) (h : m ≤ n) : NewD d hs xs m := fun p hp => a p fun g e => Nat.lt_of_lt_of_le (hp g e) h
theorem RelD.drop (k : RelD d w hs xs) (n : Nat) : RelD d w (hs.drop n) (xs.drop n) := ⟨by simp [k.1], fun i h x hh hx => k.2 (n + i) h x (by simpa [List.getElem?_drop] using hh) (by simpa [List.getElem?_drop] using hx)⟩
theorem DnD.drop (k : DnD d hs xs p) (n : Nat) : DnD d (hs.drop n) (xs.drop n) p := fun i h x hh hx => k (n + i) h x (by simpa [List.getElem?_drop] using hh) (by simpa [List.getElem?_drop] using hx)
theorem RelD.take (k : RelD d w hs xs) (n : Nat) : RelD d w (hs.take n) (xs.take n) := ⟨by simp [k.1], fun i h x hh hx => by
  rw [List.getElem?_take] at hh hx
  split at hh
  · rw [if_pos (by assumption)] at hx; exact k.2 i h x hh hx
  · cases hh⟩
theorem DnD.take (k : DnD d hs xs p) (n : Nat) : DnD d (hs.take n) (xs.take n) p := fun i h x hh hx => by
  rw [List.getElem?_take] at hh hx
  split at hh
  · rw [if_pos (by assumption)] at hx; exact k i h x hh hx
  · cases hh
/-- an element, read -/
theorem RelD.at (k : RelD d w hs xs) (dh : H) (dx : X) {j : Nat} (hj : j < xs.length) : ∃ h, hs.getD j dh = h ∧ d.rel w h (xs.getD j dx) := by
  have hj2 : j < hs.length := by rw [k.1]; exact hj
  refine ⟨_, rfl, k.2 j _ _ ?_ ?_⟩
  · simp [List.getD, hj2]
  · simp [List.getD, hj]
theorem DnD.at (k : DnD d hs xs p) (hl : hs.length = xs.length) {dh : H} {dx : X} {j : Nat} (hj : j < xs.length) {h : H} (hh : hs.getD j dh = h) : d.dn h (xs.getD j dx) p := by
  have hj2 : j < hs.length := by rw [hl]; exact hj
  subst hh
  exact k j _ _ (by simp [List.getD, hj2]) (by simp [List.getD, hj])
end
section
variable {P : Program} {N : Nat} {L : Slots} {w : World} {o : Oper} {u v : Value}
theorem Yld.to (h : Yld P N w o L u) (e : u = v) : Yld P N w o L v := e ▸ h
end
section
variable {P : Program} {N : Nat} {L : Slots} {w : World}
end
end Go.Proofs.YtjhipfdbionpoaaGreatDoor

 /- Printed by a program (wip/vg): elements that hold slices. -/
namespace Go.Proofs.YtjhipfdbionpoaaGreatDoor
open Go Go.RowKit
abbrev de43 : DE (Int × Hdr × Hdr × List UInt8) (Int × List (List UInt8) × List (List UInt8) × List UInt8) := (DE.pr (DE.flat Int) (DE.pr (DE.sl vs) (DE.pr (DE.sl vs) (DE.flat (List UInt8)))))
def encH43 (h : Int × Hdr × Hdr × List UInt8) : List Value := [.int .i64 h.1, vh h.2.1, vh h.2.2.1, vs h.2.2.2]
theorem encH43_ok : OneK 4 encH43 := ⟨by omega, fun _ => rfl, fun _ => (all1c rfl (all1c rfl (all1c rfl (all1c rfl all1n))))⟩
abbrev de38 : DE (Hdr) (List Int) := (DE.sl vi)
theorem ow22 : ckOwK Tryz.prog 22 43 4 72 = true := by kernel_rfl
end Go.Proofs.YtjhipfdbionpoaaGreatDoor

 /- Pools: maps from texts to pointers at boxes that lie apart; one of them may be open. -/
namespace Go.Proofs.YtjhipfdbionpoaaGreatDoor
open Go Go.RowKit
section
variable {κ ν μ : Type} [DecidableEq κ]
def mmap (g : ν → μ) (m : List (κ × ν)) : List (κ × μ) := m.map fun p => (p.1, g p.2)
theorem mput_mmap (g : ν → μ) (k : κ) (v : ν) : ∀ m : List (κ × ν), mput (mmap g m) k (g v) = mmap g (mput m k v)
  | [] => rfl
  | p :: m => by
    show (if p.1 = k then (k, g v) :: mmap g m else (p.1, g p.2) :: mput (mmap g m) k (g v)) = mmap g (if p.1 = k then (k, v) :: m else p :: mput m k v)
    split
    · rfl
    · rw [mput_mmap g k v m]; rfl
theorem mget_keys : ∀ {a : List (κ × ν)} {b : List (κ × μ)}, a.map (·.1) = b.map (·.1) → ∀ k, (mget a k).isSome = (mget b k).isSome
  | [], [], _, _ => rfl
  | [], _ :: _, h, _ => by simp at h
  | _ :: _, [], h, _ => by simp at h
  | p :: a, r :: b, h, k => by
    simp only [List.map_cons, List.cons.injEq] at h
    unfold mget
    rw [h.1]
    split
    · rfl
    · exact mget_keys h.2 k
end
abbrev PH := Nat × Option Nat
def vP (o : Option PH) : Value := .pointer (o.map fun h => ⟨h.1, 0, none⟩)
theorem getD_some {α : Type} {o : Option α} {z : α} (h : o.isSome = true) : o = some (o.getD z) := by
  cases o with
  | none => cases h
  | some x => rfl
section
variable {ps : List (Option Nat)} {Q : Option Nat → Prop} {n m : Nat} {F qs : List (Option Nat)} {q row : Option Nat} {w : World}
theorem apH {p : Option Nat} (h : AllP Q (p :: ps)) : Q p := h _ (List.Mem.head _)
theorem apNl : AllP (Dj none) ps := fun _ _ => Dj.nl
theorem InA.mem (h : ∀ p, List.Mem p F → List.Mem p ps) : AllP (InP ps n) F := fun p hp => InP.mem (h p hp)
theorem InA.trans (h : AllP (InP qs m) F) (k : AllP (InP ps n) qs) (hm : n ≤ m) : AllP (InP ps n) F := fun p hp => (h p hp).trans k hm
theorem InA.dj (h : AllP (InP qs m) F) (hq : Lt q m) (k : AllP (Dj q) qs) : AllP (Dj q) F := fun p hp => ((h p hp).dj hq k).symm
theorem InA.dn {α : Type} {xs : List α} (h : AllP (InP qs m) F) (hq : xs ≠ [] → Lt q m) (k : AllP (Dn xs q) qs) : AllP (Dn xs q) F := fun p hp => (h p hp).dn hq k
end
/-- where a pool lies: its map, its boxes, what hangs on them; without the one that is open -/
def FP (m : Nat) (hs : List (List UInt8 × PH)) (q0 : Option (List UInt8)) : List (Option Nat) := some m :: (hs.filter fun h => decide (some h.1 ≠ q0)).flatMap fun h => [some h.2.1, h.2.2]
structure PE (X : Type) where
  rel : World → PH → X → Prop
  goL : ∀ {w w' : World} {h : PH} {x : X} {ps : List (Option Nat)}, rel w h x → GrL ps w w' → AllP (Dj (some h.1)) ps → AllP (Dj h.2) ps → rel w' h x
  lt : ∀ {w : World} {h : PH} {x : X}, rel w h x → Lt (some h.1) w.heap.size ∧ Lt h.2 w.heap.size
  isc : Nat → Bool
  sc : X → Nat → Value
  hsc : ∀ {w : World} {h : PH} {x : X} {o : Nat}, isc o = true → rel w h x → w.cell? ⟨h.1, o, none⟩ = some (sc x o)
  noat : ∀ {w : World} {h : PH} {x : X}, rel w h x → NoAt w (some h.1) ∧ NoAt w h.2
structure PoolO {X : Type} (d : PE X) (w : World) (m : Nat) (hs : List (List UInt8 × PH)) (fs : List (List UInt8 × X)) (q0 : Option (List UInt8)) : Prop where
  map : MapB vs okS vP w m (mmap some hs)
  keys : hs.map (·.1) = fs.map (·.1)
  rel : ∀ q h x, mget hs q = some h → mget fs q = some x → some q ≠ q0 → d.rel w h x
  dm : ∀ q h, mget hs q = some h → some q ≠ q0 → Dj (some m) (some h.1) ∧ Dj (some m) h.2
  dd : ∀ q q' h h', q ≠ q' → mget hs q = some h → mget hs q' = some h' → some q ≠ q0 → some q' ≠ q0 → Dj (some h.1) (some h'.1) ∧ Dj (some h.1) h'.2 ∧ Dj h.2 (some h'.1) ∧ Dj h.2 h'.2
section
variable {X : Type} {d : PE X} {w w' : World} {m : Nat} {hs : List (List UInt8 × PH)} {fs : List (List UInt8 × X)} {q0 : Option (List UInt8)} {Q : Option Nat → Prop} {ps : List (Option Nat)} {row p : Option Nat} {q : List UInt8} {x x' : X} {b : Nat} {r r' : Option Nat}
theorem PoolO.uq (h : PoolO d w m hs fs q0) : Uq hs := by
  have := h.map.uq
  unfold Uq mmap at *
  rw [List.map_map] at this
  exact this
theorem PoolO.some_iff (h : PoolO d w m hs fs q0) (q : List UInt8) : (mget hs q).isSome = (mget fs q).isSome := mget_keys h.keys q
theorem allFP (hu : Uq hs) : AllP Q (FP m hs q0) ↔ Q (some m) ∧ ∀ q h, mget hs q = some h → some q ≠ q0 → Q (some h.1) ∧ Q h.2 := by
  constructor
  · intro h
    refine ⟨h _ (List.Mem.head _), fun q k hk hq => ?_⟩
    have hm := (mget_mem hu).1 hk
    have hf : (q, k) ∈ hs.filter fun h => decide (some h.1 ≠ q0) := List.mem_filter.2 ⟨hm, by simpa using hq⟩
    exact ⟨h _ (List.Mem.tail _ (List.mem_flatMap.2 ⟨_, hf, by simp⟩)), h _ (List.Mem.tail _ (List.mem_flatMap.2 ⟨_, hf, by simp⟩))⟩
  · rintro ⟨h1, h2⟩ p hp
    cases hp with
    | head => exact h1
    | tail _ hp =>
      obtain ⟨k, hk, hp⟩ := List.mem_flatMap.1 hp
      obtain ⟨hm, hq⟩ := List.mem_filter.1 hk
      have h3 := h2 k.1 k.2 ((mget_mem hu).2 hm) (by simpa using hq)
      simp only [List.mem_cons, List.not_mem_nil, or_false] at hp
      rcases hp with rfl | rfl
      · exact h3.1
      · exact h3.2
theorem PoolO.goL (h : PoolO d w m hs fs q0) (hg : GrL ps w w') (hd : AllP (fun r => AllP (Dj r) (FP m hs q0)) ps) : PoolO d w' m hs fs q0 :=
  ⟨h.map.goL hg fun p hp => (((allFP h.uq).1 (hd p hp)).1).symm, h.keys, fun q k x hk hx hq => d.goL (h.rel q k x hk hx hq) hg (fun p hp => ((((allFP h.uq).1 (hd p hp)).2 q k hk hq).1).symm) (fun p hp => ((((allFP h.uq).1 (hd p hp)).2 q k hk hq).2).symm), h.dm, h.dd⟩
theorem PoolO.go (h : PoolO d w m hs fs q0) (hg : w.grownBy w' row) (hd : AllP (Dj row) (FP m hs q0)) : PoolO d w' m hs fs q0 := h.goL (GrL.of1 hg) (apC hd apN)
theorem PoolO.g0 (h : PoolO d w m hs fs q0) (hg : w.grownBy w' none) : PoolO d w' m hs fs q0 := h.goL (ps := []) (GrL.of0 hg) apN
theorem PoolO.eqv (hw : Eqv w w') (h : PoolO d w m hs fs q0) : PoolO d w' m hs fs q0 := h.g0 (gr_eqv (gr_refl w none) hw)
theorem PoolO.lts (h : PoolO d w m hs fs q0) (hf : (∀ q, (mget hs q).isSome = (mget fs q).isSome)) : AllP (fun p => Lt p w.heap.size) (FP m hs q0) := (allFP h.uq).2 ⟨h.map.lt', fun q k hk hq => by
  have h1 := hf q
  rw [hk, Option.isSome_some] at h1
  obtain ⟨x, hx⟩ := Option.isSome_iff_exists.1 h1.symm
  exact d.lt (h.rel q k x hk hx hq)⟩
theorem PoolO.lt' (h : PoolO d w m hs fs q0) : AllP (fun p => Lt p w.heap.size) (FP m hs q0) := h.lts h.some_iff
/-- what is new lies apart from it -/
theorem PoolO.new (h : PoolO d w m hs fs q0) (hp : Ge p w.heap.size) : AllP (Dj p) (FP m hs q0) := fun r hr => (Dj.new (h.lt' r hr) hp).symm
theorem PoolO.inp (h : PoolO d w m hs fs q0) (hp : InP ps w.heap.size p) (hd : AllP (fun r => AllP (Dj r) (FP m hs q0)) ps) : AllP (Dj p) (FP m hs q0) := fun r hr => InP.dj hp (h.lt' r hr) (fun s hs' => (hd s hs' r hr).symm)
theorem PoolO.app {p' : Option Nat} (h : PoolO d w m hs fs q0) (k : AllP (Dj p) (FP m hs q0)) (hk : ∀ g, p' = some g → p = some g ∨ w.heap.size ≤ g) : AllP (Dj p') (FP m hs q0) := fun r hr => Dj.app (k r hr) (h.lt' r hr) hk
/-- one is opened -/
theorem PoolO.open (h : PoolO d w m hs fs none) (hx : mget fs q = some x) : ∃ b r, mget hs q = some (b, r) ∧ d.rel w (b, r) x ∧ PoolO d w m hs fs (some q) ∧ AllP (Dj (some b)) (FP m hs (some q)) ∧ AllP (Dj r) (FP m hs (some q)) := by
  have h1 := h.some_iff q
  rw [hx, Option.isSome_some] at h1
  obtain ⟨⟨b, r⟩, hk⟩ := Option.isSome_iff_exists.1 h1
  have hm := h.dm q _ hk (by simp)
  refine ⟨b, r, hk, h.rel q _ x hk hx (by simp), ⟨h.map, h.keys, fun q' k y hk' hy _ => h.rel q' k y hk' hy (by simp), fun q' k hk' _ => h.dm q' k hk' (by simp), fun q' q2 k k2 hne hk' hk2 _ _ => h.dd q' q2 k k2 hne hk' hk2 (by simp) (by simp)⟩, ?_, ?_⟩
  · refine (allFP h.uq).2 ⟨hm.1.symm, fun q' k hk' hq' => ?_⟩
    have := h.dd q q' _ k (fun e => hq' (by rw [e])) hk hk' (by simp) (by simp)
    exact ⟨this.1, this.2.1⟩
  · refine (allFP h.uq).2 ⟨hm.2.symm, fun q' k hk' hq' => ?_⟩
    have := h.dd q q' _ k (fun e => hq' (by rw [e])) hk hk' (by simp) (by simp)
    exact ⟨this.2.2.1, this.2.2.2⟩
theorem PoolO.sub (h : PoolO d w m hs fs q0) (k : AllP Q (FP m hs none)) : AllP Q (FP m hs (some q)) := (allFP h.uq).2 ⟨((allFP h.uq).1 k).1, fun q' k' hk' _ => ((allFP h.uq).1 k).2 q' k' hk' (by simp)⟩
theorem PoolO.back (h : PoolO d w m hs fs (some q)) (hk : mget hs q = some (b, r)) (hx : mget fs q = some x) (hr : d.rel w (b, r) x) (h1 : AllP (Dj (some b)) (FP m hs (some q))) (h2 : AllP (Dj r) (FP m hs (some q))) : PoolO d w m hs fs none := by
  have hu := h.uq
  have h1' := (allFP hu).1 h1
  have h2' := (allFP hu).1 h2
  refine ⟨h.map, h.keys, fun q' k y hk' hy _ => ?_, fun q' k hk' _ => ?_, fun q1 q2 k1 k2 hne hk1 hk2 _ _ => ?_⟩
  · by_cases e : q' = q
    · subst e; rw [hk] at hk'; rw [hx] at hy; cases hk'; cases hy; exact hr
    · exact h.rel q' k y hk' hy (fun e2 => e (Option.some.inj e2))
  · by_cases e : q' = q
    · subst e; rw [hk] at hk'; cases hk'; exact ⟨h1'.1.symm, h2'.1.symm⟩
    · exact h.dm q' k hk' (fun e2 => e (Option.some.inj e2))
  · by_cases e1 : q1 = q
    · subst e1
      rw [hk] at hk1; cases hk1
      have e2 : some q2 ≠ some q1 := fun e => hne (Option.some.inj e).symm
      have a := h1'.2 q2 k2 hk2 e2
      have c := h2'.2 q2 k2 hk2 e2
      exact ⟨a.1, a.2, c.1, c.2⟩
    · by_cases e2 : q2 = q
      · subst e2
        rw [hk] at hk2; cases hk2
        have e3 : some q1 ≠ some q2 := fun e => hne (Option.some.inj e)
        have a := h1'.2 q1 k1 hk1 e3
        have c := h2'.2 q1 k1 hk1 e3
        exact ⟨a.1.symm, c.1.symm, a.2.symm, c.2.symm⟩
      · exact h.dd q1 q2 k1 k2 hne hk1 hk2 (fun e => e1 (Option.some.inj e)) (fun e => e2 (Option.some.inj e))
theorem PoolO.closeA (h : PoolO d w m hs fs q0) (k : AllP Q (FP m hs (some q))) (k1 : Q (some b)) (k2 : Q r') : AllP Q (FP m (mput hs q (b, r')) none) := by
  have hu := h.uq
  refine (allFP (hu.put q _)).2 ⟨((allFP hu).1 k).1, fun q' k' hk' _ => ?_⟩
  rw [mget_mput] at hk'
  split at hk'
  · cases hk'; exact ⟨k1, k2⟩
  · rename_i e
    exact ((allFP hu).1 k).2 q' k' hk' (fun e2 => e (Option.some.inj e2).symm)
theorem PoolO.put (h : PoolO d w m hs fs none) (hM : MapB vs okS vP w' m (mput (mmap some hs) q (some (b, r)))) (hg : w.grownBy w' (some m)) (hr : d.rel w (b, r) x) (h1 : AllP (Dj (some b)) (FP m hs none)) (h2 : AllP (Dj r) (FP m hs none)) : PoolO d w' m (mput hs q (b, r)) (mput fs q x) none := by
  have hu := h.uq
  have h1' := (allFP hu).1 h1
  have h2' := (allFP hu).1 h2
  have old : ∀ {q' k}, mget (mput hs q (b, r)) q' = some k → (q' = q ∧ k = (b, r)) ∨ (q' ≠ q ∧ mget hs q' = some k) := fun {q' k} e => by
    rw [mget_mput] at e
    split at e
    · rename_i e2; simp only [Option.some.injEq] at e; exact .inl ⟨e2.symm, e.symm⟩
    · rename_i e2; exact .inr ⟨fun e3 => e2 e3.symm, e⟩
  have hkeys : (mput hs q (b, r)).map (·.1) = (mput fs q x).map (·.1) := by
    rw [mput_keys, mput_keys, h.some_iff q, h.keys]
  rw [mput_mmap] at hM
  refine ⟨hM, hkeys, ?_, ?_, ?_⟩
  · intro q' k x0 hk' hx _
    rw [mget_mput] at hx
    rcases old hk' with ⟨rfl, rfl⟩ | ⟨hq', hk'⟩
    · rw [if_pos rfl] at hx
      cases hx
      exact d.goL hr (GrL.of1 hg) (apC h1'.1 apN) (apC h2'.1 apN)
    · rw [if_neg (fun e => hq' e.symm)] at hx
      have hm := h.dm q' k hk' (by simp)
      exact d.goL (h.rel q' k x0 hk' hx (by simp)) (GrL.of1 hg) (apC hm.1.symm apN) (apC hm.2.symm apN)
  · intro q' k hk' _
    rcases old hk' with ⟨rfl, rfl⟩ | ⟨hq', hk'⟩
    · exact ⟨h1'.1.symm, h2'.1.symm⟩
    · exact h.dm q' k hk' (by simp)
  · intro q1 q2 k1 k2 hne hk1 hk2 _ _
    rcases old hk1 with ⟨rfl, rfl⟩ | ⟨hq1, hj1⟩ <;> rcases old hk2 with ⟨rfl, rfl⟩ | ⟨hq2, hj2⟩
    · exact absurd rfl hne
    · have a := h1'.2 q2 k2 hj2 (by simp)
      have c := h2'.2 q2 k2 hj2 (by simp)
      exact ⟨a.1, a.2, c.1, c.2⟩
    · have a := h1'.2 q1 k1 hj1 (by simp)
      have c := h2'.2 q1 k1 hj1 (by simp)
      exact ⟨a.1.symm, c.1.symm, a.2.symm, c.2.symm⟩
    · exact h.dd q1 q2 k1 k2 hne hj1 hj2 (by simp) (by simp)
theorem FP.nil (h : Q (some m)) : AllP Q (FP m [] q0) := by
  unfold FP
  exact apC h apN
/-! the rules -/
variable {P : Program} {N : Nat} {L : Slots} {ty t t' k e : TypeId} {pos : String} {af : Array Edge} {dd : Option Tmp} {y z u : Operand}
end
end Go.Proofs.YtjhipfdbionpoaaGreatDoor


 /- Slices of slices, of the call's own: the outer one holds the inner ones' heads, each in a block of its own. -/
namespace Go.Proofs.YtjhipfdbionpoaaGreatDoor
open Go Go.RowKit
/-- an inner slice's place and room -/
abbrev Hd := Option Addr × Nat
def hz : Hd := (none, 0)
def hA (hs : List Hd) (j : Nat) : Option Addr := (hs.getD j hz).1
def hC (hs : List Hd) (j : Nat) : Nat := (hs.getD j hz).2
def hv {α : Type} (y : List α × Hd) : Value := .slice y.2.1 y.1.length y.2.2
/-- where it lies; without the one that is open -/
def FPd (A : Option Addr) (hs : List Hd) (q0 : Option Nat) : List (Option Nat) := blk A :: ((List.range hs.length).filter fun j => decide (some j ≠ q0)).map fun j => blk (hA hs j)
structure DeepO {α : Type} (f : α → Value) (w : World) (B : Nat) (e e' : TypeId) (A : Option Addr) (c : Nat) (hs : List Hd) (xs : List (List α)) (q0 : Option Nat) : Prop where
  out : Own hv w B e A c (xs.zip hs)
  len : hs.length = xs.length
  inn : ∀ j, j < xs.length → some j ≠ q0 → Own f w B e' (hA hs j) (hC hs j) (xs.getD j [])
  dm : ∀ j, j < xs.length → some j ≠ q0 → Dj (blk A) (blk (hA hs j))
  dd : ∀ i j, i ≠ j → i < xs.length → j < xs.length → some i ≠ q0 → some j ≠ q0 → Dj (blk (hA hs i)) (blk (hA hs j))
section
variable {α : Type} {f : α → Value} {w w' : World} {B n : Nat} {e e' : TypeId} {A A' : Option Addr} {c c' : Nat} {hs : List Hd} {xs : List (List α)} {ys : List α} {q0 : Option Nat} {Q : Option Nat → Prop} {ps : List (Option Nat)} {row p : Option Nat} {j : Nat}
theorem allFPd : AllP Q (FPd A hs q0) ↔ Q (blk A) ∧ ∀ j, j < hs.length → some j ≠ q0 → Q (blk (hA hs j)) := by
  constructor
  · intro h
    exact ⟨h _ (List.Mem.head _), fun j hj hq => h _ (List.Mem.tail _ (List.mem_map.2 ⟨j, List.mem_filter.2 ⟨List.mem_range.2 hj, by simpa using hq⟩, rfl⟩))⟩
  · rintro ⟨h1, h2⟩ p hp
    cases hp with
    | head => exact h1
    | tail _ hp =>
      obtain ⟨j, hj, rfl⟩ := List.mem_map.1 hp
      obtain ⟨hm, hq⟩ := List.mem_filter.1 hj
      exact h2 j (List.mem_range.1 hm) (by simpa using hq)
theorem DeepO.goL (h : DeepO f w B e e' A c hs xs q0) (hg : GrL ps w w') (hd : AllP (fun r => AllP (Dj r) (FPd A hs q0)) ps) : DeepO f w' B e e' A c hs xs q0 :=
  ⟨h.out.goL hg fun p hp => ((allFPd.1 (hd p hp)).1).symm, h.len, fun j hj hq => (h.inn j hj hq).goL hg fun p hp => ((allFPd.1 (hd p hp)).2 j (by rw [h.len]; exact hj) hq).symm, h.dm, h.dd⟩
theorem DeepO.go (h : DeepO f w B e e' A c hs xs q0) (hg : w.grownBy w' row) (hd : AllP (Dj row) (FPd A hs q0)) : DeepO f w' B e e' A c hs xs q0 := h.goL (GrL.of1 hg) (apC hd apN)
theorem DeepO.g0 (h : DeepO f w B e e' A c hs xs q0) (hg : w.grownBy w' none) : DeepO f w' B e e' A c hs xs q0 := h.goL (ps := []) (GrL.of0 hg) apN
theorem DeepO.eqv (hw : Eqv w w') (h : DeepO f w B e e' A c hs xs q0) : DeepO f w' B e e' A c hs xs q0 := h.g0 (gr_eqv (gr_refl w none) hw)
theorem DeepO.lt' (h : DeepO f w B e e' A c hs xs q0) : AllP (fun p => Lt p w.heap.size) (FPd A hs q0) := allFPd.2 ⟨h.out.lt', fun j hj hq => (h.inn j (by rw [← h.len]; exact hj) hq).lt'⟩
theorem DeepO.ge' (h : DeepO f w B e e' A c hs xs q0) : AllP (fun p => Ge p B) (FPd A hs q0) := allFPd.2 ⟨h.out.ge', fun j hj hq => (h.inn j (by rw [← h.len]; exact hj) hq).ge'⟩
theorem DeepO.new (h : DeepO f w B e e' A c hs xs q0) (hp : Ge p w.heap.size) : AllP (Dj p) (FPd A hs q0) := fun r hr => (Dj.new (h.lt' r hr) hp).symm
theorem DeepO.inp (h : DeepO f w B e e' A c hs xs q0) (hp : InP ps w.heap.size p) (hd : AllP (fun r => AllP (Dj r) (FPd A hs q0)) ps) : AllP (Dj p) (FPd A hs q0) := fun r hr => InP.dj hp (h.lt' r hr) (fun s hs' => (hd s hs' r hr).symm)
theorem DeepO.app {p' : Option Nat} (h : DeepO f w B e e' A c hs xs q0) (k : AllP (Dj p) (FPd A hs q0)) (hk : ∀ g, p' = some g → p = some g ∨ w.heap.size ≤ g) : AllP (Dj p') (FPd A hs q0) := fun r hr => Dj.app (k r hr) (h.lt' r hr) hk
theorem zip_getDd {j : Nat} (hl : hs.length = xs.length) (hj : j < xs.length) : (xs.zip hs).getD j ([], hz) = (xs.getD j [], (hA hs j, hC hs j)) := by
  have h1 : j < hs.length := by omega
  have h2 : j < (xs.zip hs).length := by rw [List.length_zip]; omega
  have e1 : (xs.zip hs)[j]? = some (xs[j], hs[j]) := by rw [List.getElem?_eq_getElem h2, List.getElem_zip]
  have e2 : (xs.zip hs).getD j ([], hz) = (xs[j], hs[j]) := by rw [List.getD, e1]; rfl
  rw [e2]
  unfold hA hC
  simp [List.getD, hj, h1]
theorem zip_setd (hl : hs.length = xs.length) (j : Nat) (y : List α) (h : Hd) : (xs.zip hs).set j (y, h) = (xs.set j y).zip (hs.set j h) := by
  refine List.ext_getElem (by simp) fun i h1 h2 => ?_
  simp only [List.getElem_set, List.getElem_zip]
  split <;> rfl
theorem DeepO.zl (h : DeepO f w B e e' A c hs xs q0) : (xs.zip hs).length = xs.length := by rw [List.length_zip, h.len, Nat.min_self]
/-- an inner one is read -/
theorem DeepO.rd (h : DeepO f w B e e' A c hs xs none) (hj : j < xs.length) : Rd f w (hA hs j) (hC hs j) (xs.getD j []) := (h.inn j hj (by simp)).rd
/-- an inner one is opened -/
theorem DeepO.open (h : DeepO f w B e e' A c hs xs none) (hj : j < xs.length) : Own f w B e' (hA hs j) (hC hs j) (xs.getD j []) ∧ DeepO f w B e e' A c hs xs (some j) ∧ AllP (Dj (blk (hA hs j))) (FPd A hs (some j)) := by
  refine ⟨h.inn j hj (by simp), ⟨h.out, h.len, fun i hi _ => h.inn i hi (by simp), fun i hi _ => h.dm i hi (by simp), fun i k hik hi hk _ _ => h.dd i k hik hi hk (by simp) (by simp)⟩, allFPd.2 ⟨(h.dm j hj (by simp)).symm, fun i hi hq => ?_⟩⟩
  exact h.dd j i (fun e => hq (by rw [e])) hj (by rw [← h.len]; exact hi) (by simp) (by simp)
theorem FPd.sub (k : AllP Q (FPd A hs none)) : AllP Q (FPd A hs (some j)) := allFPd.2 ⟨(allFPd.1 k).1, fun i hi _ => (allFPd.1 k).2 i hi (by simp)⟩
theorem FPd.at (hl : j < hs.length) (k : AllP Q (FPd A hs none)) : Q (blk (hA hs j)) := (allFPd.1 k).2 j hl (by simp)
theorem DeepO.at (h : DeepO f w B e e' A c hs xs q0) (hj : j < xs.length) (k : AllP Q (FPd A hs none)) : Q (blk (hA hs j)) := FPd.at (by rw [h.len]; exact hj) k
theorem FPd.made {l : List (List α × Hd)} (k : Q (blk A)) (kl : AllP Q (l.map fun y => blk y.2.1)) : AllP Q (FPd A (l.map (·.2)) none) := by
  refine allFPd.2 ⟨k, fun j hj _ => ?_⟩
  rw [List.length_map] at hj
  refine kl _ ?_
  have : blk (hA (l.map (·.2)) j) = blk l[j].2.1 := by simp [hA, List.getD, hj]
  rw [this]
  exact List.mem_map.2 ⟨_, List.getElem_mem hj, rfl⟩
theorem FPd.closeA (k : AllP Q (FPd A hs (some j))) (k1 : Q (blk A')) : AllP Q (FPd A (hs.set j (A', c')) none) := by
  refine allFPd.2 ⟨(allFPd.1 k).1, fun i hi _ => ?_⟩
  rw [List.length_set] at hi
  unfold hA
  by_cases e : j = i
  · subst e
    have : (hs.set j (A', c')).getD j hz = (A', c') := by simp [List.getD, hi]
    rw [this]; exact k1
  · have : (hs.set j (A', c')).getD i hz = hs.getD i hz := by simp [List.getD, List.getElem?_set, e]
    rw [this]
    exact (allFPd.1 k).2 i hi (fun e2 => e (Option.some.inj e2).symm)
theorem DeepO.sub (h : DeepO f w B e e' A c hs xs none) (j : Nat) : DeepO f w B e e' A c hs xs (some j) := ⟨h.out, h.len, fun i hi _ => h.inn i hi (by simp), fun i hi _ => h.dm i hi (by simp), fun i k hik hi hk _ _ => h.dd i k hik hi hk (by simp) (by simp)⟩
/-- one is laid at a place -/
theorem DeepO.lay (h : DeepO f w B e e' A c hs xs (some j)) (hO : Own hv w' B e A c ((xs.zip hs).set j (ys, (A', c')))) (hg : w.grownBy w' (blk A)) (hj : j < xs.length) (hE : Own f w B e' A' c' ys) (hd : AllP (Dj (blk A')) (FPd A hs (some j))) : DeepO f w' B e e' A c (hs.set j (A', c')) (xs.set j ys) none := by
  have hd' := allFPd.1 hd
  have hjh : j < hs.length := by rw [h.len]; exact hj
  rw [zip_setd h.len] at hO
  have hA1 : hA (hs.set j (A', c')) j = A' := by unfold hA; simp [List.getD, hjh]
  have hC1 : hC (hs.set j (A', c')) j = c' := by unfold hC; simp [List.getD, hjh]
  have hA2 : ∀ {i}, j ≠ i → hA (hs.set j (A', c')) i = hA hs i := fun hi => by unfold hA; simp [List.getD, List.getElem?_set, hi]
  have hC2 : ∀ {i}, j ≠ i → hC (hs.set j (A', c')) i = hC hs i := fun hi => by unfold hC; simp [List.getD, List.getElem?_set, hi]
  have hX1 : (xs.set j ys).getD j [] = ys := by simp [List.getD, hj]
  have hX2 : ∀ {i}, j ≠ i → (xs.set j ys).getD i [] = xs.getD i [] := fun hi => by simp [List.getD, List.getElem?_set, hi]
  have hne : ∀ {i}, j ≠ i → some i ≠ some j := fun hi e2 => hi (Option.some.inj e2).symm
  refine ⟨hO, by rw [List.length_set, List.length_set]; exact h.len, fun i hi _ => ?_, fun i hi _ => ?_, fun i k hik hi hk _ _ => ?_⟩
  · rw [List.length_set] at hi
    by_cases e : j = i
    · subst e
      rw [hA1, hC1, hX1]
      exact hE.go hg hd'.1
    · rw [hA2 e, hC2 e, hX2 e]
      exact (h.inn i hi (hne e)).go hg (h.dm i hi (hne e)).symm
  · rw [List.length_set] at hi
    by_cases e : j = i
    · subst e
      rw [hA1]
      exact hd'.1.symm
    · rw [hA2 e]
      exact h.dm i hi (hne e)
  · rw [List.length_set] at hi hk
    by_cases e : j = i
    · subst e
      rw [hA1, hA2 hik]
      exact hd'.2 k (by rw [h.len]; exact hk) (hne hik)
    · by_cases e2 : j = k
      · subst e2
        rw [hA1, hA2 e]
        exact (hd'.2 i (by rw [h.len]; exact hi) (hne e)).symm
      · rw [hA2 e, hA2 e2]
        exact h.dd i k hik hi hk (hne e) (hne e2)
/-- closed as_ it was -/
theorem DeepO.back (h : DeepO f w B e e' A c hs xs (some j)) (hE : Own f w B e' (hA hs j) (hC hs j) (xs.getD j [])) (hd : AllP (Dj (blk (hA hs j))) (FPd A hs (some j))) : DeepO f w B e e' A c hs xs none := by
  have hd' := allFPd.1 hd
  refine ⟨h.out, h.len, fun i hi _ => ?_, fun i hi _ => ?_, fun i k hik hi hk _ _ => ?_⟩
  · by_cases e : i = j
    · subst e; exact hE
    · exact h.inn i hi (fun e2 => e (Option.some.inj e2))
  · by_cases e : i = j
    · subst e; exact hd'.1.symm
    · exact h.dm i hi (fun e2 => e (Option.some.inj e2))
  · by_cases e : i = j
    · subst e
      exact hd'.2 k (by rw [h.len]; exact hk) (fun e2 => hik (Option.some.inj e2).symm)
    · by_cases e2 : k = j
      · subst e2
        exact (hd'.2 i (by rw [h.len]; exact hi) (fun e3 => hik (Option.some.inj e3))).symm
      · exact h.dd i k hik hi hk (fun e3 => e (Option.some.inj e3)) (fun e3 => e2 (Option.some.inj e3))
/-- built of some that are there -/
theorem DeepO.made {l : List (List α × Hd)} (hO : Own hv w B e A c l) (h1 : ∀ y ∈ l, Own f w B e' y.2.1 y.2.2 y.1 ∧ Dj (blk A) (blk y.2.1)) (h2 : l.Pairwise fun y z => Dj (blk y.2.1) (blk z.2.1)) : DeepO f w B e e' A c (l.map (·.2)) (l.map (·.1)) none := by
  have hz2 : (l.map (·.1)).zip (l.map (·.2)) = l := by
    clear hO h1 h2
    induction l with
    | nil => rfl
    | cons y l ih => rw [List.map_cons, List.map_cons, List.zip_cons_cons, ih]
  have hat : ∀ {j}, j < (l.map (·.1)).length → ∃ hj : j < l.length, hA (l.map (·.2)) j = l[j].2.1 ∧ hC (l.map (·.2)) j = l[j].2.2 ∧ (l.map (·.1)).getD j [] = l[j].1 := fun {j} hj => by
    rw [List.length_map] at hj
    exact ⟨hj, by simp [hA, List.getD, hj], by simp [hC, List.getD, hj], by simp [List.getD, hj]⟩
  refine ⟨by rw [hz2]; exact hO, by rw [List.length_map, List.length_map], fun j hj _ => ?_, fun j hj _ => ?_, fun i j hij hi hj _ _ => ?_⟩
  · obtain ⟨h, e1, e2, e3⟩ := hat hj
    rw [e1, e2, e3]; exact (h1 _ (List.getElem_mem h)).1
  · obtain ⟨h, e1, _, _⟩ := hat hj
    rw [e1]; exact (h1 _ (List.getElem_mem h)).2
  · obtain ⟨h, e1, _, _⟩ := hat hi
    obtain ⟨h', e1', _, _⟩ := hat hj
    rw [e1, e1']
    rcases Nat.lt_or_gt_of_ne hij with hlt | hlt
    · exact (List.pairwise_iff_getElem.1 h2) i j h h' hlt
    · exact ((List.pairwise_iff_getElem.1 h2) j i h' h hlt).symm
/-- made: so many that are nil -/
theorem DeepO.rep (hO : Own hv w B e A c (List.replicate n (([], hz) : List α × Hd))) : DeepO f w B e e' A c (List.replicate n hz) (List.replicate n []) none := by
  have h := DeepO.made (f := f) (e' := e') hO (fun y hy => by rw [List.eq_of_mem_replicate hy]; exact ⟨Own.nil f w B e', Dj.nr⟩) (by
    rw [List.pairwise_iff_getElem]
    intro i j hi hj _
    rw [List.getElem_replicate]
    exact Dj.nl)
  rw [List.map_replicate, List.map_replicate] at h
  exact h
theorem FPd.rep (k : Q (blk A)) (k0 : Q none) : AllP Q (FPd A (List.replicate n hz) none) := by
  refine allFPd.2 ⟨k, fun j hj _ => ?_⟩
  rw [List.length_replicate] at hj
  have : hA (List.replicate n hz) j = none := by unfold hA; simp [List.getD, hj, hz]
  rw [this]; exact k0
/-! it goes on as_ one whose inner slices are read alone -/
def zipH {α : Type} (hs : List Hd) (xs : List (List α)) : List Hdr := List.zipWith (fun h x => ⟨h.1, x.length, h.2⟩) hs xs
theorem DeepO.zlen (h : DeepO f w B e e' A c hs xs q0) : (zipH hs xs).length = xs.length := by unfold zipH; rw [List.length_zipWith, h.len, Nat.min_self]
theorem zipH_map : ∀ (hs : List Hd) (xs : List (List α)), (xs.zip hs).map hv = (zipH hs xs).map vh
  | [], [] => rfl
  | [], _ :: _ => rfl
  | _ :: _, [] => rfl
  | h :: hs, x :: xs => by
    have := zipH_map hs xs
    unfold zipH at *
    rw [List.zip_cons_cons, List.map_cons, this, List.zipWith_cons_cons, List.map_cons]
    rfl
theorem DeepO.fdo (h : DeepO f w B e e' A c hs xs q0) : Own vh w B e A c (zipH hs xs) := by
  have h1 := h.out
  unfold Own at *
  rw [← zipH_map, h.zlen]
  rw [h.zl] at h1
  exact h1
theorem zipH_at {i : Nat} {h : Hdr} {x : List α} (hl : hs.length = xs.length) (e1 : (zipH hs xs)[i]? = some h) (e2 : xs[i]? = some x) : i < xs.length ∧ h.A = hA hs i ∧ h.n = x.length ∧ h.c = hC hs i ∧ xs.getD i [] = x := by
  obtain ⟨hi, rfl⟩ := List.getElem?_eq_some_iff.1 e2
  have h1 : i < hs.length := by omega
  have h2 : i < (zipH hs xs).length := by unfold zipH; rw [List.length_zipWith]; omega
  rw [List.getElem?_eq_getElem h2, Option.some.injEq] at e1
  subst e1
  have e3 : (zipH hs xs)[i] = ⟨hs[i].1, xs[i].length, hs[i].2⟩ := List.getElem_zipWith
  rw [e3]
  unfold hA hC
  simp [List.getD, h1, hi]
theorem DeepO.fdr (h : DeepO f w B e e' A c hs xs none) : RelD (DE.sl f) w (zipH hs xs) xs := ⟨h.zlen, fun i k x hk hx => by
  obtain ⟨hi, e1, e2, e3, e4⟩ := zipH_at h.len hk hx
  have := (h.inn i hi (by simp)).rd
  rw [e4] at this
  exact ⟨e2, by rw [e1, e3]; exact this⟩⟩
theorem DeepO.dnd (h : DeepO f w B e e' A c hs xs none) (k : AllP (Dj p) (FPd A hs none)) : DnD (DE.sl f) (zipH hs xs) xs p := fun i q x hk hx => by
  obtain ⟨hi, e1, e2, e3, e4⟩ := zipH_at h.len hk hx
  have := FPd.at (by rw [h.len]; exact hi) k
  show Dn x (blk q.A) p
  rw [e1]
  exact Dn.of this.symm
theorem DeepO.dself (h : DeepO f w B e e' A c hs xs none) : DnD (DE.sl f) (zipH hs xs) xs (blk A) := fun i q x hk hx => by
  obtain ⟨hi, e1, e2, e3, e4⟩ := zipH_at h.len hk hx
  show Dn x (blk q.A) (blk A)
  rw [e1]
  exact Dn.of (h.dm i hi (by simp)).symm
/-! the rules -/
variable {P : Program} {N : Nat} {L : Slots} {ty t : TypeId} {pos : String} {af : Array Edge} {dd : Option Tmp} {x y : Operand} {T : Tab}
theorem Yld.dloadR {u : Unit} (hT : T.Ok P) (hR : Rd hv w A c (xs.zip hs)) (hl : hs.length = xs.length) (hs1 : nk T.one t = some u) (hx : opv L x = some (.pointer (A.map (·.add j)))) (hj : j < xs.length) :
    Yld P N w ⟨dd, .load t x, ty, pos, af, none⟩ L (.slice (hA hs j) (xs.getD j []).length (hC hs j)) := by
  have := Yld.iload (P := P) (N := N) (ty := ty) (pos := pos) (af := af) (dd := dd) (([], hz) : List α × Hd) hT hR hs1 hx (by rw [List.length_zip, hl, Nat.min_self]; exact hj)
  rw [zip_getDd hl hj] at this
  exact this
theorem WL.dstore {ops : Array Oper} {R : Post} {rest : List Oper} (h1 : sz1 P t = true) (h : DeepO f w B e e' A c hs xs (some j)) (hx : opv L x = some (.pointer (A.map (·.add j)))) (hy : opv L y = some (.slice A' n c')) (hn : n = ys.length) (hj : j < xs.length) (hE : Own f w B e' A' c' ys) (hd : AllP (Dj (blk A')) (FPd A hs (some j)))
    (hk : ∀ w', DeepO f w' B e e' A c (hs.set j (A', c')) (xs.set j ys) none → w.grownBy w' (blk A) → WL P N ops R rest L w') : WL P N ops R (⟨none, .store t x y, ty, pos, af, none⟩ :: rest) L w := by
  subst hn
  exact WL.ostore (v := ((ys, (A', c')) : List α × Hd)) h1 (fun _ => rfl) h.out hx hy (by rw [h.zl]; exact hj) fun w' hO hg => hk w' (h.lay hO hg hj hE hd) hg
theorem Ef0.dstore (h1 : sz1 P t = true) (h : DeepO f w B e e' A c hs xs (some j)) (hx : opv L x = some (.pointer (A.map (·.add j)))) (hy : opv L y = some (.slice A' n c')) (hn : n = ys.length) (hj : j < xs.length) (hE : Own f w B e' A' c' ys) (hd : AllP (Dj (blk A')) (FPd A hs (some j))) :
    Ef0 P N w ⟨none, .store t x y, ty, pos, af, none⟩ L fun w' => DeepO f w' B e e' A c (hs.set j (A', c')) (xs.set j ys) none ∧ w.grownBy w' (blk A) := fun a w1 hw ha => by
  subst hn
  obtain ⟨w', e1, hO, hg⟩ := Ef0.ostore (P := P) (N := N) (ty := ty) (pos := pos) (af := af) (v := ((ys, (A', c')) : List α × Hd)) h1 (fun _ => rfl) h.out hx hy (by rw [h.zl]; exact hj) a w1 hw ha
  exact ⟨w', e1, h.lay hO hg hj hE hd, hg⟩
end
section
variable {P : Program} {N : Nat} {ops : Array Oper} {fl : Nat → Bool} {D : Nat → World → Prop} {Q : Post} {L : Slots} {w : World} {k d : Nat} {ty : TypeId} {pos : String} {af : Array Edge} {rest : List Oper}
theorem WJ.callv {R : Value → World → Prop} {g : FuncId} {x : Operand} {ao : List Operand} {ts : Array TypeId} {vs cs : List Value} (hf : fl k = false) (hd : Nat.blt d N = true) (hx : opv L x = some (.func (.func g) #[] ⟨cs⟩)) (hv : opvs L ao = some vs) (hc : Fn P g ⟨vs ++ cs⟩ w R) (hD : ∀ v w', R v w' → ∀ w2, Eqv w' w2 → DD .any ops fl D k w2)
    (hk : ∀ v w', R v w' → WJ P N ops fl D Q rest (k + 1) ((d, v) :: L) w') : WJ P N ops fl D Q (⟨some d, .call ⟨.value x, ⟨ao⟩, ts⟩, ty, pos, af, none⟩ :: rest) k L w := fun a w1 e ha => by
  unfold wpJ
  rw [hf]
  show sRun _ _ _ _ _ _ _
  unfold sRun
  rw [if_pos (Wants.wanted (o := ⟨some d, .call ⟨.value x, ⟨ao⟩, ts⟩, ty, pos, af, none⟩) (L := L) (N := N) (ops := ops) wants_none ha), run_callv ha hc.1 hx hv]
  refine (hc.2 w1 e).mono ?_
  rintro en w' ⟨v, w0, rfl, h0, hR⟩
  exact ⟨v, rfl, hD v w0 hR w' h0, hk v w0 hR _ w' h0 (ha.put hd v)⟩
end
end Go.Proofs.YtjhipfdbionpoaaGreatDoor


 /- Numbers sorted, and each once: the shelf's contracts in the generator's form. -/
namespace Go.Proofs.YtjhipfdbionpoaaGreatDoor
open Go Go.RowKit Go.Sort
def M_slices_Sort_int_int (xs : List Int) (K : List Int → Prop) : Prop := xs.length < 4611686018427387904 ∧ K (xs.mergeSort fun x y => decide (x ≤ y))
theorem W_slices_Sort_int_int {w : World} {xs : List Int} {A : Option Addr} {c n B : Nat} {e : TypeId} {K : List Int → Prop} (hO : Own vi w B e A c xs) (hn : n = xs.length) (H : M_slices_Sort_int_int xs K) :
    Fn Tryz.prog 36 ⟨[.slice A n c]⟩ w (fun v w' => ∃ ys : List Int, v = .tuple #[] ∧ Own vi w' B e A c ys ∧ w.grownBy w' (blk A) ∧ ys.length = xs.length ∧ K ys) := by
  subst hn
  refine ⟨by kernel_rfl, fun w1 e1 => ?_⟩
  have hO1 := own_eqv e1 hO
  rcases hO1.2 with ⟨hv, hn⟩ | ⟨g, cap, cur, hv, hb, hg, hnc, hcm, hcs, htake⟩
  · simp only [Value.slice.injEq] at hv
    obtain ⟨rfl, _, rfl⟩ := hv
    have : xs = [] := List.eq_nil_of_length_eq_zero hn
    subst this
    refine (Tryz.slices_Sort_int_none none 0 w1).mono fun _ w' ⟨he, hw⟩ => ⟨_, w, he, by rw [hw]; exact e1, [], rfl, hO, gr_refl _ _, rfl, ?_⟩
    simpa using H.2
  · simp only [Value.slice.injEq] at hv
    obtain ⟨rfl, _, rfl⟩ := hv
    refine (Tryz.slices_Sort_int g 0 c xs w1 (holds_of_blockI hg (show cur.toList.take xs.length = xs.map vi by simpa using htake)) (Array.getElem?_eq_some_iff.1 hg).1 H.1).mono fun _ w' ⟨he, q, os, hw⟩ => ?_
    have hl : (xs.mergeSort fun x y => decide (x ≤ y)).length = xs.length := List.length_mergeSort xs
    have h1 := ownsRow_sortedI (n := q) (os := os) hl hb hg hnc hcm hcs
    have h2 := grownBy_sortedI (w := w1) (g := g) (n := q) (os := os) (xs.mergeSort fun x y => decide (x ≤ y)).toArray
    rw [← hw] at h1 h2
    refine ⟨_, w', he, Eqv.refl _, _, rfl, ?_, eqv_gr e1 h2, hl, H.2⟩
    unfold Own
    rw [hl]
    exact h1
def M_slices_Compact_int_int (xs : List Int) (K : List Int → Prop) : Prop := K (Lib.compact xs)
theorem compact_leI (xs : List Int) : (Lib.compact xs).length ≤ xs.length := by
  unfold Lib.compact Lib.compactUpTo
  rw [List.length_map]
  exact Nat.le_trans (List.length_filter_le _ _) (by simp)
theorem W_slices_Compact_int_int {w : World} {xs : List Int} {A : Option Addr} {c n B : Nat} {e : TypeId} {K : List Int → Prop} (hO : Own vi w B e A c xs) (hn : n = xs.length) (H : M_slices_Compact_int_int xs K) :
    Fn Tryz.prog 37 ⟨[.slice A n c]⟩ w (fun v w' => ∃ ys : List Int, v = .slice A ys.length c ∧ Own vi w' B e A c ys ∧ w.grownBy w' (blk A) ∧ K ys) := by
  subst hn
  refine ⟨by kernel_rfl, fun w1 e1 => ?_⟩
  have hO1 := own_eqv e1 hO
  rcases hO1.2 with ⟨hv, hn⟩ | ⟨g, cap, cur, hv, hb, hg, hnc, hcm, hcs, htake⟩
  · simp only [Value.slice.injEq] at hv
    obtain ⟨rfl, _, rfl⟩ := hv
    have : xs = [] := List.eq_nil_of_length_eq_zero hn
    subst this
    exact (Tryz.slices_Compact_int_empty none 0 w1).mono fun _ w' ⟨he, hw⟩ => ⟨_, w, he, by rw [hw]; exact e1, [], rfl, hO, gr_refl _ _, H⟩
  · simp only [Value.slice.injEq] at hv
    obtain ⟨rfl, _, rfl⟩ := hv
    have hmx : xs.length ≤ 9223372036854775807 := by simp only [maxLen] at hcm; omega
    refine (Tryz.slices_Compact_int g 0 c xs w1 (holds_of_blockI hg (show cur.toList.take xs.length = xs.map vi by simpa using htake)) hmx hnc).mono fun _ w' ⟨he, q, hw⟩ => ?_
    have hle := compact_leI xs
    have hl : (Lib.compact xs ++ List.replicate (xs.length - (Lib.compact xs).length) 0).length = xs.length := by simp; omega
    have h1 := ownsRow_sortedI (n := q) (os := #[]) hl hb hg hnc hcm hcs
    have h2 := grownBy_sortedI (w := w1) (g := g) (n := q) (os := #[]) (Lib.compact xs ++ List.replicate (xs.length - (Lib.compact xs).length) 0).toArray
    rw [Sort.grow_empty, ← hw] at h1 h2
    have hO2 : Own vi w' B e (some ⟨g, 0, none⟩) c (Lib.compact xs ++ List.replicate (xs.length - (Lib.compact xs).length) 0) := by
      unfold Own
      rw [hl]
      exact h1
    have hO3 := hO2.take (Lib.compact xs).length (by rw [hl]; exact hle) (fun _ h => by cases h)
    rw [List.take_left' rfl] at hO3
    exact ⟨_, w', he, Eqv.refl _, _, rfl, hO3, eqv_gr e1 h2, H⟩
end Go.Proofs.YtjhipfdbionpoaaGreatDoor


 