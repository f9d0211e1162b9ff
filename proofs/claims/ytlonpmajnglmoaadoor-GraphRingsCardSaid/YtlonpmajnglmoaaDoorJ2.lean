/- Texts of this claim, joined by a program: Shelf, StrA, K, K2, Cat, GPa, GSa, Sent, GSb, Enc, Map, Mut, Deep, EncD, Pool, DeepO, CatI. -/
import Derived.Test.YtlonpmajnglmoaaDoorJ1
import Derived.Shelf.SlIter.Sorted
import Derived.Ground.GgzProg
import Derived.Shelf.Small.Bits
import Derived.Shelf.Small.Strs
import Derived.Shelf.Small.Wraps
import Derived.Shelf.Strconv.Itoa0
import Derived.Shelf.Strings.Search1
import Derived.Shelf.Strings.Search2
import Derived.Shelf.Strings.Search3
import Derived.Shelf.Strings.Cut
import Derived.Shelf.Strings.Count
import Derived.Shelf.LaysM
import Derived.Shelf.Strings.Shaped
import Derived.Shelf.Sort.Plain
import Derived.Shelf.Strings.Prefix
import Derived.Shelf.Strings.Split
import Derived.Shelf.Unicode.DecodeSlow
import Derived.Ground.Names2Prog
import Derived.Shelf.Slices.CompactI
import Derived.Shelf.Slices.CompactS
import Derived.Shelf.Slices.Cells
import Derived.Shelf.Slices.In.SortNone
import Derived.Ground.SlgnProg
import Derived.Shelf.SlicesE.Clone
import Derived.Test.YtlonpmajnglmoaaDoorProg
import Derived.Lib.SplitLaws
import Derived.Lib.SliceRun
import Derived.Sort.OwnSorted
import Derived.Maps.RangeRun
import Derived.Maps.Keyed
import Derived.Carry
import Derived.StringKeys
import Derived.Sort.OwnSortedInts
/-
  DERIVED: THE SHELF's CONTRACTS AT THIS DUMP, IN PLAIN WORDS (tools/lay-plain.mjs out of 'TrydShelf.lean', which tools/lay-shelf.mjs wrote): THE SAME DECLARATIONS UNDER THE SAME NAMES: 'import', 'namespace', 'open', 'def', 'theorem' AND NOTHING ELSE: no command of the shelf's: FOR A HAND-IN. Each laying: the table of numbers ('.._ren') and one theorem, a field a fact of the dump's own or the kernel's comparison; each contract: ONE APPLICATION.
-/
namespace Go.Proofs
open Go.Shelf
def Tryd.lays137_ren : Go.Shelf.Ren := ⟨fun | 137 => 170 | 217 => 171 | 266 => 197 | n => n, fun | 9 => 9 | 5 => 5 | 3 => 3 | n => n, fun | n => n⟩
theorem Tryd.lays137 : Go.Proofs.Lays.n137 Tryd.prog Tryd.lays137_ren := {
  mixed := by kernel_rfl
  f137 := Tryd.func170.trans (congrArg some (by kernel_rfl))
  f217 := Tryd.func171.trans (congrArg some (by kernel_rfl))
  f266 := Tryd.func197.trans (congrArg some (by kernel_rfl))
  t3 := Tryd.underlying3
  a3 := Tryd.isAgg3
  z3 := Tryd.sizeOf3
  v3 := Tryd.zeroValue3
  t5 := Tryd.underlying5
  a5 := Tryd.isAgg5
  z5 := Tryd.sizeOf5
  v5 := Tryd.zeroValue5
  t9 := Tryd.underlying9
  a9 := Tryd.isAgg9
  z9 := Tryd.sizeOf9
  v9 := Tryd.zeroValue9 }
open Go.RowKit in
/-- strings.IndexByte: "IndexByte returns the index of the first instance of c in s, or -1 if c is not present in s.": IT RETURNS 'Lib.indexByte s c'; the world is as_ it was. (LAID: no walk: one application.) -/
theorem Tryd.strings_IndexByte (s : ByteArray) (c : Int) (w : World) :
    Calls Tryd.prog 170 #[.string s, .int .u8 c] w fun e w' => e = .returned (.int .i64 (Lib.indexByte s.data.toList c.toNat.toUInt8)) ∧ w' = w := Any.strings_IndexByte Tryd.lays137 s c w
def Tryd.lays189_ren : Go.Shelf.Ren := ⟨fun | 189 => 91 | 125 => 107 | 257 => 122 | 128 => 139 | 129 => 140 | 294 => 148 | 295 => 149 | 296 => 150 | 297 => 151 | 298 => 152 | 299 => 153 | 216 => 154 | 300 => 155 | 301 => 156 | 328 => 184 | 329 => 176 | 330 => 177 | 331 => 185 | 332 => 186 | 215 => 187 | 343 => 201 | n => n, fun | 28 => 65 | 3 => 3 | 46 => 147 | 0 => 0 | 51 => 145 | 53 => 146 | 4 => 4 | 183 => 202 | 182 => 201 | 131 => 167 | 5 => 5 | 9 => 9 | 218 => 231 | 222 => 235 | 228 => 255 | 229 => 256 | n => n, fun | n => n⟩
theorem Tryd.lays189 : Go.Proofs.Lays.n189 Tryd.prog Tryd.lays189_ren := {
  mixed := by kernel_rfl
  f125 := Tryd.func107.trans (congrArg some (by kernel_rfl))
  f128 := Tryd.func139.trans (congrArg some (by kernel_rfl))
  f129 := Tryd.func140.trans (congrArg some (by kernel_rfl))
  f189 := Tryd.func91.trans (congrArg some (by kernel_rfl))
  f215 := Tryd.func187.trans (congrArg some (by kernel_rfl))
  f216 := Tryd.func154.trans (congrArg some (by kernel_rfl))
  f257 := Tryd.func122.trans (congrArg some (by kernel_rfl))
  f294 := Tryd.func148.trans (congrArg some (by kernel_rfl))
  f295 := Tryd.func149.trans (congrArg some (by kernel_rfl))
  f296 := Tryd.func150.trans (congrArg some (by kernel_rfl))
  f297 := Tryd.func151.trans (congrArg some (by kernel_rfl))
  f298 := Tryd.func152.trans (congrArg some (by kernel_rfl))
  f299 := Tryd.func153.trans (congrArg some (by kernel_rfl))
  f300 := Tryd.func155.trans (congrArg some (by kernel_rfl))
  f301 := Tryd.func156.trans (congrArg some (by kernel_rfl))
  f328 := Tryd.func184.trans (congrArg some (by kernel_rfl))
  f329 := Tryd.func176.trans (congrArg some (by kernel_rfl))
  f330 := Tryd.func177.trans (congrArg some (by kernel_rfl))
  f331 := Tryd.func185.trans (congrArg some (by kernel_rfl))
  f332 := Tryd.func186.trans (congrArg some (by kernel_rfl))
  f343 := Tryd.func201.trans (congrArg some (by kernel_rfl))
  t0 := Tryd.underlying0
  a0 := Tryd.isAgg0
  z0 := Tryd.sizeOf0
  v0 := Tryd.zeroValue0
  t3 := Tryd.underlying3
  a3 := Tryd.isAgg3
  z3 := Tryd.sizeOf3
  v3 := Tryd.zeroValue3
  t4 := Tryd.underlying4
  a4 := Tryd.isAgg4
  z4 := Tryd.sizeOf4
  v4 := Tryd.zeroValue4
  t5 := Tryd.underlying5
  a5 := Tryd.isAgg5
  z5 := Tryd.sizeOf5
  v5 := Tryd.zeroValue5
  t9 := Tryd.underlying9
  a9 := Tryd.isAgg9
  z9 := Tryd.sizeOf9
  v9 := Tryd.zeroValue9
  t28 := Tryd.underlying65
  a28 := Tryd.isAgg65
  z28 := Tryd.sizeOf65
  v28 := Tryd.zeroValue65
  t46 := Tryd.underlying147
  a46 := Tryd.isAgg147
  z46 := Tryd.sizeOf147
  v46 := Tryd.zeroValue147
  t51 := Tryd.underlying145
  a51 := Tryd.isAgg145
  z51 := Tryd.sizeOf145
  v51 := Tryd.zeroValue145
  t53 := Tryd.underlying146
  a53 := Tryd.isAgg146
  z53 := Tryd.sizeOf146
  v53 := Tryd.zeroValue146
  t131 := Tryd.underlying167
  a131 := Tryd.isAgg167
  z131 := Tryd.sizeOf167
  v131 := Tryd.zeroValue167
  t182 := Tryd.underlying201
  a182 := Tryd.isAgg201
  z182 := Tryd.sizeOf201
  v182 := Tryd.zeroValue201
  t183 := Tryd.underlying202
  a183 := Tryd.isAgg202
  z183 := Tryd.sizeOf202
  v183 := Tryd.zeroValue202
  t218 := Tryd.underlying231
  a218 := Tryd.isAgg231
  z218 := Tryd.sizeOf231
  v218 := Tryd.zeroValue231
  t222 := Tryd.underlying235
  a222 := Tryd.isAgg235
  z222 := Tryd.sizeOf235
  v222 := Tryd.zeroValue235
  t228 := Tryd.underlying255
  a228 := Tryd.isAgg255
  z228 := Tryd.sizeOf255
  v228 := Tryd.zeroValue255
  t229 := Tryd.underlying256
  a229 := Tryd.isAgg256
  z229 := Tryd.sizeOf256
  v229 := Tryd.zeroValue256 }
open Go.Sort Go.RowKit in
theorem Tryd.slices_Sort_int (blk off cap : Nat) (zs : List Int) (w : World) (hH : Holds (Value.int .i64) w blk off zs.toArray) (hblk : blk < w.heap.size) (hsz : zs.length < 4611686018427387904) :
    Calls Tryd.prog 91 #[.slice (some ⟨blk, off, none⟩) zs.length cap] w fun e w' =>
      e = .returned (.tuple #[]) ∧ ∃ n os, w' = grow (putRow (Value.int .i64) (Sort.ahead w n) blk off (zs.mergeSort fun x y => decide (x ≤ y)).toArray) os := Any.slices_Sort_int Tryd.lays189 blk off cap zs w hH hblk hsz
def Tryd.lays190_ren : Go.Shelf.Ren := ⟨fun | 190 => 98 | 125 => 107 | 258 => 124 | 128 => 139 | 129 => 140 | 302 => 158 | 303 => 159 | 304 => 160 | 305 => 161 | 306 => 162 | 307 => 163 | 308 => 164 | 309 => 165 | 310 => 166 | 333 => 190 | 329 => 176 | 330 => 177 | 334 => 191 | 335 => 192 | 336 => 193 | 344 => 202 | n => n, fun | 31 => 22 | 9 => 9 | 3 => 3 | 46 => 147 | 0 => 0 | 51 => 145 | 53 => 146 | 4 => 4 | 183 => 202 | 182 => 201 | 131 => 167 | 5 => 5 | 218 => 231 | 222 => 235 | 228 => 255 | 229 => 256 | n => n, fun | n => n⟩
theorem Tryd.lays190 : Go.Proofs.Lays.n190 Tryd.prog Tryd.lays190_ren := {
  mixed := by kernel_rfl
  f125 := Tryd.func107.trans (congrArg some (by kernel_rfl))
  f128 := Tryd.func139.trans (congrArg some (by kernel_rfl))
  f129 := Tryd.func140.trans (congrArg some (by kernel_rfl))
  f190 := Tryd.func98.trans (congrArg some (by kernel_rfl))
  f258 := Tryd.func124.trans (congrArg some (by kernel_rfl))
  f302 := Tryd.func158.trans (congrArg some (by kernel_rfl))
  f303 := Tryd.func159.trans (congrArg some (by kernel_rfl))
  f304 := Tryd.func160.trans (congrArg some (by kernel_rfl))
  f305 := Tryd.func161.trans (congrArg some (by kernel_rfl))
  f306 := Tryd.func162.trans (congrArg some (by kernel_rfl))
  f307 := Tryd.func163.trans (congrArg some (by kernel_rfl))
  f308 := Tryd.func164.trans (congrArg some (by kernel_rfl))
  f309 := Tryd.func165.trans (congrArg some (by kernel_rfl))
  f310 := Tryd.func166.trans (congrArg some (by kernel_rfl))
  f329 := Tryd.func176.trans (congrArg some (by kernel_rfl))
  f330 := Tryd.func177.trans (congrArg some (by kernel_rfl))
  f333 := Tryd.func190.trans (congrArg some (by kernel_rfl))
  f334 := Tryd.func191.trans (congrArg some (by kernel_rfl))
  f335 := Tryd.func192.trans (congrArg some (by kernel_rfl))
  f336 := Tryd.func193.trans (congrArg some (by kernel_rfl))
  f344 := Tryd.func202.trans (congrArg some (by kernel_rfl))
  t0 := Tryd.underlying0
  a0 := Tryd.isAgg0
  z0 := Tryd.sizeOf0
  v0 := Tryd.zeroValue0
  t3 := Tryd.underlying3
  a3 := Tryd.isAgg3
  z3 := Tryd.sizeOf3
  v3 := Tryd.zeroValue3
  t4 := Tryd.underlying4
  a4 := Tryd.isAgg4
  z4 := Tryd.sizeOf4
  v4 := Tryd.zeroValue4
  t5 := Tryd.underlying5
  a5 := Tryd.isAgg5
  z5 := Tryd.sizeOf5
  v5 := Tryd.zeroValue5
  t9 := Tryd.underlying9
  a9 := Tryd.isAgg9
  z9 := Tryd.sizeOf9
  v9 := Tryd.zeroValue9
  t31 := Tryd.underlying22
  a31 := Tryd.isAgg22
  z31 := Tryd.sizeOf22
  v31 := Tryd.zeroValue22
  t46 := Tryd.underlying147
  a46 := Tryd.isAgg147
  z46 := Tryd.sizeOf147
  v46 := Tryd.zeroValue147
  t51 := Tryd.underlying145
  a51 := Tryd.isAgg145
  z51 := Tryd.sizeOf145
  v51 := Tryd.zeroValue145
  t53 := Tryd.underlying146
  a53 := Tryd.isAgg146
  z53 := Tryd.sizeOf146
  v53 := Tryd.zeroValue146
  t131 := Tryd.underlying167
  a131 := Tryd.isAgg167
  z131 := Tryd.sizeOf167
  v131 := Tryd.zeroValue167
  t182 := Tryd.underlying201
  a182 := Tryd.isAgg201
  z182 := Tryd.sizeOf201
  v182 := Tryd.zeroValue201
  t183 := Tryd.underlying202
  a183 := Tryd.isAgg202
  z183 := Tryd.sizeOf202
  v183 := Tryd.zeroValue202
  t218 := Tryd.underlying231
  a218 := Tryd.isAgg231
  z218 := Tryd.sizeOf231
  v218 := Tryd.zeroValue231
  t222 := Tryd.underlying235
  a222 := Tryd.isAgg235
  z222 := Tryd.sizeOf235
  v222 := Tryd.zeroValue235
  t228 := Tryd.underlying255
  a228 := Tryd.isAgg255
  z228 := Tryd.sizeOf255
  v228 := Tryd.zeroValue255
  t229 := Tryd.underlying256
  a229 := Tryd.isAgg256
  z229 := Tryd.sizeOf256
  v229 := Tryd.zeroValue256 }
open Go.Sort Go.RowKit in
theorem Tryd.slices_Sort_string (blk off cap : Nat) (ss : List (List UInt8)) (w : World) (hH : Holds encStr w blk off ss.toArray) (hblk : blk < w.heap.size) (hsz : ss.length < 4611686018427387904) :
    Calls Tryd.prog 98 #[.slice (some ⟨blk, off, none⟩) ss.length cap] w fun e w' =>
      e = .returned (.tuple #[]) ∧ ∃ n os, w' = grow (putRow encStr (Sort.ahead w n) blk off (ss.mergeSort fun x y => decide (x ≤ y)).toArray) os := Any.slices_Sort_string Tryd.lays190 blk off cap ss w hH hblk hsz
def Tryd.lays146_ren : Go.Shelf.Ren := ⟨fun | 146 => 101 | 221 => 125 | 268 => 167 | 138 => 168 | 143 => 169 | 195 => 194 | 197 => 195 | 218 => 196 | 219 => 130 | 260 => 203 | 217 => 171 | 225 => 172 | 224 => 173 | 267 => 174 | 266 => 197 | 314 => 198 | n => n, fun | 9 => 9 | 31 => 22 | 3 => 3 | 4 => 4 | 0 => 0 | 105 => 251 | 21 => 21 | 5 => 5 | 46 => 147 | 119 => 260 | 139 => 263 | 138 => 262 | 146 => 253 | 51 => 145 | n => n, fun | 1 => 7 | 3 => 18 | 4 => 19 | n => n⟩
theorem Tryd.lays146 : Go.Proofs.Lays.n146 Tryd.prog Tryd.lays146_ren := {
  mixed := by kernel_rfl
  f138 := Tryd.func168.trans (congrArg some (by kernel_rfl))
  f143 := Tryd.func169.trans (congrArg some (by kernel_rfl))
  f146 := Tryd.func101.trans (congrArg some (by kernel_rfl))
  f195 := Tryd.func194.trans (congrArg some (by kernel_rfl))
  f197 := Tryd.func195.trans (congrArg some (by kernel_rfl))
  f217 := Tryd.func171.trans (congrArg some (by kernel_rfl))
  f218 := Tryd.func196.trans (congrArg some (by kernel_rfl))
  f219 := Tryd.func130.trans (congrArg some (by kernel_rfl))
  f221 := Tryd.func125.trans (congrArg some (by kernel_rfl))
  f224 := Tryd.func173.trans (congrArg some (by kernel_rfl))
  f225 := Tryd.func172.trans (congrArg some (by kernel_rfl))
  f260 := Tryd.func203.trans (congrArg some (by kernel_rfl))
  f266 := Tryd.func197.trans (congrArg some (by kernel_rfl))
  f267 := Tryd.func174.trans (congrArg some (by kernel_rfl))
  f268 := Tryd.func167.trans (congrArg some (by kernel_rfl))
  f314 := Tryd.func198.trans (congrArg some (by kernel_rfl))
  t0 := Tryd.underlying0
  a0 := Tryd.isAgg0
  z0 := Tryd.sizeOf0
  v0 := Tryd.zeroValue0
  t3 := Tryd.underlying3
  a3 := Tryd.isAgg3
  z3 := Tryd.sizeOf3
  v3 := Tryd.zeroValue3
  t4 := Tryd.underlying4
  a4 := Tryd.isAgg4
  z4 := Tryd.sizeOf4
  v4 := Tryd.zeroValue4
  t5 := Tryd.underlying5
  a5 := Tryd.isAgg5
  z5 := Tryd.sizeOf5
  v5 := Tryd.zeroValue5
  t9 := Tryd.underlying9
  a9 := Tryd.isAgg9
  z9 := Tryd.sizeOf9
  v9 := Tryd.zeroValue9
  t21 := Tryd.underlying21
  a21 := Tryd.isAgg21
  z21 := Tryd.sizeOf21
  v21 := Tryd.zeroValue21
  t31 := Tryd.underlying22
  a31 := Tryd.isAgg22
  z31 := Tryd.sizeOf22
  v31 := Tryd.zeroValue22
  t46 := Tryd.underlying147
  a46 := Tryd.isAgg147
  z46 := Tryd.sizeOf147
  v46 := Tryd.zeroValue147
  t51 := Tryd.underlying145
  a51 := Tryd.isAgg145
  z51 := Tryd.sizeOf145
  v51 := Tryd.zeroValue145
  t105 := Tryd.underlying251
  a105 := Tryd.isAgg251
  z105 := Tryd.sizeOf251
  v105 := Tryd.zeroValue251
  t119 := Tryd.underlying260
  a119 := Tryd.isAgg260
  z119 := Tryd.sizeOf260
  t138 := Tryd.underlying262
  a138 := Tryd.isAgg262
  z138 := Tryd.sizeOf262
  v138 := Tryd.zeroValue262
  t139 := Tryd.underlying263
  a139 := Tryd.isAgg263
  z139 := Tryd.sizeOf263
  v139 := Tryd.zeroValue263
  t146 := Tryd.underlying253
  a146 := Tryd.isAgg253
  z146 := Tryd.sizeOf253
  v146 := Tryd.zeroValue253
  g1 := by kernel_rfl
  g3 := by kernel_rfl
  g4 := by kernel_rfl }
open Go.RowKit Go.Lib in
/-- strings.Split. (LAID: no walk: one application.) -/
theorem Tryd.strings_Split (s sep : ByteArray) (m : Int) (w : World) (hs : s.size < 4294967281) (hm : w.cell? ⟨7, 0, none⟩ = some (.int .i64 m)) (h1 : 1 ≤ sep.size) :
    Calls Tryd.prog 101 #[.string s, .string sep] w fun e w' =>
      e = .returned (.slice (some ⟨w.heap.size, 0, none⟩) (Lib.countB s sep + 1) (Lib.countB s sep + 1)) ∧ w' = w.alloc (.cells ((Lib.splitB sep 0 (Lib.countB s sep) s).map Value.string).toArray 9) := Any.strings_Split Tryd.lays146 (by kernel_rfl) s sep m w hs hm h1
def Tryd.laysNm220_ren : Go.Shelf.Ren := ⟨fun | 20 => 92 | n => n, fun | 22 => 65 | 3 => 3 | 4 => 4 | 0 => 0 | n => n, fun | n => n⟩
theorem Tryd.laysNm220 : Go.Proofs.Lays2.n20 Tryd.prog Tryd.laysNm220_ren := {
  mixed := by kernel_rfl
  f20 := Tryd.func92.trans (congrArg some (by kernel_rfl))
  t0 := Tryd.underlying0
  a0 := Tryd.isAgg0
  z0 := Tryd.sizeOf0
  v0 := Tryd.zeroValue0
  t3 := Tryd.underlying3
  a3 := Tryd.isAgg3
  z3 := Tryd.sizeOf3
  v3 := Tryd.zeroValue3
  t4 := Tryd.underlying4
  a4 := Tryd.isAgg4
  z4 := Tryd.sizeOf4
  v4 := Tryd.zeroValue4
  t22 := Tryd.underlying65
  a22 := Tryd.isAgg65
  z22 := Tryd.sizeOf65
  v22 := Tryd.zeroValue65
  i3 := by kernel_rfl }
open Go.RowKit Go.Lib Go.Sort in
/-- slices.Compact at []int: "Compact replaces consecutive runs of equal elements with a single copy. This is like the uniq command found on Unix. Compact modifies the contents of the slice s and returns the modified slice, which may have a smaller length. Compact zeroes the elements between the new length and the original length. The result preserves the nilness of s.": IT RETURNS THE SLICE CUT TO 'Lib.compact zs'; ITS CELLS HOLD 'Lib.compact zs', THEN ZERO VALUES up to the old length; all else is as_ it was, but for the count of draws. IN THE WORDS OF slices.Sort's CONTRACT ('Holds', 'putRow'): so the everyday 'slices.Sort(xs); xs = slices.Compact(xs)' goes from the one contract to the other. It asks 'zs.length ≤ cap' (every slice's: the reslicing 's[:k]' looks at it). Length 0, nil: '.._empty'. (LAID: no walk: one application.) -/
theorem Tryd.slices_Compact_int (blk off cap : Nat) (zs : List Int) (w : World) (hH : Holds (Value.int .i64) w blk off zs.toArray) (hsz : zs.length ≤ 9223372036854775807) (hcap : zs.length ≤ cap) :
    Calls Tryd.prog 92 #[.slice (some ⟨blk, off, none⟩) zs.length cap] w fun e w' => e = .returned (.slice (some ⟨blk, off, none⟩) (Lib.compact zs).length cap) ∧ ∃ q, w' = putRow (Value.int .i64) (Sort.ahead w q) blk off (Lib.compact zs ++ List.replicate (zs.length - (Lib.compact zs).length) 0).toArray := Any.slices_Compact_int Tryd.laysNm220 blk off cap zs w hH hsz hcap
open Go.RowKit Go.Lib Go.Sort in
/-- The same at a slice of length 0, a nil one too: it comes back as_ it is. (LAID: no walk: one application.) -/
theorem Tryd.slices_Compact_int_empty (a : Option Addr) (cap : Nat) (w : World) :
    Calls Tryd.prog 92 #[.slice a 0 cap] w fun e w' => e = .returned (.slice a 0 cap) ∧ w' = w := Any.slices_Compact_int_empty Tryd.laysNm220 a cap w
def Tryd.lays194_ren : Go.Shelf.Ren := ⟨fun | 194 => 99 | n => n, fun | 31 => 22 | 9 => 9 | 3 => 3 | 4 => 4 | 0 => 0 | n => n, fun | n => n⟩
theorem Tryd.lays194 : Go.Proofs.Lays.n194 Tryd.prog Tryd.lays194_ren := {
  mixed := by kernel_rfl
  f194 := Tryd.func99.trans (congrArg some (by kernel_rfl))
  t0 := Tryd.underlying0
  a0 := Tryd.isAgg0
  z0 := Tryd.sizeOf0
  v0 := Tryd.zeroValue0
  t3 := Tryd.underlying3
  a3 := Tryd.isAgg3
  z3 := Tryd.sizeOf3
  v3 := Tryd.zeroValue3
  t4 := Tryd.underlying4
  a4 := Tryd.isAgg4
  z4 := Tryd.sizeOf4
  v4 := Tryd.zeroValue4
  t9 := Tryd.underlying9
  a9 := Tryd.isAgg9
  z9 := Tryd.sizeOf9
  v9 := Tryd.zeroValue9
  t31 := Tryd.underlying22
  a31 := Tryd.isAgg22
  z31 := Tryd.sizeOf22
  v31 := Tryd.zeroValue22 }
open Go.RowKit Go.Lib Go.Sort in
/-- slices.Compact at []string: "Compact replaces consecutive runs of equal elements with a single copy. This is like the uniq command found on Unix. Compact modifies the contents of the slice s and returns the modified slice, which may have a smaller length. Compact zeroes the elements between the new length and the original length. The result preserves the nilness of s.": IT RETURNS THE SLICE CUT TO 'Lib.compact zs'; ITS CELLS HOLD 'Lib.compact zs', THEN ZERO VALUES up to the old length; all else is as_ it was, but for the count of draws. IN THE WORDS OF slices.Sort's CONTRACT ('Holds', 'putRow'): so the everyday 'slices.Sort(xs); xs = slices.Compact(xs)' goes from the one contract to the other. It asks 'zs.length ≤ cap' (every slice's: the reslicing 's[:k]' looks at it). Length 0, nil: '.._empty'. (LAID: no walk: one application.) -/
theorem Tryd.slices_Compact_string (blk off cap : Nat) (zs : List (List UInt8)) (w : World) (hH : Holds encStr w blk off zs.toArray) (hsz : zs.length ≤ 9223372036854775807) (hcap : zs.length ≤ cap) :
    Calls Tryd.prog 99 #[.slice (some ⟨blk, off, none⟩) zs.length cap] w fun e w' => e = .returned (.slice (some ⟨blk, off, none⟩) (Lib.compact zs).length cap) ∧ ∃ q, w' = putRow encStr (Sort.ahead w q) blk off (Lib.compact zs ++ List.replicate (zs.length - (Lib.compact zs).length) []).toArray := Any.slices_Compact_string Tryd.lays194 blk off cap zs w hH hsz hcap
open Go.RowKit Go.Lib Go.Sort in
/-- The same at a slice of length 0, a nil one too: it comes back as_ it is. (LAID: no walk: one application.) -/
theorem Tryd.slices_Compact_string_empty (a : Option Addr) (cap : Nat) (w : World) :
    Calls Tryd.prog 99 #[.slice a 0 cap] w fun e w' => e = .returned (.slice a 0 cap) ∧ w' = w := Any.slices_Compact_string_empty Tryd.lays194 a cap w
open Go.RowKit Go.Sort in
/-- .. and plain. (LAID: no walk: one application.) -/
theorem Tryd.slices_Sort_string_none (p : Option Addr) (cap : Nat) (w : World) :
    Calls Tryd.prog 98 #[.slice p 0 cap] w fun e w' => e = .returned (.tuple #[]) ∧ w' = w := Any.slices_Sort_string_none Tryd.lays190 p cap w
open Go.RowKit Go.Sort in
/-- .. and plain. (LAID: no walk: one application.) -/
theorem Tryd.slices_Sort_int_none (p : Option Addr) (cap : Nat) (w : World) :
    Calls Tryd.prog 91 #[.slice p 0 cap] w fun e w' => e = .returned (.tuple #[]) ∧ w' = w := Any.slices_Sort_int_none Tryd.lays189 p cap w
end Go.Proofs

 /- The library's contracts (the kit's shelf) in the generator's form. -/
namespace Go.Proofs.YtlonpmajnglmoaaDoor
open Go Go.RowKit
theorem Fn.ofCalls {P : Program} {f : FuncId} {args : Array Value} {w : World} {v : Value} (hgo : goesIn P f = true) (h : ∀ w1, Calls P f args w1 fun e w' => e = .returned v ∧ w' = w1) : Fn P f args w (fun r w' => w = w' ∧ r = v) :=
  ⟨hgo, fun w1 e => (h w1).mono fun _ _ ⟨he, hw⟩ => ⟨v, w, he, by rw [hw]; exact e, rfl, rfl⟩⟩
def M_strings_IndexByte (s : List UInt8) (c : Int) (K : Int → Prop) : Prop := K (Lib.indexByte s c.toNat.toUInt8)
theorem W_strings_IndexByte {w : World} {s : List UInt8} {c : Int} {K : Int → Prop} (H : M_strings_IndexByte s c K) : Fn Tryd.prog 170 ⟨[vs s, .int .u8 c]⟩ w (fun v w' => w = w' ∧ ∃ r : Int, v = .int .i64 r ∧ K r) :=
  (Fn.ofCalls (by kernel_rfl) (fun w1 => Tryd.strings_IndexByte ⟨⟨s⟩⟩ c w1)).mono fun _ _ ⟨h1, h2⟩ => ⟨h1, _, h2, H⟩
def splitL (sep s : List UInt8) : List (List UInt8) := Lib.splitK sep 0 (Lib.countB ⟨⟨s⟩⟩ ⟨⟨sep⟩⟩) s
theorem splitL_map (sep s : List UInt8) : (Lib.splitB ⟨⟨sep⟩⟩ 0 (Lib.countB ⟨⟨s⟩⟩ ⟨⟨sep⟩⟩) ⟨⟨s⟩⟩).map Value.string = (splitL sep s).map vs := by
  have h := Lib.splitB_data ⟨⟨sep⟩⟩ 0 (Lib.countB ⟨⟨s⟩⟩ ⟨⟨sep⟩⟩) ⟨⟨s⟩⟩
  unfold splitL
  rw [show Lib.splitK sep 0 (Lib.countB ⟨⟨s⟩⟩ ⟨⟨sep⟩⟩) s = _ from h.symm, List.map_map]
  rfl
def M_strings_Split (s sep : List UInt8) (K : List (List UInt8) → Prop) : Prop := s.length < 4294967281 ∧ 1 ≤ sep.length ∧ K (splitL sep s)
theorem splitL_length {sep : List UInt8} (h : 1 ≤ sep.length) (s : List UInt8) : (splitL sep s).length = Lib.countB ⟨⟨s⟩⟩ ⟨⟨sep⟩⟩ + 1 := by
  have h1 := Lib.splitB_all ⟨⟨sep⟩⟩ h 0 _ ⟨⟨s⟩⟩ rfl
  have h2 := congrArg List.length (splitL_map sep s)
  simp only [List.length_map] at h2
  omega
theorem W_strings_Split {S : List Nat} {w : World} {s sep : List UInt8} {K : List (List UInt8) → Prop} (hG : GOK S w) (h100 : 100 ∈ S) (H : M_strings_Split s sep K) : Fn Tryd.prog 101 ⟨[vs s, vs sep]⟩ w (fun v w' => w.grownBy w' none ∧ ∃ (r : List (List UInt8)) (A : Option Addr) (c : Nat), v = .slice A r.length c ∧ Own vs w' w.heap.size 9 A c r ∧ K r) := by
  obtain ⟨m, hm⟩ := hG.ml h100
  refine ⟨by kernel_rfl, fun w1 e => (Tryd.strings_Split ⟨⟨s⟩⟩ ⟨⟨sep⟩⟩ m w1 H.1 (by rw [e.cell]; exact hm) H.2.1).mono fun _ w' ⟨he, hw⟩ => ?_⟩
  have hlen := splitL_length H.2.1 s
  obtain ⟨hB, hg⟩ := newBlock w1 e ((splitL sep s).map vs) 9
  have hw' : w' = w1.alloc (.cells ⟨(splitL sep s).map vs⟩ 9) := by rw [hw, splitL_map]
  rw [← hw'] at hB hg
  have hml : (splitL sep s).length ≤ maxLen := by
    have h3 := Lib.countB_le ⟨⟨sep⟩⟩ H.2.1 s.length ⟨⟨s⟩⟩ (Nat.le_refl _)
    have h3' : Lib.countB ⟨⟨s⟩⟩ ⟨⟨sep⟩⟩ ≤ s.length := h3
    have h4 := H.1
    simp only [maxLen]
    omega
  exact ⟨_, w', he, Eqv.refl _, hg, splitL sep s, some ⟨w.heap.size, 0, none⟩, Lib.countB ⟨⟨s⟩⟩ ⟨⟨sep⟩⟩ + 1, by rw [e.heap, hlen], Own.ofBl hB (Nat.le_refl _) hml hlen.symm, H.2.2⟩
end Go.Proofs.YtlonpmajnglmoaaDoor


 /- Slices whose elements take k cells each: structs and arrays; their rules. -/
namespace Go.Proofs.YtlonpmajnglmoaaDoor
open Go Go.RowKit

/-- f's values take k cells. -/
structure OneK {α : Type} (k : Nat) (f : α → List Value) : Prop where
  pos : 0 < k
  len : ∀ x, (f x).length = k
  one : ∀ x, ∀ u ∈ f x, u.oneCell' = true
structure RdK {α : Type} (k : Nat) (f : α → List Value) (w : World) (A : Option Addr) (c : Nat) (xs : List α) : Prop where
  ok : OneK k f
  cap : xs.length ≤ c
  max : c ≤ maxLen
  cells : xs ≠ [] → ∃ g o, A = some ⟨g, o, none⟩ ∧ ∀ j x i u, xs[j]? = some x → (f x)[i]? = some u → w.cell? ⟨g, o + (j * k + i), none⟩ = some u
def OwnK {α : Type} (k : Nat) (f : α → List Value) (w : World) (B : Nat) (e : TypeId) (A : Option Addr) (c : Nat) (xs : List α) : Prop := OneK k f ∧ w.ownsRow B e k (.slice A xs.length c) xs.length (xs.flatMap f)

section
variable {α : Type} {k : Nat} {f : α → List Value}
theorem OneK.flen (h : OneK k f) : ∀ xs : List α, (xs.flatMap f).length = xs.length * k
  | [] => by simp
  | x :: xs => by simp [List.flatMap_cons, h.flen xs, h.len x, Nat.add_mul, Nat.add_comm]
theorem OneK.fget (h : OneK k f) : ∀ (xs : List α) (j : Nat) (x : α) (i : Nat), xs[j]? = some x → i < k → (xs.flatMap f)[j * k + i]? = (f x)[i]?
  | [], _, _, _, hx, _ => by simp at hx
  | y :: xs, 0, x, i, hx, hi => by
    simp only [List.getElem?_cons_zero, Option.some.injEq] at hx
    subst hx
    rw [List.flatMap_cons, Nat.zero_mul, Nat.zero_add, List.getElem?_append_left (by rw [h.len]; exact hi)]
  | y :: xs, j + 1, x, i, hx, hi => by
    have e : (j + 1) * k + i = (f y).length + (j * k + i) := by rw [h.len, Nat.add_mul]; omega
    rw [List.flatMap_cons, e, List.getElem?_append_right (by omega)]
    simp only [Nat.add_sub_cancel_left]
    exact h.fget xs j x i (by simpa using hx) hi
theorem OneK.fset (h : OneK k f) : ∀ (xs : List α) (j : Nat) (y : α), j < xs.length → (xs.set j y).flatMap f = (xs.flatMap f).take (j * k) ++ f y ++ (xs.flatMap f).drop (j * k + k)
  | [], _, _, hj => by simp at hj
  | x :: xs, 0, y, _ => by
    have e : List.drop (0 * k + k) (f x ++ xs.flatMap f) = xs.flatMap f := by rw [Nat.zero_mul, Nat.zero_add, List.drop_left' (h.len x)]
    rw [List.set_cons_zero, List.flatMap_cons, List.flatMap_cons, e]
    simp
  | x :: xs, j + 1, y, hj => by
    have e1 : (j + 1) * k = (f x).length + j * k := by rw [h.len, Nat.add_mul]; omega
    have e2 : (j + 1) * k + k = (f x).length + (j * k + k) := by rw [e1]; omega
    rw [List.set_cons_succ, List.flatMap_cons, List.flatMap_cons, h.fset xs j y (by simpa using hj), e2, e1, List.take_length_add_append, List.drop_length_add_append]
    simp
theorem OneK.fset1 (h : OneK k f) {xs : List α} {j : Nat} {x y : α} {i : Nat} {u : Value} (hx : xs[j]? = some x) (hi : i < k) (hy : f y = (f x).set i u) : (xs.set j y).flatMap f = (xs.flatMap f).set (j * k + i) u := by
  have hj : j < xs.length := by
    rcases Nat.lt_or_ge j xs.length with h1 | h1
    · exact h1
    · rw [List.getElem?_eq_none h1] at hx; cases hx
  have hl := h.flen xs
  have hjk : j * k + k ≤ xs.length * k := by rw [← Nat.succ_mul]; exact Nat.mul_le_mul_right k hj
  rw [h.fset xs j y hj, hy]
  have hmid : ((xs.flatMap f).drop (j * k)).take k = f x := by
    apply List.ext_getElem?
    intro p
    by_cases hp : p < k
    · rw [List.getElem?_take, if_pos hp, List.getElem?_drop, h.fget xs j x p hx hp]
    · rw [List.getElem?_eq_none (by simp; omega), List.getElem?_eq_none (by rw [h.len]; omega)]
  have hsplit : xs.flatMap f = (xs.flatMap f).take (j * k) ++ (f x ++ (xs.flatMap f).drop (j * k + k)) := by
    rw [← hmid, ← List.drop_drop, List.take_append_drop, List.take_append_drop]
  generalize hq : xs.flatMap f = q at *
  have ht : (q.take (j * k)).length = j * k := by simp; omega
  have e3 : q.set (j * k + i) u = (q.take (j * k) ++ (f x ++ q.drop (j * k + k))).set (j * k + i) u := by rw [← hsplit]
  rw [e3, List.set_append_right _ _ (by omega), ht, Nat.add_sub_cancel_left, List.set_append_left _ _ (by rw [h.len]; exact hi), List.append_assoc]
theorem OneK.mem (h : OneK k f) {xs : List α} : ∀ u ∈ xs.flatMap f, u.oneCell' = true := fun u hu => by
  obtain ⟨x, _, hx⟩ := List.mem_flatMap.1 hu
  exact h.one x u hx
end

section
variable {α : Type} {k : Nat} {f : α → List Value} {w w' : World} {A : Option Addr} {c B g : Nat} {xs : List α} {e : TypeId} {row : Option Nat}
theorem RdK.nil (h : OneK k f) (w : World) {A : Option Addr} {c : Nat} (hc : c ≤ maxLen) : RdK k f w A c [] := ⟨h, Nat.zero_le _, hc, fun h => absurd rfl h⟩
theorem RdK.lt (h : RdK k f w A c xs) (hx : xs ≠ []) {g : Nat} (hg : blk A = some g) : g < w.heap.size := by
  obtain ⟨g', o, rfl, hc⟩ := h.cells hx
  obtain ⟨x, l, rfl⟩ := List.exists_cons_of_ne_nil hx
  have h0 : 0 < (f x).length := by rw [h.ok.len]; exact h.ok.pos
  have := World.block_lt_of_cell? w _ (hc 0 x 0 _ rfl (List.getElem?_eq_getElem h0))
  simp only [blk, Option.map_some, Option.some.injEq] at hg
  subst hg
  exact this
theorem RdK.keep (h : RdK k f w A c xs) (hg : w.grownBy w' row) (hne : xs ≠ [] → ∀ g, row = some g → blk A ≠ some g) : RdK k f w' A c xs :=
  ⟨h.ok, h.cap, h.max, fun hx => by
    obtain ⟨g', o, rfl, hc⟩ := h.cells hx
    refine ⟨g', o, rfl, fun j x i u hj hi => hg.cell (hc j x i u hj hi) (fun e => ?_)⟩
    exact hne hx _ e.symm (by simp [blk])⟩
theorem RdK.grown (h : RdK k f w A c xs) (hg : w.grownBy w' none) : RdK k f w' A c xs := h.keep hg (by simp)
theorem RdK.go (h : RdK k f w A c xs) (hg : w.grownBy w' row) (hd : Dn xs (blk A) row) : RdK k f w' A c xs := h.keep hg fun hx g e k => hd hx g k e
theorem RdK.lt' (h : RdK k f w A c xs) (hx : xs ≠ []) : Lt (blk A) w.heap.size := fun _ hg => h.lt hx hg
theorem RdK.eqv (hw : Eqv w w') (h : RdK k f w A c xs) : RdK k f w' A c xs := h.grown (gr_eqv (gr_refl w none) hw)
theorem RdK.cut (h : RdK k f w A c xs) {l m : Nat} (hl : l ≤ m) (hm : m ≤ xs.length) : RdK k f w (if c = l then A else A.map (·.add (l * k))) (c - l) ((xs.drop l).take (m - l)) := by
  have hlen : ((xs.drop l).take (m - l)).length = m - l := by simp; omega
  refine ⟨h.ok, by have := h.cap; omega, by have := h.max; omega, fun hx => ?_⟩
  have hx' : 0 < m - l := by
    rw [← hlen]
    exact List.length_pos_iff.2 hx
  obtain ⟨g', o, rfl, hc⟩ := h.cells (fun e => by rw [e] at hm; simp at hm; omega)
  rw [if_neg (by have := h.cap; omega)]
  refine ⟨g', o + l * k, by simp [Addr.add_mid], fun j x i u hj hi => ?_⟩
  have := hc (l + j) x i u (by
    rw [List.getElem?_take] at hj
    split at hj
    · rw [List.getElem?_drop] at hj; exact hj
    · cases hj) hi
  rw [show o + l * k + (j * k + i) = o + ((l + j) * k + i) by rw [Nat.add_mul]; omega]
  exact this
theorem OwnK.nil (h : OneK k f) (w : World) (B : Nat) (e : TypeId) : OwnK k f w B e none 0 [] := ⟨h, World.ownsRow_nil w B e k⟩
theorem OwnK.rd (h : OwnK k f w B e A c xs) : RdK k f w A c xs := by
  have h2 := h.2
  rcases h2.2 with ⟨hv, hn⟩ | ⟨g, cap, cur, hv, hb, hg, hnc, hcm, hcs, htake⟩
  · simp only [Value.slice.injEq] at hv
    obtain ⟨rfl, _, rfl⟩ := hv
    have : xs = [] := List.eq_nil_of_length_eq_zero hn
    subst this
    exact RdK.nil h.1 w (Nat.zero_le _)
  · simp only [Value.slice.injEq] at hv
    obtain ⟨rfl, _, rfl⟩ := hv
    refine ⟨h.1, hnc, hcm, fun _ => ⟨g, 0, rfl, fun j x i u hj hi => ?_⟩⟩
    have hik : i < k := by
      rcases Nat.lt_or_ge i k with h1 | h1
      · exact h1
      · rw [List.getElem?_eq_none (by rw [h.1.len]; exact h1)] at hi; cases hi
    have := h2.cells (g := g) rfl (j * k + i) u (by rw [h.1.fget xs j x i hj hik]; exact hi)
    rwa [Addr.add_mid] at this
theorem OwnK.keep (h : OwnK k f w B e A c xs) (hg : w.grownBy w' row) (hne : ∀ g, row = some g → blk A ≠ some g) : OwnK k f w' B e A c xs := by
  refine ⟨h.1, World.ownsRow.kept h.2 hg ?_⟩
  cases A with
  | none => exact .inl rfl
  | some a =>
    refine .inr ?_
    simp only [Value.ownBlock]
    intro e
    exact hne _ e.symm (by simp [blk])
theorem OwnK.grown (h : OwnK k f w B e A c xs) (hg : w.grownBy w' none) : OwnK k f w' B e A c xs := h.keep hg (by simp)
theorem OwnK.go (h : OwnK k f w B e A c xs) (hg : w.grownBy w' row) (hd : Dj (blk A) row) : OwnK k f w' B e A c xs := h.keep hg fun g e k => hd g k e
theorem OwnK.lt (h : OwnK k f w B e A c xs) {g : Nat} (hg : blk A = some g) : B ≤ g ∧ g < w.heap.size := by
  refine World.ownsRow.lt h.2 g ?_
  cases A with
  | none => simp [blk] at hg
  | some a => simpa [blk, Value.ownBlock] using hg
theorem OwnK.lt' (h : OwnK k f w B e A c xs) : Lt (blk A) w.heap.size := fun _ hg => (h.lt hg).2
theorem OwnK.ge' (h : OwnK k f w B e A c xs) : Ge (blk A) B := fun _ hg => (h.lt hg).1
theorem OwnK.eqv (hw : Eqv w w') (h : OwnK k f w B e A c xs) : OwnK k f w' B e A c xs := h.grown (gr_eqv (gr_refl w none) hw)
theorem OwnK.base {B' : Nat} (h : OwnK k f w B e A c xs) (hB : ∀ g, blk A = some g → B' ≤ g) : OwnK k f w B' e A c xs := by
  refine ⟨h.1, h.2.1, ?_⟩
  rcases h.2.2 with hn | ⟨g, cap, cur, hv, hb, rest⟩
  · exact .inl hn
  · refine .inr ⟨g, cap, cur, hv, ?_, rest⟩
    simp only [Value.slice.injEq] at hv
    exact hB g (by rw [hv.1]; rfl)
theorem OwnK.ofBl {m : Nat} (ho : OneK k f) (h : Bl w g e (xs.flatMap f)) (hB : B ≤ g) (hm : xs.length ≤ maxLen) (hn : m = xs.length) : OwnK k f w B e (some ⟨g, 0, none⟩) m xs := by
  subst hn
  refine ⟨ho, ho.flen xs, .inr ⟨g, _, _, rfl, hB, h, Nat.le_refl _, hm, by simpa using ho.flen xs, ?_⟩⟩
  rw [← ho.flen xs]
  exact List.take_length
theorem OwnK.take (h : OwnK k f w B e A c xs) (m : Nat) (hm : m ≤ xs.length) : OwnK k f w B e A c (xs.take m) := by
  rcases h.2.2 with ⟨hv, hn⟩ | ⟨g, cap, cur, hv, hb, hg, hnc, hcm, hcs, htake⟩
  · simp only [Value.slice.injEq] at hv
    obtain ⟨rfl, _, rfl⟩ := hv
    have : xs = [] := List.eq_nil_of_length_eq_zero hn
    subst this
    simpa using OwnK.nil h.1 w B e
  · simp only [Value.slice.injEq] at hv
    obtain ⟨rfl, _, rfl⟩ := hv
    have hl : (xs.take m).length = m := by simp; omega
    refine ⟨h.1, h.1.flen _, .inr ⟨g, c, cur, rfl, hb, hg, by omega, hcm, hcs, ?_⟩⟩
    rw [hl]
    have e1 : (xs.take m).flatMap f = (xs.flatMap f).take (m * k) := by
      have h2 := h.1.flen (xs.take m)
      rw [hl] at h2
      have h3 : xs.flatMap f = (xs.take m).flatMap f ++ (xs.drop m).flatMap f := by rw [← List.flatMap_append, List.take_append_drop]
      rw [h3, List.take_left' h2]
    rw [e1, ← htake, List.take_take, Nat.min_eq_left (Nat.mul_le_mul_right k hm)]
end

/-- elements' types of slices: size, bytes -/
def ckOwK (P : Program) (t e k b : Nat) : Bool := match P.underlying t with
  | some (.slice e') => Nat.beq e' e && (match P.info? e with
    | some i => Nat.beq i.size k && Nat.beq i.bytes b && (match i.zero with | some z => Nat.beq z.cells.size k | none => false)
    | _ => false)
  | _ => false
theorem ckOwK_spec {P : Program} {t e k b : Nat} (h : ckOwK P t e k b = true) : P.underlying t = some (.slice e) ∧ ∃ i z, P.info? e = some i ∧ i.zero = some z ∧ i.size = k ∧ i.bytes = b ∧ z.cells.size = k := by
  unfold ckOwK at h
  split at h
  · rename_i e' he
    simp only [Bool.and_eq_true] at h
    have h1 := Nat.eq_of_beq_eq_true h.1
    subst h1
    refine ⟨he, ?_⟩
    have h2 := h.2
    split at h2
    · rename_i i hi
      simp only [Bool.and_eq_true] at h2
      obtain ⟨⟨h3, h4⟩, h5⟩ := h2
      split at h5
      · rename_i z hz
        exact ⟨i, z, hi, hz, Nat.eq_of_beq_eq_true h3, Nat.eq_of_beq_eq_true h4, Nat.eq_of_beq_eq_true h5⟩
      · cases h5
    · cases h2
  · cases h

section rules
variable {P : Program} {T : Tab} {N : Nat} {ops : Array Oper} {Q : Post} {L : Slots} {w w0 : World} {rest : List Oper} {d : Nat} {dd : Option Tmp} {ty : TypeId} {pos : String} {af : Array Edge} {t t' : TypeId} {x y i : Operand} {kk kk' : IntKind} {q : Int}
variable {α : Type} {k : Nat} {f : α → List Value} {A : Option Addr} {c n B : Nat} {xs ys : List α} {e : TypeId} {us : List Value}
theorem Yld.iaddrK {e : TypeId} (hT : T.Ok P) (hR : RdK k f w0 A c xs) (hs : nk T.sl t = some (e, k)) (hx : opv L x = some (.slice A n c)) (hn : n = xs.length) (hi : opv L i = some (.int kk q)) (h0 : 0 ≤ q) (h1 : q < n) :
    Yld P N w ⟨dd, .indexAddr t x i, ty, pos, af, none⟩ L (.pointer (A.map (·.add (q.toNat * k)))) := fun a w1 _ ha => by
  obtain ⟨hu, j, hj, hj1⟩ := hT.sl hs
  obtain ⟨g, o, rfl, _⟩ := hR.cells (fun e => by rw [e] at hn; simp at hn; omega)
  unfold execOp
  simp [ha.ev hx, ha.ev hi, Instr.indexAt, run_underlying hu, asIntOf, h0, h1, sizeOf, typeInfo, hj, hj1]
theorem Yld.faddrK {m fi o j : Nat} {s : TypeId} {os : List Nat} (hT : T.Ok P) (hR : RdK k f w0 A c xs) (hj : j < xs.length) (hos : nk T.off s = some os) (ho : os[fi]? = some o) (hx : opv L x = some (.pointer (A.map (·.add m)))) :
    Yld P N w ⟨dd, .fieldAddr s x fi, ty, pos, af, none⟩ L (.pointer (A.map (·.add (m + o)))) := fun a w1 _ ha => by
  obtain ⟨g, p, rfl, _⟩ := hR.cells (fun e => by rw [e] at hj; simp at hj)
  obtain ⟨fs, hfs, hall⟩ := hT.off hos
  obtain ⟨fd, hfd, rfl, i, hi, hi0⟩ := hall _ _ ho
  unfold execOp
  simp [ha.ev hx, Instr.fieldAt, run_underlying hfs, hfd, Instr.sureAddr, fieldPlace, sizeOf, typeInfo, hi, hi0, Addr.add_mid, Nat.add_assoc]
theorem RdK.cellsAt (hR : RdK k f w A c xs) (dv : α) {j : Nat} (hj : j < xs.length) : ∃ g o, A = some ⟨g, o, none⟩ ∧ ∀ i u, (f (xs.getD j dv))[i]? = some u → w.cell? ⟨g, o + (j * k + i), none⟩ = some u := by
  obtain ⟨g, o, hA, hc⟩ := hR.cells (fun e => by rw [e] at hj; simp at hj)
  exact ⟨g, o, hA, fun i u hi => hc j _ i u (by simp [List.getD, hj]) hi⟩
theorem Yld.iloadK (dv : α) {j : Nat} (hT : T.Ok P) (hR : RdK k f w A c xs) (hs : nk T.agg t = some k) (hx : opv L x = some (.pointer (A.map (·.add (j * k))))) (hj : j < xs.length) :
    Yld P N w ⟨dd, .load t x, ty, pos, af, none⟩ L (.agg ⟨f (xs.getD j dv)⟩) := fun a w1 hw ha => by
  obtain ⟨⟨de, hu, hr⟩, i, hi, hi1⟩ := hT.agg hs
  obtain ⟨g, o, rfl, hc⟩ := hR.cellsAt dv hj
  have hrow : de.isRow = true := by cases de <;> simp_all [isRow]
  have := run_loadVar_mid (P := P) w1 g (o + j * k) t (f (xs.getD j dv)) de (fun p v hv' => by
    rw [hw.cell, Nat.add_assoc]
    exact hc p v hv') hu hrow (by simp [hi, hi1, hR.ok.len])
  unfold execOp
  simp only [ha.ev hx, Option.map_some, Addr.add_mid, Instr.loadAt, Instr.sureAddr, Sem.run_bind, Sem.run_pure, Result.andThen_ok, this]
theorem Yld.iloadF (dv : α) {j o : Nat} {u : Unit} {v : Value} (hT : T.Ok P) (hR : RdK k f w A c xs) (hs : nk T.one t = some u) (hx : opv L x = some (.pointer (A.map (·.add (j * k + o))))) (hj : j < xs.length) (hv : (f (xs.getD j dv))[o]? = some v) :
    Yld P N w ⟨dd, .load t x, ty, pos, af, none⟩ L v := by
  obtain ⟨g, p, rfl, hc⟩ := hR.cellsAt dv hj
  exact Yld.cell hT (hc o v hv) hs (by rw [hx, Option.map_some, Addr.add_mid])
/-- x[i].f = v in a slice of the call's own -/
theorem Ef0.ostoreF {j o : Nat} {u : Value} {v : α} (dv : α) (h1 : sz1 P t = true) (hu : u.oneCell' = true) (hO : OwnK k f w B e A c xs) (hx : opv L x = some (.pointer (A.map (·.add (j * k + o))))) (hy : opv L y = some u) (hj : j < xs.length) (ho : Nat.blt o k = true) (hv : f v = (f (xs.getD j dv)).set o u) :
    Ef0 P N w ⟨none, .store t x y, ty, pos, af, none⟩ L fun w' => OwnK k f w' B e A c (xs.set j v) ∧ w.grownBy w' (blk A) := by
  have ho : o < k := by simpa [Nat.blt_eq] using ho
  rcases hO.2.2 with ⟨hv, hn⟩ | ⟨g, cap, cur, hs, hb, hg, hnc, hcm, hcs, htake⟩
  · omega
  · simp only [Value.slice.injEq] at hs
    obtain ⟨rfl, _, rfl⟩ := hs
    have hcl : cur.toList.length = c * k := by simpa using hcs
    have hjk : j * k + k ≤ c * k := by rw [← Nat.succ_mul]; exact Nat.mul_le_mul_right k (by omega)
    have hxj : xs[j]? = some (xs.getD j dv) := by simp [List.getD, hj]
    have h := Ef0.store1 (P := P) (N := N) (L := L) (w := w) (ty := ty) (pos := pos) (af := af) (g := g) (o := j * k + o) (e := e) (us := cur.toList) h1 (by rw [hx, Option.map_some, Addr.add_mid, Nat.zero_add]) hy hu (by unfold Bl; exact hg) (by omega)
    intro a w1 hw ha
    obtain ⟨w', hr, hB', hgr⟩ := h a w1 hw ha
    refine ⟨w', hr, ⟨hO.1, hO.1.flen _, .inr ⟨g, c, _, by simp, hb, hB', by simpa using hnc, hcm, by simpa using hcs, ?_⟩⟩, hgr⟩
    rw [hO.1.fset1 hxj ho hv, List.length_set, List.take_set, ← htake]
theorem WL.ostoreF {j o : Nat} {u : Value} {v : α} (dv : α) (h1 : sz1 P t = true) (hu : u.oneCell' = true) (hO : OwnK k f w B e A c xs) (hx : opv L x = some (.pointer (A.map (·.add (j * k + o))))) (hy : opv L y = some u) (hj : j < xs.length) (ho : Nat.blt o k = true) (hv : f v = (f (xs.getD j dv)).set o u)
    (hk : ∀ w', OwnK k f w' B e A c (xs.set j v) → w.grownBy w' (blk A) → WL P N ops Q rest L w') : WL P N ops Q (⟨none, .store t x y, ty, pos, af, none⟩ :: rest) L w :=
  WL.eff (Ef0.ostoreF dv h1 hu hO hx hy hj ho hv) (fun w' ⟨h1, h2⟩ => hk w' h1 h2)
end rules
end Go.Proofs.YtlonpmajnglmoaaDoor

 /- Slices whose elements take k cells each: append, literals, make. -/
namespace Go.Proofs.YtlonpmajnglmoaaDoor
open Go Go.RowKit
section
variable {α : Type} {k : Nat} {f : α → List Value}
theorem OneK.fidx (h : OneK k f) : ∀ (xs : List α) (p : Nat) (u : Value), (xs.flatMap f)[p]? = some u → ∃ j x i, p = j * k + i ∧ xs[j]? = some x ∧ (f x)[i]? = some u
  | [], p, u, hu => by simp at hu
  | x :: xs, p, u, hu => by
    rw [List.flatMap_cons] at hu
    by_cases hp : p < k
    · rw [List.getElem?_append_left (by rw [h.len]; exact hp)] at hu
      exact ⟨0, x, p, by omega, rfl, hu⟩
    · rw [List.getElem?_append_right (by rw [h.len]; omega), h.len] at hu
      obtain ⟨j, y, i, h1, h2, h3⟩ := h.fidx xs _ u hu
      exact ⟨j + 1, y, i, by rw [Nat.add_mul]; omega, by simpa using h2, h3⟩
/-- the parts' cells of a literal -/
def partsA (L : Slots) : Nat → List (Nat × Operand) → Option (List (List Value))
  | _, [] => some []
  | j, (i, x) :: r => bif Nat.beq i j then (match opv L x, partsA L (j + 1) r with
    | some (.agg ⟨vs⟩), some us => some (vs :: us)
    | _, _ => none) else none
theorem fill_partsA {N : Nat} {L : Slots} {a : Act} (ha : Has N L a) (k : Nat) : ∀ (ps : List (Nat × Operand)) (j : Nat) (vs : List (List Value)) (done : List Value) (cells : Array Value), partsA L j ps = some vs → (∀ u ∈ vs, u.length = k) → done.length = j * k → cells.toList.take (j * k) = done → cells.size = (j + vs.length) * k →
    Instr.fill (fun i => some (i * k, k)) cells (ps.map fun p => (p.1, a.eval p.2)) = some ⟨done ++ vs.flatten⟩
  | [], j, vs, done, cells, hp, _, hdl, ht, hs => by
    simp only [partsA, Option.some.injEq] at hp
    subst hp
    simp only [List.map_nil, Instr.fill, List.flatten_nil, List.append_nil]
    congr 1
    apply Array.ext'
    rw [← ht, List.take_of_length_le (by simp at hs ⊢; omega)]
  | (i, x) :: ps, j, vs, done, cells, hp, h1, hdl, ht, hs => by
    simp only [partsA] at hp
    cases hij : Nat.beq i j with
    | false => simp [hij] at hp
    | true =>
      have := Nat.eq_of_beq_eq_true hij
      subst this
      simp only [hij, cond_true] at hp
      split at hp
      · rename_i v us hv hus
        simp only [Option.some.injEq] at hp
        subst hp
        have hvk : v.length = k := h1 v (by simp)
        have hcs : (Value.agg ⟨v⟩).cells = ⟨v⟩ := rfl
        simp only [List.length_cons] at hs
        have hs2 : cells.size = i * k + k + us.length * k := by rw [hs, Nat.add_mul, Nat.add_mul]; omega
        simp only [List.map_cons, Instr.fill, ha.ev hv, hcs]
        have h5 : ((⟨v⟩ : Array Value).zipIdx.foldl (fun cs (x : Value × Nat) => match x with | (c, j) => cs.setIfInBounds (i * k + j) c) cells).toList = splice cells.toList (i * k) v := by
          have h3 := foldl_splice v 0 cells (i * k) (by omega)
          rw [Nat.add_zero] at h3
          have h4 : ((⟨v⟩ : Array Value).zipIdx.foldl (fun (cs : Array Value) (x : Value × Nat) => cs.setIfInBounds (i * k + x.2) x.1) cells).toList = splice cells.toList (i * k) v := by
            rw [← h3, ← Array.foldl_toList]
            simp
          exact h4
        generalize hq : (⟨v⟩ : Array Value).zipIdx.foldl (fun cs (x : Value × Nat) => match x with | (c, j) => cs.setIfInBounds (i * k + j) c) cells = q at h5
        rw [if_neg (by simp [hvk]; omega)]
        have hql : q.size = cells.size := by
          have := congrArg List.length h5
          rw [splice_length _ _ _ (by simp; omega)] at this
          simpa using this
        have := fill_partsA ha k ps (i + 1) us (done ++ v) q hus (fun u hu => h1 u (by simp [hu])) (by rw [List.length_append, hdl, hvk, Nat.add_mul]; omega) (by
          rw [h5, Nat.add_mul, Nat.one_mul]
          unfold splice
          rw [ht, List.take_left' (by rw [List.length_append, hdl, hvk])]) (by rw [hql, hs2, Nat.add_mul, Nat.add_mul]; omega)
        rw [this]
        simp
      · cases hp
theorem flatten_map (f : α → List Value) : ∀ xs : List α, (xs.map f).flatten = xs.flatMap f
  | [] => rfl
  | x :: xs => by simp [List.flatMap_cons, flatten_map f xs]
end
section rules
variable {P : Program} {T : Tab} {N : Nat} {ops : Array Oper} {Q : Post} {L : Slots} {w : World} {rest : List Oper} {d : Nat} {ty : TypeId} {pos : String} {af : Array Edge} {t t' : TypeId} {x y : Operand} {kk kk' : IntKind}
variable {α : Type} {k : Nat} {f : α → List Value} {A : Option Addr} {c n B : Nat} {xs ys : List α} {e : TypeId}
theorem Eff.litK {b m : Nat} {ps : List (Nat × Operand)} (hf : OneK k f) (hs : ckOwK P t e k b = true) (hp : partsA L 0 ps = some (xs.map f)) (hm : xs.length = m) (hm2 : Nat.ble (m * k) 16777216 = true) :
    Eff P N w ⟨some d, .buildSlice t m ⟨ps⟩, ty, pos, af, none⟩ L (fun v w' => v = .slice (some ⟨w.heap.size, 0, none⟩) m m ∧ Bl w' w.heap.size e (xs.flatMap f) ∧ w.grownBy w' none) := fun a w1 hw ha => by
    have hs1 : w1.heap.size = w.heap.size := by rw [hw.heap]
    have hm2 : m * k ≤ 16777216 := by simpa using hm2
    obtain ⟨hu, j, z, hj, hz, hj1, _, hz1⟩ := ckOwK_spec hs
    refine ⟨_, w1.alloc (.cells ⟨xs.flatMap f⟩ e), ?_, rfl, newBlock w1 hw _ e⟩
    have hne : ¬ (m * k > 2 ^ 24) := by omega
    have hmap : ((⟨ps⟩ : Array (Nat × Operand)).map fun p => (p.1, a.eval p.2)).toList = ps.map fun p => (p.1, a.eval p.2) := by simp
    have hfill : ∀ cells : Array Value, cells.size = m * k → Instr.fill (fun i => some (i * k, k)) cells (ps.map fun p => (p.1, a.eval p.2)) = some ⟨xs.flatMap f⟩ := fun cells hc => by
      have := fill_partsA ha k ps 0 (xs.map f) [] cells hp (fun u hu => by
        obtain ⟨y, _, rfl⟩ := List.mem_map.1 hu
        exact hf.len y) (by simp) (by simp) (by rw [hc, List.length_map, hm, Nat.zero_add])
      rw [this, flatten_map]
      rfl
    have hzr : (zeroValue e).run P w1 = .ok z w1 := by simp [zeroValue, typeInfo, hj, hz]
    unfold execOp
    simp only [Instr.buildSlice, Sem.run_bind, run_underlying hu, Result.andThen_ok, sizeOf, typeInfo, program, Sem.run, hj, hj1, hne, if_false, Sem.run_pure, hmap]
    by_cases hm0 : m * k = 0
    · simp only [hm0, if_true, Sem.run_bind, Sem.run_pure, Result.andThen_ok]
      rw [hfill _ (by simp [hm0])]
      simp only [newRow, newObj, Sem.run_bind, Sem.run_pure]
      rw [← hs1]; rfl
    · rw [if_neg hm0]
      simp only [Sem.run_bind, hzr, Result.andThen_ok, Sem.run_pure]
      rw [hfill _ (by simp)]
      simp only [newRow, newObj, Sem.run_bind, Sem.run_pure]
      rw [← hs1]; rfl
theorem WL.litK {b m : Nat} {ps : List (Nat × Operand)} (xs : List α) (hf : OneK k f) (hd : Nat.blt d N = true) (hs : ckOwK P t e k b = true) (hp : partsA L 0 ps = some (xs.map f)) (hm : xs.length = m) (hm2 : Nat.ble (m * k) 16777216 = true)
    (hk : ∀ g w', Bl w' g e (xs.flatMap f) → w.grownBy w' none → w.heap.size ≤ g → WL P N ops Q rest ((d, .slice (some ⟨g, 0, none⟩) m m) :: L) w') :
    WL P N ops Q (⟨some d, .buildSlice t m ⟨ps⟩, ty, pos, af, none⟩ :: rest) L w :=
  WL.put (R := fun v w' => v = .slice (some ⟨w.heap.size, 0, none⟩) m m ∧ Bl w' w.heap.size e (xs.flatMap f) ∧ w.grownBy w' none) hd (Eff.litK hf hs hp hm hm2) (fun v w' ⟨hv, hb, hg⟩ => by subst hv; exact hk _ _ hb hg (Nat.le_refl _))
theorem run_append_own_srcK {w1 : World} {tx : TypeId} {v : Value} {b m : Nat} {ys : List α} (hs : ckOwK P t e k b = true) (hO : OwnK k f w1 B e A c xs) (hS : Src P k tx v m (ys.flatMap f) w1) (hm : m = ys.length) (hl : (xs.length + ys.length) * b ≤ 140737488355328) (h63 : xs.length + ys.length ≤ maxLen) (hB : B ≤ w1.heap.size) (ty : TypeId) :
    ∃ A' c' w', (Builtin.append_ #[t, tx] ty #[.slice A xs.length c, v]).run P w1 = .ok (.slice A' (xs ++ ys).length c') w' ∧ OwnK k f w' B e A' c' (xs ++ ys) ∧ w1.grownBy w' (blk A) ∧ (∀ g, blk A' = some g → blk A = some g ∨ w1.heap.size ≤ g) := by
  obtain ⟨hu, i, z, hi, hz, hi1, hib, hz1⟩ := ckOwK_spec hs
  subst hib
  subst hm
  have h63' : ((xs.length + ys.length : Nat) : Int) ≤ 9223372036854775807 := by simp only [maxLen] at h63; omega
  have hf := hO.1
  have hfx := hf.flen xs
  have hfy := hf.flen ys
  have hge := grownCap_ge w1 (xs.length + ys.length) c e
  have hcm := grownCap_le_maxLen w1 (xs.length + ys.length) c e (by omega)
  have grow : c < xs.length + ys.length → ∃ A' c' w', (Builtin.append_ #[t, tx] ty #[.slice A xs.length c, v]).run P w1 = .ok (.slice A' (xs ++ ys).length c') w' ∧ OwnK k f w' B e A' c' (xs ++ ys) ∧ w1.grownBy w' (blk A) ∧ (∀ g, blk A' = some g → blk A = some g ∨ w1.heap.size ≤ g) := by
    intro hlt
    have hold : (Builtin.firstCells i.size xs.length (.slice A xs.length c)).run P w1.drew = .ok ((xs.flatMap f).toArray) w1.drew := by
      rw [hi1]
      rcases hO.2.2 with ⟨hv, hn⟩ | ⟨g, cap, cur, hv, hb, hg, hnc, hcm', hcs, htake⟩
      · simp only [Value.slice.injEq] at hv
        obtain ⟨rfl, _, rfl⟩ := hv
        have : xs = [] := List.eq_nil_of_length_eq_zero hn
        subst this
        exact run_firstCells_none w1.drew k 0 0 0
      · simp only [Value.slice.injEq] at hv
        obtain ⟨rfl, _, rfl⟩ := hv
        exact run_firstCells_some w1.drew k xs.length ⟨g, 0, none⟩ xs.length c (xs.flatMap f) hfx (fun j u hj => hO.2.cells (g := g) rfl j u hj)
    have hr := run_append_grow_src (P := P) w1 t tx ty e i z hu hi hz A xs.length c (xs.flatMap f) hold v ys.length (ys.flatMap f) (by rw [hi1]; exact hS) hlt h63' (growslice_fits hlt hl)
    refine ⟨_, _, _, by rw [hr, List.length_append], ⟨hf, ?_⟩, ?_, ?_⟩
    · refine ⟨hf.flen _, .inr ⟨w1.heap.size, _, _, by rw [List.length_append], hB, heap_alloc_new w1.drew _, by rw [List.length_append]; exact hge, hcm, ?_, ?_⟩⟩
      · have : (grownCap w1 (xs.length + ys.length) c e) * k = xs.length * k + ys.length * k + (grownCap w1 (xs.length + ys.length) c e - (xs.length + ys.length)) * k := by
          rw [← Nat.add_mul, ← Nat.add_mul]
          congr 1
          omega
        simp only [Array.size_append, List.size_toArray, List.length_append, size_zeroCells, hz1, hfx, hfy]
        omega
      · rw [hf.flen (xs ++ ys) |>.symm]
        simp only [Array.toList_append, List.flatMap_append]
        rw [List.take_left' (by simp)]
    · exact ⟨rfl, rfl, rfl, by simp, fun k hk _ => heap_alloc_old w1.drew _ hk⟩
    · intro g hg
      simp only [blk, Option.map_some, Option.some.injEq] at hg
      exact .inr (by omega)
  by_cases hroom : xs.length + ys.length ≤ c
  · rcases hO.2.2 with ⟨hv, hn⟩ | ⟨g, cap, cur, hv, hb, hg, hnc, hcm', hcs, htake⟩
    · simp only [Value.slice.injEq] at hv
      obtain ⟨rfl, _, rfl⟩ := hv
      have hx0 : xs = [] := List.eq_nil_of_length_eq_zero hn
      have hy0 : ys = [] := List.eq_nil_of_length_eq_zero (by omega)
      subst hx0; subst hy0
      refine ⟨none, 0, w1, ?_, OwnK.nil hf w1 B e, gr_refl _ _, fun g hg => by simp [blk] at hg⟩
      have := hS.cells
      rcases hS.kind with ⟨e', hk⟩ | hk <;> simp [Builtin.append_, run_underlying hu, run_underlying hk, sizeOf, typeInfo, hi, hi1, hS.len] <;> simp at this <;> simp [this]
    · simp only [Value.slice.injEq] at hv
      obtain ⟨rfl, _, rfl⟩ := hv
      have hB1 : Bl w1 g e cur.toList := hg
      have hcl : cur.toList.length = c * k := by simpa using hcs
      have hxk : xs.length * k + ys.length * k ≤ c * k := by rw [← Nat.add_mul]; exact Nat.mul_le_mul_right k hroom
      have hr := run_append_room_src (P := P) w1 t tx ty e i hu hi g 0 xs.length c v ys.length (ys.flatMap f) (by rw [hi1]; exact hS) hroom (fun j hj => by
        rw [hi1, hB1.cell]
        rw [List.getElem?_eq_getElem (by omega)]
        rfl) (fun j _ => hB1.frozen _)
      have hst := run_storeCells_at P g (xs.length * k) e (ys.flatMap f) 0 cur w1 hg (by simp at hcl; omega) hS.one
      have hst2 := run_storeCells_cells (P := P) g (xs.length * k) (ys.flatMap f) 0 w1 (fun j hj => by
        rw [hB1.cell]
        rw [List.getElem?_eq_getElem (by omega)]
        rfl) (fun j _ => hB1.frozen _) hS.one
      have hw : w1.setCells g (0 + xs.length * i.size) (ys.flatMap f) = w1.setRow g (List.take (xs.length * k + 0) cur.toList ++ ys.flatMap f ++ List.drop (xs.length * k + 0 + (ys.flatMap f).length) cur.toList).toArray := by
        rw [hst] at hst2
        injection hst2 with _ h2
        rw [hi1, Nat.zero_add]
        exact h2.symm
      rw [hw] at hr
      refine ⟨_, _, _, by rw [hr, List.length_append], ⟨hf, ?_⟩, ?_, fun g' hg' => .inl hg'⟩
      · refine ⟨hf.flen _, .inr ⟨g, c, _, by rw [List.length_append], hb, setRow_heap w1 g cur _ e _ hg, by rw [List.length_append]; exact hroom, hcm', ?_, ?_⟩⟩
        · simp only [List.size_toArray, List.length_append, List.length_take, List.length_drop, hcl, hfy]
          omega
        · rw [hf.flen (xs ++ ys) |>.symm]
          simp only [Nat.add_zero, htake, List.flatMap_append]
          rw [List.take_left' (by simp)]
      · exact ⟨rfl, rfl, rfl, by simp, fun k _ hk => setRow_other w1 g k _ (fun e => hk (by simp [blk, e]))⟩
  · exact grow (by omega)
theorem src_rdK {w1 : World} {A2 : Option Addr} {c2 : Nat} {ys : List α} {e' : TypeId} (hu : P.underlying t = some (.slice e')) (hR : RdK k f w1 A2 c2 ys) : Src P k t (.slice A2 ys.length c2) ys.length (ys.flatMap f) w1 := by
  by_cases hy : ys = []
  · subst hy
    cases A2 with
    | none => exact Src.ofNil w1 hu c2
    | some ad => exact Src.ofSlice w1 hu ad 0 c2 [] (by simp) (by simp) (by simp)
  · obtain ⟨g, o, rfl, hc⟩ := hR.cells hy
    exact Src.ofSlice w1 hu ⟨g, o, none⟩ ys.length c2 (ys.flatMap f) (hR.ok.flen ys) (fun p u hp => by
      obtain ⟨j, x, i, rfl, hx, hi⟩ := hR.ok.fidx ys p u hp
      rw [Addr.add_mid]
      exact hc j x i u hx hi) hR.ok.mem
theorem Eff.appendK {A2 : Option Addr} {c2 n2 : Nat} {ys : List α} {b : Nat} (hs : ckOwK P t e k b = true) (hO : OwnK k f w B e A c xs) (hx : opv L x = some (.slice A n c)) (hn : n = xs.length) (hR : RdK k f w A2 c2 ys) (hy : opv L y = some (.slice A2 n2 c2)) (hn2 : n2 = ys.length) (hl : (xs.length + ys.length) * b ≤ 140737488355328) (h63 : xs.length + ys.length ≤ maxLen) (hB : B ≤ w.heap.size) :
    Eff P N w ⟨some d, .call ⟨.builtin .append, ⟨[x, y]⟩, ⟨[t, t]⟩⟩, ty, pos, af, none⟩ L (fun v w' => ∃ A' c', v = .slice A' (xs ++ ys).length c' ∧ OwnK k f w' B e A' c' (xs ++ ys) ∧ w.grownBy w' (blk A) ∧ (∀ g, blk A' = some g → blk A = some g ∨ w.heap.size ≤ g)) := fun a w1 hw ha => by
    obtain ⟨hu, _⟩ := ckOwK_spec hs
    subst hn; subst hn2
    have hs1 : w1.heap.size = w.heap.size := by rw [hw.heap]
    obtain ⟨A', c', w', hr, h1, h2, h3⟩ := run_append_own_srcK (P := P) (ty := ty) hs (hO.eqv hw) (src_rdK hu (hR.eqv hw)) rfl hl h63 (by omega)
    refine ⟨_, w', ?_, A', c', rfl, h1, eqv_gr hw h2, fun g hg => by rw [← hs1]; exact h3 g hg⟩
    unfold execOp
    simp [resolve, invoke, builtin, ha.ev hx, ha.ev hy, hr]
theorem WL.appendK {A2 : Option Addr} {c2 n2 : Nat} {ys : List α} {b : Nat} (hd : Nat.blt d N = true) (hs : ckOwK P t e k b = true) (hO : OwnK k f w B e A c xs) (hx : opv L x = some (.slice A n c)) (hn : n = xs.length) (hR : RdK k f w A2 c2 ys) (hy : opv L y = some (.slice A2 n2 c2)) (hn2 : n2 = ys.length)
    (hl : (xs.length + ys.length) * b ≤ 140737488355328) (h63 : xs.length + ys.length ≤ maxLen) (hB : B ≤ w.heap.size)
    (hk : ∀ A' c' w', OwnK k f w' B e A' c' (xs ++ ys) → w.grownBy w' (blk A) → (∀ g, blk A' = some g → blk A = some g ∨ w.heap.size ≤ g) → WL P N ops Q rest ((d, .slice A' (xs ++ ys).length c') :: L) w') :
    WL P N ops Q (⟨some d, .call ⟨.builtin .append, ⟨[x, y]⟩, ⟨[t, t]⟩⟩, ty, pos, af, none⟩ :: rest) L w :=
  WL.put (R := fun v w' => ∃ A' c', v = .slice A' (xs ++ ys).length c' ∧ OwnK k f w' B e A' c' (xs ++ ys) ∧ w.grownBy w' (blk A) ∧ (∀ g, blk A' = some g → blk A = some g ∨ w.heap.size ≤ g)) hd (Eff.appendK hs hO hx hn hR hy hn2 hl h63 hB) (fun v w' ⟨A', c', hv, h1, h2, h3⟩ => by subst hv; exact hk A' c' w' h1 h2 h3)
end rules
/-! ## what yields, guarded; make, by an integer; what grew of p is new -/
section
variable {P : Program} {T : Tab} {N : Nat} {ops : Array Oper} {Q : Post} {L : Slots} {w : World} {rest : List Oper} {d : Nat} {ty : TypeId} {pos : String} {af : Array Edge} {t : TypeId} {x y : Operand} {k k' : IntKind} {α : Type} {f : α → Value} {B : Nat} {e : TypeId}
theorem WL.putw {op : Op} {gd : Option (Nat × Bool)} {R : Value → World → Prop} (hg : Wants N ops L gd) (hd : Nat.blt d N = true) (hr : Eff P N w ⟨some d, op, ty, pos, af, none⟩ L R)
    (hk : ∀ v w', R v w' → WL P N ops Q rest ((d, v) :: L) w') : WL P N ops Q (⟨some d, op, ty, pos, af, gd⟩ :: rest) L w := fun a w1 e ha =>
  wpList_step fun K hK => by
    rw [if_pos (Wants.wanted (o := ⟨some d, op, ty, pos, af, gd⟩) hg ha)]
    obtain ⟨v, w', h, hR⟩ := hr a w1 e ha
    have h' : (execOp a.eval ⟨some d, op, ty, pos, af, gd⟩).run P w1 = .ok (.value v) w' := h
    unfold Oper.wp
    rw [h']
    exact hK _ _ (hk v w' hR _ w' (Eqv.refl _) (ha.put hd v))
theorem Ge.app {p p' : Option Nat} {n m : Nat} (h : Ge p n) (k : ∀ g, p' = some g → p = some g ∨ m ≤ g) (hm : n ≤ m) : Ge p' n := fun g hg => (k g hg).elim (h g) (Nat.le_trans hm)
theorem Eff.makeZI {q : Int} {z : α} {b : Nat} (hT : T.Ok P) (hs : nk T.ow t = some (e, b)) (hz : zeroOf P e = some [f z]) (hx : opv L x = some (.int k q)) (hy : opv L y = some (.int k' q)) (h0 : 0 ≤ q) (hm : q * (b : Int) ≤ 140737488355328) (h63 : q ≤ 140737488355328) (hB : B ≤ w.heap.size) :
    Eff P N w ⟨some d, .makeSlice t x y, ty, pos, af, none⟩ L (fun v w' => v = .slice (some ⟨w.heap.size, 0, none⟩) q.toNat q.toNat ∧ Own f w' B e (some ⟨w.heap.size, 0, none⟩) q.toNat (List.replicate q.toNat z) ∧ w.grownBy w' none) := by
  have e1 : ((q.toNat : Nat) : Int) = q := Int.toNat_of_nonneg h0
  have e2 : q.toNat * b ≤ 140737488355328 := by
    have : ((q.toNat * b : Nat) : Int) ≤ 140737488355328 := by rw [Int.natCast_mul, e1]; exact hm
    omega
  exact Eff.makeZ hT hs hz (by rw [e1]; exact hx) (by rw [e1]; exact hy) e2 (by omega) hB
theorem Eff.makeCI {q : Int} {b : Nat} (hT : T.Ok P) (hs : nk T.ow t = some (e, b)) (hx : opv L x = some (.int k 0)) (hy : opv L y = some (.int k' q)) (h0 : 0 ≤ q) (hm : q * (b : Int) ≤ 140737488355328) (h63 : q ≤ 140737488355328) (hB : B ≤ w.heap.size) :
    Eff P N w ⟨some d, .makeSlice t x y, ty, pos, af, none⟩ L (fun v w' => v = .slice (some ⟨w.heap.size, 0, none⟩) 0 q.toNat ∧ Own f w' B e (some ⟨w.heap.size, 0, none⟩) q.toNat [] ∧ w.grownBy w' none) := fun a w1 hw ha => by
  obtain ⟨m, rfl⟩ := Int.eq_ofNat_of_zero_le h0
  have e2 : m * b ≤ 140737488355328 := by
    have : ((m * b : Nat) : Int) ≤ 140737488355328 := by rw [Int.natCast_mul]; exact hm
    omega
  simp only [Int.toNat_natCast]
  obtain ⟨hu, i, z0, hi, hz0, hi1, hib, hz1⟩ := hT.ow hs
  have hs1 : w1.heap.size = w.heap.size := by rw [hw.heap]
  obtain ⟨w', hr, hO, hg⟩ := run_make_own (P := P) w1 B t e i z0 1 hu hi hz0 hi1 k k' m (by rw [hib, Nat.mul_comm]; omega) (by simp only [maxLen]; omega) (by omega)
  refine ⟨_, w', ?_, by rw [← hs1], ?_, eqv_gr hw hg⟩
  · unfold execOp
    simp only [ha.ev hx, ha.ev hy, Sem.run_bind, hr, Result.andThen_ok, Sem.run_pure]
  · unfold Own
    rw [← hs1]
    simpa using hO
def isIf : TypeDesc → Bool
  | .interface _ => true
  | _ => false
theorem Yld.mki {dd : Option Tmp} {v : Value} {td : TypeDesc} (hu : P.underlying t = some td) (hi : isIf td = false) (hv : opv L x = some v) : Yld P N w ⟨dd, .makeInterface t x, ty, pos, af, none⟩ L (.iface t v) := fun a w1 _ ha => by
  unfold execOp
  simp only [Instr.makeInterface, ha.ev hv, Sem.run_bind, run_underlying hu w1, Result.andThen_ok]
  cases td <;> simp_all [isIf]
end
theorem Rd.take {α : Type} {f : α → Value} {w : World} {A : Option Addr} {c : Nat} {xs : List α} (h : Rd f w A c xs) (m : Nat) : Rd f w A c (xs.take m) :=
  ⟨by have := h.cap; simp; omega, h.max, fun hx => by
    obtain ⟨ad, e, hc⟩ := h.cells (fun e => hx (by rw [e]; simp))
    refine ⟨ad, e, fun j x hj => hc j x ?_⟩
    rw [List.getElem?_take] at hj
    split at hj
    · exact hj
    · cases hj⟩
theorem cells1 {v : Value} (h : v.oneCell' = true) : v.cells.toList = [v] := by cases v <;> first | rfl | simp [Value.oneCell'] at h
/-! ## function values -/
section
variable {P : Program} {T : Tab} {N : Nat} {ops : Array Oper} {Q : Post} {L : Slots} {w : World} {rest : List Oper} {d : Nat} {ty : TypeId} {pos : String} {af : Array Edge}
theorem run_callv {a : Act} {w1 : World} {g : FuncId} {x : Operand} {ao : List Operand} {ts : Array TypeId} {vs cs : List Value} {dd : Option Tmp} (ha : Has N L a) (hgo : goesIn P g = true) (hx : opv L x = some (.func (.func g) #[] ⟨cs⟩)) (hv : opvs L ao = some vs) :
    (execOp a.eval ⟨dd, .call ⟨.value x, ⟨ao⟩, ts⟩, ty, pos, af, none⟩).run P w1 = .ok (.enter g ⟨vs ++ cs⟩) w1 := by
  have hm : (⟨ao⟩ : Array Operand).map a.eval = ⟨vs⟩ := by rw [← ha.evs hv]; simp
  unfold goesIn at hgo
  split at hgo
  · rename_i fn hfn
    simp only [Bool.and_eq_true, Bool.not_eq_true'] at hgo
    have hnone : fn.body.isNone = false := by cases hb : fn.body <;> simp_all
    unfold execOp
    simp only [resolve, ha.ev hx, hm, Deferred.ofValue, Sem.run_bind, Sem.run_pure, Result.andThen_ok, invoke, callFunc, program, Sem.run, hfn, hgo.1, hnone, Bool.false_eq_true, if_false]
    simp
  · cases hgo
theorem WL.callv {R : Value → World → Prop} {g : FuncId} {x : Operand} {ao : List Operand} {ts : Array TypeId} {vs cs : List Value} (hd : Nat.blt d N = true) (hx : opv L x = some (.func (.func g) #[] ⟨cs⟩)) (hv : opvs L ao = some vs) (hf : Fn P g ⟨vs ++ cs⟩ w R) (hk : ∀ v w', R v w' → WL P N ops Q rest ((d, v) :: L) w') :
    WL P N ops Q (⟨some d, .call ⟨.value x, ⟨ao⟩, ts⟩, ty, pos, af, none⟩ :: rest) L w := fun a w1 e ha =>
  wpList_plain rfl fun K hK => by
    obtain ⟨hgo, hC⟩ := hf
    unfold Oper.wp
    rw [run_callv ha hgo hx hv]
    refine (hC w1 e).mono ?_
    rintro en w' ⟨v, w0, rfl, h0, hR⟩
    exact hK _ _ (hk v w0 hR _ w' h0 (ha.put hd v))
end
/-! a slice held against nil -/
theorem Yld.sleqnil {P : Program} {N : Nat} {L : Slots} {w : World} {ty : TypeId} {pos : String} {af : Array Edge} {dd : Option Tmp} {t t' e : TypeId} {x : Operand} {A : Option Addr} {n c : Nat} (h : P.underlying t = some (.slice e)) (hx : opv L x = some (.slice A n c)) :
    Yld P N w ⟨dd, .binOp .eql t x (.const (.slice none 0 0)) t', ty, pos, af, none⟩ L (.bool A.isNone) := fun a w1 _ ha => by
  refine exec_bin (ha.ev hx) rfl ?_ ?_
  · unfold eqGuard; rfl
  exact Go.Lib.run_eql_slice_nil w1 _ _ _ _ _ _ _ h
theorem Rd.nil_of {α : Type} {f : α → Value} {w : World} {A : Option Addr} {c : Nat} {xs : List α} (h : Rd f w A c xs) (hA : A.isNone = true) : xs = [] := by
  cases xs with
  | nil => rfl
  | cons x xs => obtain ⟨a, rfl, _⟩ := h.cells (by simp); cases hA
theorem RdK.nil_of {α : Type} {k : Nat} {f : α → List Value} {w : World} {A : Option Addr} {c : Nat} {xs : List α} (h : RdK k f w A c xs) (hA : A.isNone = true) : xs = [] := by
  cases xs with
  | nil => rfl
  | cons x xs => obtain ⟨g, o, rfl, _⟩ := h.cells (by simp); cases hA
end Go.Proofs.YtlonpmajnglmoaaDoor

 /- slices.Concat, Sort, Compact of texts; strings.Cut and Compare, in the generator's form. -/
namespace Go.Proofs.YtlonpmajnglmoaaDoor
open Go Go.RowKit
theorem enc_vs : encStr = vs := by funext l; rfl
def M_slices_Sort_string_string (xs : List (List UInt8)) (K : List (List UInt8) → Prop) : Prop := xs.length < 4611686018427387904 ∧ K (xs.mergeSort fun x y => decide (x ≤ y))
theorem W_slices_Sort_string_string {w : World} {xs : List (List UInt8)} {A : Option Addr} {c n B : Nat} {e : TypeId} {K : List (List UInt8) → Prop} (hO : Own vs w B e A c xs) (hn : n = xs.length) (H : M_slices_Sort_string_string xs K) :
    Fn Tryd.prog 98 ⟨[.slice A n c]⟩ w (fun v w' => ∃ ys : List (List UInt8), v = .tuple #[] ∧ Own vs w' B e A c ys ∧ w.grownBy w' (blk A) ∧ ys.length = xs.length ∧ K ys) := by
  subst hn
  refine ⟨by kernel_rfl, fun w1 e1 => ?_⟩
  have hO1 := own_eqv e1 hO
  rcases hO1.2 with ⟨hv, hn⟩ | ⟨g, cap, cur, hv, hb, hg, hnc, hcm, hcs, htake⟩
  · simp only [Value.slice.injEq] at hv
    obtain ⟨rfl, _, rfl⟩ := hv
    have : xs = [] := List.eq_nil_of_length_eq_zero hn
    subst this
    refine (Tryd.slices_Sort_string_none none 0 w1).mono fun _ w' ⟨he, hw⟩ => ⟨_, w, he, by rw [hw]; exact e1, [], rfl, hO, gr_refl _ _, rfl, ?_⟩
    simpa using H.2
  · simp only [Value.slice.injEq] at hv
    obtain ⟨rfl, _, rfl⟩ := hv
    refine (Tryd.slices_Sort_string g 0 c xs w1 (holds_of_block hg (by rw [enc_vs]; simpa using htake)) (Array.getElem?_eq_some_iff.1 hg).1 H.1).mono fun _ w' ⟨he, q, os, hw⟩ => ?_
    have hl : (xs.mergeSort fun x y => decide (x ≤ y)).length = xs.length := List.length_mergeSort xs
    have h1 := ownsRow_sorted (n := q) (os := os) hl hb hg hnc hcm hcs
    have h2 := grownBy_sorted (w := w1) (g := g) (n := q) (os := os) (xs.mergeSort fun x y => decide (x ≤ y)).toArray
    rw [← hw] at h1 h2
    refine ⟨_, w', he, Eqv.refl _, _, rfl, ?_, eqv_gr e1 h2, hl, H.2⟩
    unfold Own
    rw [hl, ← enc_vs]
    exact h1
def M_slices_Compact_string_string (xs : List (List UInt8)) (K : List (List UInt8) → Prop) : Prop := K (Lib.compact xs)
theorem compact_le (xs : List (List UInt8)) : (Lib.compact xs).length ≤ xs.length := by
  unfold Lib.compact Lib.compactUpTo
  rw [List.length_map]
  exact Nat.le_trans (List.length_filter_le _ _) (by simp)
theorem W_slices_Compact_string_string {w : World} {xs : List (List UInt8)} {A : Option Addr} {c n B : Nat} {e : TypeId} {K : List (List UInt8) → Prop} (hO : Own vs w B e A c xs) (hn : n = xs.length) (H : M_slices_Compact_string_string xs K) :
    Fn Tryd.prog 99 ⟨[.slice A n c]⟩ w (fun v w' => ∃ ys : List (List UInt8), v = .slice A ys.length c ∧ Own vs w' B e A c ys ∧ w.grownBy w' (blk A) ∧ K ys) := by
  subst hn
  refine ⟨by kernel_rfl, fun w1 e1 => ?_⟩
  have hO1 := own_eqv e1 hO
  rcases hO1.2 with ⟨hv, hn⟩ | ⟨g, cap, cur, hv, hb, hg, hnc, hcm, hcs, htake⟩
  · simp only [Value.slice.injEq] at hv
    obtain ⟨rfl, _, rfl⟩ := hv
    have : xs = [] := List.eq_nil_of_length_eq_zero hn
    subst this
    exact (Tryd.slices_Compact_string_empty none 0 w1).mono fun _ w' ⟨he, hw⟩ => ⟨_, w, he, by rw [hw]; exact e1, [], rfl, hO, gr_refl _ _, H⟩
  · simp only [Value.slice.injEq] at hv
    obtain ⟨rfl, _, rfl⟩ := hv
    have hmx : xs.length ≤ 9223372036854775807 := by simp only [maxLen] at hcm; omega
    refine (Tryd.slices_Compact_string g 0 c xs w1 (holds_of_block hg (by rw [enc_vs]; simpa using htake)) hmx hnc).mono fun _ w' ⟨he, q, hw⟩ => ?_
    have hle := compact_le xs
    have hl : (Lib.compact xs ++ List.replicate (xs.length - (Lib.compact xs).length) []).length = xs.length := by simp; omega
    have h1 := ownsRow_sorted (n := q) (os := #[]) hl hb hg hnc hcm hcs
    have h2 := grownBy_sorted (w := w1) (g := g) (n := q) (os := #[]) (Lib.compact xs ++ List.replicate (xs.length - (Lib.compact xs).length) []).toArray
    rw [Sort.grow_empty, ← hw] at h1 h2
    have hO2 : Own vs w' B e (some ⟨g, 0, none⟩) c (Lib.compact xs ++ List.replicate (xs.length - (Lib.compact xs).length) []) := by
      unfold Own
      rw [hl, ← enc_vs]
      exact h1
    have hO3 := hO2.take (Lib.compact xs).length (by rw [hl]; exact hle) (fun _ h => by cases h)
    rw [List.take_left' rfl] at hO3
    exact ⟨_, w', he, Eqv.refl _, _, rfl, hO3, eqv_gr e1 h2, H⟩
end Go.Proofs.YtlonpmajnglmoaaDoor


 /- Printed by a program (wip/vg): what the functions mean, plainly, and their walks. -/
namespace Go.Proofs.YtlonpmajnglmoaaDoor
open Go Go.RowKit
attribute [local irreducible] WL WC WX WQ WK WJ Yld Eff Ef0 Fn
def M_path_letter (c : Int) (K : Bool → Prop) : Prop :=
 ((((((decide ((48 : Int) ≤ c)) && (decide (c ≤ (57 : Int)))) || ((decide ((65 : Int) ≤ c)) && (decide (c ≤ (90 : Int))))) || ((decide ((97 : Int) ≤ c)) && (decide (c ≤ (122 : Int))))) = true → K true) ∧
 (((((decide ((48 : Int) ≤ c)) && (decide (c ≤ (57 : Int)))) || ((decide ((65 : Int) ≤ c)) && (decide (c ≤ (90 : Int))))) || ((decide ((97 : Int) ≤ c)) && (decide (c ≤ (122 : Int))))) = false → M_strings_IndexByte ([33, 35, 37, 43, 44, 45, 46, 61, 64, 95, 126] : List UInt8) c (fun (t26 : Int) =>
 K (decide ((0 : Int) ≤ t26)))))

def M_path_dots (s : List UInt8) (K : Bool → Prop) : Prop :=
 K (((decide (s = ([] : List UInt8))) || (decide (s = ([46] : List UInt8)))) || (decide (s = ([46, 46] : List UInt8))))

def M_path_fair (s : List UInt8) (K : Bool → Prop) : Prop :=
 Lp1 (fun (t6 : Int) kont1 => ((t6 < (s.length : Int) → (0 ≤ t6 ∧ t6 < s.length) ∧
 M_path_letter ((s.getD t6.toNat 0).toNat : Int) (fun (t12 : Bool) =>
 (((!t12) = true → K false) ∧
 ((!t12) = false → (In .i64 (t6 + (1 : Int))) ∧
 kont1 (t6 + (1 : Int)))))) ∧
 (¬ (t6 < (s.length : Int)) → M_path_dots s (fun (t16 : Bool) =>
 K (!t16))))) (0 : Int)

def M_path_Valid (p : List UInt8) (K : Bool → Prop) : Prop :=
 (((200 : Int) < (p.length : Int) → K false) ∧
 (¬ ((200 : Int) < (p.length : Int)) → M_strings_Split p ([47] : List UInt8) (fun (t9 : List (List UInt8)) =>
 Lp1 (fun (t11 : Int) kont1 => ((t11 < (t9.length : Int) → (0 ≤ t11 ∧ t11 < (t9.length : Nat)) ∧
 M_path_fair (t9.getD t11.toNat []) (fun (t16 : Bool) =>
 (((!t16) = true → K false) ∧
 ((!t16) = false → (In .i64 (t11 + (1 : Int))) ∧
 kont1 (t11 + (1 : Int)))))) ∧
 (¬ (t11 < (t9.length : Int)) → K true))) (0 : Int))))

def M_smithyref_SameTexts (a : List (List UInt8)) (b : List (List UInt8)) (K : Bool → Prop) : Prop :=
 (a.length ≤ maxLen →
 (b.length ≤ maxLen →
 ((¬ ((a.length : Int) = (b.length : Int)) → K false) ∧
 ((a.length : Int) = (b.length : Int) → Lp1 (fun (i : Int) kont1 => ((i < (a.length : Int) → (0 ≤ i ∧ i < (a.length : Nat)) ∧
 (0 ≤ i ∧ i < (b.length : Nat)) ∧
 ((¬ ((a.getD i.toNat []) = (b.getD i.toNat [])) → K false) ∧
 ((a.getD i.toNat []) = (b.getD i.toNat []) → (In .i64 (i + (1 : Int))) ∧
 kont1 (i + (1 : Int))))) ∧
 (¬ (i < (a.length : Int)) → K true))) (0 : Int)))))

def M_smithyworld_Number (n : Int) (below : Int) (K : Int → Prop) : Prop :=
 (below ≠ 0) ∧
 (In .i64 ((n.tmod below) + below)) ∧
 (below ≠ 0) ∧
 K (((n.tmod below) + below).tmod below)

set_option maxHeartbeats 8000000 in
theorem W_path_letter {w : World} {c : Int} {K : Bool → Prop} (H : M_path_letter c K) : Fn Tryd.prog 126 ⟨[.int .u8 c]⟩ w (fun v w' => w = w' ∧ ∃ (r : Bool), v = .bool r ∧ K r) := by
  unfold M_path_letter at H
  refine Fn.enter (by kernel_rfl) Tryd.func126 rfl Tryd.ntmps126 rfl ?_
  refine WC.seq ?_
  refine WC.region ?_
  refine WL.y rfl (Yld.pure tab_ok rfl) ?_
  refine WL.nil (WX.then_normal ?_)
  refine WC.seq ?_
  refine WC.seq ?_
  refine WC.region ?_
  refine WL.y rfl (Yld.pure tab_ok rfl) ?_
  refine WL.y rfl (Yld.pure tab_ok rfl) ?_
  refine WL.y rfl (Yld.pure tab_ok rfl) ?_
  refine WL.midF 3 (fun L' w' => ∃ q1 : Bool, L' = [(8, .bool q1), (0, .int .u8 c)] ∧ ((decide ((48 : Int) ≤ c)) && (decide (c ≤ (57 : Int)))) = q1 ∧ w = w') ?_ (fun hQ => ?_)
  · rintro _ _ ⟨q1, rfl, rfl, rfl⟩
    refine WL.y rfl (Yld.pure tab_ok rfl) ?_
    refine WL.midF 7 (fun L' w' => ∃ q2 : Bool, L' = [(16, .bool q2), (0, .int .u8 c)] ∧ (((decide ((48 : Int) ≤ c)) && (decide (c ≤ (57 : Int)))) || ((decide ((65 : Int) ≤ c)) && (decide (c ≤ (90 : Int))))) = q2 ∧ w = w') ?_ (fun hQ => ?_)
    · rintro _ _ ⟨q2, rfl, rfl, rfl⟩
      refine WL.y rfl (Yld.pure tab_ok rfl) ?_
      refine WL.midF 7 (fun L' w' => ∃ q3 : Bool, L' = [(24, .bool q3), (0, .int .u8 c)] ∧ ((((decide ((48 : Int) ≤ c)) && (decide (c ≤ (57 : Int)))) || ((decide ((65 : Int) ≤ c)) && (decide (c ≤ (90 : Int))))) || ((decide ((97 : Int) ≤ c)) && (decide (c ≤ (122 : Int))))) = q3 ∧ w = w') ?_ (fun hQ => ?_)
      · rintro _ _ ⟨q3, rfl, rfl, rfl⟩
        refine WL.nil (WX.then_normal ?_)
        refine WC.cond rfl (fun b1 => ?_) (fun b1 => ?_)
        · replace H := H.1 (b1)
          refine WC.seq ?_
          refine WC.region ?_
          refine WL.y rfl (Yld.pure tab_ok rfl) ?_
          refine WL.nil (WX.then_normal ?_)
          refine WC.ret (WX.then_ret ?_)
          exact WX.ret1 rfl rfl ⟨rfl, true, rfl, H⟩
        · replace H := H.2 (b1)
          refine WC.skip (WX.then_normal ?_)
          refine WC.seq ?_
          refine WC.region ?_
          refine WL.y rfl (Yld.pure tab_ok rfl) ?_
          refine WL.call rfl rfl (W_strings_IndexByte H) ?_
          rintro _ _ ⟨rfl, t26, rfl, H⟩
          refine WL.y rfl (Yld.pure tab_ok rfl) ?_
          refine WL.y rfl (Yld.pure tab_ok rfl) ?_
          refine WL.nil (WX.then_normal ?_)
          refine WC.ret ?_
          exact WX.ret1 rfl rfl ⟨rfl, decide ((0 : Int) ≤ t26), rfl, H⟩
      · clear H
        rcases Bool.eq_false_or_eq_true (((decide ((48 : Int) ≤ c)) && (decide (c ≤ (57 : Int)))) || ((decide ((65 : Int) ≤ c)) && (decide (c ≤ (90 : Int))))) with b2 | b2
        · refine WL.gno rfl rfl (okb b2) rfl ?_
          refine WL.gno rfl rfl (okb b2) rfl ?_
          refine WL.gno rfl rfl (okb b2) rfl ?_
          refine WL.gun rfl rfl rfl rfl ?_
          refine WL.gun rfl rfl rfl rfl ?_
          refine WL.gno rfl rfl (okb b2) rfl ?_
          refine WL.y rfl (Yld.pickT (okb b2) rfl) ?_
          exact WL.weaken (by repeat (first | exact Sub.nil | refine Sub.cons rfl ?_)) (hQ _ _ ⟨true, rfl, by rw [b2] <;> rfl, rfl⟩)
        · refine WL.gyes rfl rfl (okb b2) rfl (Yld.pure tab_ok rfl) ?_
          refine WL.gyes rfl rfl (okb b2) rfl (Yld.pure tab_ok rfl) ?_
          refine WL.gyes rfl rfl (okb b2) rfl (Yld.pure tab_ok rfl) ?_
          rcases Bool.eq_false_or_eq_true (decide ((97 : Int) ≤ c)) with b3 | b3
          · refine WL.gyes rfl rfl (okb b3) rfl (Yld.pure tab_ok rfl) ?_
            refine WL.gyes rfl rfl (okb b3) rfl (Yld.pure tab_ok rfl) ?_
            refine WL.gyes rfl rfl (okb b2) rfl (Yld.pickT (okb b3) rfl) ?_
            refine WL.y rfl (Yld.pickF (okb b2) rfl) ?_
            exact WL.weaken (by repeat (first | exact Sub.nil | refine Sub.cons rfl ?_)) (hQ _ _ ⟨decide (c ≤ (122 : Int)), rfl, by rw [b2, b3] <;> rfl, rfl⟩)
          · refine WL.gno rfl rfl (okb b3) rfl ?_
            refine WL.gno rfl rfl (okb b3) rfl ?_
            refine WL.gyes rfl rfl (okb b2) rfl (Yld.pickF (okb b3) rfl) ?_
            refine WL.y rfl (Yld.pickF (okb b2) rfl) ?_
            exact WL.weaken (by repeat (first | exact Sub.nil | refine Sub.cons rfl ?_)) (hQ _ _ ⟨false, rfl, by rw [b2, b3] <;> rfl, rfl⟩)
    · clear H
      rcases Bool.eq_false_or_eq_true ((decide ((48 : Int) ≤ c)) && (decide (c ≤ (57 : Int)))) with b4 | b4
      · refine WL.gno rfl rfl (okb b4) rfl ?_
        refine WL.gno rfl rfl (okb b4) rfl ?_
        refine WL.gno rfl rfl (okb b4) rfl ?_
        refine WL.gun rfl rfl rfl rfl ?_
        refine WL.gun rfl rfl rfl rfl ?_
        refine WL.gno rfl rfl (okb b4) rfl ?_
        refine WL.y rfl (Yld.pickT (okb b4) rfl) ?_
        exact WL.weaken (by repeat (first | exact Sub.nil | refine Sub.cons rfl ?_)) (hQ _ _ ⟨true, rfl, by rw [b4] <;> rfl, rfl⟩)
      · refine WL.gyes rfl rfl (okb b4) rfl (Yld.pure tab_ok rfl) ?_
        refine WL.gyes rfl rfl (okb b4) rfl (Yld.pure tab_ok rfl) ?_
        refine WL.gyes rfl rfl (okb b4) rfl (Yld.pure tab_ok rfl) ?_
        rcases Bool.eq_false_or_eq_true (decide ((65 : Int) ≤ c)) with b5 | b5
        · refine WL.gyes rfl rfl (okb b5) rfl (Yld.pure tab_ok rfl) ?_
          refine WL.gyes rfl rfl (okb b5) rfl (Yld.pure tab_ok rfl) ?_
          refine WL.gyes rfl rfl (okb b4) rfl (Yld.pickT (okb b5) rfl) ?_
          refine WL.y rfl (Yld.pickF (okb b4) rfl) ?_
          exact WL.weaken (by repeat (first | exact Sub.nil | refine Sub.cons rfl ?_)) (hQ _ _ ⟨decide (c ≤ (90 : Int)), rfl, by rw [b4, b5] <;> rfl, rfl⟩)
        · refine WL.gno rfl rfl (okb b5) rfl ?_
          refine WL.gno rfl rfl (okb b5) rfl ?_
          refine WL.gyes rfl rfl (okb b4) rfl (Yld.pickF (okb b5) rfl) ?_
          refine WL.y rfl (Yld.pickF (okb b4) rfl) ?_
          exact WL.weaken (by repeat (first | exact Sub.nil | refine Sub.cons rfl ?_)) (hQ _ _ ⟨false, rfl, by rw [b4, b5] <;> rfl, rfl⟩)
  · clear H
    rcases Bool.eq_false_or_eq_true (decide ((48 : Int) ≤ c)) with b6 | b6
    · refine WL.gyes rfl rfl (okb b6) rfl (Yld.pure tab_ok rfl) ?_
      refine WL.gyes rfl rfl (okb b6) rfl (Yld.pure tab_ok rfl) ?_
      refine WL.y rfl (Yld.pickT (okb b6) rfl) ?_
      exact WL.weaken (by repeat (first | exact Sub.nil | refine Sub.cons rfl ?_)) (hQ _ _ ⟨decide (c ≤ (57 : Int)), rfl, by rw [b6] <;> rfl, rfl⟩)
    · refine WL.gno rfl rfl (okb b6) rfl ?_
      refine WL.gno rfl rfl (okb b6) rfl ?_
      refine WL.y rfl (Yld.pickF (okb b6) rfl) ?_
      exact WL.weaken (by repeat (first | exact Sub.nil | refine Sub.cons rfl ?_)) (hQ _ _ ⟨false, rfl, by rw [b6] <;> rfl, rfl⟩)

set_option maxHeartbeats 8000000 in
theorem W_path_dots {w : World} {s : List UInt8} {K : Bool → Prop} (H : M_path_dots s K) : Fn Tryd.prog 127 ⟨[vs s]⟩ w (fun v w' => w = w' ∧ ∃ (r : Bool), v = .bool r ∧ K r) := by
  unfold M_path_dots at H
  refine Fn.enter (by kernel_rfl) Tryd.func127 rfl Tryd.ntmps127 rfl ?_
  refine WC.seq ?_
  refine WC.region ?_
  refine WL.y rfl (Yld.pure tab_ok rfl) ?_
  refine WL.nil (WX.then_normal ?_)
  refine WC.seq ?_
  refine WC.region ?_
  refine WL.y rfl (Yld.pure tab_ok rfl) ?_
  refine WL.y rfl (Yld.pure tab_ok rfl) ?_
  refine WL.y rfl (Yld.pure tab_ok rfl) ?_
  refine WL.midF 3 (fun L' w' => ∃ q1 : Bool, L' = [(8, .bool q1), (0, vs s)] ∧ ((decide (s = ([] : List UInt8))) || (decide (s = ([46] : List UInt8)))) = q1 ∧ w = w') ?_ (fun hQ => ?_)
  · rintro _ _ ⟨q1, rfl, rfl, rfl⟩
    refine WL.y rfl (Yld.pure tab_ok rfl) ?_
    refine WL.midF 3 (fun L' w' => ∃ q2 : Bool, L' = [(12, .bool q2)] ∧ (((decide (s = ([] : List UInt8))) || (decide (s = ([46] : List UInt8)))) || (decide (s = ([46, 46] : List UInt8)))) = q2 ∧ w = w') ?_ (fun hQ => ?_)
    · rintro _ _ ⟨q2, rfl, rfl, rfl⟩
      refine WL.y rfl (Yld.pure tab_ok rfl) ?_
      refine WL.nil (WX.then_normal ?_)
      refine WC.ret ?_
      exact WX.ret1 rfl rfl ⟨rfl, ((decide (s = ([] : List UInt8))) || (decide (s = ([46] : List UInt8)))) || (decide (s = ([46, 46] : List UInt8))), rfl, H⟩
    · clear H
      rcases Bool.eq_false_or_eq_true ((decide (s = ([] : List UInt8))) || (decide (s = ([46] : List UInt8)))) with b1 | b1
      · refine WL.gno rfl rfl (okb b1) rfl ?_
        refine WL.gno rfl rfl (okb b1) rfl ?_
        refine WL.y rfl (Yld.pickT (okb b1) rfl) ?_
        exact WL.weaken (by repeat (first | exact Sub.nil | refine Sub.cons rfl ?_)) (hQ _ _ ⟨true, rfl, by rw [b1] <;> rfl, rfl⟩)
      · refine WL.gyes rfl rfl (okb b1) rfl (Yld.pure tab_ok rfl) ?_
        refine WL.gyes rfl rfl (okb b1) rfl (Yld.pure tab_ok rfl) ?_
        refine WL.y rfl (Yld.pickF (okb b1) rfl) ?_
        exact WL.weaken (by repeat (first | exact Sub.nil | refine Sub.cons rfl ?_)) (hQ _ _ ⟨decide (s = ([46, 46] : List UInt8)), rfl, by rw [b1] <;> rfl, rfl⟩)
  · clear H
    rcases Bool.eq_false_or_eq_true (decide (s = ([] : List UInt8))) with b2 | b2
    · refine WL.gno rfl rfl (okb b2) rfl ?_
      refine WL.gno rfl rfl (okb b2) rfl ?_
      refine WL.y rfl (Yld.pickT (okb b2) rfl) ?_
      exact WL.weaken (by repeat (first | exact Sub.nil | refine Sub.cons rfl ?_)) (hQ _ _ ⟨true, rfl, by rw [b2] <;> rfl, rfl⟩)
    · refine WL.gyes rfl rfl (okb b2) rfl (Yld.pure tab_ok rfl) ?_
      refine WL.gyes rfl rfl (okb b2) rfl (Yld.pure tab_ok rfl) ?_
      refine WL.y rfl (Yld.pickF (okb b2) rfl) ?_
      exact WL.weaken (by repeat (first | exact Sub.nil | refine Sub.cons rfl ?_)) (hQ _ _ ⟨decide (s = ([46] : List UInt8)), rfl, by rw [b2] <;> rfl, rfl⟩)

set_option maxHeartbeats 8000000 in
theorem W_path_fair {w : World} {s : List UInt8} {K : Bool → Prop} (H : M_path_fair s K) : Fn Tryd.prog 102 ⟨[vs s]⟩ w (fun v w' => w = w' ∧ ∃ (r : Bool), v = .bool r ∧ K r) := by
  unfold M_path_fair at H
  refine Fn.enter (by kernel_rfl) Tryd.func102 rfl Tryd.ntmps102 rfl ?_
  refine WC.seq ?_
  refine WC.region ?_
  refine WL.y rfl (Yld.pure tab_ok rfl) ?_
  refine WL.nil (WX.then_normal ?_)
  refine WC.seq ?_
  refine WC.seq ?_
  refine WC.region ?_
  refine WL.y rfl (Yld.pure tab_ok rfl) ?_
  refine WL.y rfl (Yld.pure tab_ok rfl) ?_
  refine WL.y rfl (Yld.pure tab_ok rfl) ?_
  refine WL.nil (WX.then_normal ?_)
  refine WC.block ?_
  obtain ⟨I1, mu1, h0_1, HR1⟩ := H
  refine WC.loopF (fun n' L' w' => ∃ (t6 : Int), n' = mu1 t6 ∧ L' = [(0, vs s), (5, .int .i64 (s.length : Int)), (6, .int .i64 t6)] ∧ I1 t6 ∧ w = w') _ _ ⟨(0 : Int), rfl, rfl, h0_1, rfl⟩ (by repeat (first | exact Sub.nil | refine Sub.cons rfl ?_)) ?_
  clear h0_1
  rintro _ _ _ ⟨t6, rfl, rfl, hI1, rfl⟩
  have H := HR1 t6 hI1
  refine WC.seq ?_
  refine WC.region ?_
  refine WL.y rfl (Yld.pure tab_ok rfl) ?_
  refine WL.nil (WX.then_normal ?_)
  refine WC.seq ?_
  refine WC.cond rfl (fun b1 => ?_) (fun b1 => ?_)
  · replace H := H.1 (of_decide_eq_true b1)
    refine WC.skip (WX.then_normal ?_)
    refine WC.seq ?_
    refine WC.block ?_
    refine WC.seq ?_
    refine WC.region ?_
    refine WL.y rfl (Yld.pure tab_ok rfl) ?_
    refine WL.y rfl (Yld.pure tab_ok rfl) ?_
    refine WL.nil (WX.then_normal ?_)
    refine WC.seq ?_
    refine WC.region ?_
    refine WL.y rfl (Yld.pure tab_ok rfl) ?_
    refine WL.y rfl (Yld.pure tab_ok rfl) ?_
    obtain ⟨h1, H⟩ := H
    refine WL.y rfl (Yld.sidx tab_ok rfl rfl rfl h1.1 h1.2) ?_
    refine WL.call rfl rfl (W_path_letter H) ?_
    rintro _ _ ⟨rfl, t12, rfl, H⟩
    refine WL.y rfl (Yld.pure tab_ok rfl) ?_
    refine WL.nil (WX.then_normal ?_)
    refine WC.cond rfl (fun b2 => ?_) (fun b2 => ?_)
    · replace H := H.1 (b2)
      refine WC.seq ?_
      refine WC.region ?_
      refine WL.y rfl (Yld.pure tab_ok rfl) ?_
      refine WL.nil (WX.then_normal ?_)
      refine WC.ret (WX.block_ret (WX.then_ret (WX.then_ret (WX.block_ret (WX.then_ret ?_)))))
      exact WX.ret1 rfl rfl ⟨rfl, false, rfl, H⟩
    · replace H := H.2 (b2)
      refine WC.skip (WX.block_normal (WX.then_normal ?_))
      refine WC.region ?_
      obtain ⟨h2, H⟩ := H
      refine WL.y rfl (Yld.add rfl rfl h2) ?_
      refine WL.y rfl (Yld.pure tab_ok rfl) ?_
      refine WL.nil ?_
      exact WX.roundF _ ⟨t6 + (1 : Int), rfl, rfl, H.1, rfl⟩ (by repeat (first | exact Sub.nil | refine Sub.cons rfl ?_)) H.2
  · replace H := H.2 (of_decide_eq_false b1)
    refine WC.exit (WX.then_exit (WX.then_exit (WX.block_same (WX.then_normal ?_))))
    refine WC.seq ?_
    refine WC.region ?_
    refine WL.y rfl (Yld.pure tab_ok rfl) ?_
    refine WL.call rfl rfl (W_path_dots H) ?_
    rintro _ _ ⟨rfl, t16, rfl, H⟩
    refine WL.y rfl (Yld.pure tab_ok rfl) ?_
    refine WL.y rfl (Yld.pure tab_ok rfl) ?_
    refine WL.nil (WX.then_normal ?_)
    refine WC.ret ?_
    exact WX.ret1 rfl rfl ⟨rfl, !t16, rfl, H⟩

set_option maxHeartbeats 8000000 in
theorem W_path_Valid {S : List Nat} {w : World} {p : List UInt8} {K : Bool → Prop} (hG : GOK S w) (hS100 : 100 ∈ S) (H : M_path_Valid p K) : Fn Tryd.prog 61 ⟨[vs p]⟩ w (fun v w' => w.grownBy w' none ∧ ∃ (r : Bool), v = .bool r ∧ K r) := by
  unfold M_path_Valid at H
  refine Fn.enter (by kernel_rfl) Tryd.func61 rfl Tryd.ntmps61 rfl ?_
  refine WC.seq ?_
  refine WC.region ?_
  refine WL.y rfl (Yld.pure tab_ok rfl) ?_
  refine WL.nil (WX.then_normal ?_)
  refine WC.seq ?_
  refine WC.seq ?_
  refine WC.region ?_
  refine WL.y rfl (Yld.pure tab_ok rfl) ?_
  refine WL.y rfl (Yld.pure tab_ok rfl) ?_
  refine WL.y rfl (Yld.pure tab_ok rfl) ?_
  refine WL.nil (WX.then_normal ?_)
  refine WC.cond rfl (fun b1 => ?_) (fun b1 => ?_)
  · replace H := H.1 (of_decide_eq_true b1)
    refine WC.seq ?_
    refine WC.region ?_
    refine WL.y rfl (Yld.pure tab_ok rfl) ?_
    refine WL.nil (WX.then_normal ?_)
    refine WC.ret (WX.then_ret ?_)
    exact WX.ret1 rfl rfl ⟨(gr_refl _ _), false, rfl, H⟩
  · replace H := H.2 (of_decide_eq_false b1)
    refine WC.skip (WX.then_normal ?_)
    refine WC.seq ?_
    refine WC.seq ?_
    refine WC.region ?_
    refine WL.y rfl (Yld.pure tab_ok rfl) ?_
    refine WL.call rfl rfl (W_strings_Split hG hS100 H) ?_
    rintro _ w1 ⟨hg1, t9, A_t9, c_t9, rfl, ht9, H⟩
    have hb1 := ht9.ge'
    have k1 := ht9.base (fun g hg => Nat.le_trans (Nat.le_refl _) (hb1 g hg))
    have gr1 := hg1
    refine WL.y rfl (Yld.pure tab_ok rfl) ?_
    refine WL.y rfl (Yld.pure tab_ok rfl) ?_
    refine WL.nil (WX.then_normal ?_)
    refine WC.block ?_
    obtain ⟨I1, mu1, h0_1, HR1⟩ := H
    refine WC.loopF (fun n' L' w' => ∃ (t11 : Int), n' = mu1 t11 ∧ L' = [(9, .slice A_t9 t9.length c_t9), (10, .int .i64 (t9.length : Int)), (11, .int .i64 t11)] ∧ I1 t11 ∧ w1 = w') _ _ ⟨(0 : Int), rfl, rfl, h0_1, rfl⟩ (by repeat (first | exact Sub.nil | refine Sub.cons rfl ?_)) ?_
    clear h0_1
    rintro _ _ _ ⟨t11, rfl, rfl, hI1, rfl⟩
    have H := HR1 t11 hI1
    refine WC.seq ?_
    refine WC.region ?_
    refine WL.y rfl (Yld.pure tab_ok rfl) ?_
    refine WL.nil (WX.then_normal ?_)
    refine WC.seq ?_
    refine WC.cond rfl (fun b2 => ?_) (fun b2 => ?_)
    · replace H := H.1 (of_decide_eq_true b2)
      refine WC.skip (WX.then_normal ?_)
      refine WC.seq ?_
      refine WC.block ?_
      refine WC.seq ?_
      refine WC.region ?_
      obtain ⟨h1, H⟩ := H
      refine WL.y rfl (Yld.iaddrW tab_ok k1.rd rfl rfl rfl rfl h1.1 h1.2) ?_
      refine WL.y rfl (Yld.iload [] tab_ok k1.rd rfl rfl (iltN h1 rfl)) ?_
      refine WL.y rfl (Yld.pure tab_ok rfl) ?_
      refine WL.nil (WX.then_normal ?_)
      refine WC.seq ?_
      refine WC.region ?_
      refine WL.y rfl (Yld.pure tab_ok rfl) ?_
      refine WL.call rfl rfl (W_path_fair H) ?_
      rintro _ _ ⟨rfl, t16, rfl, H⟩
      refine WL.y rfl (Yld.pure tab_ok rfl) ?_
      refine WL.nil (WX.then_normal ?_)
      refine WC.cond rfl (fun b3 => ?_) (fun b3 => ?_)
      · replace H := H.1 (b3)
        refine WC.seq ?_
        refine WC.region ?_
        refine WL.y rfl (Yld.pure tab_ok rfl) ?_
        refine WL.nil (WX.then_normal ?_)
        refine WC.ret (WX.block_ret (WX.then_ret (WX.then_ret (WX.block_ret (WX.then_ret ?_)))))
        exact WX.ret1 rfl rfl ⟨gr1, false, rfl, H⟩
      · replace H := H.2 (b3)
        refine WC.skip (WX.block_normal (WX.then_normal ?_))
        refine WC.region ?_
        obtain ⟨h2, H⟩ := H
        refine WL.y rfl (Yld.add rfl rfl h2) ?_
        refine WL.y rfl (Yld.pure tab_ok rfl) ?_
        refine WL.nil ?_
        exact WX.roundF _ ⟨t11 + (1 : Int), rfl, rfl, H.1, rfl⟩ (by repeat (first | exact Sub.nil | refine Sub.cons rfl ?_)) H.2
    · replace H := H.2 (of_decide_eq_false b2)
      refine WC.exit (WX.then_exit (WX.then_exit (WX.block_same (WX.then_normal ?_))))
      refine WC.seq ?_
      refine WC.region ?_
      refine WL.y rfl (Yld.pure tab_ok rfl) ?_
      refine WL.nil (WX.then_normal ?_)
      refine WC.ret ?_
      exact WX.ret1 rfl rfl ⟨gr1, true, rfl, H⟩

set_option maxHeartbeats 8000000 in
theorem W_smithyref_SameTexts {w : World} {a : List (List UInt8)} {A_a : Option Addr} {c_a : Nat} {b : List (List UInt8)} {A_b : Option Addr} {c_b : Nat} {n_a : Nat} {n_b : Nat} {K : Bool → Prop} (ha : Rd vs w A_a c_a a) (hn_a : n_a = a.length) (hb : Rd vs w A_b c_b b) (hn_b : n_b = b.length) (H : M_smithyref_SameTexts a b K) : Fn Tryd.prog 34 ⟨[.slice A_a n_a c_a, .slice A_b n_b c_b]⟩ w (fun v w' => w = w' ∧ ∃ (r : Bool), v = .bool r ∧ K r) := by
  subst hn_a
  subst hn_b
  unfold M_smithyref_SameTexts at H
  refine Fn.enter (by kernel_rfl) Tryd.func34 rfl Tryd.ntmps34 rfl ?_
  replace H := H (Nat.le_trans ha.cap ha.max)
  replace H := H (Nat.le_trans hb.cap hb.max)
  refine WC.seq ?_
  refine WC.region ?_
  refine WL.y rfl (Yld.pure tab_ok rfl) ?_
  refine WL.nil (WX.then_normal ?_)
  refine WC.seq ?_
  refine WC.seq ?_
  refine WC.region ?_
  refine WL.y rfl (Yld.pure tab_ok rfl) ?_
  refine WL.y rfl (Yld.pure tab_ok rfl) ?_
  refine WL.y rfl (Yld.pure tab_ok rfl) ?_
  refine WL.y rfl (Yld.pure tab_ok rfl) ?_
  refine WL.y rfl (Yld.pure tab_ok rfl) ?_
  refine WL.nil (WX.then_normal ?_)
  refine WC.cond rfl (fun b1 => ?_) (fun b1 => ?_)
  · replace H := H.1 (nd_true b1)
    refine WC.seq ?_
    refine WC.region ?_
    refine WL.y rfl (Yld.pure tab_ok rfl) ?_
    refine WL.nil (WX.then_normal ?_)
    refine WC.ret (WX.then_ret ?_)
    exact WX.ret1 rfl rfl ⟨rfl, false, rfl, H⟩
  · replace H := H.2 (nd_false b1)
    refine WC.skip (WX.then_normal ?_)
    refine WC.seq ?_
    refine WC.seq ?_
    refine WC.region ?_
    refine WL.y rfl (Yld.pure tab_ok rfl) ?_
    refine WL.nil (WX.then_normal ?_)
    refine WC.block ?_
    obtain ⟨I1, mu1, h0_1, HR1⟩ := H
    refine WC.loopF (fun n' L' w' => ∃ (i : Int), n' = mu1 i ∧ L' = [(0, .slice A_a a.length c_a), (1, .slice A_b b.length c_b), (5, .int .i64 i)] ∧ I1 i ∧ w = w') _ _ ⟨(0 : Int), rfl, rfl, h0_1, rfl⟩ (by repeat (first | exact Sub.nil | refine Sub.cons rfl ?_)) ?_
    clear h0_1
    rintro _ _ _ ⟨i, rfl, rfl, hI1, rfl⟩
    have H := HR1 i hI1
    refine WC.seq ?_
    refine WC.seq ?_
    refine WC.region ?_
    refine WL.y rfl (Yld.pure tab_ok rfl) ?_
    refine WL.y rfl (Yld.pure tab_ok rfl) ?_
    refine WL.y rfl (Yld.pure tab_ok rfl) ?_
    refine WL.y rfl (Yld.pure tab_ok rfl) ?_
    refine WL.nil (WX.then_normal ?_)
    refine WC.cond rfl (fun b2 => ?_) (fun b2 => ?_)
    · replace H := H.1 (of_decide_eq_true b2)
      refine WC.skip (WX.then_normal ?_)
      refine WC.seq ?_
      refine WC.block ?_
      refine WC.seq ?_
      refine WC.quiet mixed (by kernel_rfl) ?_
      refine WQ.y rfl (Yld.pure tab_ok rfl) ?_
      refine WQ.y rfl (Yld.pure tab_ok rfl) ?_
      obtain ⟨h1, H⟩ := H
      refine WQ.y rfl (Yld.iaddrW tab_ok ha rfl rfl rfl rfl h1.1 h1.2) ?_
      refine WQ.y rfl (Yld.iload [] tab_ok ha rfl rfl (iltN h1 rfl)) ?_
      refine WQ.y rfl (Yld.pure tab_ok rfl) ?_
      refine WQ.y rfl (Yld.pure tab_ok rfl) ?_
      obtain ⟨h2, H⟩ := H
      refine WQ.y rfl (Yld.iaddrW tab_ok hb rfl rfl rfl rfl h2.1 h2.2) ?_
      refine WQ.y rfl (Yld.iload [] tab_ok hb rfl rfl (iltN h2 rfl)) ?_
      refine WQ.y rfl (Yld.pure tab_ok rfl) ?_
      refine WQ.y rfl (Yld.pure tab_ok rfl) ?_
      refine WQ.nil (WX.then_normal ?_)
      refine WC.seq ?_
      refine WC.region ?_
      refine WL.y rfl (Yld.pure tab_ok rfl) ?_
      refine WL.y rfl (Yld.pure tab_ok rfl) ?_
      refine WL.nil (WX.then_normal ?_)
      refine WC.cond rfl (fun b3 => ?_) (fun b3 => ?_)
      · replace H := H.1 (nd_true b3)
        refine WC.seq ?_
        refine WC.region ?_
        refine WL.y rfl (Yld.pure tab_ok rfl) ?_
        refine WL.nil (WX.then_normal ?_)
        refine WC.ret (WX.block_ret (WX.then_ret (WX.then_ret (WX.block_ret (WX.then_ret ?_)))))
        exact WX.ret1 rfl rfl ⟨rfl, false, rfl, H⟩
      · replace H := H.2 (nd_false b3)
        refine WC.skip (WX.block_normal (WX.then_normal ?_))
        refine WC.region ?_
        refine WL.y rfl (Yld.pure tab_ok rfl) ?_
        obtain ⟨h3, H⟩ := H
        refine WL.y rfl (Yld.add rfl rfl h3) ?_
        refine WL.y rfl (Yld.pure tab_ok rfl) ?_
        refine WL.nil ?_
        exact WX.roundF _ ⟨i + (1 : Int), rfl, rfl, H.1, rfl⟩ (by repeat (first | exact Sub.nil | refine Sub.cons rfl ?_)) H.2
    · replace H := H.2 (of_decide_eq_false b2)
      refine WC.exit (WX.then_exit (WX.then_exit (WX.block_same (WX.then_normal ?_))))
      refine WC.seq ?_
      refine WC.region ?_
      refine WL.y rfl (Yld.pure tab_ok rfl) ?_
      refine WL.nil (WX.then_normal ?_)
      refine WC.ret ?_
      exact WX.ret1 rfl rfl ⟨rfl, true, rfl, H⟩

set_option maxHeartbeats 8000000 in
theorem W_smithyworld_Number {w : World} {n : Int} {below : Int} {K : Int → Prop} (H : M_smithyworld_Number n below K) : Fn Tryd.prog 20 ⟨[.int .i64 n, .int .i64 below]⟩ w (fun v w' => w = w' ∧ ∃ (r : Int), v = .int .i64 r ∧ K r) := by
  unfold M_smithyworld_Number at H
  refine Fn.enter (by kernel_rfl) Tryd.func20 rfl Tryd.ntmps20 rfl ?_
  refine WC.seq ?_
  refine WC.region ?_
  refine WL.y rfl (Yld.pure tab_ok rfl) ?_
  refine WL.nil (WX.then_normal ?_)
  refine WC.seq ?_
  refine WC.region ?_
  refine WL.y rfl (Yld.pure tab_ok rfl) ?_
  refine WL.y rfl (Yld.pure tab_ok rfl) ?_
  obtain ⟨h1, H⟩ := H
  refine WL.y rfl (Yld.rem' rfl rfl h1) ?_
  refine WL.y rfl (Yld.pure tab_ok rfl) ?_
  obtain ⟨h2, H⟩ := H
  refine WL.y rfl (Yld.add rfl rfl h2) ?_
  refine WL.y rfl (Yld.pure tab_ok rfl) ?_
  obtain ⟨h3, H⟩ := H
  refine WL.y rfl (Yld.rem' rfl rfl h3) ?_
  refine WL.y rfl (Yld.pure tab_ok rfl) ?_
  refine WL.nil (WX.then_normal ?_)
  refine WC.ret ?_
  exact WX.ret1 rfl rfl ⟨rfl, ((n.tmod below) + below).tmod below, rfl, H⟩

end Go.Proofs.YtlonpmajnglmoaaDoor

 /- Printed by a program (wip/vg): what the functions mean, plainly, and their walks. -/
namespace Go.Proofs.YtlonpmajnglmoaaDoor
open Go Go.RowKit
attribute [local irreducible] WL WC WX WQ WK WJ Yld Eff Ef0 Fn
def M_smithysee_Alike (a : Er) (b : Er) (K : Bool → Prop) : Prop :=
 ((((decide (a = Er.ok)) || (decide (b = Er.ok))) = true → K ((decide (a = Er.ok)) && (decide (b = Er.ok)))) ∧
 (((decide (a = Er.ok)) || (decide (b = Er.ok))) = false → (¬ (a = Er.ok ∧ b = Er.ok) ∧ ((∀ p n, a ≠ Er.at_ p n) ∨ ∀ p n, b ≠ Er.at_ p n)) ∧
 K (decide (a = b))))

def M_smithyref_None (K : Int → Bool → Int → Bool → (List UInt8) → Prop) : Prop :=
 K (0 : Int) false (0 : Int) false ([] : List UInt8)

def M_smithyref_Bare (code : Int) (K : Int → Bool → Int → Bool → (List UInt8) → Prop) : Prop :=
 K code false (0 : Int) false ([] : List UInt8)

def M_smithyref_Placed (code : Int) (pos : Int) (K : Int → Bool → Int → Bool → (List UInt8) → Prop) : Prop :=
 ((code = (0 : Int) → M_smithyref_None (fun (t7_Code : Int) (t7_Placed : Bool) (t7_Pos : Int) (t7_Filed : Bool) (t7_File : List UInt8) =>
 K t7_Code t7_Placed t7_Pos t7_Filed t7_File)) ∧
 (¬ (code = (0 : Int)) → K code true pos false ([] : List UInt8)))

def M_smithyref_SameFault (a_Code : Int) (a_Placed : Bool) (a_Pos : Int) (a_Filed : Bool) (a_File : List UInt8) (b_Code : Int) (b_Placed : Bool) (b_Pos : Int) (b_Filed : Bool) (b_File : List UInt8) (K : Bool → Prop) : Prop :=
 K (((((decide (a_Code = b_Code)) && (a_Placed == b_Placed)) && (decide (a_Pos = b_Pos))) && (a_Filed == b_Filed)) && (decide (a_File = b_File)))

set_option maxHeartbeats 8000000 in
theorem W_smithysee_Alike {S : List Nat} {w : World} {v_a : Value} {a : Er} {v_b : Value} {b : Er} {K : Bool → Prop} (ha : ErrR S w v_a a) (hb : ErrR S w v_b b) (H : M_smithysee_Alike a b K) : Fn Tryd.prog 189 ⟨[v_a, v_b]⟩ w (fun v w' => w = w' ∧ ∃ (r : Bool), v = .bool r ∧ K r) := by
  unfold M_smithysee_Alike at H
  refine Fn.enter (by kernel_rfl) Tryd.func189 rfl Tryd.ntmps189 rfl ?_
  refine WC.seq ?_
  refine WC.region ?_
  refine WL.y rfl (Yld.pure tab_ok rfl) ?_
  refine WL.nil (WX.then_normal ?_)
  refine WC.seq ?_
  refine WC.seq ?_
  refine WC.region ?_
  refine WL.y rfl (Yld.pure tab_ok rfl) ?_
  refine WL.y rfl (Yld.erreql Tryd.underlying29 ha rfl) ?_
  refine WL.y rfl (Yld.pure tab_ok rfl) ?_
  refine WL.midF 3 (fun L' w' => ∃ q1 : Bool, L' = [(10, .bool q1), (0, v_a), (1, v_b)] ∧ ((decide (a = Er.ok)) || (decide (b = Er.ok))) = q1 ∧ w = w') ?_ (fun hQ => ?_)
  · rintro _ _ ⟨q1, rfl, rfl, rfl⟩
    refine WL.nil (WX.then_normal ?_)
    refine WC.cond rfl (fun b1 => ?_) (fun b1 => ?_)
    · replace H := H.1 (b1)
      refine WC.seq ?_
      refine WC.region ?_
      refine WL.y rfl (Yld.pure tab_ok rfl) ?_
      refine WL.y rfl (Yld.erreql Tryd.underlying29 ha rfl) ?_
      refine WL.y rfl (Yld.pure tab_ok rfl) ?_
      refine WL.midF 3 (fun L' w' => ∃ q2 : Bool, L' = [(16, .bool q2)] ∧ ((decide (a = Er.ok)) && (decide (b = Er.ok))) = q2 ∧ w = w') ?_ (fun hQ => ?_)
      · rintro _ _ ⟨q2, rfl, rfl, rfl⟩
        refine WL.y rfl (Yld.pure tab_ok rfl) ?_
        refine WL.nil (WX.then_normal ?_)
        refine WC.ret (WX.then_ret ?_)
        exact WX.ret1 rfl rfl ⟨rfl, (decide (a = Er.ok)) && (decide (b = Er.ok)), rfl, H⟩
      · clear H
        rcases Bool.eq_false_or_eq_true (decide (a = Er.ok)) with b2 | b2
        · refine WL.gyes rfl rfl (okb b2) rfl (Yld.pure tab_ok rfl) ?_
          refine WL.gyes rfl rfl (okb b2) rfl (Yld.erreql Tryd.underlying29 hb rfl) ?_
          refine WL.y rfl (Yld.pickT (okb b2) rfl) ?_
          exact WL.weaken (by repeat (first | exact Sub.nil | refine Sub.cons rfl ?_)) (hQ _ _ ⟨decide (b = Er.ok), rfl, by rw [b2] <;> rfl, rfl⟩)
        · refine WL.gno rfl rfl (okb b2) rfl ?_
          refine WL.gno rfl rfl (okb b2) rfl ?_
          refine WL.y rfl (Yld.pickF (okb b2) rfl) ?_
          exact WL.weaken (by repeat (first | exact Sub.nil | refine Sub.cons rfl ?_)) (hQ _ _ ⟨false, rfl, by rw [b2] <;> rfl, rfl⟩)
    · replace H := H.2 (b1)
      refine WC.skip (WX.then_normal ?_)
      refine WC.seq ?_
      refine WC.region ?_
      refine WL.y rfl (Yld.pure tab_ok rfl) ?_
      refine WL.y rfl (Yld.pure tab_ok rfl) ?_
      obtain ⟨h1, H⟩ := H
      refine WL.y rfl (Yld.erreqA ha hb h1 rfl rfl) ?_
      refine WL.y rfl (Yld.pure tab_ok rfl) ?_
      refine WL.nil (WX.then_normal ?_)
      refine WC.ret ?_
      exact WX.ret1 rfl rfl ⟨rfl, decide (a = b), rfl, H⟩
  · clear H
    rcases Bool.eq_false_or_eq_true (decide (a = Er.ok)) with b3 | b3
    · refine WL.gno rfl rfl (okb b3) rfl ?_
      refine WL.gno rfl rfl (okb b3) rfl ?_
      refine WL.y rfl (Yld.pickT (okb b3) rfl) ?_
      exact WL.weaken (by repeat (first | exact Sub.nil | refine Sub.cons rfl ?_)) (hQ _ _ ⟨true, rfl, by rw [b3] <;> rfl, rfl⟩)
    · refine WL.gyes rfl rfl (okb b3) rfl (Yld.pure tab_ok rfl) ?_
      refine WL.gyes rfl rfl (okb b3) rfl (Yld.erreql Tryd.underlying29 hb rfl) ?_
      refine WL.y rfl (Yld.pickF (okb b3) rfl) ?_
      exact WL.weaken (by repeat (first | exact Sub.nil | refine Sub.cons rfl ?_)) (hQ _ _ ⟨decide (b = Er.ok), rfl, by rw [b3] <;> rfl, rfl⟩)

set_option maxHeartbeats 8000000 in
theorem W_smithyref_None {w : World} {K : Int → Bool → Int → Bool → (List UInt8) → Prop} (H : M_smithyref_None  K) : Fn Tryd.prog 96 ⟨[]⟩ w (fun v w' => w.grownBy w' none ∧ ∃ (r_Code : Int), ∃ (r_Placed : Bool), ∃ (r_Pos : Int), ∃ (r_Filed : Bool), ∃ (r_File : List UInt8), v = .agg ⟨[.int .i64 r_Code, .bool r_Placed, .int .i64 r_Pos, .bool r_Filed, vs r_File]⟩ ∧ K r_Code r_Placed r_Pos r_Filed r_File) := by
  unfold M_smithyref_None at H
  refine Fn.enter (by kernel_rfl) Tryd.func96 rfl Tryd.ntmps96 rfl ?_
  refine WC.seq ?_
  refine WC.region ?_
  refine WL.alloc rfl zero105 (fun g1 w1 hB1 hg1 hl1 => ?_)
  have gr1 := hg1
  refine WL.nil (WX.then_normal ?_)
  refine WC.seq ?_
  refine WC.region ?_
  refine WL.y rfl (Yld.struct (us := [.int .i64 (0 : Int), .bool false, .int .i64 (0 : Int), .bool false, vs ([] : List UInt8)]) zero105 places105 rfl rfl) ?_
  refine WL.storeW (vs := [.int .i64 (0 : Int), .bool false, .int .i64 (0 : Int), .bool false, vs ([] : List UInt8)]) tab_ok rfl rfl rfl (all1c rfl (all1c rfl (all1c rfl (all1c rfl (all1c rfl all1n))))) hB1 rfl rfl (fun w2 hB2 hg2 => ?_)
  have gr2 := gr_mod gr1 hg2 (Ge.le (Ge.box hl1) (Nat.le_refl _))
  refine WL.nil (WX.then_normal ?_)
  refine WC.ret ?_
  exact WX.retc tab_ok rfl rfl rfl hB2 rfl ⟨gr2, (0 : Int), false, (0 : Int), false, ([] : List UInt8), rfl, H⟩

set_option maxHeartbeats 8000000 in
theorem W_smithyref_Bare {w : World} {code : Int} {K : Int → Bool → Int → Bool → (List UInt8) → Prop} (H : M_smithyref_Bare code K) : Fn Tryd.prog 71 ⟨[.int .i64 code]⟩ w (fun v w' => w.grownBy w' none ∧ ∃ (r_Code : Int), ∃ (r_Placed : Bool), ∃ (r_Pos : Int), ∃ (r_Filed : Bool), ∃ (r_File : List UInt8), v = .agg ⟨[.int .i64 r_Code, .bool r_Placed, .int .i64 r_Pos, .bool r_Filed, vs r_File]⟩ ∧ K r_Code r_Placed r_Pos r_Filed r_File) := by
  unfold M_smithyref_Bare at H
  refine Fn.enter (by kernel_rfl) Tryd.func71 rfl Tryd.ntmps71 rfl ?_
  refine WC.seq ?_
  refine WC.region ?_
  refine WL.alloc rfl zero105 (fun g1 w1 hB1 hg1 hl1 => ?_)
  have gr1 := hg1
  refine WL.nil (WX.then_normal ?_)
  refine WC.seq ?_
  refine WC.region ?_
  refine WL.y rfl (Yld.pure tab_ok rfl) ?_
  refine WL.y rfl (Yld.struct (us := [.int .i64 code, .bool false, .int .i64 (0 : Int), .bool false, vs ([] : List UInt8)]) zero105 places105 rfl rfl) ?_
  refine WL.storeW (vs := [.int .i64 code, .bool false, .int .i64 (0 : Int), .bool false, vs ([] : List UInt8)]) tab_ok rfl rfl rfl (all1c rfl (all1c rfl (all1c rfl (all1c rfl (all1c rfl all1n))))) hB1 rfl rfl (fun w2 hB2 hg2 => ?_)
  have gr2 := gr_mod gr1 hg2 (Ge.le (Ge.box hl1) (Nat.le_refl _))
  refine WL.nil (WX.then_normal ?_)
  refine WC.ret ?_
  exact WX.retc tab_ok rfl rfl rfl hB2 rfl ⟨gr2, code, false, (0 : Int), false, ([] : List UInt8), rfl, H⟩

set_option maxHeartbeats 8000000 in
theorem W_smithyref_Placed {w : World} {code : Int} {pos : Int} {K : Int → Bool → Int → Bool → (List UInt8) → Prop} (H : M_smithyref_Placed code pos K) : Fn Tryd.prog 55 ⟨[.int .i64 code, .int .i64 pos]⟩ w (fun v w' => w.grownBy w' none ∧ ∃ (r_Code : Int), ∃ (r_Placed : Bool), ∃ (r_Pos : Int), ∃ (r_Filed : Bool), ∃ (r_File : List UInt8), v = .agg ⟨[.int .i64 r_Code, .bool r_Placed, .int .i64 r_Pos, .bool r_Filed, vs r_File]⟩ ∧ K r_Code r_Placed r_Pos r_Filed r_File) := by
  unfold M_smithyref_Placed at H
  refine Fn.enter (by kernel_rfl) Tryd.func55 rfl Tryd.ntmps55 rfl ?_
  refine WC.seq ?_
  refine WC.region ?_
  refine WL.alloc rfl zero105 (fun g1 w1 hB1 hg1 hl1 => ?_)
  have gr1 := hg1
  refine WL.nil (WX.then_normal ?_)
  refine WC.seq ?_
  refine WC.seq ?_
  refine WC.region ?_
  refine WL.y rfl (Yld.pure tab_ok rfl) ?_
  refine WL.y rfl (Yld.pure tab_ok rfl) ?_
  refine WL.nil (WX.then_normal ?_)
  refine WC.cond rfl (fun b1 => ?_) (fun b1 => ?_)
  · replace H := H.1 (of_decide_eq_true b1)
    refine WC.seq ?_
    refine WC.region ?_
    refine WL.call rfl rfl (W_smithyref_None H) ?_
    rintro _ w2 ⟨hg2, t7_Code, t7_Placed, t7_Pos, t7_Filed, t7_File, rfl, H⟩
    have gr2 := gr_trans gr1 hg2
    have k1 := hB1.g0 hg2
    refine WL.storeW (vs := [.int .i64 t7_Code, .bool t7_Placed, .int .i64 t7_Pos, .bool t7_Filed, vs t7_File]) tab_ok rfl rfl rfl (all1c rfl (all1c rfl (all1c rfl (all1c rfl (all1c rfl all1n))))) k1 rfl rfl (fun w3 hB2 hg3 => ?_)
    have gr3 := gr_mod gr2 hg3 (Ge.le (Ge.box hl1) (Nat.le_refl _))
    refine WL.nil (WX.then_normal ?_)
    refine WC.ret (WX.then_ret ?_)
    exact WX.retc tab_ok rfl rfl rfl hB2 rfl ⟨gr3, t7_Code, t7_Placed, t7_Pos, t7_Filed, t7_File, rfl, H⟩
  · replace H := H.2 (of_decide_eq_false b1)
    refine WC.skip (WX.then_normal ?_)
    refine WC.seq ?_
    refine WC.region ?_
    refine WL.y rfl (Yld.pure tab_ok rfl) ?_
    refine WL.y rfl (Yld.pure tab_ok rfl) ?_
    refine WL.y rfl (Yld.struct (us := [.int .i64 code, .bool true, .int .i64 pos, .bool false, vs ([] : List UInt8)]) zero105 places105 rfl rfl) ?_
    refine WL.storeW (vs := [.int .i64 code, .bool true, .int .i64 pos, .bool false, vs ([] : List UInt8)]) tab_ok rfl rfl rfl (all1c rfl (all1c rfl (all1c rfl (all1c rfl (all1c rfl all1n))))) hB1 rfl rfl (fun w4 hB3 hg4 => ?_)
    have gr4 := gr_mod gr1 hg4 (Ge.le (Ge.box hl1) (Nat.le_refl _))
    refine WL.nil (WX.then_normal ?_)
    refine WC.ret ?_
    exact WX.retc tab_ok rfl rfl rfl hB3 rfl ⟨gr4, code, true, pos, false, ([] : List UInt8), rfl, H⟩

set_option maxHeartbeats 8000000 in
theorem W_smithyref_SameFault {w : World} {a_Code : Int} {a_Placed : Bool} {a_Pos : Int} {a_Filed : Bool} {a_File : List UInt8} {b_Code : Int} {b_Placed : Bool} {b_Pos : Int} {b_Filed : Bool} {b_File : List UInt8} {K : Bool → Prop} (H : M_smithyref_SameFault a_Code a_Placed a_Pos a_Filed a_File b_Code b_Placed b_Pos b_Filed b_File K) : Fn Tryd.prog 94 ⟨[.agg ⟨[.int .i64 a_Code, .bool a_Placed, .int .i64 a_Pos, .bool a_Filed, vs a_File]⟩, .agg ⟨[.int .i64 b_Code, .bool b_Placed, .int .i64 b_Pos, .bool b_Filed, vs b_File]⟩]⟩ w (fun v w' => w.grownBy w' none ∧ ∃ (r : Bool), v = .bool r ∧ K r) := by
  unfold M_smithyref_SameFault at H
  refine Fn.enter (by kernel_rfl) Tryd.func94 rfl Tryd.ntmps94 rfl ?_
  refine WC.seq ?_
  refine WC.region ?_
  refine WL.box (us := [.int .i64 a_Code, .bool a_Placed, .int .i64 a_Pos, .bool a_Filed, vs a_File]) rfl rfl rfl (fun g1 w1 hB1 hg1 hl1 => ?_)
  have gr1 := hg1
  refine WL.box (us := [.int .i64 b_Code, .bool b_Placed, .int .i64 b_Pos, .bool b_Filed, vs b_File]) rfl rfl rfl (fun g2 w2 hB2 hg2 hl2 => ?_)
  have gr2 := gr_trans gr1 hg2
  have k1 := hB1.g0 hg2
  refine WL.y rfl (Yld.pure tab_ok rfl) ?_
  refine WL.nil (WX.then_normal ?_)
  refine WC.seq ?_
  refine WC.region ?_
  refine WL.y rfl (Yld.pure tab_ok rfl) ?_
  refine WL.y rfl (Yld.bload tab_ok k1 rfl rfl rfl) ?_
  refine WL.y rfl (Yld.pure tab_ok rfl) ?_
  refine WL.y rfl (Yld.bload tab_ok hB2 rfl rfl rfl) ?_
  refine WL.y rfl (Yld.pure tab_ok rfl) ?_
  refine WL.y rfl (Yld.pure tab_ok rfl) ?_
  refine WL.midF 6 (fun L' w' => ∃ q1 : Bool, L' = [(16, .bool q1), (2, .pointer (some ⟨g1, 0, none⟩)), (3, .pointer (some ⟨g2, 0, none⟩))] ∧ ((decide (a_Code = b_Code)) && (a_Placed == b_Placed)) = q1 ∧ w2 = w') ?_ (fun hQ => ?_)
  · rintro _ _ ⟨q1, rfl, rfl, rfl⟩
    refine WL.y rfl (Yld.pure tab_ok rfl) ?_
    refine WL.midF 6 (fun L' w' => ∃ q2 : Bool, L' = [(23, .bool q2), (2, .pointer (some ⟨g1, 0, none⟩)), (3, .pointer (some ⟨g2, 0, none⟩))] ∧ (((decide (a_Code = b_Code)) && (a_Placed == b_Placed)) && (decide (a_Pos = b_Pos))) = q2 ∧ w2 = w') ?_ (fun hQ => ?_)
    · rintro _ _ ⟨q2, rfl, rfl, rfl⟩
      refine WL.y rfl (Yld.pure tab_ok rfl) ?_
      refine WL.midF 6 (fun L' w' => ∃ q3 : Bool, L' = [(30, .bool q3), (2, .pointer (some ⟨g1, 0, none⟩)), (3, .pointer (some ⟨g2, 0, none⟩))] ∧ ((((decide (a_Code = b_Code)) && (a_Placed == b_Placed)) && (decide (a_Pos = b_Pos))) && (a_Filed == b_Filed)) = q3 ∧ w2 = w') ?_ (fun hQ => ?_)
      · rintro _ _ ⟨q3, rfl, rfl, rfl⟩
        refine WL.y rfl (Yld.pure tab_ok rfl) ?_
        refine WL.midF 6 (fun L' w' => ∃ q4 : Bool, L' = [(37, .bool q4)] ∧ (((((decide (a_Code = b_Code)) && (a_Placed == b_Placed)) && (decide (a_Pos = b_Pos))) && (a_Filed == b_Filed)) && (decide (a_File = b_File))) = q4 ∧ w2 = w') ?_ (fun hQ => ?_)
        · rintro _ _ ⟨q4, rfl, rfl, rfl⟩
          refine WL.y rfl (Yld.pure tab_ok rfl) ?_
          refine WL.nil (WX.then_normal ?_)
          refine WC.ret ?_
          exact WX.ret1 rfl rfl ⟨gr2, ((((decide (a_Code = b_Code)) && (a_Placed == b_Placed)) && (decide (a_Pos = b_Pos))) && (a_Filed == b_Filed)) && (decide (a_File = b_File)), rfl, H⟩
        · clear H
          rcases Bool.eq_false_or_eq_true ((((decide (a_Code = b_Code)) && (a_Placed == b_Placed)) && (decide (a_Pos = b_Pos))) && (a_Filed == b_Filed)) with b1 | b1
          · refine WL.gyes rfl rfl (okb b1) rfl (Yld.pure tab_ok rfl) ?_
            refine WL.gyes rfl rfl (okb b1) rfl (Yld.bload tab_ok k1 rfl rfl rfl) ?_
            refine WL.gyes rfl rfl (okb b1) rfl (Yld.pure tab_ok rfl) ?_
            refine WL.gyes rfl rfl (okb b1) rfl (Yld.bload tab_ok hB2 rfl rfl rfl) ?_
            refine WL.gyes rfl rfl (okb b1) rfl (Yld.pure tab_ok rfl) ?_
            refine WL.y rfl (Yld.pickT (okb b1) rfl) ?_
            exact WL.weaken (by repeat (first | exact Sub.nil | refine Sub.cons rfl ?_)) (hQ _ _ ⟨decide (a_File = b_File), rfl, by rw [b1] <;> rfl, rfl⟩)
          · refine WL.gno rfl rfl (okb b1) rfl ?_
            refine WL.gno rfl rfl (okb b1) rfl ?_
            refine WL.gno rfl rfl (okb b1) rfl ?_
            refine WL.gno rfl rfl (okb b1) rfl ?_
            refine WL.gno rfl rfl (okb b1) rfl ?_
            refine WL.y rfl (Yld.pickF (okb b1) rfl) ?_
            exact WL.weaken (by repeat (first | exact Sub.nil | refine Sub.cons rfl ?_)) (hQ _ _ ⟨false, rfl, by rw [b1] <;> rfl, rfl⟩)
      · clear H
        rcases Bool.eq_false_or_eq_true (((decide (a_Code = b_Code)) && (a_Placed == b_Placed)) && (decide (a_Pos = b_Pos))) with b2 | b2
        · refine WL.gyes rfl rfl (okb b2) rfl (Yld.pure tab_ok rfl) ?_
          refine WL.gyes rfl rfl (okb b2) rfl (Yld.bload tab_ok k1 rfl rfl rfl) ?_
          refine WL.gyes rfl rfl (okb b2) rfl (Yld.pure tab_ok rfl) ?_
          refine WL.gyes rfl rfl (okb b2) rfl (Yld.bload tab_ok hB2 rfl rfl rfl) ?_
          refine WL.gyes rfl rfl (okb b2) rfl (Yld.beql Tryd.underlying4 rfl rfl) ?_
          refine WL.y rfl (Yld.pickT (okb b2) rfl) ?_
          exact WL.weaken (by repeat (first | exact Sub.nil | refine Sub.cons rfl ?_)) (hQ _ _ ⟨a_Filed == b_Filed, rfl, by rw [b2] <;> rfl, rfl⟩)
        · refine WL.gno rfl rfl (okb b2) rfl ?_
          refine WL.gno rfl rfl (okb b2) rfl ?_
          refine WL.gno rfl rfl (okb b2) rfl ?_
          refine WL.gno rfl rfl (okb b2) rfl ?_
          refine WL.gno rfl rfl (okb b2) rfl ?_
          refine WL.y rfl (Yld.pickF (okb b2) rfl) ?_
          exact WL.weaken (by repeat (first | exact Sub.nil | refine Sub.cons rfl ?_)) (hQ _ _ ⟨false, rfl, by rw [b2] <;> rfl, rfl⟩)
    · clear H
      rcases Bool.eq_false_or_eq_true ((decide (a_Code = b_Code)) && (a_Placed == b_Placed)) with b3 | b3
      · refine WL.gyes rfl rfl (okb b3) rfl (Yld.pure tab_ok rfl) ?_
        refine WL.gyes rfl rfl (okb b3) rfl (Yld.bload tab_ok k1 rfl rfl rfl) ?_
        refine WL.gyes rfl rfl (okb b3) rfl (Yld.pure tab_ok rfl) ?_
        refine WL.gyes rfl rfl (okb b3) rfl (Yld.bload tab_ok hB2 rfl rfl rfl) ?_
        refine WL.gyes rfl rfl (okb b3) rfl (Yld.pure tab_ok rfl) ?_
        refine WL.y rfl (Yld.pickT (okb b3) rfl) ?_
        exact WL.weaken (by repeat (first | exact Sub.nil | refine Sub.cons rfl ?_)) (hQ _ _ ⟨decide (a_Pos = b_Pos), rfl, by rw [b3] <;> rfl, rfl⟩)
      · refine WL.gno rfl rfl (okb b3) rfl ?_
        refine WL.gno rfl rfl (okb b3) rfl ?_
        refine WL.gno rfl rfl (okb b3) rfl ?_
        refine WL.gno rfl rfl (okb b3) rfl ?_
        refine WL.gno rfl rfl (okb b3) rfl ?_
        refine WL.y rfl (Yld.pickF (okb b3) rfl) ?_
        exact WL.weaken (by repeat (first | exact Sub.nil | refine Sub.cons rfl ?_)) (hQ _ _ ⟨false, rfl, by rw [b3] <;> rfl, rfl⟩)
  · clear H
    rcases Bool.eq_false_or_eq_true (decide (a_Code = b_Code)) with b4 | b4
    · refine WL.gyes rfl rfl (okb b4) rfl (Yld.pure tab_ok rfl) ?_
      refine WL.gyes rfl rfl (okb b4) rfl (Yld.bload tab_ok k1 rfl rfl rfl) ?_
      refine WL.gyes rfl rfl (okb b4) rfl (Yld.pure tab_ok rfl) ?_
      refine WL.gyes rfl rfl (okb b4) rfl (Yld.bload tab_ok hB2 rfl rfl rfl) ?_
      refine WL.gyes rfl rfl (okb b4) rfl (Yld.beql Tryd.underlying4 rfl rfl) ?_
      refine WL.y rfl (Yld.pickT (okb b4) rfl) ?_
      exact WL.weaken (by repeat (first | exact Sub.nil | refine Sub.cons rfl ?_)) (hQ _ _ ⟨a_Placed == b_Placed, rfl, by rw [b4] <;> rfl, rfl⟩)
    · refine WL.gno rfl rfl (okb b4) rfl ?_
      refine WL.gno rfl rfl (okb b4) rfl ?_
      refine WL.gno rfl rfl (okb b4) rfl ?_
      refine WL.gno rfl rfl (okb b4) rfl ?_
      refine WL.gno rfl rfl (okb b4) rfl ?_
      refine WL.y rfl (Yld.pickF (okb b4) rfl) ?_
      exact WL.weaken (by repeat (first | exact Sub.nil | refine Sub.cons rfl ?_)) (hQ _ _ ⟨false, rfl, by rw [b4] <;> rfl, rfl⟩)

end Go.Proofs.YtlonpmajnglmoaaDoor

 /- smithysee.sentinel: the number of one of api's variables. -/
namespace Go.Proofs.YtlonpmajnglmoaaDoor
open Go Go.RowKit
attribute [local irreducible] WL WC WX WQ WK WJ Yld Eff Ef0 Fn
theorem Rd.ofBlV {w : World} {g m : Nat} {e : TypeId} {us : List Value} (h : Bl w g e us) (hm : us.length = m) (hx : m ≤ maxLen) : Rd (fun v => v) w (some ⟨g, 0, none⟩) m us := ⟨by omega, hx, fun _ => ⟨_, rfl, fun j x hj => by
  have := h.cell j
  rw [hj] at this
  cases j with
  | zero => simpa [Addr.add] using this
  | succ j => simpa [Addr.add] using this⟩⟩
def errsV (S : List Nat) (w : World) (us : List Value) : Prop := us.length = 17 ∧ ∀ n, n < 17 → ErrR S w (us.getD n .nilIface) (.e n)
theorem sentinels_fn {S : List Nat} {w : World} (hG : GOK S w) (hS : ∀ n, n < 17 → n ∈ S) : Fn Tryd.prog 188 ⟨[]⟩ w fun v w' => w.grownBy w' none ∧ ∃ g us, v = .slice (some ⟨g, 0, none⟩) 17 17 ∧ Bl w' g 29 us ∧ errsV S w' us := by
  refine Fn.enter (by kernel_rfl) Tryd.func188 rfl Tryd.ntmps188 rfl ?_
  obtain ⟨v0, hc0, hE0⟩ := hG.get 0 8 (hS 0 (by omega)) rfl rfl
  obtain ⟨v1, hc1, hE1⟩ := hG.get 1 9 (hS 1 (by omega)) rfl rfl
  obtain ⟨v2, hc2, hE2⟩ := hG.get 2 10 (hS 2 (by omega)) rfl rfl
  obtain ⟨v3, hc3, hE3⟩ := hG.get 3 11 (hS 3 (by omega)) rfl rfl
  obtain ⟨v4, hc4, hE4⟩ := hG.get 4 2 (hS 4 (by omega)) rfl rfl
  obtain ⟨v5, hc5, hE5⟩ := hG.get 5 12 (hS 5 (by omega)) rfl rfl
  obtain ⟨v6, hc6, hE6⟩ := hG.get 6 5 (hS 6 (by omega)) rfl rfl
  obtain ⟨v7, hc7, hE7⟩ := hG.get 7 13 (hS 7 (by omega)) rfl rfl
  obtain ⟨v8, hc8, hE8⟩ := hG.get 8 14 (hS 8 (by omega)) rfl rfl
  obtain ⟨v9, hc9, hE9⟩ := hG.get 9 1 (hS 9 (by omega)) rfl rfl
  obtain ⟨v10, hc10, hE10⟩ := hG.get 10 4 (hS 10 (by omega)) rfl rfl
  obtain ⟨v11, hc11, hE11⟩ := hG.get 11 0 (hS 11 (by omega)) rfl rfl
  obtain ⟨v12, hc12, hE12⟩ := hG.get 12 6 (hS 12 (by omega)) rfl rfl
  obtain ⟨v13, hc13, hE13⟩ := hG.get 13 15 (hS 13 (by omega)) rfl rfl
  obtain ⟨v14, hc14, hE14⟩ := hG.get 14 16 (hS 14 (by omega)) rfl rfl
  obtain ⟨v15, hc15, hE15⟩ := hG.get 15 3 (hS 15 (by omega)) rfl rfl
  obtain ⟨v16, hc16, hE16⟩ := hG.get 16 17 (hS 16 (by omega)) rfl rfl
  repeat (first | refine WL.y rfl (Yld.cell tab_ok hc0 rfl rfl) ?_ | refine WL.y rfl (Yld.cell tab_ok hc1 rfl rfl) ?_ | refine WL.y rfl (Yld.cell tab_ok hc2 rfl rfl) ?_ | refine WL.y rfl (Yld.cell tab_ok hc3 rfl rfl) ?_ | refine WL.y rfl (Yld.cell tab_ok hc4 rfl rfl) ?_ | refine WL.y rfl (Yld.cell tab_ok hc5 rfl rfl) ?_ | refine WL.y rfl (Yld.cell tab_ok hc6 rfl rfl) ?_ | refine WL.y rfl (Yld.cell tab_ok hc7 rfl rfl) ?_ | refine WL.y rfl (Yld.cell tab_ok hc8 rfl rfl) ?_ | refine WL.y rfl (Yld.cell tab_ok hc9 rfl rfl) ?_ | refine WL.y rfl (Yld.cell tab_ok hc10 rfl rfl) ?_ | refine WL.y rfl (Yld.cell tab_ok hc11 rfl rfl) ?_ | refine WL.y rfl (Yld.cell tab_ok hc12 rfl rfl) ?_ | refine WL.y rfl (Yld.cell tab_ok hc13 rfl rfl) ?_ | refine WL.y rfl (Yld.cell tab_ok hc14 rfl rfl) ?_ | refine WL.y rfl (Yld.cell tab_ok hc15 rfl rfl) ?_ | refine WL.y rfl (Yld.cell tab_ok hc16 rfl rfl) ?_ | refine WC.seq ?_ | refine WC.block ?_ | refine WC.region ?_ | refine WL.nil ?_ | refine WX.then_normal ?_ | refine WC.skip ?_ | refine WC.exit ?_ | refine WC.ret ?_ | refine WX.then_exit ?_ | refine WX.then_ret ?_ | refine WX.block_normal ?_ | refine WX.block_ret ?_ | refine WX.block_same ?_ | refine WX.block_other rfl ?_ | refine WC.label ?_ | refine WC.scope ?_ | refine WX.scope_normal ?_ | refine WX.scope_ret ?_ | refine WX.scope_exit ?_ | refine WL.y rfl (Yld.add rfl rfl (by simp only [In]; omega)) ?_ | refine WL.y rfl (Yld.sub rfl rfl (by simp only [In]; omega)) ?_ | refine WL.y rfl (Yld.mul rfl rfl (by simp only [In]; omega)) ?_ | refine WL.y rfl (Yld.convB tab_ok rfl rfl rfl rfl) ?_ | refine WL.y rfl (Yld.conv tab_ok rfl rfl rfl (by simp only [In]; omega)) ?_ | refine WL.y rfl (Yld.quo rfl rfl (by omega) (by omega) (by simp only [In]; omega)) ?_ | refine WL.y rfl (Yld.rem rfl rfl (by omega) (by omega)) ?_ | refine WL.y rfl (Yld.shl rfl rfl (by omega)) ?_ | refine WL.y rfl (Yld.shr rfl rfl (by omega)) ?_ | refine WL.y rfl (Yld.pure tab_ok rfl) ?_ | refine WL.y rfl (Yld.fld flds_ok rfl rfl rfl) ?_ | refine WL.y rfl (Yld.max2 rfl rfl) ?_ | refine WL.y rfl (Yld.min2 rfl rfl) ?_ | refine WL.y rfl (Yld.pickV rfl rfl rfl) ?_ | refine WL.gno rfl rfl rfl rfl ?_ | refine WL.gyes rfl rfl rfl rfl (Yld.add rfl rfl (by simp only [In]; omega)) ?_ | refine WL.gyes rfl rfl rfl rfl (Yld.sub rfl rfl (by simp only [In]; omega)) ?_ | refine WL.gyes rfl rfl rfl rfl (Yld.mul rfl rfl (by simp only [In]; omega)) ?_ | refine WL.gyes rfl rfl rfl rfl (Yld.convB tab_ok rfl rfl rfl rfl) ?_ | refine WL.gyes rfl rfl rfl rfl (Yld.conv tab_ok rfl rfl rfl (by simp only [In]; omega)) ?_ | refine WL.gyes rfl rfl rfl rfl (Yld.quo rfl rfl (by omega) (by omega) (by simp only [In]; omega)) ?_ | refine WL.gyes rfl rfl rfl rfl (Yld.rem rfl rfl (by omega) (by omega)) ?_ | refine WL.gyes rfl rfl rfl rfl (Yld.shl rfl rfl (by omega)) ?_ | refine WL.gyes rfl rfl rfl rfl (Yld.shr rfl rfl (by omega)) ?_ | refine WL.gyes rfl rfl rfl rfl (Yld.pure tab_ok rfl) ?_ | refine WL.gyes rfl rfl rfl rfl (Yld.fld flds_ok rfl rfl rfl) ?_ | refine WL.gyes rfl rfl rfl rfl (Yld.max2 rfl rfl) ?_ | refine WL.gyes rfl rfl rfl rfl (Yld.min2 rfl rfl) ?_ | refine WL.gyes rfl rfl rfl rfl (Yld.pickV rfl rfl rfl) ?_ | refine WL.gun rfl rfl rfl rfl ?_)
  refine WL.lit tab_ok rfl rfl rfl (all1c (ErrR.one hE0) (all1c (ErrR.one hE1) (all1c (ErrR.one hE2) (all1c (ErrR.one hE3) (all1c (ErrR.one hE4) (all1c (ErrR.one hE5) (all1c (ErrR.one hE6) (all1c (ErrR.one hE7) (all1c (ErrR.one hE8) (all1c (ErrR.one hE9) (all1c (ErrR.one hE10) (all1c (ErrR.one hE11) (all1c (ErrR.one hE12) (all1c (ErrR.one hE13) (all1c (ErrR.one hE14) (all1c (ErrR.one hE15) (all1c (ErrR.one hE16) all1n))))))))))))))))) rfl (by omega) (fun g w' hB hg hl => ?_)
  repeat (first | refine WC.seq ?_ | refine WC.block ?_ | refine WC.region ?_ | refine WL.nil ?_ | refine WX.then_normal ?_ | refine WC.skip ?_ | refine WC.exit ?_ | refine WC.ret ?_ | refine WX.then_exit ?_ | refine WX.then_ret ?_ | refine WX.block_normal ?_ | refine WX.block_ret ?_ | refine WX.block_same ?_ | refine WX.block_other rfl ?_ | refine WC.label ?_ | refine WC.scope ?_ | refine WX.scope_normal ?_ | refine WX.scope_ret ?_ | refine WX.scope_exit ?_ | refine WL.y rfl (Yld.add rfl rfl (by simp only [In]; omega)) ?_ | refine WL.y rfl (Yld.sub rfl rfl (by simp only [In]; omega)) ?_ | refine WL.y rfl (Yld.mul rfl rfl (by simp only [In]; omega)) ?_ | refine WL.y rfl (Yld.convB tab_ok rfl rfl rfl rfl) ?_ | refine WL.y rfl (Yld.conv tab_ok rfl rfl rfl (by simp only [In]; omega)) ?_ | refine WL.y rfl (Yld.quo rfl rfl (by omega) (by omega) (by simp only [In]; omega)) ?_ | refine WL.y rfl (Yld.rem rfl rfl (by omega) (by omega)) ?_ | refine WL.y rfl (Yld.shl rfl rfl (by omega)) ?_ | refine WL.y rfl (Yld.shr rfl rfl (by omega)) ?_ | refine WL.y rfl (Yld.pure tab_ok rfl) ?_ | refine WL.y rfl (Yld.fld flds_ok rfl rfl rfl) ?_ | refine WL.y rfl (Yld.max2 rfl rfl) ?_ | refine WL.y rfl (Yld.min2 rfl rfl) ?_ | refine WL.y rfl (Yld.pickV rfl rfl rfl) ?_ | refine WL.gno rfl rfl rfl rfl ?_ | refine WL.gyes rfl rfl rfl rfl (Yld.add rfl rfl (by simp only [In]; omega)) ?_ | refine WL.gyes rfl rfl rfl rfl (Yld.sub rfl rfl (by simp only [In]; omega)) ?_ | refine WL.gyes rfl rfl rfl rfl (Yld.mul rfl rfl (by simp only [In]; omega)) ?_ | refine WL.gyes rfl rfl rfl rfl (Yld.convB tab_ok rfl rfl rfl rfl) ?_ | refine WL.gyes rfl rfl rfl rfl (Yld.conv tab_ok rfl rfl rfl (by simp only [In]; omega)) ?_ | refine WL.gyes rfl rfl rfl rfl (Yld.quo rfl rfl (by omega) (by omega) (by simp only [In]; omega)) ?_ | refine WL.gyes rfl rfl rfl rfl (Yld.rem rfl rfl (by omega) (by omega)) ?_ | refine WL.gyes rfl rfl rfl rfl (Yld.shl rfl rfl (by omega)) ?_ | refine WL.gyes rfl rfl rfl rfl (Yld.shr rfl rfl (by omega)) ?_ | refine WL.gyes rfl rfl rfl rfl (Yld.pure tab_ok rfl) ?_ | refine WL.gyes rfl rfl rfl rfl (Yld.fld flds_ok rfl rfl rfl) ?_ | refine WL.gyes rfl rfl rfl rfl (Yld.max2 rfl rfl) ?_ | refine WL.gyes rfl rfl rfl rfl (Yld.min2 rfl rfl) ?_ | refine WL.gyes rfl rfl rfl rfl (Yld.pickV rfl rfl rfl) ?_ | refine WL.gun rfl rfl rfl rfl ?_)
  refine WX.ret1 rfl rfl ⟨hg, g, _, rfl, hB, rfl, fun n hn => ?_⟩
  match n, hn with
  | 0, _ => exact hE0.grown hg
  | 1, _ => exact hE1.grown hg
  | 2, _ => exact hE2.grown hg
  | 3, _ => exact hE3.grown hg
  | 4, _ => exact hE4.grown hg
  | 5, _ => exact hE5.grown hg
  | 6, _ => exact hE6.grown hg
  | 7, _ => exact hE7.grown hg
  | 8, _ => exact hE8.grown hg
  | 9, _ => exact hE9.grown hg
  | 10, _ => exact hE10.grown hg
  | 11, _ => exact hE11.grown hg
  | 12, _ => exact hE12.grown hg
  | 13, _ => exact hE13.grown hg
  | 14, _ => exact hE14.grown hg
  | 15, _ => exact hE15.grown hg
  | 16, _ => exact hE16.grown hg
  | n + 17, hn => omega
def sentV : Er → Int
  | .ok => -1
  | .e n => 101 + n
  | .at_ _ _ => -1
def M_smithysee_sentinel (e : Er) (K : Int → Prop) : Prop := K (sentV e)
theorem W_smithysee_sentinel {S : List Nat} {w : World} {v : Value} {e : Er} {K : Int → Prop} (hG : GOK S w) (hS0 : 0 ∈ S) (hS1 : 1 ∈ S) (hS2 : 2 ∈ S) (hS3 : 3 ∈ S) (hS4 : 4 ∈ S) (hS5 : 5 ∈ S) (hS6 : 6 ∈ S) (hS7 : 7 ∈ S) (hS8 : 8 ∈ S) (hS9 : 9 ∈ S) (hS10 : 10 ∈ S) (hS11 : 11 ∈ S) (hS12 : 12 ∈ S) (hS13 : 13 ∈ S) (hS14 : 14 ∈ S) (hS15 : 15 ∈ S) (hS16 : 16 ∈ S) (hE : ErrR S w v e) (H : M_smithysee_sentinel e K) : Fn Tryd.prog 157 ⟨[v]⟩ w (fun r w' => w.grownBy w' none ∧ ∃ n : Int, r = .int .i64 n ∧ K n) := by
  have hS : ∀ n, n < 17 → n ∈ S := fun n hn => by
    match n, hn with
    | 0, _ => exact hS0
    | 1, _ => exact hS1
    | 2, _ => exact hS2
    | 3, _ => exact hS3
    | 4, _ => exact hS4
    | 5, _ => exact hS5
    | 6, _ => exact hS6
    | 7, _ => exact hS7
    | 8, _ => exact hS8
    | 9, _ => exact hS9
    | 10, _ => exact hS10
    | 11, _ => exact hS11
    | 12, _ => exact hS12
    | 13, _ => exact hS13
    | 14, _ => exact hS14
    | 15, _ => exact hS15
    | 16, _ => exact hS16
    | n + 17, hn => omega
  unfold M_smithysee_sentinel at H
  refine Fn.enter (by kernel_rfl) Tryd.func157 rfl Tryd.ntmps157 rfl ?_
  repeat (first | refine WC.seq ?_ | refine WC.block ?_ | refine WC.region ?_ | refine WL.nil ?_ | refine WX.then_normal ?_ | refine WC.skip ?_ | refine WC.exit ?_ | refine WC.ret ?_ | refine WX.then_exit ?_ | refine WX.then_ret ?_ | refine WX.block_normal ?_ | refine WX.block_ret ?_ | refine WX.block_same ?_ | refine WX.block_other rfl ?_ | refine WC.label ?_ | refine WC.scope ?_ | refine WX.scope_normal ?_ | refine WX.scope_ret ?_ | refine WX.scope_exit ?_ | refine WL.y rfl (Yld.add rfl rfl (by simp only [In]; omega)) ?_ | refine WL.y rfl (Yld.sub rfl rfl (by simp only [In]; omega)) ?_ | refine WL.y rfl (Yld.mul rfl rfl (by simp only [In]; omega)) ?_ | refine WL.y rfl (Yld.convB tab_ok rfl rfl rfl rfl) ?_ | refine WL.y rfl (Yld.conv tab_ok rfl rfl rfl (by simp only [In]; omega)) ?_ | refine WL.y rfl (Yld.quo rfl rfl (by omega) (by omega) (by simp only [In]; omega)) ?_ | refine WL.y rfl (Yld.rem rfl rfl (by omega) (by omega)) ?_ | refine WL.y rfl (Yld.shl rfl rfl (by omega)) ?_ | refine WL.y rfl (Yld.shr rfl rfl (by omega)) ?_ | refine WL.y rfl (Yld.pure tab_ok rfl) ?_ | refine WL.y rfl (Yld.fld flds_ok rfl rfl rfl) ?_ | refine WL.y rfl (Yld.max2 rfl rfl) ?_ | refine WL.y rfl (Yld.min2 rfl rfl) ?_ | refine WL.y rfl (Yld.pickV rfl rfl rfl) ?_ | refine WL.gno rfl rfl rfl rfl ?_ | refine WL.gyes rfl rfl rfl rfl (Yld.add rfl rfl (by simp only [In]; omega)) ?_ | refine WL.gyes rfl rfl rfl rfl (Yld.sub rfl rfl (by simp only [In]; omega)) ?_ | refine WL.gyes rfl rfl rfl rfl (Yld.mul rfl rfl (by simp only [In]; omega)) ?_ | refine WL.gyes rfl rfl rfl rfl (Yld.convB tab_ok rfl rfl rfl rfl) ?_ | refine WL.gyes rfl rfl rfl rfl (Yld.conv tab_ok rfl rfl rfl (by simp only [In]; omega)) ?_ | refine WL.gyes rfl rfl rfl rfl (Yld.quo rfl rfl (by omega) (by omega) (by simp only [In]; omega)) ?_ | refine WL.gyes rfl rfl rfl rfl (Yld.rem rfl rfl (by omega) (by omega)) ?_ | refine WL.gyes rfl rfl rfl rfl (Yld.shl rfl rfl (by omega)) ?_ | refine WL.gyes rfl rfl rfl rfl (Yld.shr rfl rfl (by omega)) ?_ | refine WL.gyes rfl rfl rfl rfl (Yld.pure tab_ok rfl) ?_ | refine WL.gyes rfl rfl rfl rfl (Yld.fld flds_ok rfl rfl rfl) ?_ | refine WL.gyes rfl rfl rfl rfl (Yld.max2 rfl rfl) ?_ | refine WL.gyes rfl rfl rfl rfl (Yld.min2 rfl rfl) ?_ | refine WL.gyes rfl rfl rfl rfl (Yld.pickV rfl rfl rfl) ?_ | refine WL.gun rfl rfl rfl rfl ?_)
  refine WL.call rfl rfl (sentinels_fn hG hS) ?_
  rintro _ w1 ⟨hg1, g, us, rfl, hB, hlen, hus⟩
  have hR := Rd.ofBlV hB hlen (by simp [maxLen])
  have hE1 := hE.grown hg1
  repeat (first | refine WC.seq ?_ | refine WC.block ?_ | refine WC.region ?_ | refine WL.nil ?_ | refine WX.then_normal ?_ | refine WC.skip ?_ | refine WC.exit ?_ | refine WC.ret ?_ | refine WX.then_exit ?_ | refine WX.then_ret ?_ | refine WX.block_normal ?_ | refine WX.block_ret ?_ | refine WX.block_same ?_ | refine WX.block_other rfl ?_ | refine WC.label ?_ | refine WC.scope ?_ | refine WX.scope_normal ?_ | refine WX.scope_ret ?_ | refine WX.scope_exit ?_ | refine WL.y rfl (Yld.add rfl rfl (by simp only [In]; omega)) ?_ | refine WL.y rfl (Yld.sub rfl rfl (by simp only [In]; omega)) ?_ | refine WL.y rfl (Yld.mul rfl rfl (by simp only [In]; omega)) ?_ | refine WL.y rfl (Yld.convB tab_ok rfl rfl rfl rfl) ?_ | refine WL.y rfl (Yld.conv tab_ok rfl rfl rfl (by simp only [In]; omega)) ?_ | refine WL.y rfl (Yld.quo rfl rfl (by omega) (by omega) (by simp only [In]; omega)) ?_ | refine WL.y rfl (Yld.rem rfl rfl (by omega) (by omega)) ?_ | refine WL.y rfl (Yld.shl rfl rfl (by omega)) ?_ | refine WL.y rfl (Yld.shr rfl rfl (by omega)) ?_ | refine WL.y rfl (Yld.pure tab_ok rfl) ?_ | refine WL.y rfl (Yld.fld flds_ok rfl rfl rfl) ?_ | refine WL.y rfl (Yld.max2 rfl rfl) ?_ | refine WL.y rfl (Yld.min2 rfl rfl) ?_ | refine WL.y rfl (Yld.pickV rfl rfl rfl) ?_ | refine WL.gno rfl rfl rfl rfl ?_ | refine WL.gyes rfl rfl rfl rfl (Yld.add rfl rfl (by simp only [In]; omega)) ?_ | refine WL.gyes rfl rfl rfl rfl (Yld.sub rfl rfl (by simp only [In]; omega)) ?_ | refine WL.gyes rfl rfl rfl rfl (Yld.mul rfl rfl (by simp only [In]; omega)) ?_ | refine WL.gyes rfl rfl rfl rfl (Yld.convB tab_ok rfl rfl rfl rfl) ?_ | refine WL.gyes rfl rfl rfl rfl (Yld.conv tab_ok rfl rfl rfl (by simp only [In]; omega)) ?_ | refine WL.gyes rfl rfl rfl rfl (Yld.quo rfl rfl (by omega) (by omega) (by simp only [In]; omega)) ?_ | refine WL.gyes rfl rfl rfl rfl (Yld.rem rfl rfl (by omega) (by omega)) ?_ | refine WL.gyes rfl rfl rfl rfl (Yld.shl rfl rfl (by omega)) ?_ | refine WL.gyes rfl rfl rfl rfl (Yld.shr rfl rfl (by omega)) ?_ | refine WL.gyes rfl rfl rfl rfl (Yld.pure tab_ok rfl) ?_ | refine WL.gyes rfl rfl rfl rfl (Yld.fld flds_ok rfl rfl rfl) ?_ | refine WL.gyes rfl rfl rfl rfl (Yld.max2 rfl rfl) ?_ | refine WL.gyes rfl rfl rfl rfl (Yld.min2 rfl rfl) ?_ | refine WL.gyes rfl rfl rfl rfl (Yld.pickV rfl rfl rfl) ?_ | refine WL.gun rfl rfl rfl rfl ?_)
  refine WC.loopF (fun n' L' w' => ∃ i : Nat, n' = 17 - i ∧ L' = [(4, vi i), (3, .slice (some ⟨g, 0, none⟩) 17 17), (0, v)] ∧ i ≤ 17 ∧ (∀ j, j < i → e ≠ .e j) ∧ w1 = w') _ _ ⟨0, rfl, rfl, by omega, fun j hj => by omega, rfl⟩ (by repeat (first | exact Sub.nil | refine Sub.cons rfl ?_)) ?_
  rintro _ _ _ ⟨i, rfl, rfl, hi, hne, rfl⟩
  repeat (first | refine WC.seq ?_ | refine WC.block ?_ | refine WC.region ?_ | refine WL.nil ?_ | refine WX.then_normal ?_ | refine WC.skip ?_ | refine WC.exit ?_ | refine WC.ret ?_ | refine WX.then_exit ?_ | refine WX.then_ret ?_ | refine WX.block_normal ?_ | refine WX.block_ret ?_ | refine WX.block_same ?_ | refine WX.block_other rfl ?_ | refine WC.label ?_ | refine WC.scope ?_ | refine WX.scope_normal ?_ | refine WX.scope_ret ?_ | refine WX.scope_exit ?_ | refine WL.y rfl (Yld.add rfl rfl (by simp only [In]; omega)) ?_ | refine WL.y rfl (Yld.sub rfl rfl (by simp only [In]; omega)) ?_ | refine WL.y rfl (Yld.mul rfl rfl (by simp only [In]; omega)) ?_ | refine WL.y rfl (Yld.convB tab_ok rfl rfl rfl rfl) ?_ | refine WL.y rfl (Yld.conv tab_ok rfl rfl rfl (by simp only [In]; omega)) ?_ | refine WL.y rfl (Yld.quo rfl rfl (by omega) (by omega) (by simp only [In]; omega)) ?_ | refine WL.y rfl (Yld.rem rfl rfl (by omega) (by omega)) ?_ | refine WL.y rfl (Yld.shl rfl rfl (by omega)) ?_ | refine WL.y rfl (Yld.shr rfl rfl (by omega)) ?_ | refine WL.y rfl (Yld.pure tab_ok rfl) ?_ | refine WL.y rfl (Yld.fld flds_ok rfl rfl rfl) ?_ | refine WL.y rfl (Yld.max2 rfl rfl) ?_ | refine WL.y rfl (Yld.min2 rfl rfl) ?_ | refine WL.y rfl (Yld.pickV rfl rfl rfl) ?_ | refine WL.gno rfl rfl rfl rfl ?_ | refine WL.gyes rfl rfl rfl rfl (Yld.add rfl rfl (by simp only [In]; omega)) ?_ | refine WL.gyes rfl rfl rfl rfl (Yld.sub rfl rfl (by simp only [In]; omega)) ?_ | refine WL.gyes rfl rfl rfl rfl (Yld.mul rfl rfl (by simp only [In]; omega)) ?_ | refine WL.gyes rfl rfl rfl rfl (Yld.convB tab_ok rfl rfl rfl rfl) ?_ | refine WL.gyes rfl rfl rfl rfl (Yld.conv tab_ok rfl rfl rfl (by simp only [In]; omega)) ?_ | refine WL.gyes rfl rfl rfl rfl (Yld.quo rfl rfl (by omega) (by omega) (by simp only [In]; omega)) ?_ | refine WL.gyes rfl rfl rfl rfl (Yld.rem rfl rfl (by omega) (by omega)) ?_ | refine WL.gyes rfl rfl rfl rfl (Yld.shl rfl rfl (by omega)) ?_ | refine WL.gyes rfl rfl rfl rfl (Yld.shr rfl rfl (by omega)) ?_ | refine WL.gyes rfl rfl rfl rfl (Yld.pure tab_ok rfl) ?_ | refine WL.gyes rfl rfl rfl rfl (Yld.fld flds_ok rfl rfl rfl) ?_ | refine WL.gyes rfl rfl rfl rfl (Yld.max2 rfl rfl) ?_ | refine WL.gyes rfl rfl rfl rfl (Yld.min2 rfl rfl) ?_ | refine WL.gyes rfl rfl rfl rfl (Yld.pickV rfl rfl rfl) ?_ | refine WL.gun rfl rfl rfl rfl ?_)
  refine WC.cond rfl (fun h => ?_) (fun h => ?_)
  · simp only [decide_eq_true_eq] at h
    have hi' : i < 17 := by omega
    repeat (first | refine WL.y rfl (Yld.iaddrN tab_ok hR rfl rfl hlen.symm rfl (by omega)) ?_ | refine WL.y rfl (Yld.iload .nilIface tab_ok hR rfl rfl (by omega)) ?_ | refine WC.seq ?_ | refine WC.block ?_ | refine WC.region ?_ | refine WL.nil ?_ | refine WX.then_normal ?_ | refine WC.skip ?_ | refine WC.exit ?_ | refine WC.ret ?_ | refine WX.then_exit ?_ | refine WX.then_ret ?_ | refine WX.block_normal ?_ | refine WX.block_ret ?_ | refine WX.block_same ?_ | refine WX.block_other rfl ?_ | refine WC.label ?_ | refine WC.scope ?_ | refine WX.scope_normal ?_ | refine WX.scope_ret ?_ | refine WX.scope_exit ?_ | refine WL.y rfl (Yld.add rfl rfl (by simp only [In]; omega)) ?_ | refine WL.y rfl (Yld.sub rfl rfl (by simp only [In]; omega)) ?_ | refine WL.y rfl (Yld.mul rfl rfl (by simp only [In]; omega)) ?_ | refine WL.y rfl (Yld.convB tab_ok rfl rfl rfl rfl) ?_ | refine WL.y rfl (Yld.conv tab_ok rfl rfl rfl (by simp only [In]; omega)) ?_ | refine WL.y rfl (Yld.quo rfl rfl (by omega) (by omega) (by simp only [In]; omega)) ?_ | refine WL.y rfl (Yld.rem rfl rfl (by omega) (by omega)) ?_ | refine WL.y rfl (Yld.shl rfl rfl (by omega)) ?_ | refine WL.y rfl (Yld.shr rfl rfl (by omega)) ?_ | refine WL.y rfl (Yld.pure tab_ok rfl) ?_ | refine WL.y rfl (Yld.fld flds_ok rfl rfl rfl) ?_ | refine WL.y rfl (Yld.max2 rfl rfl) ?_ | refine WL.y rfl (Yld.min2 rfl rfl) ?_ | refine WL.y rfl (Yld.pickV rfl rfl rfl) ?_ | refine WL.gno rfl rfl rfl rfl ?_ | refine WL.gyes rfl rfl rfl rfl (Yld.add rfl rfl (by simp only [In]; omega)) ?_ | refine WL.gyes rfl rfl rfl rfl (Yld.sub rfl rfl (by simp only [In]; omega)) ?_ | refine WL.gyes rfl rfl rfl rfl (Yld.mul rfl rfl (by simp only [In]; omega)) ?_ | refine WL.gyes rfl rfl rfl rfl (Yld.convB tab_ok rfl rfl rfl rfl) ?_ | refine WL.gyes rfl rfl rfl rfl (Yld.conv tab_ok rfl rfl rfl (by simp only [In]; omega)) ?_ | refine WL.gyes rfl rfl rfl rfl (Yld.quo rfl rfl (by omega) (by omega) (by simp only [In]; omega)) ?_ | refine WL.gyes rfl rfl rfl rfl (Yld.rem rfl rfl (by omega) (by omega)) ?_ | refine WL.gyes rfl rfl rfl rfl (Yld.shl rfl rfl (by omega)) ?_ | refine WL.gyes rfl rfl rfl rfl (Yld.shr rfl rfl (by omega)) ?_ | refine WL.gyes rfl rfl rfl rfl (Yld.pure tab_ok rfl) ?_ | refine WL.gyes rfl rfl rfl rfl (Yld.fld flds_ok rfl rfl rfl) ?_ | refine WL.gyes rfl rfl rfl rfl (Yld.max2 rfl rfl) ?_ | refine WL.gyes rfl rfl rfl rfl (Yld.min2 rfl rfl) ?_ | refine WL.gyes rfl rfl rfl rfl (Yld.pickV rfl rfl rfl) ?_ | refine WL.gun rfl rfl rfl rfl ?_)
    refine WL.call rfl rfl (W_smithysee_Alike (K := fun b => b = decide (e = .e i)) hE1 (hus i hi') ?_) ?_
    · unfold M_smithysee_Alike
      cases e <;> simp
    rintro _ _ ⟨rfl, b, rfl, hb⟩
    subst hb
    refine WL.nil ?_
    repeat (first | refine WC.seq ?_ | refine WC.block ?_ | refine WC.region ?_ | refine WL.nil ?_ | refine WX.then_normal ?_ | refine WC.skip ?_ | refine WC.exit ?_ | refine WC.ret ?_ | refine WX.then_exit ?_ | refine WX.then_ret ?_ | refine WX.block_normal ?_ | refine WX.block_ret ?_ | refine WX.block_same ?_ | refine WX.block_other rfl ?_ | refine WC.label ?_ | refine WC.scope ?_ | refine WX.scope_normal ?_ | refine WX.scope_ret ?_ | refine WX.scope_exit ?_ | refine WL.y rfl (Yld.add rfl rfl (by simp only [In]; omega)) ?_ | refine WL.y rfl (Yld.sub rfl rfl (by simp only [In]; omega)) ?_ | refine WL.y rfl (Yld.mul rfl rfl (by simp only [In]; omega)) ?_ | refine WL.y rfl (Yld.convB tab_ok rfl rfl rfl rfl) ?_ | refine WL.y rfl (Yld.conv tab_ok rfl rfl rfl (by simp only [In]; omega)) ?_ | refine WL.y rfl (Yld.quo rfl rfl (by omega) (by omega) (by simp only [In]; omega)) ?_ | refine WL.y rfl (Yld.rem rfl rfl (by omega) (by omega)) ?_ | refine WL.y rfl (Yld.shl rfl rfl (by omega)) ?_ | refine WL.y rfl (Yld.shr rfl rfl (by omega)) ?_ | refine WL.y rfl (Yld.pure tab_ok rfl) ?_ | refine WL.y rfl (Yld.fld flds_ok rfl rfl rfl) ?_ | refine WL.y rfl (Yld.max2 rfl rfl) ?_ | refine WL.y rfl (Yld.min2 rfl rfl) ?_ | refine WL.y rfl (Yld.pickV rfl rfl rfl) ?_ | refine WL.gno rfl rfl rfl rfl ?_ | refine WL.gyes rfl rfl rfl rfl (Yld.add rfl rfl (by simp only [In]; omega)) ?_ | refine WL.gyes rfl rfl rfl rfl (Yld.sub rfl rfl (by simp only [In]; omega)) ?_ | refine WL.gyes rfl rfl rfl rfl (Yld.mul rfl rfl (by simp only [In]; omega)) ?_ | refine WL.gyes rfl rfl rfl rfl (Yld.convB tab_ok rfl rfl rfl rfl) ?_ | refine WL.gyes rfl rfl rfl rfl (Yld.conv tab_ok rfl rfl rfl (by simp only [In]; omega)) ?_ | refine WL.gyes rfl rfl rfl rfl (Yld.quo rfl rfl (by omega) (by omega) (by simp only [In]; omega)) ?_ | refine WL.gyes rfl rfl rfl rfl (Yld.rem rfl rfl (by omega) (by omega)) ?_ | refine WL.gyes rfl rfl rfl rfl (Yld.shl rfl rfl (by omega)) ?_ | refine WL.gyes rfl rfl rfl rfl (Yld.shr rfl rfl (by omega)) ?_ | refine WL.gyes rfl rfl rfl rfl (Yld.pure tab_ok rfl) ?_ | refine WL.gyes rfl rfl rfl rfl (Yld.fld flds_ok rfl rfl rfl) ?_ | refine WL.gyes rfl rfl rfl rfl (Yld.max2 rfl rfl) ?_ | refine WL.gyes rfl rfl rfl rfl (Yld.min2 rfl rfl) ?_ | refine WL.gyes rfl rfl rfl rfl (Yld.pickV rfl rfl rfl) ?_ | refine WL.gun rfl rfl rfl rfl ?_)
    refine WC.cond rfl (fun h2 => ?_) (fun h2 => ?_)
    · have h3 : e = .e i := of_decide_eq_true h2
      subst h3
      repeat (first | refine WC.seq ?_ | refine WC.block ?_ | refine WC.region ?_ | refine WL.nil ?_ | refine WX.then_normal ?_ | refine WC.skip ?_ | refine WC.exit ?_ | refine WC.ret ?_ | refine WX.then_exit ?_ | refine WX.then_ret ?_ | refine WX.block_normal ?_ | refine WX.block_ret ?_ | refine WX.block_same ?_ | refine WX.block_other rfl ?_ | refine WC.label ?_ | refine WC.scope ?_ | refine WX.scope_normal ?_ | refine WX.scope_ret ?_ | refine WX.scope_exit ?_ | refine WL.y rfl (Yld.add rfl rfl (by simp only [In]; omega)) ?_ | refine WL.y rfl (Yld.sub rfl rfl (by simp only [In]; omega)) ?_ | refine WL.y rfl (Yld.mul rfl rfl (by simp only [In]; omega)) ?_ | refine WL.y rfl (Yld.convB tab_ok rfl rfl rfl rfl) ?_ | refine WL.y rfl (Yld.conv tab_ok rfl rfl rfl (by simp only [In]; omega)) ?_ | refine WL.y rfl (Yld.quo rfl rfl (by omega) (by omega) (by simp only [In]; omega)) ?_ | refine WL.y rfl (Yld.rem rfl rfl (by omega) (by omega)) ?_ | refine WL.y rfl (Yld.shl rfl rfl (by omega)) ?_ | refine WL.y rfl (Yld.shr rfl rfl (by omega)) ?_ | refine WL.y rfl (Yld.pure tab_ok rfl) ?_ | refine WL.y rfl (Yld.fld flds_ok rfl rfl rfl) ?_ | refine WL.y rfl (Yld.max2 rfl rfl) ?_ | refine WL.y rfl (Yld.min2 rfl rfl) ?_ | refine WL.y rfl (Yld.pickV rfl rfl rfl) ?_ | refine WL.gno rfl rfl rfl rfl ?_ | refine WL.gyes rfl rfl rfl rfl (Yld.add rfl rfl (by simp only [In]; omega)) ?_ | refine WL.gyes rfl rfl rfl rfl (Yld.sub rfl rfl (by simp only [In]; omega)) ?_ | refine WL.gyes rfl rfl rfl rfl (Yld.mul rfl rfl (by simp only [In]; omega)) ?_ | refine WL.gyes rfl rfl rfl rfl (Yld.convB tab_ok rfl rfl rfl rfl) ?_ | refine WL.gyes rfl rfl rfl rfl (Yld.conv tab_ok rfl rfl rfl (by simp only [In]; omega)) ?_ | refine WL.gyes rfl rfl rfl rfl (Yld.quo rfl rfl (by omega) (by omega) (by simp only [In]; omega)) ?_ | refine WL.gyes rfl rfl rfl rfl (Yld.rem rfl rfl (by omega) (by omega)) ?_ | refine WL.gyes rfl rfl rfl rfl (Yld.shl rfl rfl (by omega)) ?_ | refine WL.gyes rfl rfl rfl rfl (Yld.shr rfl rfl (by omega)) ?_ | refine WL.gyes rfl rfl rfl rfl (Yld.pure tab_ok rfl) ?_ | refine WL.gyes rfl rfl rfl rfl (Yld.fld flds_ok rfl rfl rfl) ?_ | refine WL.gyes rfl rfl rfl rfl (Yld.max2 rfl rfl) ?_ | refine WL.gyes rfl rfl rfl rfl (Yld.min2 rfl rfl) ?_ | refine WL.gyes rfl rfl rfl rfl (Yld.pickV rfl rfl rfl) ?_ | refine WL.gun rfl rfl rfl rfl ?_)
      exact WX.ret1 rfl rfl ⟨hg1, _, rfl, H⟩
    · have h3 : e ≠ .e i := of_decide_eq_false h2
      repeat (first | refine WC.seq ?_ | refine WC.block ?_ | refine WC.region ?_ | refine WL.nil ?_ | refine WX.then_normal ?_ | refine WC.skip ?_ | refine WC.exit ?_ | refine WC.ret ?_ | refine WX.then_exit ?_ | refine WX.then_ret ?_ | refine WX.block_normal ?_ | refine WX.block_ret ?_ | refine WX.block_same ?_ | refine WX.block_other rfl ?_ | refine WC.label ?_ | refine WC.scope ?_ | refine WX.scope_normal ?_ | refine WX.scope_ret ?_ | refine WX.scope_exit ?_ | refine WL.y rfl (Yld.add rfl rfl (by simp only [In]; omega)) ?_ | refine WL.y rfl (Yld.sub rfl rfl (by simp only [In]; omega)) ?_ | refine WL.y rfl (Yld.mul rfl rfl (by simp only [In]; omega)) ?_ | refine WL.y rfl (Yld.convB tab_ok rfl rfl rfl rfl) ?_ | refine WL.y rfl (Yld.conv tab_ok rfl rfl rfl (by simp only [In]; omega)) ?_ | refine WL.y rfl (Yld.quo rfl rfl (by omega) (by omega) (by simp only [In]; omega)) ?_ | refine WL.y rfl (Yld.rem rfl rfl (by omega) (by omega)) ?_ | refine WL.y rfl (Yld.shl rfl rfl (by omega)) ?_ | refine WL.y rfl (Yld.shr rfl rfl (by omega)) ?_ | refine WL.y rfl (Yld.pure tab_ok rfl) ?_ | refine WL.y rfl (Yld.fld flds_ok rfl rfl rfl) ?_ | refine WL.y rfl (Yld.max2 rfl rfl) ?_ | refine WL.y rfl (Yld.min2 rfl rfl) ?_ | refine WL.y rfl (Yld.pickV rfl rfl rfl) ?_ | refine WL.gno rfl rfl rfl rfl ?_ | refine WL.gyes rfl rfl rfl rfl (Yld.add rfl rfl (by simp only [In]; omega)) ?_ | refine WL.gyes rfl rfl rfl rfl (Yld.sub rfl rfl (by simp only [In]; omega)) ?_ | refine WL.gyes rfl rfl rfl rfl (Yld.mul rfl rfl (by simp only [In]; omega)) ?_ | refine WL.gyes rfl rfl rfl rfl (Yld.convB tab_ok rfl rfl rfl rfl) ?_ | refine WL.gyes rfl rfl rfl rfl (Yld.conv tab_ok rfl rfl rfl (by simp only [In]; omega)) ?_ | refine WL.gyes rfl rfl rfl rfl (Yld.quo rfl rfl (by omega) (by omega) (by simp only [In]; omega)) ?_ | refine WL.gyes rfl rfl rfl rfl (Yld.rem rfl rfl (by omega) (by omega)) ?_ | refine WL.gyes rfl rfl rfl rfl (Yld.shl rfl rfl (by omega)) ?_ | refine WL.gyes rfl rfl rfl rfl (Yld.shr rfl rfl (by omega)) ?_ | refine WL.gyes rfl rfl rfl rfl (Yld.pure tab_ok rfl) ?_ | refine WL.gyes rfl rfl rfl rfl (Yld.fld flds_ok rfl rfl rfl) ?_ | refine WL.gyes rfl rfl rfl rfl (Yld.max2 rfl rfl) ?_ | refine WL.gyes rfl rfl rfl rfl (Yld.min2 rfl rfl) ?_ | refine WL.gyes rfl rfl rfl rfl (Yld.pickV rfl rfl rfl) ?_ | refine WL.gun rfl rfl rfl rfl ?_)
      refine WX.roundF _ ⟨i + 1, rfl, rfl, by omega, fun j hj => ?_, rfl⟩ (by repeat (first | exact Sub.nil | refine Sub.cons rfl ?_)) (by omega)
      rcases Nat.lt_or_ge j i with hji | hji
      · exact hne j hji
      · obtain rfl : j = i := by omega
        exact h3
  · simp only [decide_eq_false_iff_not] at h
    repeat (first | refine WC.seq ?_ | refine WC.block ?_ | refine WC.region ?_ | refine WL.nil ?_ | refine WX.then_normal ?_ | refine WC.skip ?_ | refine WC.exit ?_ | refine WC.ret ?_ | refine WX.then_exit ?_ | refine WX.then_ret ?_ | refine WX.block_normal ?_ | refine WX.block_ret ?_ | refine WX.block_same ?_ | refine WX.block_other rfl ?_ | refine WC.label ?_ | refine WC.scope ?_ | refine WX.scope_normal ?_ | refine WX.scope_ret ?_ | refine WX.scope_exit ?_ | refine WL.y rfl (Yld.add rfl rfl (by simp only [In]; omega)) ?_ | refine WL.y rfl (Yld.sub rfl rfl (by simp only [In]; omega)) ?_ | refine WL.y rfl (Yld.mul rfl rfl (by simp only [In]; omega)) ?_ | refine WL.y rfl (Yld.convB tab_ok rfl rfl rfl rfl) ?_ | refine WL.y rfl (Yld.conv tab_ok rfl rfl rfl (by simp only [In]; omega)) ?_ | refine WL.y rfl (Yld.quo rfl rfl (by omega) (by omega) (by simp only [In]; omega)) ?_ | refine WL.y rfl (Yld.rem rfl rfl (by omega) (by omega)) ?_ | refine WL.y rfl (Yld.shl rfl rfl (by omega)) ?_ | refine WL.y rfl (Yld.shr rfl rfl (by omega)) ?_ | refine WL.y rfl (Yld.pure tab_ok rfl) ?_ | refine WL.y rfl (Yld.fld flds_ok rfl rfl rfl) ?_ | refine WL.y rfl (Yld.max2 rfl rfl) ?_ | refine WL.y rfl (Yld.min2 rfl rfl) ?_ | refine WL.y rfl (Yld.pickV rfl rfl rfl) ?_ | refine WL.gno rfl rfl rfl rfl ?_ | refine WL.gyes rfl rfl rfl rfl (Yld.add rfl rfl (by simp only [In]; omega)) ?_ | refine WL.gyes rfl rfl rfl rfl (Yld.sub rfl rfl (by simp only [In]; omega)) ?_ | refine WL.gyes rfl rfl rfl rfl (Yld.mul rfl rfl (by simp only [In]; omega)) ?_ | refine WL.gyes rfl rfl rfl rfl (Yld.convB tab_ok rfl rfl rfl rfl) ?_ | refine WL.gyes rfl rfl rfl rfl (Yld.conv tab_ok rfl rfl rfl (by simp only [In]; omega)) ?_ | refine WL.gyes rfl rfl rfl rfl (Yld.quo rfl rfl (by omega) (by omega) (by simp only [In]; omega)) ?_ | refine WL.gyes rfl rfl rfl rfl (Yld.rem rfl rfl (by omega) (by omega)) ?_ | refine WL.gyes rfl rfl rfl rfl (Yld.shl rfl rfl (by omega)) ?_ | refine WL.gyes rfl rfl rfl rfl (Yld.shr rfl rfl (by omega)) ?_ | refine WL.gyes rfl rfl rfl rfl (Yld.pure tab_ok rfl) ?_ | refine WL.gyes rfl rfl rfl rfl (Yld.fld flds_ok rfl rfl rfl) ?_ | refine WL.gyes rfl rfl rfl rfl (Yld.max2 rfl rfl) ?_ | refine WL.gyes rfl rfl rfl rfl (Yld.min2 rfl rfl) ?_ | refine WL.gyes rfl rfl rfl rfl (Yld.pickV rfl rfl rfl) ?_ | refine WL.gun rfl rfl rfl rfl ?_)
    refine WX.ret1 rfl rfl ⟨hg1, _, rfl, ?_⟩
    have : sentV e = -1 := by
      cases e with
      | e n =>
        by_cases hn : n < 17
        · exact absurd rfl (hne n (by omega))
        · exact absurd (ErV.lt hE.1) hn
      | ok => rfl
      | at_ p n => rfl
    rw [this] at H
    exact H
end Go.Proofs.YtlonpmajnglmoaaDoor


 /- Printed by a program (wip/vg): what the functions mean, plainly, and their walks. -/
namespace Go.Proofs.YtlonpmajnglmoaaDoor
open Go Go.RowKit
attribute [local irreducible] WL WC WX WQ WK WJ Yld Eff Ef0 Fn
def M_smithysee_placed (e : Er) (K : Int → Bool → Int → Bool → (List UInt8) → Prop) : Prop :=
 ((∀ (pos : Int) (n : Nat), e = Er.at_ pos n → (((Er.e n) = Er.ok → M_smithyref_Bare (-1 : Int) (fun (t24_Code : Int) (t24_Placed : Bool) (t24_Pos : Int) (t24_Filed : Bool) (t24_File : List UInt8) =>
 K t24_Code t24_Placed t24_Pos t24_Filed t24_File)) ∧
 (¬ ((Er.e n) = Er.ok) → M_smithysee_sentinel (Er.e n) (fun (t29 : Int) =>
 M_smithyref_Placed t29 pos (fun (t34_Code : Int) (t34_Placed : Bool) (t34_Pos : Int) (t34_Filed : Bool) (t34_File : List UInt8) =>
 K t34_Code t34_Placed t34_Pos t34_Filed t34_File))))) ∧
 ((∀ p n, e ≠ Er.at_ p n) → M_smithysee_sentinel e (fun (t13 : Int) =>
 M_smithyref_Bare t13 (fun (t14_Code : Int) (t14_Placed : Bool) (t14_Pos : Int) (t14_Filed : Bool) (t14_File : List UInt8) =>
 K t14_Code t14_Placed t14_Pos t14_Filed t14_File))))

def M_smithysee_Fault (e : Er) (K : Int → Bool → Int → Bool → (List UInt8) → Prop) : Prop :=
 ((e = Er.ok → M_smithyref_None (fun (t8_Code : Int) (t8_Placed : Bool) (t8_Pos : Int) (t8_Filed : Bool) (t8_File : List UInt8) =>
 K t8_Code t8_Placed t8_Pos t8_Filed t8_File)) ∧
 (¬ (e = Er.ok) → M_smithysee_placed e (fun (t17_Code : Int) (t17_Placed : Bool) (t17_Pos : Int) (t17_Filed : Bool) (t17_File : List UInt8) =>
 K t17_Code t17_Placed t17_Pos t17_Filed t17_File)))

def M_smithysee_Same (e : Er) (f_Code : Int) (f_Placed : Bool) (f_Pos : Int) (f_Filed : Bool) (f_File : List UInt8) (K : Bool → Prop) : Prop :=
 M_smithysee_Fault e (fun (t6_Code : Int) (t6_Placed : Bool) (t6_Pos : Int) (t6_Filed : Bool) (t6_File : List UInt8) =>
 M_smithyref_SameFault t6_Code t6_Placed t6_Pos t6_Filed t6_File f_Code f_Placed f_Pos f_Filed f_File (fun (t4 : Bool) =>
 K t4))

set_option maxHeartbeats 8000000 in
theorem W_smithysee_placed {S : List Nat} {w : World} {v_e : Value} {e : Er} {K : Int → Bool → Int → Bool → (List UInt8) → Prop} (hG : GOK S w) (hS0 : 0 ∈ S) (hS1 : 1 ∈ S) (hS2 : 2 ∈ S) (hS3 : 3 ∈ S) (hS4 : 4 ∈ S) (hS5 : 5 ∈ S) (hS6 : 6 ∈ S) (hS7 : 7 ∈ S) (hS8 : 8 ∈ S) (hS9 : 9 ∈ S) (hS10 : 10 ∈ S) (hS11 : 11 ∈ S) (hS12 : 12 ∈ S) (hS13 : 13 ∈ S) (hS14 : 14 ∈ S) (hS15 : 15 ∈ S) (hS16 : 16 ∈ S) (he : ErrR S w v_e e) (H : M_smithysee_placed e K) : Fn Tryd.prog 123 ⟨[v_e]⟩ w (fun v w' => w.grownBy w' none ∧ ∃ (r_Code : Int), ∃ (r_Placed : Bool), ∃ (r_Pos : Int), ∃ (r_Filed : Bool), ∃ (r_File : List UInt8), v = .agg ⟨[.int .i64 r_Code, .bool r_Placed, .int .i64 r_Pos, .bool r_Filed, vs r_File]⟩ ∧ K r_Code r_Placed r_Pos r_Filed r_File) := by
  unfold M_smithysee_placed at H
  refine Fn.enter (by kernel_rfl) Tryd.func123 rfl Tryd.ntmps123 rfl ?_
  refine WC.seq ?_
  refine WC.region ?_
  refine WL.alloc rfl zero105 (fun g1 w1 hB1 hg1 hl1 => ?_)
  have gr1 := hg1
  refine WL.nil (WX.then_normal ?_)
  refine WC.seq ?_
  refine WC.region ?_
  refine WL.y rfl (Yld.pure tab_ok rfl) ?_
  rcases Er.atCases e with ⟨pos, n, he1⟩ | he1
  · replace H := H.1 pos n he1
    obtain ⟨b1, vE1, hv1, hB2, hE1⟩ := ErrR.atOut (he1 ▸ (he.grown gr1))
    refine WL.y rfl (Yld.assertYes Tryd.underlying163 rfl hv1) ?_
    refine WL.y rfl (Yld.pure tab_ok rfl) ?_
    refine WL.y rfl (Yld.pure tab_ok rfl) ?_
    refine WL.y rfl (Yld.pure tab_ok rfl) ?_
    refine WL.y rfl (Yld.pure tab_ok rfl) ?_
    refine WL.y rfl (Yld.pure tab_ok rfl) ?_
    refine WL.nil (WX.then_normal ?_)
    refine WC.seq ?_
    refine WC.seq ?_
    refine WC.region ?_
    refine WL.y rfl (Yld.pure tab_ok rfl) ?_
    refine WL.y rfl (Yld.pure tab_ok rfl) ?_
    refine WL.nil (WX.then_normal ?_)
    refine WC.cond rfl (fun h => by cases h) (fun _ => ?_)
    refine WC.skip (WX.then_normal ?_)
    refine WC.seq ?_
    refine WC.seq ?_
    refine WC.region ?_
    refine WL.y rfl (Yld.pure tab_ok rfl) ?_
    refine WL.y rfl (Yld.peqnil Tryd.underlying163 rfl rfl) ?_
    refine WL.y rfl (Yld.pure tab_ok rfl) ?_
    refine WL.midF 6 (fun L' w' => ∃ q1 : Bool, L' = [(23, .bool q1), (2, .pointer (some ⟨g1, 0, none⟩)), (3, .pointer (some ⟨b1, 0, none⟩))] ∧ (decide ((Er.e n) = Er.ok)) = q1 ∧ w1 = w') ?_ (fun hQ => ?_)
    · rintro _ _ ⟨q1, rfl, rfl, rfl⟩
      refine WL.nil (WX.then_normal ?_)
      refine WC.cond rfl (fun b2 => ?_) (fun b2 => ?_)
      · replace H := H.1 (of_decide_eq_true b2)
        refine WC.seq ?_
        refine WC.region ?_
        refine WL.call rfl rfl (W_smithyref_Bare H) ?_
        rintro _ w2 ⟨hg2, t24_Code, t24_Placed, t24_Pos, t24_Filed, t24_File, rfl, H⟩
        have gr2 := gr_trans gr1 hg2
        have k1 := hB1.g0 hg2
        refine WL.storeW (vs := [.int .i64 t24_Code, .bool t24_Placed, .int .i64 t24_Pos, .bool t24_Filed, vs t24_File]) tab_ok rfl rfl rfl (all1c rfl (all1c rfl (all1c rfl (all1c rfl (all1c rfl all1n))))) k1 rfl rfl (fun w3 hB3 hg3 => ?_)
        have gr3 := gr_mod gr2 hg3 (Ge.le (Ge.box hl1) (Nat.le_refl _))
        refine WL.nil (WX.then_normal ?_)
        refine WC.ret (WX.then_ret ?_)
        exact WX.retc tab_ok rfl rfl rfl hB3 rfl ⟨gr3, t24_Code, t24_Placed, t24_Pos, t24_Filed, t24_File, rfl, H⟩
      · replace H := H.2 (of_decide_eq_false b2)
        refine WC.skip (WX.then_normal ?_)
        refine WC.seq ?_
        refine WC.chainF (fun k => !(Nat.beq k 4 || Nat.beq k 9 || Nat.beq k 10)) (LD [3, 8] (fun w' => Bl w' b1 165 [.int .i64 pos, vE1])) mixed (by kernel_rfl) (fun k w' h _ => (bl_eqv h hB2)) ?_
        refine WJ.y rfl rfl (fun w' hw' => Yld.pure tab_ok rfl) ?_
        refine WJ.y rfl rfl (fun w' hw' => Yld.pure tab_ok rfl) ?_
        refine WJ.y rfl rfl (fun w' hw' => Yld.pure tab_ok rfl) ?_
        refine WJ.y rfl rfl (fun w' hw' => Yld.bload tab_ok (hw' rfl) rfl rfl rfl) ?_
        refine WJ.call rfl (wants_none) rfl rfl (W_smithysee_sentinel (hG.grown gr1) hS0 hS1 hS2 hS3 hS4 hS5 hS6 hS7 hS8 hS9 hS10 hS11 hS12 hS13 hS14 hS15 hS16 hE1 H) (fun v w' h w2 e => DD.keep (Bl.g0 hB2 (gr_eqv h.1 e))) ?_
        rintro _ w4 ⟨hg4, t29, rfl, H⟩
        have gr4 := gr_trans gr1 hg4
        have k2 := hB1.g0 hg4
        have k3 := hE1.grown hg4
        have k4 := hB2.g0 hg4
        refine WJ.y rfl rfl (fun w' hw' => Yld.pure tab_ok rfl) ?_
        refine WJ.y rfl rfl (fun w' hw' => Yld.pure tab_ok rfl) ?_
        refine WJ.y rfl rfl (fun w' hw' => Yld.pure tab_ok rfl) ?_
        refine WJ.y rfl rfl (fun w' hw' => Yld.bload tab_ok (hw' rfl) rfl rfl rfl) ?_
        refine WJ.call rfl (wants_none) rfl rfl (W_smithyref_Placed H) (fun v w' h w2 e => DD.keep (Bl.g0 k4 (gr_eqv h.1 e))) ?_
        rintro _ w5 ⟨hg5, t34_Code, t34_Placed, t34_Pos, t34_Filed, t34_File, rfl, H⟩
        have gr5 := gr_trans gr4 hg5
        have k5 := k2.g0 hg5
        have k6 := k4.g0 hg5
        refine WJ.eff rfl (Ef0.storeW (vs := [.int .i64 t34_Code, .bool t34_Placed, .int .i64 t34_Pos, .bool t34_Filed, vs t34_File]) tab_ok rfl rfl rfl (all1c rfl (all1c rfl (all1c rfl (all1c rfl (all1c rfl all1n))))) k5 rfl rfl) (fun w' h => DD.past (by kernel_rfl)) ?_
        rintro w6 ⟨hB4, hg6⟩
        have gr6 := gr_mod gr5 hg6 (Ge.le (Ge.box hl1) (Nat.le_refl _))
        refine WJ.nil (WX.then_normal ?_)
        refine WC.ret ?_
        exact WX.retc tab_ok rfl rfl rfl hB4 rfl ⟨gr6, t34_Code, t34_Placed, t34_Pos, t34_Filed, t34_File, rfl, H⟩
    · clear H
      refine WL.gyes rfl rfl (rfl) rfl (Yld.pure tab_ok rfl) ?_
      refine WL.gyes rfl rfl (rfl) rfl (Yld.pure tab_ok rfl) ?_
      refine WL.gyes rfl rfl (rfl) rfl (Yld.pure tab_ok rfl) ?_
      refine WL.gyes rfl rfl (rfl) rfl (Yld.bload tab_ok hB2 rfl rfl rfl) ?_
      refine WL.gyes rfl rfl (rfl) rfl (Yld.erreql Tryd.underlying29 hE1 rfl) ?_
      refine WL.y rfl (Yld.pickF (rfl) rfl) ?_
      exact WL.weaken (by repeat (first | exact Sub.nil | refine Sub.cons rfl ?_)) (hQ _ _ ⟨decide ((Er.e n) = Er.ok), rfl, rfl, rfl⟩)
  · replace H := H.2 he1
    refine WL.y rfl (Yld.assertNo Tryd.underlying163 (fun _ => by kernel_rfl) (he.grown gr1) rfl rfl (.inr he1)) ?_
    refine WL.y rfl (Yld.pure tab_ok rfl) ?_
    refine WL.y rfl (Yld.pure tab_ok rfl) ?_
    refine WL.y rfl (Yld.pure tab_ok rfl) ?_
    refine WL.y rfl (Yld.pure tab_ok rfl) ?_
    refine WL.y rfl (Yld.pure tab_ok rfl) ?_
    refine WL.nil (WX.then_normal ?_)
    refine WC.seq ?_
    refine WC.seq ?_
    refine WC.region ?_
    refine WL.y rfl (Yld.pure tab_ok rfl) ?_
    refine WL.y rfl (Yld.pure tab_ok rfl) ?_
    refine WL.nil (WX.then_normal ?_)
    refine WC.cond rfl (fun _ => ?_) (fun h => by cases h)
    refine WC.seq ?_
    refine WC.region ?_
    refine WL.y rfl (Yld.pure tab_ok rfl) ?_
    refine WL.call rfl rfl (W_smithysee_sentinel (hG.grown gr1) hS0 hS1 hS2 hS3 hS4 hS5 hS6 hS7 hS8 hS9 hS10 hS11 hS12 hS13 hS14 hS15 hS16 (he.grown gr1) H) ?_
    rintro _ w7 ⟨hg7, t13, rfl, H⟩
    have gr7 := gr_trans gr1 hg7
    have k8 := hB1.g0 hg7
    refine WL.call rfl rfl (W_smithyref_Bare H) ?_
    rintro _ w8 ⟨hg8, t14_Code, t14_Placed, t14_Pos, t14_Filed, t14_File, rfl, H⟩
    have gr8 := gr_trans gr7 hg8
    have k9 := k8.g0 hg8
    refine WL.storeW (vs := [.int .i64 t14_Code, .bool t14_Placed, .int .i64 t14_Pos, .bool t14_Filed, vs t14_File]) tab_ok rfl rfl rfl (all1c rfl (all1c rfl (all1c rfl (all1c rfl (all1c rfl all1n))))) k9 rfl rfl (fun w9 hB5 hg9 => ?_)
    have gr9 := gr_mod gr8 hg9 (Ge.le (Ge.box hl1) (Nat.le_refl _))
    refine WL.nil (WX.then_normal ?_)
    refine WC.ret (WX.then_ret ?_)
    exact WX.retc tab_ok rfl rfl rfl hB5 rfl ⟨gr9, t14_Code, t14_Placed, t14_Pos, t14_Filed, t14_File, rfl, H⟩

set_option maxHeartbeats 8000000 in
theorem W_smithysee_Fault {S : List Nat} {w : World} {v_e : Value} {e : Er} {K : Int → Bool → Int → Bool → (List UInt8) → Prop} (hG : GOK S w) (hS0 : 0 ∈ S) (hS1 : 1 ∈ S) (hS2 : 2 ∈ S) (hS3 : 3 ∈ S) (hS4 : 4 ∈ S) (hS5 : 5 ∈ S) (hS6 : 6 ∈ S) (hS7 : 7 ∈ S) (hS8 : 8 ∈ S) (hS9 : 9 ∈ S) (hS10 : 10 ∈ S) (hS11 : 11 ∈ S) (hS12 : 12 ∈ S) (hS13 : 13 ∈ S) (hS14 : 14 ∈ S) (hS15 : 15 ∈ S) (hS16 : 16 ∈ S) (he : ErrR S w v_e e) (H : M_smithysee_Fault e K) : Fn Tryd.prog 95 ⟨[v_e]⟩ w (fun v w' => w.grownBy w' none ∧ ∃ (r_Code : Int), ∃ (r_Placed : Bool), ∃ (r_Pos : Int), ∃ (r_Filed : Bool), ∃ (r_File : List UInt8), v = .agg ⟨[.int .i64 r_Code, .bool r_Placed, .int .i64 r_Pos, .bool r_Filed, vs r_File]⟩ ∧ K r_Code r_Placed r_Pos r_Filed r_File) := by
  unfold M_smithysee_Fault at H
  refine Fn.enter (by kernel_rfl) Tryd.func95 rfl Tryd.ntmps95 rfl ?_
  refine WC.seq ?_
  refine WC.region ?_
  refine WL.alloc rfl zero105 (fun g1 w1 hB1 hg1 hl1 => ?_)
  have gr1 := hg1
  refine WL.nil (WX.then_normal ?_)
  refine WC.seq ?_
  refine WC.seq ?_
  refine WC.region ?_
  refine WL.y rfl (Yld.pure tab_ok rfl) ?_
  refine WL.y rfl (Yld.erreql Tryd.underlying29 (he.grown gr1) rfl) ?_
  refine WL.nil (WX.then_normal ?_)
  refine WC.cond rfl (fun b1 => ?_) (fun b1 => ?_)
  · replace H := H.1 (of_decide_eq_true b1)
    refine WC.seq ?_
    refine WC.region ?_
    refine WL.call rfl rfl (W_smithyref_None H) ?_
    rintro _ w2 ⟨hg2, t8_Code, t8_Placed, t8_Pos, t8_Filed, t8_File, rfl, H⟩
    have gr2 := gr_trans gr1 hg2
    have k1 := hB1.g0 hg2
    refine WL.storeW (vs := [.int .i64 t8_Code, .bool t8_Placed, .int .i64 t8_Pos, .bool t8_Filed, vs t8_File]) tab_ok rfl rfl rfl (all1c rfl (all1c rfl (all1c rfl (all1c rfl (all1c rfl all1n))))) k1 rfl rfl (fun w3 hB2 hg3 => ?_)
    have gr3 := gr_mod gr2 hg3 (Ge.le (Ge.box hl1) (Nat.le_refl _))
    refine WL.nil (WX.then_normal ?_)
    refine WC.ret (WX.then_ret ?_)
    exact WX.retc tab_ok rfl rfl rfl hB2 rfl ⟨gr3, t8_Code, t8_Placed, t8_Pos, t8_Filed, t8_File, rfl, H⟩
  · replace H := H.2 (of_decide_eq_false b1)
    refine WC.skip (WX.then_normal ?_)
    refine WC.seq ?_
    refine WC.region ?_
    refine WL.y rfl (Yld.pure tab_ok rfl) ?_
    refine WL.y rfl (Yld.assertNo Tryd.underlying192 (fun _ => by kernel_rfl) (he.grown gr1) rfl rfl (.inl rfl)) ?_
    refine WL.y rfl (Yld.pure tab_ok rfl) ?_
    refine WL.y rfl (Yld.pure tab_ok rfl) ?_
    refine WL.y rfl (Yld.pure tab_ok rfl) ?_
    refine WL.y rfl (Yld.pure tab_ok rfl) ?_
    refine WL.y rfl (Yld.pure tab_ok rfl) ?_
    refine WL.nil (WX.then_normal ?_)
    refine WC.seq ?_
    refine WC.seq ?_
    refine WC.region ?_
    refine WL.y rfl (Yld.pure tab_ok rfl) ?_
    refine WL.y rfl (Yld.pure tab_ok rfl) ?_
    refine WL.nil (WX.then_normal ?_)
    refine WC.cond rfl (fun _ => ?_) (fun h => by cases h)
    refine WC.seq ?_
    refine WC.region ?_
    refine WL.y rfl (Yld.pure tab_ok rfl) ?_
    refine WL.call rfl rfl (W_smithysee_placed (hG.grown gr1) hS0 hS1 hS2 hS3 hS4 hS5 hS6 hS7 hS8 hS9 hS10 hS11 hS12 hS13 hS14 hS15 hS16 (he.grown gr1) H) ?_
    rintro _ w4 ⟨hg4, t17_Code, t17_Placed, t17_Pos, t17_Filed, t17_File, rfl, H⟩
    have gr4 := gr_trans gr1 hg4
    have k2 := hB1.g0 hg4
    refine WL.storeW (vs := [.int .i64 t17_Code, .bool t17_Placed, .int .i64 t17_Pos, .bool t17_Filed, vs t17_File]) tab_ok rfl rfl rfl (all1c rfl (all1c rfl (all1c rfl (all1c rfl (all1c rfl all1n))))) k2 rfl rfl (fun w5 hB3 hg5 => ?_)
    have gr5 := gr_mod gr4 hg5 (Ge.le (Ge.box hl1) (Nat.le_refl _))
    refine WL.nil (WX.then_normal ?_)
    refine WC.ret (WX.then_ret ?_)
    exact WX.retc tab_ok rfl rfl rfl hB3 rfl ⟨gr5, t17_Code, t17_Placed, t17_Pos, t17_Filed, t17_File, rfl, H⟩

set_option maxHeartbeats 8000000 in
theorem W_smithysee_Same {S : List Nat} {w : World} {v_e : Value} {e : Er} {f_Code : Int} {f_Placed : Bool} {f_Pos : Int} {f_Filed : Bool} {f_File : List UInt8} {K : Bool → Prop} (hG : GOK S w) (hS0 : 0 ∈ S) (hS1 : 1 ∈ S) (hS2 : 2 ∈ S) (hS3 : 3 ∈ S) (hS4 : 4 ∈ S) (hS5 : 5 ∈ S) (hS6 : 6 ∈ S) (hS7 : 7 ∈ S) (hS8 : 8 ∈ S) (hS9 : 9 ∈ S) (hS10 : 10 ∈ S) (hS11 : 11 ∈ S) (hS12 : 12 ∈ S) (hS13 : 13 ∈ S) (hS14 : 14 ∈ S) (hS15 : 15 ∈ S) (hS16 : 16 ∈ S) (he : ErrR S w v_e e) (H : M_smithysee_Same e f_Code f_Placed f_Pos f_Filed f_File K) : Fn Tryd.prog 54 ⟨[v_e, .agg ⟨[.int .i64 f_Code, .bool f_Placed, .int .i64 f_Pos, .bool f_Filed, vs f_File]⟩]⟩ w (fun v w' => w.grownBy w' none ∧ ∃ (r : Bool), v = .bool r ∧ K r) := by
  unfold M_smithysee_Same at H
  refine Fn.enter (by kernel_rfl) Tryd.func54 rfl Tryd.ntmps54 rfl ?_
  refine WC.seq ?_
  refine WC.region ?_
  refine WL.box (us := [.int .i64 f_Code, .bool f_Placed, .int .i64 f_Pos, .bool f_Filed, vs f_File]) rfl rfl rfl (fun g1 w1 hB1 hg1 hl1 => ?_)
  have gr1 := hg1
  refine WL.y rfl (Yld.pure tab_ok rfl) ?_
  refine WL.nil (WX.then_normal ?_)
  refine WC.seq ?_
  refine WC.chainF (fun k => !(Nat.beq k 1 || Nat.beq k 3)) (LD [2] (fun w' => Bl w' g1 105 [.int .i64 f_Code, .bool f_Placed, .int .i64 f_Pos, .bool f_Filed, vs f_File])) mixed (by kernel_rfl) (fun k w' h _ => (bl_eqv h hB1)) ?_
  refine WJ.y rfl rfl (fun w' hw' => Yld.pure tab_ok rfl) ?_
  refine WJ.call rfl (wants_none) rfl rfl (W_smithysee_Fault (hG.grown gr1) hS0 hS1 hS2 hS3 hS4 hS5 hS6 hS7 hS8 hS9 hS10 hS11 hS12 hS13 hS14 hS15 hS16 (he.grown gr1) H) (fun v w' h w2 e => DD.keep (Bl.g0 hB1 (gr_eqv h.1 e))) ?_
  rintro _ w2 ⟨hg2, t6_Code, t6_Placed, t6_Pos, t6_Filed, t6_File, rfl, H⟩
  have gr2 := gr_trans gr1 hg2
  have k1 := hB1.g0 hg2
  refine WJ.y rfl rfl (fun w' hw' => Yld.bagg (vs := [.int .i64 f_Code, .bool f_Placed, .int .i64 f_Pos, .bool f_Filed, vs f_File]) tab_ok (hw' rfl) rfl rfl rfl rfl) ?_
  refine WJ.call rfl (wants_none) rfl rfl (W_smithyref_SameFault H) (fun v w' h w2 e => DD.keep (Bl.g0 k1 (gr_eqv h.1 e))) ?_
  rintro _ w3 ⟨hg3, t4, rfl, H⟩
  have gr3 := gr_trans gr2 hg3
  have k2 := k1.g0 hg3
  refine WJ.y rfl rfl (fun w' hw' => Yld.pure tab_ok rfl) ?_
  refine WJ.nil (WX.then_normal ?_)
  refine WC.ret ?_
  exact WX.ret1 rfl rfl ⟨gr3, t4, rfl, H⟩

end Go.Proofs.YtlonpmajnglmoaaDoor

 /- Printed by a program (wip/vg): elements of several cells. -/
namespace Go.Proofs.YtlonpmajnglmoaaDoor
open Go Go.RowKit
end Go.Proofs.YtlonpmajnglmoaaDoor

 /- Maps: plainly, and in the world. -/
namespace Go.Proofs.YtlonpmajnglmoaaDoor
open Go Go.RowKit Go.MapKept Go.ChangeMaps
open Go.Maps (Keyed)
/-! ## plainly: the entries, in the order in which they were laid -/
section
variable {κ ν : Type} [DecidableEq κ]
def mget : List (κ × ν) → κ → Option ν
  | [], _ => none
  | p :: m, k => if p.1 = k then some p.2 else mget m k
def mput : List (κ × ν) → κ → ν → List (κ × ν)
  | [], k, v => [(k, v)]
  | p :: m, k, v => if p.1 = k then (k, v) :: m else p :: mput m k v
def Uq (m : List (κ × ν)) : Prop := (m.map (·.1)).Nodup
theorem mget_none {m : List (κ × ν)} {k : κ} : mget m k = none ↔ ∀ p ∈ m, p.1 ≠ k := by
  induction m with
  | nil => simp [mget]
  | cons p m ih =>
    unfold mget
    split
    · rename_i h; simp [h]
    · rename_i h; rw [ih]; simp [h]
theorem mget_mput (m : List (κ × ν)) (k k' : κ) (v : ν) : mget (mput m k v) k' = if k = k' then some v else mget m k' := by
  induction m with
  | nil => simp [mget, mput]
  | cons p m ih =>
    unfold mput
    split
    · rename_i h
      subst h
      unfold mget
      split <;> simp_all
    · rename_i h
      unfold mget
      rw [ih]
      split
      · rename_i h2
        subst h2
        rw [if_neg (Ne.symm h)]
      · rfl
theorem mput_new {m : List (κ × ν)} {k : κ} {v : ν} (h : mget m k = none) : mput m k v = m ++ [(k, v)] := by
  induction m with
  | nil => rfl
  | cons p m ih =>
    unfold mget at h
    split at h
    · cases h
    · rename_i hne
      unfold mput
      rw [if_neg hne, ih h]
      rfl
theorem mput_set {m : List (κ × ν)} {k : κ} {v v0 : ν} {j : Nat} (hu : Uq m) (h : m[j]? = some (k, v0)) : mput m k v = m.set j (k, v) := by
  induction m generalizing j with
  | nil => simp at h
  | cons p m ih =>
    have hu' := List.nodup_cons.1 hu
    cases j with
    | zero =>
      simp only [List.getElem?_cons_zero, Option.some.injEq] at h
      subst h
      simp [mput]
    | succ j =>
      simp only [List.getElem?_cons_succ] at h
      have hne : p.1 ≠ k := fun e => hu'.1 (List.mem_map.2 ⟨(k, v0), List.mem_of_getElem? h, e.symm⟩)
      unfold mput
      rw [if_neg hne, ih hu'.2 h]
      rfl
theorem mget_mem {m : List (κ × ν)} {k : κ} {v : ν} (hu : Uq m) : mget m k = some v ↔ (k, v) ∈ m := by
  induction m with
  | nil => simp [mget]
  | cons p m ih =>
    have hu' := List.nodup_cons.1 hu
    unfold mget
    split
    · rename_i h
      subst h
      rw [Option.some.injEq, List.mem_cons]
      constructor
      · rintro rfl; exact .inl rfl
      · rintro (h | h)
        · exact (congrArg Prod.snd h).symm
        · exact absurd (List.mem_map.2 ⟨_, h, rfl⟩) hu'.1
    · rename_i h
      rw [ih hu'.2, List.mem_cons]
      constructor
      · exact .inr
      · rintro (h2 | h2)
        · exact absurd (congrArg Prod.fst h2).symm h
        · exact h2
theorem mput_len (m : List (κ × ν)) (k : κ) (v : ν) : (mput m k v).length = if (mget m k).isSome then m.length else m.length + 1 := by
  induction m with
  | nil => simp [mget, mput]
  | cons p m ih =>
    unfold mput mget
    split
    · simp
    · rw [List.length_cons, ih, List.length_cons]
      split <;> rfl
theorem mput_mem {m : List (κ × ν)} {k : κ} {v : ν} {p : κ × ν} (h : p ∈ mput m k v) : p = (k, v) ∨ p ∈ m := by
  induction m with
  | nil => simp [mput] at h; exact .inl h
  | cons q m ih =>
    unfold mput at h
    split at h
    · rcases List.mem_cons.1 h with h | h
      · exact .inl h
      · exact .inr (List.mem_cons_of_mem _ h)
    · rcases List.mem_cons.1 h with h | h
      · exact .inr (by rw [h]; exact List.mem_cons_self)
      · rcases ih h with h | h
        · exact .inl h
        · exact .inr (List.mem_cons_of_mem _ h)
theorem mput_keys (m : List (κ × ν)) (k : κ) (v : ν) : (mput m k v).map (·.1) = if (mget m k).isSome then m.map (·.1) else m.map (·.1) ++ [k] := by
  induction m with
  | nil => simp [mget, mput]
  | cons p m ih =>
    unfold mput mget
    split
    · rename_i h; simp [h]
    · rw [List.map_cons, ih, List.map_cons]
      split <;> rfl
theorem Uq.put {m : List (κ × ν)} (h : Uq m) (k : κ) (v : ν) : Uq (mput m k v) := by
  unfold Uq at *
  rw [mput_keys]
  split
  · exact h
  · rename_i hn
    have : mget m k = none := by simpa using hn
    rw [List.nodup_append]
    refine ⟨h, by simp, fun a ha b hb => ?_⟩
    obtain ⟨p, hp, rfl⟩ := List.mem_map.1 ha
    simp only [List.mem_cons, List.not_mem_nil, or_false] at hb
    subst hb
    exact mget_none.1 this p hp
end
/-! ## in the world -/
structure KeyF {κ : Type} (P : Program) (k : TypeId) (fk : κ → Value) (ok : κ → Prop) : Prop where
  keyed : Keyed P k
  key : ∀ x, ok x → ∃ l, keyOf P k (fk x) = some l
  inj : ∀ x y, ok x → ok y → fk x = fk y → x = y
def okS (s : List UInt8) : Prop := s.length ≤ maxLen
theorem keyF_s {P : Program} {k : TypeId} (h : P.underlying k = some .string) : KeyF P k vs okS where
  keyed := Go.Maps.string_keyed h
  key x hx := ⟨_, Go.WideMaps.keyOf_string_mk h (s := ⟨⟨x⟩⟩) hx⟩
  inj x y _ _ h := by unfold vs at h; injection h with h; injection h with h; injection h
def MapB {κ ν : Type} (fk : κ → Value) (ok : κ → Prop) (fv : ν → Value) (w : World) (b : Nat) (m : List (κ × ν)) : Prop :=
  ∃ es clock, w.heap[b]? = some (.map es clock) ∧ Stamped es clock ∧ es.size ≤ maxLen ∧ (∀ p ∈ m, ok p.1) ∧ es.toList.map (fun e => (e.key, e.val)) = m.map fun p => (fk p.1, fv p.2)
section
variable {κ ν : Type} {P : Program} {k e t : TypeId} {fk : κ → Value} {ok : κ → Prop} {fv : ν → Value} {w w' : World} {b : Nat} {m : List (κ × ν)} {row : Option Nat}
theorem MapB.lt (h : MapB fk ok fv w b m) : b < w.heap.size := by
  obtain ⟨es, clock, hb, _⟩ := h
  exact (Array.getElem?_eq_some_iff.1 hb).1
theorem MapB.lt' (h : MapB fk ok fv w b m) : Lt (some b) w.heap.size := Lt.box h.lt
theorem MapB.go (h : MapB fk ok fv w b m) (hg : w.grownBy w' row) (hd : Dj (some b) row) : MapB fk ok fv w' b m := by
  have hlt := h.lt
  obtain ⟨es, clock, hb, r⟩ := h
  exact ⟨es, clock, (hg.block b hlt (fun e => hd b rfl e.symm)).trans hb, r⟩
theorem MapB.g0 (h : MapB fk ok fv w b m) (hg : w.grownBy w' none) : MapB fk ok fv w' b m := h.go hg Dj.nr
theorem MapB.eqv (hw : Eqv w w') (h : MapB fk ok fv w b m) : MapB fk ok fv w' b m := h.g0 (gr_eqv (gr_refl w none) hw)
theorem MapB.len (h : MapB fk ok fv w b m) : m.length ≤ maxLen := by
  obtain ⟨es, clock, _, _, hs, _, he⟩ := h
  have := congrArg List.length he
  simp at this
  omega
theorem MapB.uq (h : MapB fk ok fv w b m) : Uq m := by
  obtain ⟨es, clock, _, hst, _, _, he⟩ := h
  have h1 : es.toList.map (·.key) = (m.map (·.1)).map fk := by
    have := congrArg (List.map Prod.fst) he
    simpa [Function.comp_def] using this
  have h2 := hst.2.2
  rw [h1] at h2
  unfold Uq
  rw [List.nodup_iff_pairwise_ne, List.pairwise_map] at h2
  rw [List.nodup_iff_pairwise_ne]
  exact h2.imp fun h e => h (by rw [e])
variable [DecidableEq κ]
theorem MapB.find {es : Array MapEntry} (K : KeyF P k fk ok) (hst : Uq m) (hok : ∀ p ∈ m, ok p.1) (he : es.toList.map (fun e => (e.key, e.val)) = m.map fun p => (fk p.1, fv p.2)) {q : κ} (hq : ok q) (w : World) :
    ((Instr.findKey k (fk q) es.toList).run P w = .ok none w ∧ mget m q = none ∧ ∀ x ∈ es.toList, x.key ≠ fk q) ∨ ∃ j v e0, (Instr.findKey k (fk q) es.toList).run P w = .ok (some (j, fv v)) w ∧ mget m q = some v ∧ m[j]? = some (q, v) ∧ es.toList[j]? = some e0 ∧ e0.key = fk q := by
  obtain ⟨l, hl⟩ := K.key q hq
  have hget : ∀ (j : Nat), (es.toList[j]?).map (fun e => (e.key, e.val)) = (m[j]?).map fun p => (fk p.1, fv p.2) := fun j => by
    have := congrArg (fun l => l[j]?) he
    simpa using this
  rcases K.keyed.find w hl es.toList (fun e he' => by
    obtain ⟨j, hj, rfl⟩ := List.getElem_of_mem he'
    have h1 := hget j
    rw [List.getElem?_eq_getElem hj] at h1
    simp only [Option.map_some] at h1
    obtain ⟨p, hp, hpe⟩ := Option.map_eq_some_iff.1 h1.symm
    obtain ⟨l', hl'⟩ := K.key p.1 (hok p (List.mem_of_getElem? hp))
    have h5 : fk p.1 = es.toList[j].key := congrArg Prod.fst hpe
    exact ⟨l', by rw [← h5]; exact hl'⟩) with ⟨h1, h2⟩ | ⟨j, e0, h1, h2, h3⟩
  · refine .inl ⟨h1, mget_none.2 fun p hp hpq => ?_, h2⟩
    obtain ⟨j, hj, rfl⟩ := List.getElem_of_mem hp
    have h4 := hget j
    rw [List.getElem?_eq_getElem hj] at h4
    simp only [Option.map_some] at h4
    obtain ⟨x, hx, hxe⟩ := Option.map_eq_some_iff.1 h4
    have h5 : x.key = fk m[j].1 := congrArg Prod.fst hxe
    exact h2 x (List.mem_of_getElem? hx) (by rw [h5, hpq])
  · have h4 := hget j
    rw [h2] at h4
    simp only [Option.map_some] at h4
    obtain ⟨p, hp, hpe⟩ := Option.map_eq_some_iff.1 h4.symm
    have hpq : p.1 = q := K.inj _ _ (hok p (List.mem_of_getElem? hp)) hq ((congrArg Prod.fst hpe).trans h3)
    have hpv : fv p.2 = e0.val := congrArg Prod.snd hpe
    refine .inr ⟨j, p.2, e0, by rw [hpv]; exact h1, (mget_mem hst).2 (by rw [← hpq]; exact List.mem_of_getElem? hp), by rw [hp, ← hpq], h2, h3⟩
theorem MapB.run_look (K : KeyF P k fk ok) (h : MapB fk ok fv w b m) (ht : P.underlying t = some (.map k e)) {z : ν} (hz : (zeroValue e).run P w = .ok (fv z) w) {q : κ} (hq : ok q) (c : Bool) :
    (Instr.lookup t (.map (some b)) (fk q) c).run P w = .ok (if c then .tuple #[fv ((mget m q).getD z), .bool (mget m q).isSome] else fv ((mget m q).getD z)) w := by
  have hu := h.uq
  obtain ⟨es, clock, hb, hst, hs, hok, he⟩ := h
  obtain ⟨l, hl⟩ := K.key q hq
  rcases MapB.find K hu hok he hq w with ⟨h1, h2, _⟩ | ⟨j, v, e0, h1, h2, _⟩
  · cases c <;> simp [Instr.lookup, run_underlying ht, MapKept.run_getObj_map hb, K.keyed.check w _ hl, h1, h2, hz, Result.andThen]
  · cases c <;> simp [Instr.lookup, run_underlying ht, MapKept.run_getObj_map hb, K.keyed.check w _ hl, h1, h2, Result.andThen]
theorem MapB.run_put (K : KeyF P k fk ok) (h : MapB fk ok fv w b m) (ht : P.underlying t = some (.map k e)) (hn : m.length < maxLen) {q : κ} (hq : ok q) (v : ν) :
    ∃ w', (Instr.mapUpdate t (.map (some b)) (fk q) (fv v)).run P w = .ok () w' ∧ MapB fk ok fv w' b (mput m q v) ∧ w.grownBy w' (some b) := by
  have hu := h.uq
  obtain ⟨es, clock, hb, hst, hs, hok, he⟩ := h
  obtain ⟨l, hl⟩ := K.key q hq
  have hlen : es.size = m.length := by have := congrArg List.length he; simpa using this
  have hok' : ∀ p ∈ mput m q v, ok p.1 := fun p hp => by
    rcases mput_mem hp with rfl | hp
    · exact hq
    · exact hok p hp
  have hgr : ∀ o, w.grownBy (setBlock w b o) (some b) := fun o => ⟨rfl, rfl, rfl, by simp [setBlock], fun i _ hi => heap_setBlock_other hb _ (fun e => hi (by rw [e]))⟩
  rcases MapB.find K hu hok he hq w with ⟨h1, h2, h3⟩ | ⟨j, v0, e0, h1, h2, h3, h4, h5⟩
  · refine ⟨setBlock w b (.map (es.push ⟨fk q, fv v, clock⟩) (clock + 1)), ?_, ⟨es.push ⟨fk q, fv v, clock⟩, clock + 1, heap_setBlock_same hb _, stamped_push hst h3, by simp; omega, hok', ?_⟩, hgr _⟩
    · simp [Instr.mapUpdate, run_underlying ht, MapKept.run_getObj_map hb, K.keyed.check w false hl, h1, MapKept.run_setObj_map _ hb, Result.andThen, setBlock]
    · rw [mput_new h2, Array.toList_push, List.map_append, List.map_append, he]
      rfl
  · have hj : es[j]? = some e0 := by simpa using h4
    have hkeyf : ∀ e', es[j]? = some e' → ({ e' with key := fk q, val := fv v } : MapEntry).key = e'.key := fun e' he' => by rw [hj] at he'; cases he'; exact h5.symm
    have hlist : (es.modify j (fun e' => { e' with key := fk q, val := fv v })).toList = es.toList.set j { e0 with key := fk q, val := fv v } := by rw [Array.toList_modify, modify_eq_set _ _ _ _ h4]
    refine ⟨setBlock w b (.map (es.modify j (fun e' => { e' with key := fk q, val := fv v })) clock), ?_, ⟨es.modify j (fun e' => { e' with key := fk q, val := fv v }), clock, heap_setBlock_same hb _, stamped_modify hst _ _ (fun _ _ => rfl) (fun e' _ he' => hkeyf e' he'), by simpa using hs, hok', ?_⟩, hgr _⟩
    · simp [Instr.mapUpdate, run_underlying ht, MapKept.run_getObj_map hb, K.keyed.check w false hl, h1, hj, h5, K.keyed.stays w hl, MapKept.run_setObj_map _ hb, Result.andThen, setBlock]
    · rw [hlist, mput_set hu h3, List.map_set, List.map_set, he]
 omit [DecidableEq κ] in
theorem MapB.made (w : World) (fk : κ → Value) (ok : κ → Prop) (fv : ν → Value) : MapB fk ok fv (w.alloc (.map #[] 0)) w.heap.size ([] : List (κ × ν)) :=
  ⟨#[], 0, (MapKept.heap_alloc w _).1, stamped_empty 0, by simp, by simp, rfl⟩
variable {N : Nat} {L : Slots} {ty : TypeId} {pos : String} {af : Array Edge} {dd : Option Tmp} {x y u : Operand}
theorem Yld.lookOk (hK : KeyF P k fk ok) (ht : P.underlying t = some (.map k e)) {z : ν} (hz : ∀ w, (zeroValue e).run P w = .ok (fv z) w) (hm : MapB fk ok fv w b m) (hx : opv L x = some (.map (some b))) {q : κ} (hy : opv L y = some (fk q)) (hq : ok q) :
    Yld P N w ⟨dd, .lookup t x y true, ty, pos, af, none⟩ L (.tuple #[fv ((mget m q).getD z), .bool (mget m q).isSome]) := fun a w1 hw ha => by
  unfold execOp
  simp [ha.ev hx, ha.ev hy, (MapB.eqv hw hm).run_look hK ht (hz w1) hq true]
 omit [DecidableEq κ] in
theorem Eff.makeMap (fk : κ → Value) (ok : κ → Prop) (fv : ν → Value) : Eff P N w ⟨dd, .makeMap t none, ty, pos, af, none⟩ L fun v w' => v = .map (some w.heap.size) ∧ MapB fk ok fv w' w.heap.size ([] : List (κ × ν)) ∧ w.grownBy w' none := fun a w1 hw ha => by
  refine ⟨_, w1.alloc (.map #[] 0), ?_, rfl, ?_, eqv_gr hw (gr_alloc w1 _ none)⟩
  · unfold execOp
    simp [run_makeMap]
    rw [hw.heap]
  · have := MapB.made w1 fk ok fv
    rwa [hw.heap] at this
theorem Ef0.mapPut (hK : KeyF P k fk ok) (ht : P.underlying t = some (.map k e)) (hm : MapB fk ok fv w b m) (hn : m.length < maxLen) (hx : opv L x = some (.map (some b))) {q : κ} (hy : opv L y = some (fk q)) (hq : ok q) {v : ν} (hu : opv L u = some (fv v)) :
    Ef0 P N w ⟨none, .mapUpdate t x y u, ty, pos, af, none⟩ L fun w' => MapB fk ok fv w' b (mput m q v) ∧ w.grownBy w' (some b) := fun a w1 hw ha => by
  obtain ⟨w', h1, h2, h3⟩ := (MapB.eqv hw hm).run_put hK ht hn hq v
  refine ⟨w', ?_, h2, eqv_gr hw h3⟩
  unfold execOp
  simp [ha.ev hx, ha.ev hy, ha.ev hu, h1]
end
end Go.Proofs.YtlonpmajnglmoaaDoor

 /- Changes within blocks that are named: what calls do to what they are handed. -/
namespace Go.Proofs.YtlonpmajnglmoaaDoor
open Go Go.RowKit
structure GrL (ps : List (Option Nat)) (w w' : World) : Prop where
  os : w'.os = w.os
  tape : w'.tape = w.tape
  output : w'.output = w.output
  size : w.heap.size ≤ w'.heap.size
  block : ∀ i, i < w.heap.size → (∀ p, List.Mem p ps → p ≠ some i) → w'.heap[i]? = w.heap[i]?
def AllP (Q : Option Nat → Prop) (ps : List (Option Nat)) : Prop := ∀ p, List.Mem p ps → Q p
theorem apN {Q : Option Nat → Prop} : AllP Q [] := fun _ h => by cases h
theorem apC {Q : Option Nat → Prop} {p : Option Nat} {ps : List (Option Nat)} (h : Q p) (t : AllP Q ps) : AllP Q (p :: ps) := fun x hx => by
  cases hx with
  | head => exact h
  | tail _ hx => exact t x hx
def InP (ps : List (Option Nat)) (n : Nat) (p : Option Nat) : Prop := ∀ g, p = some g → n ≤ g ∨ List.Mem (some g) ps
section
variable {ps qs : List (Option Nat)} {p p' q row : Option Nat} {n m : Nat} {a b c w w' : World}
theorem InP.mem (h : List.Mem p ps) : InP ps n p := fun _ hg => .inr (hg ▸ h)
theorem InP.none : InP ps n none := fun _ h => by cases h
theorem InP.app (h : InP ps n p) (k : ∀ g, p' = some g → p = some g ∨ m ≤ g) (hm : n ≤ m) : InP ps n p' := fun g hg => by
  rcases k g hg with h1 | h1
  · exact h g h1
  · exact .inl (Nat.le_trans hm h1)
theorem InP.trans (h : InP qs m p) (k : AllP (InP ps n) qs) (hm : n ≤ m) : InP ps n p := fun g hg => by
  rcases h g hg with h1 | h1
  · exact .inl (Nat.le_trans hm h1)
  · exact k _ h1 g rfl
theorem InP.dj (h : InP qs m p) (hq : Lt q m) (k : AllP (Dj q) qs) : Dj p q := fun g hg hqg => by
  rcases h g hg with h1 | h1
  · have := hq g hqg; omega
  · exact k _ h1 g hqg rfl
theorem InP.dn {α : Type} {xs : List α} (h : InP qs m p) (hq : xs ≠ [] → Lt q m) (k : AllP (Dn xs q) qs) : Dn xs q p := fun hx g hqg hg => by
  rcases h g hg with h1 | h1
  · have := hq hx g hqg; omega
  · exact k _ h1 hx g hqg rfl
theorem GrL.refl (w : World) : GrL ps w w := ⟨rfl, rfl, rfl, Nat.le_refl _, fun _ _ _ => rfl⟩
theorem GrL.of0 (h : w.grownBy w' none) : GrL ps w w' := ⟨h.os, h.tape, h.output, h.size, fun i hi _ => h.block i hi (by simp)⟩
theorem GrL.of1 (h : w.grownBy w' row) : GrL [row] w w' := ⟨h.os, h.tape, h.output, h.size, fun i hi k => h.block i hi fun e => k row (List.Mem.head _) e.symm⟩
theorem GrL.trans (h : GrL ps a b) (k : GrL ps b c) : GrL ps a c :=
  ⟨k.os.trans h.os, k.tape.trans h.tape, k.output.trans h.output, Nat.le_trans h.size k.size, fun i hi hp => (k.block i (Nat.lt_of_lt_of_le hi h.size) hp).trans (h.block i hi hp)⟩
theorem GrL.add0 (h : GrL ps a b) (k : b.grownBy c none) : GrL ps a c := h.trans (GrL.of0 k)
theorem GrL.eqv (h : GrL ps a b) (k : Eqv b c) : GrL ps a c := h.add0 (gr_eqv (gr_refl b none) k)
/-- one block's row, as_ 'grownBy' says it -/
theorem GrL.cell (h : GrL ps w w') {ad : Addr} {v : Value} (hc : w.cell? ad = some v) (hp : ∀ p, List.Mem p ps → p ≠ some ad.block) : w'.cell? ad = some v := by
  have hlt := World.block_lt_of_cell? w _ hc
  have := h.block ad.block hlt hp
  unfold World.cell? at hc ⊢
  rw [this]; exact hc
variable {α : Type} {f : α → Value} {A : Option Addr} {B cc g k : Nat} {xs : List α} {e : TypeId} {us : List Value} {fk : α → List Value}
theorem Bl.goL (h : Bl w g e us) (hg : GrL ps w w') (hd : AllP (Dj (some g)) ps) : Bl w' g e us := (hg.block g h.lt fun p hp e => hd p hp g rfl e).trans h
theorem Rd.goL (h : Rd f w A cc xs) (hg : GrL ps w w') (hd : AllP (Dn xs (blk A)) ps) : Rd f w' A cc xs :=
  ⟨h.cap, h.max, fun hx => by
    obtain ⟨ad, rfl, hc⟩ := h.cells hx
    refine ⟨ad, rfl, fun j x hj => hg.cell (hc j x hj) fun p hp e => ?_⟩
    rw [addr_block] at e
    exact hd p hp hx ad.block rfl e⟩
theorem RdK.goL (h : RdK k fk w A cc xs) (hg : GrL ps w w') (hd : AllP (Dn xs (blk A)) ps) : RdK k fk w' A cc xs :=
  ⟨h.ok, h.cap, h.max, fun hx => by
    obtain ⟨g', o, rfl, hc⟩ := h.cells hx
    refine ⟨g', o, rfl, fun j x i u hj hi => hg.cell (hc j x i u hj hi) fun p hp e => ?_⟩
    exact hd p hp hx g' rfl e⟩
theorem Own.goL (h : Own f w B e A cc xs) (hg : GrL ps w w') (hd : AllP (Dj (blk A)) ps) : Own f w' B e A cc xs := by
  have hlt := h.lt'
  unfold Own at h ⊢
  refine ⟨h.1, ?_⟩
  rcases h.2 with h2 | ⟨g, cap, cur, hv, hb, hg', r⟩
  · exact .inl h2
  · refine .inr ⟨g, cap, cur, hv, hb, ?_, r⟩
    simp only [Value.slice.injEq] at hv
    obtain ⟨rfl, _⟩ := hv
    exact (hg.block g (hlt g rfl) fun p hp e => hd p hp g rfl e).trans hg'
theorem OwnK.goL (h : OwnK k fk w B e A cc xs) (hg : GrL ps w w') (hd : AllP (Dj (blk A)) ps) : OwnK k fk w' B e A cc xs := by
  have hlt := h.lt'
  refine ⟨h.1, h.2.1, ?_⟩
  rcases h.2.2 with h2 | ⟨g, cap, cur, hv, hb, hg', r⟩
  · exact .inl h2
  · refine .inr ⟨g, cap, cur, hv, hb, ?_, r⟩
    simp only [Value.slice.injEq] at hv
    obtain ⟨rfl, _⟩ := hv
    exact (hg.block g (hlt g rfl) fun p hp e => hd p hp g rfl e).trans hg'
theorem MapB.goL {κ ν : Type} {mk : κ → Value} {ok : κ → Prop} {fv : ν → Value} {mm : List (κ × ν)} (h : MapB mk ok fv w g mm) (hg : GrL ps w w') (hd : AllP (Dj (some g)) ps) : MapB mk ok fv w' g mm := by
  have hlt := h.lt
  obtain ⟨es, clock, hb, r⟩ := h
  exact ⟨es, clock, (hg.block g hlt (fun p hp e => hd p hp g rfl e)).trans hb, r⟩
variable {S : List Nat}
/-- the variables hold what they were laid with; they all lie below B -/
def GB (S : List Nat) (B : Nat) (w : World) : Prop := ∃ W, GOK S W ∧ W.heap.size ≤ B ∧ Below W.heap.size W w
theorem GB.ok (h : GB S B w) : GOK S w := by
  obtain ⟨W, h1, _, h3⟩ := h
  exact h1.grown (gr_below h3 none)
theorem GB.of (h : GOK S w) : GB S w.heap.size w := ⟨w, h, Nat.le_refl _, Below.refl _ _⟩
theorem belowL {W : World} {n : Nat} (h3 : Below n W w) (hn : n ≤ B) (hg : GrL ps w w') (hp : AllP (fun p => Ge p B) ps) (hW : n ≤ W.heap.size) : Below n W w' := by
  refine ⟨hg.os.trans h3.os, hg.tape.trans h3.tape, hg.output.trans h3.output, Nat.le_trans h3.size hg.size, fun i hi => ?_⟩
  refine (hg.block i (Nat.lt_of_lt_of_le (Nat.lt_of_lt_of_le hi hW) h3.size) fun p hm e => ?_).trans (h3.block i hi)
  have := hp p hm i e
  omega
theorem GB.goL (h : GB S B w) (hg : GrL ps w w') (hp : AllP (fun p => Ge p B) ps) : GB S B w' := by
  obtain ⟨W, h1, h2, h3⟩ := h
  exact ⟨W, h1, h2, belowL h3 h2 hg hp (Nat.le_refl _)⟩
theorem GB.g0 (h : GB S B w) (hg : w.grownBy w' none) : GB S B w' := h.goL (ps := []) (GrL.of0 hg) apN
theorem GB.mono {B' : Nat} (h : GB S B w) (hB : B ≤ B') : GB S B' w := by
  obtain ⟨W, h1, h2, h3⟩ := h
  exact ⟨W, h1, Nat.le_trans h2 hB, h3⟩
theorem GB.grown {W : World} (h : GOK S W) (hg : W.grownBy w none) : GB S W.heap.size w := ⟨W, h, Nat.le_refl _, below_gr hg⟩
/-- no error with a place lies there -/
def NoAt (w : World) (p : Option Nat) : Prop := ∀ g us, p = some g → ¬ Bl w g 165 us
theorem NoAt.own (h : Own f w B e A cc xs) (ht : Nat.beq e 165 = false) : NoAt w (blk A) := fun g' us' hg' hB => by
  rcases h.2 with ⟨hv, _⟩ | ⟨g, cap, cur, hv, _, hb, _⟩
  · simp only [Value.slice.injEq] at hv
    obtain ⟨rfl, _⟩ := hv
    cases hg'
  · simp only [Value.slice.injEq] at hv
    obtain ⟨rfl, _⟩ := hv
    cases hg'
    exact Bl.ne (us := cur.toList) hb hB (Nat.ne_of_beq_eq_false ht) rfl
theorem NoAt.map {κ ν : Type} {mk : κ → Value} {ok : κ → Prop} {fv : ν → Value} {mm : List (κ × ν)} (h : MapB mk ok fv w g mm) : NoAt w (some g) := fun g' us' hg' hB => by
  cases hg'
  obtain ⟨es, clock, hb, _⟩ := h
  unfold Bl at hB
  rw [hb] at hB
  cases hB
end
end Go.Proofs.YtlonpmajnglmoaaDoor

 /- Slices whose elements hold slices. -/
namespace Go.Proofs.YtlonpmajnglmoaaDoor
open Go Go.RowKit
/-- a slice's head -/
structure Hdr where
  A : Option Addr
  n : Nat
  c : Nat
def hd0 : Hdr := ⟨none, 0, 0⟩
def vh (h : Hdr) : Value := .slice h.A h.n h.c
theorem One.h : One vh := fun _ => rfl
/-- how an element lies: H what its cells say, X what it means -/
structure DE (H X : Type) where
  rel : World → H → X → Prop
  dn : H → X → Option Nat → Prop
  goL : ∀ {w w' : World} {h : H} {x : X} {ps : List (Option Nat)}, rel w h x → GrL ps w w' → AllP (dn h x) ps → rel w' h x
  new : ∀ {w : World} {h : H} {x : X} {p : Option Nat}, rel w h x → Ge p w.heap.size → dn h x p
  app : ∀ {w : World} {h : H} {x : X} {ps : List (Option Nat)} {p : Option Nat}, rel w h x → AllP (dn h x) ps → InP ps w.heap.size p → dn h x p
def DE.flat (X : Type) : DE X X where
  rel _ h x := h = x
  dn _ _ _ := True
  goL h _ _ := h
  new _ _ := trivial
  app _ _ _ := trivial
def DE.sl {α : Type} (f : α → Value) : DE Hdr (List α) where
  rel w h x := h.n = x.length ∧ Rd f w h.A h.c x
  dn h x p := Dn x (blk h.A) p
  goL h k a := ⟨h.1, h.2.goL k a⟩
  new h k := Dn.new (fun hx => h.2.lt' hx) k
  app h a k := InP.dn k (fun hx => h.2.lt' hx) a
def DE.pr {H X K Y : Type} (d : DE H X) (e : DE K Y) : DE (H × K) (X × Y) where
  rel w h x := d.rel w h.1 x.1 ∧ e.rel w h.2 x.2
  dn h x p := d.dn h.1 x.1 p ∧ e.dn h.2 x.2 p
  goL h k a := ⟨d.goL h.1 k fun p hp => (a p hp).1, e.goL h.2 k fun p hp => (a p hp).2⟩
  new h k := ⟨d.new h.1 k, e.new h.2 k⟩
  app h a k := ⟨d.app h.1 (fun p hp => (a p hp).1) k, e.app h.2 (fun p hp => (a p hp).2) k⟩
/-- all elements lie so -/
def RelD {H X : Type} (d : DE H X) (w : World) (hs : List H) (xs : List X) : Prop := hs.length = xs.length ∧ ∀ (i : Nat) (h : H) (x : X), hs[i]? = some h → xs[i]? = some x → d.rel w h x
def DnD {H X : Type} (d : DE H X) (hs : List H) (xs : List X) (p : Option Nat) : Prop := ∀ (i : Nat) (h : H) (x : X), hs[i]? = some h → xs[i]? = some x → d.dn h x p
section
variable {H X : Type} {d : DE H X} {w w' : World} {hs hs' : List H} {xs xs' : List X} {ps : List (Option Nat)} {p : Option Nat} {i : Nat} {h : H} {x : X} {row : Option Nat}
theorem RelD.goL (k : RelD d w hs xs) (hg : GrL ps w w') (a : AllP (DnD d hs xs) ps) : RelD d w' hs xs := ⟨k.1, fun i h x hh hx => d.goL (k.2 i h x hh hx) hg fun p hp => a p hp i h x hh hx⟩
theorem RelD.go (k : RelD d w hs xs) (hg : w.grownBy w' row) (a : DnD d hs xs row) : RelD d w' hs xs := k.goL (GrL.of1 hg) (apC a apN)
theorem RelD.grown (k : RelD d w hs xs) (hg : w.grownBy w' none) : RelD d w' hs xs := k.goL (ps := []) (GrL.of0 hg) apN
theorem RelD.new (k : RelD d w hs xs) (hp : Ge p w.heap.size) : DnD d hs xs p := fun i h x hh hx => d.new (k.2 i h x hh hx) hp
theorem RelD.inp (k : RelD d w hs xs) (a : AllP (DnD d hs xs) ps) (hp : InP ps w.heap.size p) : DnD d hs xs p := fun i h x hh hx => d.app (k.2 i h x hh hx) (fun q hq => a q hq i h x hh hx) hp
theorem RelD.app {p' : Option Nat} (k : RelD d w hs xs) (a : DnD d hs xs p) (hk : ∀ g, p' = some g → p = some g ∨ w.heap.size ≤ g) : DnD d hs xs p' := fun i h x hh hx => d.app (k.2 i h x hh hx) (ps := [p]) (apC (a i h x hh hx) apN) (InP.app (ps := [p]) (InP.mem (List.Mem.head _)) hk (Nat.le_refl _))
theorem RelD.nil : RelD d w [] [] := ⟨rfl, fun i h x hh => by simp at hh⟩
theorem DnD.nil : DnD d [] [] p := fun i h x hh => by simp at hh
theorem DnD.none (k : RelD d w hs xs) : DnD d hs xs none := k.new Ge.none
theorem RelD.cons (k : d.rel w h x) (t : RelD d w hs xs) : RelD d w (h :: hs) (x :: xs) := ⟨by simp [t.1], fun i h' x' hh hx => by
  cases i with
  | zero => simp only [List.getElem?_cons_zero, Option.some.injEq] at hh hx; subst hh; subst hx; exact k
  | succ i => exact t.2 i h' x' (by simpa using hh) (by simpa using hx)⟩
theorem DnD.cons (k : d.dn h x p) (t : DnD d hs xs p) : DnD d (h :: hs) (x :: xs) p := fun i h' x' hh hx => by
  cases i with
  | zero => simp only [List.getElem?_cons_zero, Option.some.injEq] at hh hx; subst hh; subst hx; exact k
  | succ i => exact t i h' x' (by simpa using hh) (by simpa using hx)
theorem RelD.append (k : RelD d w hs xs) (t : RelD d w hs' xs') : RelD d w (hs ++ hs') (xs ++ xs') := ⟨by simp [k.1, t.1], fun i h x hh hx => by
  by_cases hi : i < hs.length
  · rw [List.getElem?_append_left hi] at hh
    rw [List.getElem?_append_left (by rw [← k.1]; exact hi)] at hx
    exact k.2 i h x hh hx
  · rw [List.getElem?_append_right (by omega)] at hh
    rw [List.getElem?_append_right (by rw [← k.1]; omega), ← k.1] at hx
    exact t.2 _ h x hh hx⟩
theorem DnD.append (hl : hs.length = xs.length) (k : DnD d hs xs p) (t : DnD d hs' xs' p) : DnD d (hs ++ hs') (xs ++ xs') p := fun i h x hh hx => by
  by_cases hi : i < hs.length
  · rw [List.getElem?_append_left hi] at hh
    rw [List.getElem?_append_left (by rw [← hl]; exact hi)] at hx
    exact k i h x hh hx
  · rw [List.getElem?_append_right (by omega)] at hh
    rw [List.getElem?_append_right (by rw [← hl]; omega), ← hl] at hx
    exact t _ h x hh hx
theorem RelD.rep (n : Nat) (k : d.rel w h x) : RelD d w (List.replicate n h) (List.replicate n x) := ⟨by simp, fun i h' x' hh hx => by
  rw [List.getElem?_replicate] at hh hx
  split at hh
  · simp only [Option.some.injEq] at hh
    rw [if_pos (by assumption)] at hx
    simp only [Option.some.injEq] at hx
    subst hh; subst hx; exact k
  · cases hh⟩
theorem DnD.rep (n : Nat) (k : d.dn h x p) : DnD d (List.replicate n h) (List.replicate n x) p := fun i h' x' hh hx => by
  rw [List.getElem?_replicate] at hh hx
  split at hh
  · simp only [Option.some.injEq] at hh
    rw [if_pos (by assumption)] at hx
    simp only [Option.some.injEq] at hx
    subst hh; subst hx; exact k
  · cases hh
theorem RelD.set (k : RelD d w hs xs) (t : d.rel w h x) (j : Nat) : RelD d w (hs.set j h) (xs.set j x) := ⟨by simp [k.1], fun i h' x' hh hx => by
  rw [List.getElem?_set] at hh hx
  by_cases hj : j = i
  · subst hj
    rw [if_pos rfl] at hh hx
    split at hh
    · split at hx
      · simp only [Option.some.injEq] at hh hx
        subst hh; subst hx; exact t
      · cases hx
    · cases hh
  · rw [if_neg hj] at hh hx
    exact k.2 i h' x' hh hx⟩
theorem DnD.set (k : DnD d hs xs p) (t : d.dn h x p) (j : Nat) : DnD d (hs.set j h) (xs.set j x) p := fun i h' x' hh hx => by
  rw [List.getElem?_set] at hh hx
  by_cases hj : j = i
  · subst hj
    rw [if_pos rfl] at hh hx
    split at hh
    · split at hx
      · simp only [Option.some.injEq] at hh hx
        subst hh; subst hx; exact t
      · cases hx
    · cases hh
  · rw [if_neg hj] at hh hx
    exact k i h' x' hh hx
theorem RelD.drop (k : RelD d w hs xs) (n : Nat) : RelD d w (hs.drop n) (xs.drop n) := ⟨by simp [k.1], fun i h x hh hx => k.2 (n + i) h x (by simpa [List.getElem?_drop] using hh) (by simpa [List.getElem?_drop] using hx)⟩
theorem DnD.drop (k : DnD d hs xs p) (n : Nat) : DnD d (hs.drop n) (xs.drop n) p := fun i h x hh hx => k (n + i) h x (by simpa [List.getElem?_drop] using hh) (by simpa [List.getElem?_drop] using hx)
theorem RelD.take (k : RelD d w hs xs) (n : Nat) : RelD d w (hs.take n) (xs.take n) := ⟨by simp [k.1], fun i h x hh hx => by
  rw [List.getElem?_take] at hh hx
  split at hh
  · rw [if_pos (by assumption)] at hx; exact k.2 i h x hh hx
  · cases hh⟩
theorem DnD.take (k : DnD d hs xs p) (n : Nat) : DnD d (hs.take n) (xs.take n) p := fun i h x hh hx => by
  rw [List.getElem?_take] at hh hx
  split at hh
  · rw [if_pos (by assumption)] at hx; exact k i h x hh hx
  · cases hh
/-- an element, read -/
theorem RelD.at (k : RelD d w hs xs) (dh : H) (dx : X) {j : Nat} (hj : j < xs.length) : ∃ h, hs.getD j dh = h ∧ d.rel w h (xs.getD j dx) := by
  have hj2 : j < hs.length := by rw [k.1]; exact hj
  refine ⟨_, rfl, k.2 j _ _ ?_ ?_⟩
  · simp [List.getD, hj2]
  · simp [List.getD, hj]
theorem DnD.at (k : DnD d hs xs p) (hl : hs.length = xs.length) {dh : H} {dx : X} {j : Nat} (hj : j < xs.length) {h : H} (hh : hs.getD j dh = h) : d.dn h (xs.getD j dx) p := by
  have hj2 : j < hs.length := by rw [hl]; exact hj
  subst hh
  exact k j _ _ (by simp [List.getD, hj2]) (by simp [List.getD, hj])
end
section
variable {P : Program} {N : Nat} {L : Slots} {w : World} {o : Oper} {u v : Value}
theorem Yld.to (h : Yld P N w o L u) (e : u = v) : Yld P N w o L v := e ▸ h
end
end Go.Proofs.YtlonpmajnglmoaaDoor


 /- Printed by a program (wip/vg): elements that hold slices. -/
namespace Go.Proofs.YtlonpmajnglmoaaDoor
open Go Go.RowKit
abbrev de98 : DE (Int × Hdr × Hdr × List UInt8) (Int × List (List UInt8) × List (List UInt8) × List UInt8) := (DE.pr (DE.flat Int) (DE.pr (DE.sl vs) (DE.pr (DE.sl vs) (DE.flat (List UInt8)))))
def encH98 (h : Int × Hdr × Hdr × List UInt8) : List Value := [.int .i64 h.1, vh h.2.1, vh h.2.2.1, vs h.2.2.2]
theorem encH98_ok : OneK 4 encH98 := ⟨by omega, fun _ => rfl, fun _ => (all1c rfl (all1c rfl (all1c rfl (all1c rfl all1n))))⟩
abbrev de65 : DE (Hdr) (List Int) := (DE.sl vi)
theorem ow96 : ckOwK Tryd.prog 96 98 4 72 = true := by kernel_rfl
end Go.Proofs.YtlonpmajnglmoaaDoor

 /- Pools: maps from texts to pointers at boxes that lie apart; one of them may be open. -/
namespace Go.Proofs.YtlonpmajnglmoaaDoor
open Go Go.RowKit
section
variable {κ ν μ : Type} [DecidableEq κ]
def mmap (g : ν → μ) (m : List (κ × ν)) : List (κ × μ) := m.map fun p => (p.1, g p.2)
theorem mput_mmap (g : ν → μ) (k : κ) (v : ν) : ∀ m : List (κ × ν), mput (mmap g m) k (g v) = mmap g (mput m k v)
  | [] => rfl
  | p :: m => by
    show (if p.1 = k then (k, g v) :: mmap g m else (p.1, g p.2) :: mput (mmap g m) k (g v)) = mmap g (if p.1 = k then (k, v) :: m else p :: mput m k v)
    split
    · rfl
    · rw [mput_mmap g k v m]; rfl
theorem mget_keys : ∀ {a : List (κ × ν)} {b : List (κ × μ)}, a.map (·.1) = b.map (·.1) → ∀ k, (mget a k).isSome = (mget b k).isSome
  | [], [], _, _ => rfl
  | [], _ :: _, h, _ => by simp at h
  | _ :: _, [], h, _ => by simp at h
  | p :: a, r :: b, h, k => by
    simp only [List.map_cons, List.cons.injEq] at h
    unfold mget
    rw [h.1]
    split
    · rfl
    · exact mget_keys h.2 k
end
abbrev PH := Nat × Option Nat
def vP (o : Option PH) : Value := .pointer (o.map fun h => ⟨h.1, 0, none⟩)
theorem getD_some {α : Type} {o : Option α} {z : α} (h : o.isSome = true) : o = some (o.getD z) := by
  cases o with
  | none => cases h
  | some x => rfl
section
variable {ps : List (Option Nat)} {Q : Option Nat → Prop} {n m : Nat} {F qs : List (Option Nat)} {q row : Option Nat} {w : World}
theorem apH {p : Option Nat} (h : AllP Q (p :: ps)) : Q p := h _ (List.Mem.head _)
theorem apNl : AllP (Dj none) ps := fun _ _ => Dj.nl
theorem InA.mem (h : ∀ p, List.Mem p F → List.Mem p ps) : AllP (InP ps n) F := fun p hp => InP.mem (h p hp)
theorem InA.trans (h : AllP (InP qs m) F) (k : AllP (InP ps n) qs) (hm : n ≤ m) : AllP (InP ps n) F := fun p hp => (h p hp).trans k hm
theorem InA.dj (h : AllP (InP qs m) F) (hq : Lt q m) (k : AllP (Dj q) qs) : AllP (Dj q) F := fun p hp => ((h p hp).dj hq k).symm
theorem InA.dn {α : Type} {xs : List α} (h : AllP (InP qs m) F) (hq : xs ≠ [] → Lt q m) (k : AllP (Dn xs q) qs) : AllP (Dn xs q) F := fun p hp => (h p hp).dn hq k
end
/-- where a pool lies: its map, its boxes, what hangs on them; without the one that is open -/
def FP (m : Nat) (hs : List (List UInt8 × PH)) (q0 : Option (List UInt8)) : List (Option Nat) := some m :: (hs.filter fun h => decide (some h.1 ≠ q0)).flatMap fun h => [some h.2.1, h.2.2]
structure PE (X : Type) where
  rel : World → PH → X → Prop
  goL : ∀ {w w' : World} {h : PH} {x : X} {ps : List (Option Nat)}, rel w h x → GrL ps w w' → AllP (Dj (some h.1)) ps → AllP (Dj h.2) ps → rel w' h x
  lt : ∀ {w : World} {h : PH} {x : X}, rel w h x → Lt (some h.1) w.heap.size ∧ Lt h.2 w.heap.size
  isc : Nat → Bool
  sc : X → Nat → Value
  hsc : ∀ {w : World} {h : PH} {x : X} {o : Nat}, isc o = true → rel w h x → w.cell? ⟨h.1, o, none⟩ = some (sc x o)
  noat : ∀ {w : World} {h : PH} {x : X}, rel w h x → NoAt w (some h.1) ∧ NoAt w h.2
structure PoolO {X : Type} (d : PE X) (w : World) (m : Nat) (hs : List (List UInt8 × PH)) (fs : List (List UInt8 × X)) (q0 : Option (List UInt8)) : Prop where
  map : MapB vs okS vP w m (mmap some hs)
  keys : hs.map (·.1) = fs.map (·.1)
  rel : ∀ q h x, mget hs q = some h → mget fs q = some x → some q ≠ q0 → d.rel w h x
  dm : ∀ q h, mget hs q = some h → some q ≠ q0 → Dj (some m) (some h.1) ∧ Dj (some m) h.2
  dd : ∀ q q' h h', q ≠ q' → mget hs q = some h → mget hs q' = some h' → some q ≠ q0 → some q' ≠ q0 → Dj (some h.1) (some h'.1) ∧ Dj (some h.1) h'.2 ∧ Dj h.2 (some h'.1) ∧ Dj h.2 h'.2
section
variable {X : Type} {d : PE X} {w w' : World} {m : Nat} {hs : List (List UInt8 × PH)} {fs : List (List UInt8 × X)} {q0 : Option (List UInt8)} {Q : Option Nat → Prop} {ps : List (Option Nat)} {row p : Option Nat} {q : List UInt8} {x x' : X} {b : Nat} {r r' : Option Nat}
theorem PoolO.uq (h : PoolO d w m hs fs q0) : Uq hs := by
  have := h.map.uq
  unfold Uq mmap at *
  rw [List.map_map] at this
  exact this
theorem PoolO.some_iff (h : PoolO d w m hs fs q0) (q : List UInt8) : (mget hs q).isSome = (mget fs q).isSome := mget_keys h.keys q
theorem allFP (hu : Uq hs) : AllP Q (FP m hs q0) ↔ Q (some m) ∧ ∀ q h, mget hs q = some h → some q ≠ q0 → Q (some h.1) ∧ Q h.2 := by
  constructor
  · intro h
    refine ⟨h _ (List.Mem.head _), fun q k hk hq => ?_⟩
    have hm := (mget_mem hu).1 hk
    have hf : (q, k) ∈ hs.filter fun h => decide (some h.1 ≠ q0) := List.mem_filter.2 ⟨hm, by simpa using hq⟩
    exact ⟨h _ (List.Mem.tail _ (List.mem_flatMap.2 ⟨_, hf, by simp⟩)), h _ (List.Mem.tail _ (List.mem_flatMap.2 ⟨_, hf, by simp⟩))⟩
  · rintro ⟨h1, h2⟩ p hp
    cases hp with
    | head => exact h1
    | tail _ hp =>
      obtain ⟨k, hk, hp⟩ := List.mem_flatMap.1 hp
      obtain ⟨hm, hq⟩ := List.mem_filter.1 hk
      have h3 := h2 k.1 k.2 ((mget_mem hu).2 hm) (by simpa using hq)
      simp only [List.mem_cons, List.not_mem_nil, or_false] at hp
      rcases hp with rfl | rfl
      · exact h3.1
      · exact h3.2
theorem PoolO.goL (h : PoolO d w m hs fs q0) (hg : GrL ps w w') (hd : AllP (fun r => AllP (Dj r) (FP m hs q0)) ps) : PoolO d w' m hs fs q0 :=
  ⟨h.map.goL hg fun p hp => (((allFP h.uq).1 (hd p hp)).1).symm, h.keys, fun q k x hk hx hq => d.goL (h.rel q k x hk hx hq) hg (fun p hp => ((((allFP h.uq).1 (hd p hp)).2 q k hk hq).1).symm) (fun p hp => ((((allFP h.uq).1 (hd p hp)).2 q k hk hq).2).symm), h.dm, h.dd⟩
theorem PoolO.go (h : PoolO d w m hs fs q0) (hg : w.grownBy w' row) (hd : AllP (Dj row) (FP m hs q0)) : PoolO d w' m hs fs q0 := h.goL (GrL.of1 hg) (apC hd apN)
theorem PoolO.g0 (h : PoolO d w m hs fs q0) (hg : w.grownBy w' none) : PoolO d w' m hs fs q0 := h.goL (ps := []) (GrL.of0 hg) apN
theorem PoolO.eqv (hw : Eqv w w') (h : PoolO d w m hs fs q0) : PoolO d w' m hs fs q0 := h.g0 (gr_eqv (gr_refl w none) hw)
theorem PoolO.lts (h : PoolO d w m hs fs q0) (hf : (∀ q, (mget hs q).isSome = (mget fs q).isSome)) : AllP (fun p => Lt p w.heap.size) (FP m hs q0) := (allFP h.uq).2 ⟨h.map.lt', fun q k hk hq => by
  have h1 := hf q
  rw [hk, Option.isSome_some] at h1
  obtain ⟨x, hx⟩ := Option.isSome_iff_exists.1 h1.symm
  exact d.lt (h.rel q k x hk hx hq)⟩
theorem PoolO.lt' (h : PoolO d w m hs fs q0) : AllP (fun p => Lt p w.heap.size) (FP m hs q0) := h.lts h.some_iff
/-- what is new lies apart from it -/
theorem PoolO.new (h : PoolO d w m hs fs q0) (hp : Ge p w.heap.size) : AllP (Dj p) (FP m hs q0) := fun r hr => (Dj.new (h.lt' r hr) hp).symm
theorem PoolO.inp (h : PoolO d w m hs fs q0) (hp : InP ps w.heap.size p) (hd : AllP (fun r => AllP (Dj r) (FP m hs q0)) ps) : AllP (Dj p) (FP m hs q0) := fun r hr => InP.dj hp (h.lt' r hr) (fun s hs' => (hd s hs' r hr).symm)
theorem PoolO.app {p' : Option Nat} (h : PoolO d w m hs fs q0) (k : AllP (Dj p) (FP m hs q0)) (hk : ∀ g, p' = some g → p = some g ∨ w.heap.size ≤ g) : AllP (Dj p') (FP m hs q0) := fun r hr => Dj.app (k r hr) (h.lt' r hr) hk
/-- one is opened -/
theorem PoolO.open (h : PoolO d w m hs fs none) (hx : mget fs q = some x) : ∃ b r, mget hs q = some (b, r) ∧ d.rel w (b, r) x ∧ PoolO d w m hs fs (some q) ∧ AllP (Dj (some b)) (FP m hs (some q)) ∧ AllP (Dj r) (FP m hs (some q)) := by
  have h1 := h.some_iff q
  rw [hx, Option.isSome_some] at h1
  obtain ⟨⟨b, r⟩, hk⟩ := Option.isSome_iff_exists.1 h1
  have hm := h.dm q _ hk (by simp)
  refine ⟨b, r, hk, h.rel q _ x hk hx (by simp), ⟨h.map, h.keys, fun q' k y hk' hy _ => h.rel q' k y hk' hy (by simp), fun q' k hk' _ => h.dm q' k hk' (by simp), fun q' q2 k k2 hne hk' hk2 _ _ => h.dd q' q2 k k2 hne hk' hk2 (by simp) (by simp)⟩, ?_, ?_⟩
  · refine (allFP h.uq).2 ⟨hm.1.symm, fun q' k hk' hq' => ?_⟩
    have := h.dd q q' _ k (fun e => hq' (by rw [e])) hk hk' (by simp) (by simp)
    exact ⟨this.1, this.2.1⟩
  · refine (allFP h.uq).2 ⟨hm.2.symm, fun q' k hk' hq' => ?_⟩
    have := h.dd q q' _ k (fun e => hq' (by rw [e])) hk hk' (by simp) (by simp)
    exact ⟨this.2.2.1, this.2.2.2⟩
theorem PoolO.sub (h : PoolO d w m hs fs q0) (k : AllP Q (FP m hs none)) : AllP Q (FP m hs (some q)) := (allFP h.uq).2 ⟨((allFP h.uq).1 k).1, fun q' k' hk' _ => ((allFP h.uq).1 k).2 q' k' hk' (by simp)⟩
theorem PoolO.back (h : PoolO d w m hs fs (some q)) (hk : mget hs q = some (b, r)) (hx : mget fs q = some x) (hr : d.rel w (b, r) x) (h1 : AllP (Dj (some b)) (FP m hs (some q))) (h2 : AllP (Dj r) (FP m hs (some q))) : PoolO d w m hs fs none := by
  have hu := h.uq
  have h1' := (allFP hu).1 h1
  have h2' := (allFP hu).1 h2
  refine ⟨h.map, h.keys, fun q' k y hk' hy _ => ?_, fun q' k hk' _ => ?_, fun q1 q2 k1 k2 hne hk1 hk2 _ _ => ?_⟩
  · by_cases e : q' = q
    · subst e; rw [hk] at hk'; rw [hx] at hy; cases hk'; cases hy; exact hr
    · exact h.rel q' k y hk' hy (fun e2 => e (Option.some.inj e2))
  · by_cases e : q' = q
    · subst e; rw [hk] at hk'; cases hk'; exact ⟨h1'.1.symm, h2'.1.symm⟩
    · exact h.dm q' k hk' (fun e2 => e (Option.some.inj e2))
  · by_cases e1 : q1 = q
    · subst e1
      rw [hk] at hk1; cases hk1
      have e2 : some q2 ≠ some q1 := fun e => hne (Option.some.inj e).symm
      have a := h1'.2 q2 k2 hk2 e2
      have c := h2'.2 q2 k2 hk2 e2
      exact ⟨a.1, a.2, c.1, c.2⟩
    · by_cases e2 : q2 = q
      · subst e2
        rw [hk] at hk2; cases hk2
        have e3 : some q1 ≠ some q2 := fun e => hne (Option.some.inj e)
        have a := h1'.2 q1 k1 hk1 e3
        have c := h2'.2 q1 k1 hk1 e3
        exact ⟨a.1.symm, c.1.symm, a.2.symm, c.2.symm⟩
      · exact h.dd q1 q2 k1 k2 hne hk1 hk2 (fun e => e1 (Option.some.inj e)) (fun e => e2 (Option.some.inj e))
theorem PoolO.closeA (h : PoolO d w m hs fs q0) (k : AllP Q (FP m hs (some q))) (k1 : Q (some b)) (k2 : Q r') : AllP Q (FP m (mput hs q (b, r')) none) := by
  have hu := h.uq
  refine (allFP (hu.put q _)).2 ⟨((allFP hu).1 k).1, fun q' k' hk' _ => ?_⟩
  rw [mget_mput] at hk'
  split at hk'
  · cases hk'; exact ⟨k1, k2⟩
  · rename_i e
    exact ((allFP hu).1 k).2 q' k' hk' (fun e2 => e (Option.some.inj e2).symm)
theorem PoolO.put (h : PoolO d w m hs fs none) (hM : MapB vs okS vP w' m (mput (mmap some hs) q (some (b, r)))) (hg : w.grownBy w' (some m)) (hr : d.rel w (b, r) x) (h1 : AllP (Dj (some b)) (FP m hs none)) (h2 : AllP (Dj r) (FP m hs none)) : PoolO d w' m (mput hs q (b, r)) (mput fs q x) none := by
  have hu := h.uq
  have h1' := (allFP hu).1 h1
  have h2' := (allFP hu).1 h2
  have old : ∀ {q' k}, mget (mput hs q (b, r)) q' = some k → (q' = q ∧ k = (b, r)) ∨ (q' ≠ q ∧ mget hs q' = some k) := fun {q' k} e => by
    rw [mget_mput] at e
    split at e
    · rename_i e2; simp only [Option.some.injEq] at e; exact .inl ⟨e2.symm, e.symm⟩
    · rename_i e2; exact .inr ⟨fun e3 => e2 e3.symm, e⟩
  have hkeys : (mput hs q (b, r)).map (·.1) = (mput fs q x).map (·.1) := by
    rw [mput_keys, mput_keys, h.some_iff q, h.keys]
  rw [mput_mmap] at hM
  refine ⟨hM, hkeys, ?_, ?_, ?_⟩
  · intro q' k x0 hk' hx _
    rw [mget_mput] at hx
    rcases old hk' with ⟨rfl, rfl⟩ | ⟨hq', hk'⟩
    · rw [if_pos rfl] at hx
      cases hx
      exact d.goL hr (GrL.of1 hg) (apC h1'.1 apN) (apC h2'.1 apN)
    · rw [if_neg (fun e => hq' e.symm)] at hx
      have hm := h.dm q' k hk' (by simp)
      exact d.goL (h.rel q' k x0 hk' hx (by simp)) (GrL.of1 hg) (apC hm.1.symm apN) (apC hm.2.symm apN)
  · intro q' k hk' _
    rcases old hk' with ⟨rfl, rfl⟩ | ⟨hq', hk'⟩
    · exact ⟨h1'.1.symm, h2'.1.symm⟩
    · exact h.dm q' k hk' (by simp)
  · intro q1 q2 k1 k2 hne hk1 hk2 _ _
    rcases old hk1 with ⟨rfl, rfl⟩ | ⟨hq1, hj1⟩ <;> rcases old hk2 with ⟨rfl, rfl⟩ | ⟨hq2, hj2⟩
    · exact absurd rfl hne
    · have a := h1'.2 q2 k2 hj2 (by simp)
      have c := h2'.2 q2 k2 hj2 (by simp)
      exact ⟨a.1, a.2, c.1, c.2⟩
    · have a := h1'.2 q1 k1 hj1 (by simp)
      have c := h2'.2 q1 k1 hj1 (by simp)
      exact ⟨a.1.symm, c.1.symm, a.2.symm, c.2.symm⟩
    · exact h.dd q1 q2 k1 k2 hne hj1 hj2 (by simp) (by simp)
theorem FP.nil (h : Q (some m)) : AllP Q (FP m [] q0) := by
  unfold FP
  exact apC h apN
/-! the rules -/
variable {P : Program} {N : Nat} {L : Slots} {ty t t' k e : TypeId} {pos : String} {af : Array Edge} {dd : Option Tmp} {y z u : Operand}
theorem Yld.pnenil {p : Option Addr} (h : P.underlying t = some (.pointer e)) (hx : opv L y = some (.pointer p)) (hy : opv L z = some (.pointer none)) : Yld P N w ⟨dd, .binOp .neq t y z t', ty, pos, af, none⟩ L (.bool p.isSome) := fun a w1 _ ha => by
  refine exec_bin (ha.ev hx) (ha.ev hy) (by unfold eqGuard; rfl) ?_
  have h : (Op.equal t (.pointer p) (.pointer none)).run P w1 = .ok p.isNone w1 := run_equal_of fun d => by
    cases p <;> simp [Op.equalIn, run_underlying h]
  simp [binOp, h]
end
end Go.Proofs.YtlonpmajnglmoaaDoor


 /- Slices of slices, of the call's own: the outer one holds the inner ones' heads, each in a block of its own. -/
namespace Go.Proofs.YtlonpmajnglmoaaDoor
open Go Go.RowKit
/-- an inner slice's place and room -/
abbrev Hd := Option Addr × Nat
def hz : Hd := (none, 0)
def hA (hs : List Hd) (j : Nat) : Option Addr := (hs.getD j hz).1
def hC (hs : List Hd) (j : Nat) : Nat := (hs.getD j hz).2
def hv {α : Type} (y : List α × Hd) : Value := .slice y.2.1 y.1.length y.2.2
/-- where it lies; without the one that is open -/
def FPd (A : Option Addr) (hs : List Hd) (q0 : Option Nat) : List (Option Nat) := blk A :: ((List.range hs.length).filter fun j => decide (some j ≠ q0)).map fun j => blk (hA hs j)
structure DeepO {α : Type} (f : α → Value) (w : World) (B : Nat) (e e' : TypeId) (A : Option Addr) (c : Nat) (hs : List Hd) (xs : List (List α)) (q0 : Option Nat) : Prop where
  out : Own hv w B e A c (xs.zip hs)
  len : hs.length = xs.length
  inn : ∀ j, j < xs.length → some j ≠ q0 → Own f w B e' (hA hs j) (hC hs j) (xs.getD j [])
  dm : ∀ j, j < xs.length → some j ≠ q0 → Dj (blk A) (blk (hA hs j))
  dd : ∀ i j, i ≠ j → i < xs.length → j < xs.length → some i ≠ q0 → some j ≠ q0 → Dj (blk (hA hs i)) (blk (hA hs j))
section
variable {α : Type} {f : α → Value} {w w' : World} {B n : Nat} {e e' : TypeId} {A A' : Option Addr} {c c' : Nat} {hs : List Hd} {xs : List (List α)} {ys : List α} {q0 : Option Nat} {Q : Option Nat → Prop} {ps : List (Option Nat)} {row p : Option Nat} {j : Nat}
theorem allFPd : AllP Q (FPd A hs q0) ↔ Q (blk A) ∧ ∀ j, j < hs.length → some j ≠ q0 → Q (blk (hA hs j)) := by
  constructor
  · intro h
    exact ⟨h _ (List.Mem.head _), fun j hj hq => h _ (List.Mem.tail _ (List.mem_map.2 ⟨j, List.mem_filter.2 ⟨List.mem_range.2 hj, by simpa using hq⟩, rfl⟩))⟩
  · rintro ⟨h1, h2⟩ p hp
    cases hp with
    | head => exact h1
    | tail _ hp =>
      obtain ⟨j, hj, rfl⟩ := List.mem_map.1 hp
      obtain ⟨hm, hq⟩ := List.mem_filter.1 hj
      exact h2 j (List.mem_range.1 hm) (by simpa using hq)
theorem DeepO.goL (h : DeepO f w B e e' A c hs xs q0) (hg : GrL ps w w') (hd : AllP (fun r => AllP (Dj r) (FPd A hs q0)) ps) : DeepO f w' B e e' A c hs xs q0 :=
  ⟨h.out.goL hg fun p hp => ((allFPd.1 (hd p hp)).1).symm, h.len, fun j hj hq => (h.inn j hj hq).goL hg fun p hp => ((allFPd.1 (hd p hp)).2 j (by rw [h.len]; exact hj) hq).symm, h.dm, h.dd⟩
theorem DeepO.go (h : DeepO f w B e e' A c hs xs q0) (hg : w.grownBy w' row) (hd : AllP (Dj row) (FPd A hs q0)) : DeepO f w' B e e' A c hs xs q0 := h.goL (GrL.of1 hg) (apC hd apN)
theorem DeepO.g0 (h : DeepO f w B e e' A c hs xs q0) (hg : w.grownBy w' none) : DeepO f w' B e e' A c hs xs q0 := h.goL (ps := []) (GrL.of0 hg) apN
theorem DeepO.eqv (hw : Eqv w w') (h : DeepO f w B e e' A c hs xs q0) : DeepO f w' B e e' A c hs xs q0 := h.g0 (gr_eqv (gr_refl w none) hw)
theorem DeepO.lt' (h : DeepO f w B e e' A c hs xs q0) : AllP (fun p => Lt p w.heap.size) (FPd A hs q0) := allFPd.2 ⟨h.out.lt', fun j hj hq => (h.inn j (by rw [← h.len]; exact hj) hq).lt'⟩
theorem DeepO.ge' (h : DeepO f w B e e' A c hs xs q0) : AllP (fun p => Ge p B) (FPd A hs q0) := allFPd.2 ⟨h.out.ge', fun j hj hq => (h.inn j (by rw [← h.len]; exact hj) hq).ge'⟩
theorem DeepO.new (h : DeepO f w B e e' A c hs xs q0) (hp : Ge p w.heap.size) : AllP (Dj p) (FPd A hs q0) := fun r hr => (Dj.new (h.lt' r hr) hp).symm
theorem DeepO.inp (h : DeepO f w B e e' A c hs xs q0) (hp : InP ps w.heap.size p) (hd : AllP (fun r => AllP (Dj r) (FPd A hs q0)) ps) : AllP (Dj p) (FPd A hs q0) := fun r hr => InP.dj hp (h.lt' r hr) (fun s hs' => (hd s hs' r hr).symm)
theorem DeepO.app {p' : Option Nat} (h : DeepO f w B e e' A c hs xs q0) (k : AllP (Dj p) (FPd A hs q0)) (hk : ∀ g, p' = some g → p = some g ∨ w.heap.size ≤ g) : AllP (Dj p') (FPd A hs q0) := fun r hr => Dj.app (k r hr) (h.lt' r hr) hk
theorem zip_getDd {j : Nat} (hl : hs.length = xs.length) (hj : j < xs.length) : (xs.zip hs).getD j ([], hz) = (xs.getD j [], (hA hs j, hC hs j)) := by
  have h1 : j < hs.length := by omega
  have h2 : j < (xs.zip hs).length := by rw [List.length_zip]; omega
  have e1 : (xs.zip hs)[j]? = some (xs[j], hs[j]) := by rw [List.getElem?_eq_getElem h2, List.getElem_zip]
  have e2 : (xs.zip hs).getD j ([], hz) = (xs[j], hs[j]) := by rw [List.getD, e1]; rfl
  rw [e2]
  unfold hA hC
  simp [List.getD, hj, h1]
theorem zip_setd (hl : hs.length = xs.length) (j : Nat) (y : List α) (h : Hd) : (xs.zip hs).set j (y, h) = (xs.set j y).zip (hs.set j h) := by
  refine List.ext_getElem (by simp) fun i h1 h2 => ?_
  simp only [List.getElem_set, List.getElem_zip]
  split <;> rfl
theorem DeepO.zl (h : DeepO f w B e e' A c hs xs q0) : (xs.zip hs).length = xs.length := by rw [List.length_zip, h.len, Nat.min_self]
/-- an inner one is read -/
theorem DeepO.rd (h : DeepO f w B e e' A c hs xs none) (hj : j < xs.length) : Rd f w (hA hs j) (hC hs j) (xs.getD j []) := (h.inn j hj (by simp)).rd
/-- an inner one is opened -/
theorem DeepO.open (h : DeepO f w B e e' A c hs xs none) (hj : j < xs.length) : Own f w B e' (hA hs j) (hC hs j) (xs.getD j []) ∧ DeepO f w B e e' A c hs xs (some j) ∧ AllP (Dj (blk (hA hs j))) (FPd A hs (some j)) := by
  refine ⟨h.inn j hj (by simp), ⟨h.out, h.len, fun i hi _ => h.inn i hi (by simp), fun i hi _ => h.dm i hi (by simp), fun i k hik hi hk _ _ => h.dd i k hik hi hk (by simp) (by simp)⟩, allFPd.2 ⟨(h.dm j hj (by simp)).symm, fun i hi hq => ?_⟩⟩
  exact h.dd j i (fun e => hq (by rw [e])) hj (by rw [← h.len]; exact hi) (by simp) (by simp)
theorem FPd.sub (k : AllP Q (FPd A hs none)) : AllP Q (FPd A hs (some j)) := allFPd.2 ⟨(allFPd.1 k).1, fun i hi _ => (allFPd.1 k).2 i hi (by simp)⟩
theorem FPd.at (hl : j < hs.length) (k : AllP Q (FPd A hs none)) : Q (blk (hA hs j)) := (allFPd.1 k).2 j hl (by simp)
theorem DeepO.at (h : DeepO f w B e e' A c hs xs q0) (hj : j < xs.length) (k : AllP Q (FPd A hs none)) : Q (blk (hA hs j)) := FPd.at (by rw [h.len]; exact hj) k
theorem FPd.made {l : List (List α × Hd)} (k : Q (blk A)) (kl : AllP Q (l.map fun y => blk y.2.1)) : AllP Q (FPd A (l.map (·.2)) none) := by
  refine allFPd.2 ⟨k, fun j hj _ => ?_⟩
  rw [List.length_map] at hj
  refine kl _ ?_
  have : blk (hA (l.map (·.2)) j) = blk l[j].2.1 := by simp [hA, List.getD, hj]
  rw [this]
  exact List.mem_map.2 ⟨_, List.getElem_mem hj, rfl⟩
theorem FPd.closeA (k : AllP Q (FPd A hs (some j))) (k1 : Q (blk A')) : AllP Q (FPd A (hs.set j (A', c')) none) := by
  refine allFPd.2 ⟨(allFPd.1 k).1, fun i hi _ => ?_⟩
  rw [List.length_set] at hi
  unfold hA
  by_cases e : j = i
  · subst e
    have : (hs.set j (A', c')).getD j hz = (A', c') := by simp [List.getD, hi]
    rw [this]; exact k1
  · have : (hs.set j (A', c')).getD i hz = hs.getD i hz := by simp [List.getD, List.getElem?_set, e]
    rw [this]
    exact (allFPd.1 k).2 i hi (fun e2 => e (Option.some.inj e2).symm)
theorem DeepO.sub (h : DeepO f w B e e' A c hs xs none) (j : Nat) : DeepO f w B e e' A c hs xs (some j) := ⟨h.out, h.len, fun i hi _ => h.inn i hi (by simp), fun i hi _ => h.dm i hi (by simp), fun i k hik hi hk _ _ => h.dd i k hik hi hk (by simp) (by simp)⟩
/-- one is laid at a place -/
theorem DeepO.lay (h : DeepO f w B e e' A c hs xs (some j)) (hO : Own hv w' B e A c ((xs.zip hs).set j (ys, (A', c')))) (hg : w.grownBy w' (blk A)) (hj : j < xs.length) (hE : Own f w B e' A' c' ys) (hd : AllP (Dj (blk A')) (FPd A hs (some j))) : DeepO f w' B e e' A c (hs.set j (A', c')) (xs.set j ys) none := by
  have hd' := allFPd.1 hd
  have hjh : j < hs.length := by rw [h.len]; exact hj
  rw [zip_setd h.len] at hO
  have hA1 : hA (hs.set j (A', c')) j = A' := by unfold hA; simp [List.getD, hjh]
  have hC1 : hC (hs.set j (A', c')) j = c' := by unfold hC; simp [List.getD, hjh]
  have hA2 : ∀ {i}, j ≠ i → hA (hs.set j (A', c')) i = hA hs i := fun hi => by unfold hA; simp [List.getD, List.getElem?_set, hi]
  have hC2 : ∀ {i}, j ≠ i → hC (hs.set j (A', c')) i = hC hs i := fun hi => by unfold hC; simp [List.getD, List.getElem?_set, hi]
  have hX1 : (xs.set j ys).getD j [] = ys := by simp [List.getD, hj]
  have hX2 : ∀ {i}, j ≠ i → (xs.set j ys).getD i [] = xs.getD i [] := fun hi => by simp [List.getD, List.getElem?_set, hi]
  have hne : ∀ {i}, j ≠ i → some i ≠ some j := fun hi e2 => hi (Option.some.inj e2).symm
  refine ⟨hO, by rw [List.length_set, List.length_set]; exact h.len, fun i hi _ => ?_, fun i hi _ => ?_, fun i k hik hi hk _ _ => ?_⟩
  · rw [List.length_set] at hi
    by_cases e : j = i
    · subst e
      rw [hA1, hC1, hX1]
      exact hE.go hg hd'.1
    · rw [hA2 e, hC2 e, hX2 e]
      exact (h.inn i hi (hne e)).go hg (h.dm i hi (hne e)).symm
  · rw [List.length_set] at hi
    by_cases e : j = i
    · subst e
      rw [hA1]
      exact hd'.1.symm
    · rw [hA2 e]
      exact h.dm i hi (hne e)
  · rw [List.length_set] at hi hk
    by_cases e : j = i
    · subst e
      rw [hA1, hA2 hik]
      exact hd'.2 k (by rw [h.len]; exact hk) (hne hik)
    · by_cases e2 : j = k
      · subst e2
        rw [hA1, hA2 e]
        exact (hd'.2 i (by rw [h.len]; exact hi) (hne e)).symm
      · rw [hA2 e, hA2 e2]
        exact h.dd i k hik hi hk (hne e) (hne e2)
/-- closed as_ it was -/
theorem DeepO.back (h : DeepO f w B e e' A c hs xs (some j)) (hE : Own f w B e' (hA hs j) (hC hs j) (xs.getD j [])) (hd : AllP (Dj (blk (hA hs j))) (FPd A hs (some j))) : DeepO f w B e e' A c hs xs none := by
  have hd' := allFPd.1 hd
  refine ⟨h.out, h.len, fun i hi _ => ?_, fun i hi _ => ?_, fun i k hik hi hk _ _ => ?_⟩
  · by_cases e : i = j
    · subst e; exact hE
    · exact h.inn i hi (fun e2 => e (Option.some.inj e2))
  · by_cases e : i = j
    · subst e; exact hd'.1.symm
    · exact h.dm i hi (fun e2 => e (Option.some.inj e2))
  · by_cases e : i = j
    · subst e
      exact hd'.2 k (by rw [h.len]; exact hk) (fun e2 => hik (Option.some.inj e2).symm)
    · by_cases e2 : k = j
      · subst e2
        exact (hd'.2 i (by rw [h.len]; exact hi) (fun e3 => hik (Option.some.inj e3))).symm
      · exact h.dd i k hik hi hk (fun e3 => e (Option.some.inj e3)) (fun e3 => e2 (Option.some.inj e3))
/-- built of some that are there -/
theorem DeepO.made {l : List (List α × Hd)} (hO : Own hv w B e A c l) (h1 : ∀ y ∈ l, Own f w B e' y.2.1 y.2.2 y.1 ∧ Dj (blk A) (blk y.2.1)) (h2 : l.Pairwise fun y z => Dj (blk y.2.1) (blk z.2.1)) : DeepO f w B e e' A c (l.map (·.2)) (l.map (·.1)) none := by
  have hz2 : (l.map (·.1)).zip (l.map (·.2)) = l := by
    clear hO h1 h2
    induction l with
    | nil => rfl
    | cons y l ih => rw [List.map_cons, List.map_cons, List.zip_cons_cons, ih]
  have hat : ∀ {j}, j < (l.map (·.1)).length → ∃ hj : j < l.length, hA (l.map (·.2)) j = l[j].2.1 ∧ hC (l.map (·.2)) j = l[j].2.2 ∧ (l.map (·.1)).getD j [] = l[j].1 := fun {j} hj => by
    rw [List.length_map] at hj
    exact ⟨hj, by simp [hA, List.getD, hj], by simp [hC, List.getD, hj], by simp [List.getD, hj]⟩
  refine ⟨by rw [hz2]; exact hO, by rw [List.length_map, List.length_map], fun j hj _ => ?_, fun j hj _ => ?_, fun i j hij hi hj _ _ => ?_⟩
  · obtain ⟨h, e1, e2, e3⟩ := hat hj
    rw [e1, e2, e3]; exact (h1 _ (List.getElem_mem h)).1
  · obtain ⟨h, e1, _, _⟩ := hat hj
    rw [e1]; exact (h1 _ (List.getElem_mem h)).2
  · obtain ⟨h, e1, _, _⟩ := hat hi
    obtain ⟨h', e1', _, _⟩ := hat hj
    rw [e1, e1']
    rcases Nat.lt_or_gt_of_ne hij with hlt | hlt
    · exact (List.pairwise_iff_getElem.1 h2) i j h h' hlt
    · exact ((List.pairwise_iff_getElem.1 h2) j i h' h hlt).symm
/-- made: so many that are nil -/
theorem DeepO.rep (hO : Own hv w B e A c (List.replicate n (([], hz) : List α × Hd))) : DeepO f w B e e' A c (List.replicate n hz) (List.replicate n []) none := by
  have h := DeepO.made (f := f) (e' := e') hO (fun y hy => by rw [List.eq_of_mem_replicate hy]; exact ⟨Own.nil f w B e', Dj.nr⟩) (by
    rw [List.pairwise_iff_getElem]
    intro i j hi hj _
    rw [List.getElem_replicate]
    exact Dj.nl)
  rw [List.map_replicate, List.map_replicate] at h
  exact h
theorem FPd.rep (k : Q (blk A)) (k0 : Q none) : AllP Q (FPd A (List.replicate n hz) none) := by
  refine allFPd.2 ⟨k, fun j hj _ => ?_⟩
  rw [List.length_replicate] at hj
  have : hA (List.replicate n hz) j = none := by unfold hA; simp [List.getD, hj, hz]
  rw [this]; exact k0
/-! it goes on as_ one whose inner slices are read alone -/
def zipH {α : Type} (hs : List Hd) (xs : List (List α)) : List Hdr := List.zipWith (fun h x => ⟨h.1, x.length, h.2⟩) hs xs
theorem DeepO.zlen (h : DeepO f w B e e' A c hs xs q0) : (zipH hs xs).length = xs.length := by unfold zipH; rw [List.length_zipWith, h.len, Nat.min_self]
theorem zipH_map : ∀ (hs : List Hd) (xs : List (List α)), (xs.zip hs).map hv = (zipH hs xs).map vh
  | [], [] => rfl
  | [], _ :: _ => rfl
  | _ :: _, [] => rfl
  | h :: hs, x :: xs => by
    have := zipH_map hs xs
    unfold zipH at *
    rw [List.zip_cons_cons, List.map_cons, this, List.zipWith_cons_cons, List.map_cons]
    rfl
theorem DeepO.fdo (h : DeepO f w B e e' A c hs xs q0) : Own vh w B e A c (zipH hs xs) := by
  have h1 := h.out
  unfold Own at *
  rw [← zipH_map, h.zlen]
  rw [h.zl] at h1
  exact h1
theorem zipH_at {i : Nat} {h : Hdr} {x : List α} (hl : hs.length = xs.length) (e1 : (zipH hs xs)[i]? = some h) (e2 : xs[i]? = some x) : i < xs.length ∧ h.A = hA hs i ∧ h.n = x.length ∧ h.c = hC hs i ∧ xs.getD i [] = x := by
  obtain ⟨hi, rfl⟩ := List.getElem?_eq_some_iff.1 e2
  have h1 : i < hs.length := by omega
  have h2 : i < (zipH hs xs).length := by unfold zipH; rw [List.length_zipWith]; omega
  rw [List.getElem?_eq_getElem h2, Option.some.injEq] at e1
  subst e1
  have e3 : (zipH hs xs)[i] = ⟨hs[i].1, xs[i].length, hs[i].2⟩ := List.getElem_zipWith
  rw [e3]
  unfold hA hC
  simp [List.getD, h1, hi]
theorem DeepO.fdr (h : DeepO f w B e e' A c hs xs none) : RelD (DE.sl f) w (zipH hs xs) xs := ⟨h.zlen, fun i k x hk hx => by
  obtain ⟨hi, e1, e2, e3, e4⟩ := zipH_at h.len hk hx
  have := (h.inn i hi (by simp)).rd
  rw [e4] at this
  exact ⟨e2, by rw [e1, e3]; exact this⟩⟩
theorem DeepO.dnd (h : DeepO f w B e e' A c hs xs none) (k : AllP (Dj p) (FPd A hs none)) : DnD (DE.sl f) (zipH hs xs) xs p := fun i q x hk hx => by
  obtain ⟨hi, e1, e2, e3, e4⟩ := zipH_at h.len hk hx
  have := FPd.at (by rw [h.len]; exact hi) k
  show Dn x (blk q.A) p
  rw [e1]
  exact Dn.of this.symm
theorem DeepO.dself (h : DeepO f w B e e' A c hs xs none) : DnD (DE.sl f) (zipH hs xs) xs (blk A) := fun i q x hk hx => by
  obtain ⟨hi, e1, e2, e3, e4⟩ := zipH_at h.len hk hx
  show Dn x (blk q.A) (blk A)
  rw [e1]
  exact Dn.of (h.dm i hi (by simp)).symm
/-! the rules -/
variable {P : Program} {N : Nat} {L : Slots} {ty t : TypeId} {pos : String} {af : Array Edge} {dd : Option Tmp} {x y : Operand} {T : Tab}
theorem Yld.dloadR {u : Unit} (hT : T.Ok P) (hR : Rd hv w A c (xs.zip hs)) (hl : hs.length = xs.length) (hs1 : nk T.one t = some u) (hx : opv L x = some (.pointer (A.map (·.add j)))) (hj : j < xs.length) :
    Yld P N w ⟨dd, .load t x, ty, pos, af, none⟩ L (.slice (hA hs j) (xs.getD j []).length (hC hs j)) := by
  have := Yld.iload (P := P) (N := N) (ty := ty) (pos := pos) (af := af) (dd := dd) (([], hz) : List α × Hd) hT hR hs1 hx (by rw [List.length_zip, hl, Nat.min_self]; exact hj)
  rw [zip_getDd hl hj] at this
  exact this
theorem WL.dstore {ops : Array Oper} {R : Post} {rest : List Oper} (h1 : sz1 P t = true) (h : DeepO f w B e e' A c hs xs (some j)) (hx : opv L x = some (.pointer (A.map (·.add j)))) (hy : opv L y = some (.slice A' n c')) (hn : n = ys.length) (hj : j < xs.length) (hE : Own f w B e' A' c' ys) (hd : AllP (Dj (blk A')) (FPd A hs (some j)))
    (hk : ∀ w', DeepO f w' B e e' A c (hs.set j (A', c')) (xs.set j ys) none → w.grownBy w' (blk A) → WL P N ops R rest L w') : WL P N ops R (⟨none, .store t x y, ty, pos, af, none⟩ :: rest) L w := by
  subst hn
  exact WL.ostore (v := ((ys, (A', c')) : List α × Hd)) h1 (fun _ => rfl) h.out hx hy (by rw [h.zl]; exact hj) fun w' hO hg => hk w' (h.lay hO hg hj hE hd) hg
theorem Ef0.dstore (h1 : sz1 P t = true) (h : DeepO f w B e e' A c hs xs (some j)) (hx : opv L x = some (.pointer (A.map (·.add j)))) (hy : opv L y = some (.slice A' n c')) (hn : n = ys.length) (hj : j < xs.length) (hE : Own f w B e' A' c' ys) (hd : AllP (Dj (blk A')) (FPd A hs (some j))) :
    Ef0 P N w ⟨none, .store t x y, ty, pos, af, none⟩ L fun w' => DeepO f w' B e e' A c (hs.set j (A', c')) (xs.set j ys) none ∧ w.grownBy w' (blk A) := fun a w1 hw ha => by
  subst hn
  obtain ⟨w', e1, hO, hg⟩ := Ef0.ostore (P := P) (N := N) (ty := ty) (pos := pos) (af := af) (v := ((ys, (A', c')) : List α × Hd)) h1 (fun _ => rfl) h.out hx hy (by rw [h.zl]; exact hj) a w1 hw ha
  exact ⟨w', e1, h.lay hO hg hj hE hd, hg⟩
end
end Go.Proofs.YtlonpmajnglmoaaDoor


 /- Numbers sorted, and each once: the shelf's contracts in the generator's form. -/
namespace Go.Proofs.YtlonpmajnglmoaaDoor
open Go Go.RowKit Go.Sort
def M_slices_Sort_int_int (xs : List Int) (K : List Int → Prop) : Prop := xs.length < 4611686018427387904 ∧ K (xs.mergeSort fun x y => decide (x ≤ y))
theorem W_slices_Sort_int_int {w : World} {xs : List Int} {A : Option Addr} {c n B : Nat} {e : TypeId} {K : List Int → Prop} (hO : Own vi w B e A c xs) (hn : n = xs.length) (H : M_slices_Sort_int_int xs K) :
    Fn Tryd.prog 91 ⟨[.slice A n c]⟩ w (fun v w' => ∃ ys : List Int, v = .tuple #[] ∧ Own vi w' B e A c ys ∧ w.grownBy w' (blk A) ∧ ys.length = xs.length ∧ K ys) := by
  subst hn
  refine ⟨by kernel_rfl, fun w1 e1 => ?_⟩
  have hO1 := own_eqv e1 hO
  rcases hO1.2 with ⟨hv, hn⟩ | ⟨g, cap, cur, hv, hb, hg, hnc, hcm, hcs, htake⟩
  · simp only [Value.slice.injEq] at hv
    obtain ⟨rfl, _, rfl⟩ := hv
    have : xs = [] := List.eq_nil_of_length_eq_zero hn
    subst this
    refine (Tryd.slices_Sort_int_none none 0 w1).mono fun _ w' ⟨he, hw⟩ => ⟨_, w, he, by rw [hw]; exact e1, [], rfl, hO, gr_refl _ _, rfl, ?_⟩
    simpa using H.2
  · simp only [Value.slice.injEq] at hv
    obtain ⟨rfl, _, rfl⟩ := hv
    refine (Tryd.slices_Sort_int g 0 c xs w1 (holds_of_blockI hg (show cur.toList.take xs.length = xs.map vi by simpa using htake)) (Array.getElem?_eq_some_iff.1 hg).1 H.1).mono fun _ w' ⟨he, q, os, hw⟩ => ?_
    have hl : (xs.mergeSort fun x y => decide (x ≤ y)).length = xs.length := List.length_mergeSort xs
    have h1 := ownsRow_sortedI (n := q) (os := os) hl hb hg hnc hcm hcs
    have h2 := grownBy_sortedI (w := w1) (g := g) (n := q) (os := os) (xs.mergeSort fun x y => decide (x ≤ y)).toArray
    rw [← hw] at h1 h2
    refine ⟨_, w', he, Eqv.refl _, _, rfl, ?_, eqv_gr e1 h2, hl, H.2⟩
    unfold Own
    rw [hl]
    exact h1
def M_slices_Compact_int_int (xs : List Int) (K : List Int → Prop) : Prop := K (Lib.compact xs)
theorem compact_leI (xs : List Int) : (Lib.compact xs).length ≤ xs.length := by
  unfold Lib.compact Lib.compactUpTo
  rw [List.length_map]
  exact Nat.le_trans (List.length_filter_le _ _) (by simp)
theorem W_slices_Compact_int_int {w : World} {xs : List Int} {A : Option Addr} {c n B : Nat} {e : TypeId} {K : List Int → Prop} (hO : Own vi w B e A c xs) (hn : n = xs.length) (H : M_slices_Compact_int_int xs K) :
    Fn Tryd.prog 92 ⟨[.slice A n c]⟩ w (fun v w' => ∃ ys : List Int, v = .slice A ys.length c ∧ Own vi w' B e A c ys ∧ w.grownBy w' (blk A) ∧ K ys) := by
  subst hn
  refine ⟨by kernel_rfl, fun w1 e1 => ?_⟩
  have hO1 := own_eqv e1 hO
  rcases hO1.2 with ⟨hv, hn⟩ | ⟨g, cap, cur, hv, hb, hg, hnc, hcm, hcs, htake⟩
  · simp only [Value.slice.injEq] at hv
    obtain ⟨rfl, _, rfl⟩ := hv
    have : xs = [] := List.eq_nil_of_length_eq_zero hn
    subst this
    exact (Tryd.slices_Compact_int_empty none 0 w1).mono fun _ w' ⟨he, hw⟩ => ⟨_, w, he, by rw [hw]; exact e1, [], rfl, hO, gr_refl _ _, H⟩
  · simp only [Value.slice.injEq] at hv
    obtain ⟨rfl, _, rfl⟩ := hv
    have hmx : xs.length ≤ 9223372036854775807 := by simp only [maxLen] at hcm; omega
    refine (Tryd.slices_Compact_int g 0 c xs w1 (holds_of_blockI hg (show cur.toList.take xs.length = xs.map vi by simpa using htake)) hmx hnc).mono fun _ w' ⟨he, q, hw⟩ => ?_
    have hle := compact_leI xs
    have hl : (Lib.compact xs ++ List.replicate (xs.length - (Lib.compact xs).length) 0).length = xs.length := by simp; omega
    have h1 := ownsRow_sortedI (n := q) (os := #[]) hl hb hg hnc hcm hcs
    have h2 := grownBy_sortedI (w := w1) (g := g) (n := q) (os := #[]) (Lib.compact xs ++ List.replicate (xs.length - (Lib.compact xs).length) 0).toArray
    rw [Sort.grow_empty, ← hw] at h1 h2
    have hO2 : Own vi w' B e (some ⟨g, 0, none⟩) c (Lib.compact xs ++ List.replicate (xs.length - (Lib.compact xs).length) 0) := by
      unfold Own
      rw [hl]
      exact h1
    have hO3 := hO2.take (Lib.compact xs).length (by rw [hl]; exact hle) (fun _ h => by cases h)
    rw [List.take_left' rfl] at hO3
    exact ⟨_, w', he, Eqv.refl _, _, rfl, hO3, eqv_gr e1 h2, H⟩
end Go.Proofs.YtlonpmajnglmoaaDoor


 