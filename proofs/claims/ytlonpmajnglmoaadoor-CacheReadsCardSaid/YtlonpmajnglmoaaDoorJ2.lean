/- Texts of this claim, joined by a program: Row2, Shelf, StrA, K, K2, Cat, GPa, Sha0, Sha1, Sha2, Sha3, Sha4, Sha5, Sha6, Sha7, Sha8. -/
import Derived.Test.YtlonpmajnglmoaaDoorJ1
import Derived.Lib.SmallJoins
import Derived.ChangeMaps5
import Derived.Shelf.SlIter.Sorted
import Derived.Ground.GgzProg
import Derived.Shelf.Small.Bits
import Derived.Shelf.Small.Strs
import Derived.Shelf.Small.Wraps
import Derived.Shelf.Strconv.Itoa0
import Derived.Shelf.Strings.Search1
import Derived.Shelf.Strings.Search2
import Derived.Shelf.Strings.Search3
import Derived.Shelf.Strings.Cut
import Derived.Shelf.Strings.Count
import Derived.Shelf.LaysM
import Derived.Shelf.Strings.Shaped
import Derived.Shelf.Sort.Plain
import Derived.Shelf.Strings.Prefix
import Derived.Shelf.Strings.Split
import Derived.Shelf.Unicode.DecodeSlow
import Derived.Ground.Names2Prog
import Derived.Shelf.Slices.CompactI
import Derived.Shelf.Slices.CompactS
import Derived.Shelf.Slices.Cells
import Derived.Shelf.Slices.In.SortNone
import Derived.Ground.SlgnProg
import Derived.Shelf.SlicesE.Clone
import Derived.Test.YtlonpmajnglmoaaDoorProg
import Derived.Lib.SplitLaws
import Derived.Lib.SliceRun
import Derived.Sort.OwnSorted
import Derived.Test.YtlonpmajnglmoaaDoorRows
/- More arguments, opened: five and six of them; a struct of two texts. -/
namespace Go.Proofs.YtlonpmajnglmoaaDoor
open Go Go.RowKit Go.WideShapes Go.ChangeShapes Go.ChangeAt Go.Joins Go.Deep
section
variable {H : Type} {enc : TypeId × Value → H} {P : Program} {w : World} {base : Nat} {spare : Nat → Bool} {held : Bool}
end
end Go.Proofs.YtlonpmajnglmoaaDoor


 /-
  DERIVED: THE SHELF's CONTRACTS AT THIS DUMP, IN PLAIN WORDS (tools/lay-plain.mjs out of 'TrydShelf.lean', which tools/lay-shelf.mjs wrote): THE SAME DECLARATIONS UNDER THE SAME NAMES: 'import', 'namespace', 'open', 'def', 'theorem' AND NOTHING ELSE: no command of the shelf's: FOR A HAND-IN. Each laying: the table of numbers ('.._ren') and one theorem, a field a fact of the dump's own or the kernel's comparison; each contract: ONE APPLICATION.
-/
namespace Go.Proofs
open Go.Shelf
def Tryd.lays137_ren : Go.Shelf.Ren := ⟨fun | 137 => 170 | 217 => 171 | 266 => 197 | n => n, fun | 9 => 9 | 5 => 5 | 3 => 3 | n => n, fun | n => n⟩
theorem Tryd.lays137 : Go.Proofs.Lays.n137 Tryd.prog Tryd.lays137_ren := {
  mixed := by kernel_rfl
  f137 := Tryd.func170.trans (congrArg some (by kernel_rfl))
  f217 := Tryd.func171.trans (congrArg some (by kernel_rfl))
  f266 := Tryd.func197.trans (congrArg some (by kernel_rfl))
  t3 := Tryd.underlying3
  a3 := Tryd.isAgg3
  z3 := Tryd.sizeOf3
  v3 := Tryd.zeroValue3
  t5 := Tryd.underlying5
  a5 := Tryd.isAgg5
  z5 := Tryd.sizeOf5
  v5 := Tryd.zeroValue5
  t9 := Tryd.underlying9
  a9 := Tryd.isAgg9
  z9 := Tryd.sizeOf9
  v9 := Tryd.zeroValue9 }
open Go.RowKit in
/-- strings.IndexByte: "IndexByte returns the index of the first instance of c in s, or -1 if c is not present in s.": IT RETURNS 'Lib.indexByte s c'; the world is as_ it was. (LAID: no walk: one application.) -/
theorem Tryd.strings_IndexByte (s : ByteArray) (c : Int) (w : World) :
    Calls Tryd.prog 170 #[.string s, .int .u8 c] w fun e w' => e = .returned (.int .i64 (Lib.indexByte s.data.toList c.toNat.toUInt8)) ∧ w' = w := Any.strings_IndexByte Tryd.lays137 s c w
def Tryd.lays190_ren : Go.Shelf.Ren := ⟨fun | 190 => 98 | 125 => 107 | 258 => 124 | 128 => 139 | 129 => 140 | 302 => 158 | 303 => 159 | 304 => 160 | 305 => 161 | 306 => 162 | 307 => 163 | 308 => 164 | 309 => 165 | 310 => 166 | 333 => 190 | 329 => 176 | 330 => 177 | 334 => 191 | 335 => 192 | 336 => 193 | 344 => 202 | n => n, fun | 31 => 22 | 9 => 9 | 3 => 3 | 46 => 147 | 0 => 0 | 51 => 145 | 53 => 146 | 4 => 4 | 183 => 202 | 182 => 201 | 131 => 167 | 5 => 5 | 218 => 231 | 222 => 235 | 228 => 255 | 229 => 256 | n => n, fun | n => n⟩
theorem Tryd.lays190 : Go.Proofs.Lays.n190 Tryd.prog Tryd.lays190_ren := {
  mixed := by kernel_rfl
  f125 := Tryd.func107.trans (congrArg some (by kernel_rfl))
  f128 := Tryd.func139.trans (congrArg some (by kernel_rfl))
  f129 := Tryd.func140.trans (congrArg some (by kernel_rfl))
  f190 := Tryd.func98.trans (congrArg some (by kernel_rfl))
  f258 := Tryd.func124.trans (congrArg some (by kernel_rfl))
  f302 := Tryd.func158.trans (congrArg some (by kernel_rfl))
  f303 := Tryd.func159.trans (congrArg some (by kernel_rfl))
  f304 := Tryd.func160.trans (congrArg some (by kernel_rfl))
  f305 := Tryd.func161.trans (congrArg some (by kernel_rfl))
  f306 := Tryd.func162.trans (congrArg some (by kernel_rfl))
  f307 := Tryd.func163.trans (congrArg some (by kernel_rfl))
  f308 := Tryd.func164.trans (congrArg some (by kernel_rfl))
  f309 := Tryd.func165.trans (congrArg some (by kernel_rfl))
  f310 := Tryd.func166.trans (congrArg some (by kernel_rfl))
  f329 := Tryd.func176.trans (congrArg some (by kernel_rfl))
  f330 := Tryd.func177.trans (congrArg some (by kernel_rfl))
  f333 := Tryd.func190.trans (congrArg some (by kernel_rfl))
  f334 := Tryd.func191.trans (congrArg some (by kernel_rfl))
  f335 := Tryd.func192.trans (congrArg some (by kernel_rfl))
  f336 := Tryd.func193.trans (congrArg some (by kernel_rfl))
  f344 := Tryd.func202.trans (congrArg some (by kernel_rfl))
  t0 := Tryd.underlying0
  a0 := Tryd.isAgg0
  z0 := Tryd.sizeOf0
  v0 := Tryd.zeroValue0
  t3 := Tryd.underlying3
  a3 := Tryd.isAgg3
  z3 := Tryd.sizeOf3
  v3 := Tryd.zeroValue3
  t4 := Tryd.underlying4
  a4 := Tryd.isAgg4
  z4 := Tryd.sizeOf4
  v4 := Tryd.zeroValue4
  t5 := Tryd.underlying5
  a5 := Tryd.isAgg5
  z5 := Tryd.sizeOf5
  v5 := Tryd.zeroValue5
  t9 := Tryd.underlying9
  a9 := Tryd.isAgg9
  z9 := Tryd.sizeOf9
  v9 := Tryd.zeroValue9
  t31 := Tryd.underlying22
  a31 := Tryd.isAgg22
  z31 := Tryd.sizeOf22
  v31 := Tryd.zeroValue22
  t46 := Tryd.underlying147
  a46 := Tryd.isAgg147
  z46 := Tryd.sizeOf147
  v46 := Tryd.zeroValue147
  t51 := Tryd.underlying145
  a51 := Tryd.isAgg145
  z51 := Tryd.sizeOf145
  v51 := Tryd.zeroValue145
  t53 := Tryd.underlying146
  a53 := Tryd.isAgg146
  z53 := Tryd.sizeOf146
  v53 := Tryd.zeroValue146
  t131 := Tryd.underlying167
  a131 := Tryd.isAgg167
  z131 := Tryd.sizeOf167
  v131 := Tryd.zeroValue167
  t182 := Tryd.underlying201
  a182 := Tryd.isAgg201
  z182 := Tryd.sizeOf201
  v182 := Tryd.zeroValue201
  t183 := Tryd.underlying202
  a183 := Tryd.isAgg202
  z183 := Tryd.sizeOf202
  v183 := Tryd.zeroValue202
  t218 := Tryd.underlying231
  a218 := Tryd.isAgg231
  z218 := Tryd.sizeOf231
  v218 := Tryd.zeroValue231
  t222 := Tryd.underlying235
  a222 := Tryd.isAgg235
  z222 := Tryd.sizeOf235
  v222 := Tryd.zeroValue235
  t228 := Tryd.underlying255
  a228 := Tryd.isAgg255
  z228 := Tryd.sizeOf255
  v228 := Tryd.zeroValue255
  t229 := Tryd.underlying256
  a229 := Tryd.isAgg256
  z229 := Tryd.sizeOf256
  v229 := Tryd.zeroValue256 }
open Go.Sort Go.RowKit in
theorem Tryd.slices_Sort_string (blk off cap : Nat) (ss : List (List UInt8)) (w : World) (hH : Holds encStr w blk off ss.toArray) (hblk : blk < w.heap.size) (hsz : ss.length < 4611686018427387904) :
    Calls Tryd.prog 98 #[.slice (some ⟨blk, off, none⟩) ss.length cap] w fun e w' =>
      e = .returned (.tuple #[]) ∧ ∃ n os, w' = grow (putRow encStr (Sort.ahead w n) blk off (ss.mergeSort fun x y => decide (x ≤ y)).toArray) os := Any.slices_Sort_string Tryd.lays190 blk off cap ss w hH hblk hsz
def Tryd.lays146_ren : Go.Shelf.Ren := ⟨fun | 146 => 101 | 221 => 125 | 268 => 167 | 138 => 168 | 143 => 169 | 195 => 194 | 197 => 195 | 218 => 196 | 219 => 130 | 260 => 203 | 217 => 171 | 225 => 172 | 224 => 173 | 267 => 174 | 266 => 197 | 314 => 198 | n => n, fun | 9 => 9 | 31 => 22 | 3 => 3 | 4 => 4 | 0 => 0 | 105 => 251 | 21 => 21 | 5 => 5 | 46 => 147 | 119 => 260 | 139 => 263 | 138 => 262 | 146 => 253 | 51 => 145 | n => n, fun | 1 => 7 | 3 => 18 | 4 => 19 | n => n⟩
theorem Tryd.lays146 : Go.Proofs.Lays.n146 Tryd.prog Tryd.lays146_ren := {
  mixed := by kernel_rfl
  f138 := Tryd.func168.trans (congrArg some (by kernel_rfl))
  f143 := Tryd.func169.trans (congrArg some (by kernel_rfl))
  f146 := Tryd.func101.trans (congrArg some (by kernel_rfl))
  f195 := Tryd.func194.trans (congrArg some (by kernel_rfl))
  f197 := Tryd.func195.trans (congrArg some (by kernel_rfl))
  f217 := Tryd.func171.trans (congrArg some (by kernel_rfl))
  f218 := Tryd.func196.trans (congrArg some (by kernel_rfl))
  f219 := Tryd.func130.trans (congrArg some (by kernel_rfl))
  f221 := Tryd.func125.trans (congrArg some (by kernel_rfl))
  f224 := Tryd.func173.trans (congrArg some (by kernel_rfl))
  f225 := Tryd.func172.trans (congrArg some (by kernel_rfl))
  f260 := Tryd.func203.trans (congrArg some (by kernel_rfl))
  f266 := Tryd.func197.trans (congrArg some (by kernel_rfl))
  f267 := Tryd.func174.trans (congrArg some (by kernel_rfl))
  f268 := Tryd.func167.trans (congrArg some (by kernel_rfl))
  f314 := Tryd.func198.trans (congrArg some (by kernel_rfl))
  t0 := Tryd.underlying0
  a0 := Tryd.isAgg0
  z0 := Tryd.sizeOf0
  v0 := Tryd.zeroValue0
  t3 := Tryd.underlying3
  a3 := Tryd.isAgg3
  z3 := Tryd.sizeOf3
  v3 := Tryd.zeroValue3
  t4 := Tryd.underlying4
  a4 := Tryd.isAgg4
  z4 := Tryd.sizeOf4
  v4 := Tryd.zeroValue4
  t5 := Tryd.underlying5
  a5 := Tryd.isAgg5
  z5 := Tryd.sizeOf5
  v5 := Tryd.zeroValue5
  t9 := Tryd.underlying9
  a9 := Tryd.isAgg9
  z9 := Tryd.sizeOf9
  v9 := Tryd.zeroValue9
  t21 := Tryd.underlying21
  a21 := Tryd.isAgg21
  z21 := Tryd.sizeOf21
  v21 := Tryd.zeroValue21
  t31 := Tryd.underlying22
  a31 := Tryd.isAgg22
  z31 := Tryd.sizeOf22
  v31 := Tryd.zeroValue22
  t46 := Tryd.underlying147
  a46 := Tryd.isAgg147
  z46 := Tryd.sizeOf147
  v46 := Tryd.zeroValue147
  t51 := Tryd.underlying145
  a51 := Tryd.isAgg145
  z51 := Tryd.sizeOf145
  v51 := Tryd.zeroValue145
  t105 := Tryd.underlying251
  a105 := Tryd.isAgg251
  z105 := Tryd.sizeOf251
  v105 := Tryd.zeroValue251
  t119 := Tryd.underlying260
  a119 := Tryd.isAgg260
  z119 := Tryd.sizeOf260
  t138 := Tryd.underlying262
  a138 := Tryd.isAgg262
  z138 := Tryd.sizeOf262
  v138 := Tryd.zeroValue262
  t139 := Tryd.underlying263
  a139 := Tryd.isAgg263
  z139 := Tryd.sizeOf263
  v139 := Tryd.zeroValue263
  t146 := Tryd.underlying253
  a146 := Tryd.isAgg253
  z146 := Tryd.sizeOf253
  v146 := Tryd.zeroValue253
  g1 := by kernel_rfl
  g3 := by kernel_rfl
  g4 := by kernel_rfl }
open Go.RowKit Go.Lib in
/-- strings.Split. (LAID: no walk: one application.) -/
theorem Tryd.strings_Split (s sep : ByteArray) (m : Int) (w : World) (hs : s.size < 4294967281) (hm : w.cell? ⟨7, 0, none⟩ = some (.int .i64 m)) (h1 : 1 ≤ sep.size) :
    Calls Tryd.prog 101 #[.string s, .string sep] w fun e w' =>
      e = .returned (.slice (some ⟨w.heap.size, 0, none⟩) (Lib.countB s sep + 1) (Lib.countB s sep + 1)) ∧ w' = w.alloc (.cells ((Lib.splitB sep 0 (Lib.countB s sep) s).map Value.string).toArray 9) := Any.strings_Split Tryd.lays146 (by kernel_rfl) s sep m w hs hm h1
open Go.RowKit Go.Sort in
/-- .. and plain. (LAID: no walk: one application.) -/
theorem Tryd.slices_Sort_string_none (p : Option Addr) (cap : Nat) (w : World) :
    Calls Tryd.prog 98 #[.slice p 0 cap] w fun e w' => e = .returned (.tuple #[]) ∧ w' = w := Any.slices_Sort_string_none Tryd.lays190 p cap w
end Go.Proofs

 /- The library's contracts (the kit's shelf) in the generator's form. -/
namespace Go.Proofs.YtlonpmajnglmoaaDoor
open Go Go.RowKit
theorem Fn.ofCalls {P : Program} {f : FuncId} {args : Array Value} {w : World} {v : Value} (hgo : goesIn P f = true) (h : ∀ w1, Calls P f args w1 fun e w' => e = .returned v ∧ w' = w1) : Fn P f args w (fun r w' => w = w' ∧ r = v) :=
  ⟨hgo, fun w1 e => (h w1).mono fun _ _ ⟨he, hw⟩ => ⟨v, w, he, by rw [hw]; exact e, rfl, rfl⟩⟩
theorem bs (l : List UInt8) : (Value.string ⟨⟨l⟩⟩) = vs l := rfl
def M_strings_IndexByte (s : List UInt8) (c : Int) (K : Int → Prop) : Prop := K (Lib.indexByte s c.toNat.toUInt8)
theorem W_strings_IndexByte {w : World} {s : List UInt8} {c : Int} {K : Int → Prop} (H : M_strings_IndexByte s c K) : Fn Tryd.prog 170 ⟨[vs s, .int .u8 c]⟩ w (fun v w' => w = w' ∧ ∃ r : Int, v = .int .i64 r ∧ K r) :=
  (Fn.ofCalls (by kernel_rfl) (fun w1 => Tryd.strings_IndexByte ⟨⟨s⟩⟩ c w1)).mono fun _ _ ⟨h1, h2⟩ => ⟨h1, _, h2, H⟩
def splitL (sep s : List UInt8) : List (List UInt8) := Lib.splitK sep 0 (Lib.countB ⟨⟨s⟩⟩ ⟨⟨sep⟩⟩) s
theorem splitL_map (sep s : List UInt8) : (Lib.splitB ⟨⟨sep⟩⟩ 0 (Lib.countB ⟨⟨s⟩⟩ ⟨⟨sep⟩⟩) ⟨⟨s⟩⟩).map Value.string = (splitL sep s).map vs := by
  have h := Lib.splitB_data ⟨⟨sep⟩⟩ 0 (Lib.countB ⟨⟨s⟩⟩ ⟨⟨sep⟩⟩) ⟨⟨s⟩⟩
  unfold splitL
  rw [show Lib.splitK sep 0 (Lib.countB ⟨⟨s⟩⟩ ⟨⟨sep⟩⟩) s = _ from h.symm, List.map_map]
  rfl
def M_strings_Split (s sep : List UInt8) (K : List (List UInt8) → Prop) : Prop := s.length < 4294967281 ∧ 1 ≤ sep.length ∧ K (splitL sep s)
theorem splitL_length {sep : List UInt8} (h : 1 ≤ sep.length) (s : List UInt8) : (splitL sep s).length = Lib.countB ⟨⟨s⟩⟩ ⟨⟨sep⟩⟩ + 1 := by
  have h1 := Lib.splitB_all ⟨⟨sep⟩⟩ h 0 _ ⟨⟨s⟩⟩ rfl
  have h2 := congrArg List.length (splitL_map sep s)
  simp only [List.length_map] at h2
  omega
theorem W_strings_Split {S : List Nat} {w : World} {s sep : List UInt8} {K : List (List UInt8) → Prop} (hG : GOK S w) (h100 : 100 ∈ S) (H : M_strings_Split s sep K) : Fn Tryd.prog 101 ⟨[vs s, vs sep]⟩ w (fun v w' => w.grownBy w' none ∧ ∃ (r : List (List UInt8)) (A : Option Addr) (c : Nat), v = .slice A r.length c ∧ Own vs w' w.heap.size 9 A c r ∧ K r) := by
  obtain ⟨m, hm⟩ := hG.ml h100
  refine ⟨by kernel_rfl, fun w1 e => (Tryd.strings_Split ⟨⟨s⟩⟩ ⟨⟨sep⟩⟩ m w1 H.1 (by rw [e.cell]; exact hm) H.2.1).mono fun _ w' ⟨he, hw⟩ => ?_⟩
  have hlen := splitL_length H.2.1 s
  obtain ⟨hB, hg⟩ := newBlock w1 e ((splitL sep s).map vs) 9
  have hw' : w' = w1.alloc (.cells ⟨(splitL sep s).map vs⟩ 9) := by rw [hw, splitL_map]
  rw [← hw'] at hB hg
  have hml : (splitL sep s).length ≤ maxLen := by
    have h3 := Lib.countB_le ⟨⟨sep⟩⟩ H.2.1 s.length ⟨⟨s⟩⟩ (Nat.le_refl _)
    have h3' : Lib.countB ⟨⟨s⟩⟩ ⟨⟨sep⟩⟩ ≤ s.length := h3
    have h4 := H.1
    simp only [maxLen]
    omega
  exact ⟨_, w', he, Eqv.refl _, hg, splitL sep s, some ⟨w.heap.size, 0, none⟩, Lib.countB ⟨⟨s⟩⟩ ⟨⟨sep⟩⟩ + 1, by rw [e.heap, hlen], Own.ofBl hB (Nat.le_refl _) hml hlen.symm, H.2.2⟩
end Go.Proofs.YtlonpmajnglmoaaDoor


 /- Slices whose elements take k cells each: structs and arrays; their rules. -/
namespace Go.Proofs.YtlonpmajnglmoaaDoor
open Go Go.RowKit

/-- f's values take k cells. -/
structure OneK {α : Type} (k : Nat) (f : α → List Value) : Prop where
  pos : 0 < k
  len : ∀ x, (f x).length = k
  one : ∀ x, ∀ u ∈ f x, u.oneCell' = true
structure RdK {α : Type} (k : Nat) (f : α → List Value) (w : World) (A : Option Addr) (c : Nat) (xs : List α) : Prop where
  ok : OneK k f
  cap : xs.length ≤ c
  max : c ≤ maxLen
  cells : xs ≠ [] → ∃ g o, A = some ⟨g, o, none⟩ ∧ ∀ j x i u, xs[j]? = some x → (f x)[i]? = some u → w.cell? ⟨g, o + (j * k + i), none⟩ = some u
def OwnK {α : Type} (k : Nat) (f : α → List Value) (w : World) (B : Nat) (e : TypeId) (A : Option Addr) (c : Nat) (xs : List α) : Prop := OneK k f ∧ w.ownsRow B e k (.slice A xs.length c) xs.length (xs.flatMap f)

section
variable {α : Type} {k : Nat} {f : α → List Value}
theorem OneK.flen (h : OneK k f) : ∀ xs : List α, (xs.flatMap f).length = xs.length * k
  | [] => by simp
  | x :: xs => by simp [List.flatMap_cons, h.flen xs, h.len x, Nat.add_mul, Nat.add_comm]
theorem OneK.fget (h : OneK k f) : ∀ (xs : List α) (j : Nat) (x : α) (i : Nat), xs[j]? = some x → i < k → (xs.flatMap f)[j * k + i]? = (f x)[i]?
  | [], _, _, _, hx, _ => by simp at hx
  | y :: xs, 0, x, i, hx, hi => by
    simp only [List.getElem?_cons_zero, Option.some.injEq] at hx
    subst hx
    rw [List.flatMap_cons, Nat.zero_mul, Nat.zero_add, List.getElem?_append_left (by rw [h.len]; exact hi)]
  | y :: xs, j + 1, x, i, hx, hi => by
    have e : (j + 1) * k + i = (f y).length + (j * k + i) := by rw [h.len, Nat.add_mul]; omega
    rw [List.flatMap_cons, e, List.getElem?_append_right (by omega)]
    simp only [Nat.add_sub_cancel_left]
    exact h.fget xs j x i (by simpa using hx) hi
theorem OneK.mem (h : OneK k f) {xs : List α} : ∀ u ∈ xs.flatMap f, u.oneCell' = true := fun u hu => by
  obtain ⟨x, _, hx⟩ := List.mem_flatMap.1 hu
  exact h.one x u hx
end

section
variable {α : Type} {k : Nat} {f : α → List Value} {w w' : World} {A : Option Addr} {c B g : Nat} {xs : List α} {e : TypeId} {row : Option Nat}
theorem RdK.nil (h : OneK k f) (w : World) {A : Option Addr} {c : Nat} (hc : c ≤ maxLen) : RdK k f w A c [] := ⟨h, Nat.zero_le _, hc, fun h => absurd rfl h⟩
theorem RdK.lt (h : RdK k f w A c xs) (hx : xs ≠ []) {g : Nat} (hg : blk A = some g) : g < w.heap.size := by
  obtain ⟨g', o, rfl, hc⟩ := h.cells hx
  obtain ⟨x, l, rfl⟩ := List.exists_cons_of_ne_nil hx
  have h0 : 0 < (f x).length := by rw [h.ok.len]; exact h.ok.pos
  have := World.block_lt_of_cell? w _ (hc 0 x 0 _ rfl (List.getElem?_eq_getElem h0))
  simp only [blk, Option.map_some, Option.some.injEq] at hg
  subst hg
  exact this
theorem RdK.keep (h : RdK k f w A c xs) (hg : w.grownBy w' row) (hne : xs ≠ [] → ∀ g, row = some g → blk A ≠ some g) : RdK k f w' A c xs :=
  ⟨h.ok, h.cap, h.max, fun hx => by
    obtain ⟨g', o, rfl, hc⟩ := h.cells hx
    refine ⟨g', o, rfl, fun j x i u hj hi => hg.cell (hc j x i u hj hi) (fun e => ?_)⟩
    exact hne hx _ e.symm (by simp [blk])⟩
theorem RdK.grown (h : RdK k f w A c xs) (hg : w.grownBy w' none) : RdK k f w' A c xs := h.keep hg (by simp)
theorem RdK.go (h : RdK k f w A c xs) (hg : w.grownBy w' row) (hd : Dn xs (blk A) row) : RdK k f w' A c xs := h.keep hg fun hx g e k => hd hx g k e
theorem RdK.lt' (h : RdK k f w A c xs) (hx : xs ≠ []) : Lt (blk A) w.heap.size := fun _ hg => h.lt hx hg
theorem RdK.eqv (hw : Eqv w w') (h : RdK k f w A c xs) : RdK k f w' A c xs := h.grown (gr_eqv (gr_refl w none) hw)
theorem RdK.cut (h : RdK k f w A c xs) {l m : Nat} (hl : l ≤ m) (hm : m ≤ xs.length) : RdK k f w (if c = l then A else A.map (·.add (l * k))) (c - l) ((xs.drop l).take (m - l)) := by
  have hlen : ((xs.drop l).take (m - l)).length = m - l := by simp; omega
  refine ⟨h.ok, by have := h.cap; omega, by have := h.max; omega, fun hx => ?_⟩
  have hx' : 0 < m - l := by
    rw [← hlen]
    exact List.length_pos_iff.2 hx
  obtain ⟨g', o, rfl, hc⟩ := h.cells (fun e => by rw [e] at hm; simp at hm; omega)
  rw [if_neg (by have := h.cap; omega)]
  refine ⟨g', o + l * k, by simp [Addr.add_mid], fun j x i u hj hi => ?_⟩
  have := hc (l + j) x i u (by
    rw [List.getElem?_take] at hj
    split at hj
    · rw [List.getElem?_drop] at hj; exact hj
    · cases hj) hi
  rw [show o + l * k + (j * k + i) = o + ((l + j) * k + i) by rw [Nat.add_mul]; omega]
  exact this
theorem OwnK.nil (h : OneK k f) (w : World) (B : Nat) (e : TypeId) : OwnK k f w B e none 0 [] := ⟨h, World.ownsRow_nil w B e k⟩
theorem OwnK.rd (h : OwnK k f w B e A c xs) : RdK k f w A c xs := by
  have h2 := h.2
  rcases h2.2 with ⟨hv, hn⟩ | ⟨g, cap, cur, hv, hb, hg, hnc, hcm, hcs, htake⟩
  · simp only [Value.slice.injEq] at hv
    obtain ⟨rfl, _, rfl⟩ := hv
    have : xs = [] := List.eq_nil_of_length_eq_zero hn
    subst this
    exact RdK.nil h.1 w (Nat.zero_le _)
  · simp only [Value.slice.injEq] at hv
    obtain ⟨rfl, _, rfl⟩ := hv
    refine ⟨h.1, hnc, hcm, fun _ => ⟨g, 0, rfl, fun j x i u hj hi => ?_⟩⟩
    have hik : i < k := by
      rcases Nat.lt_or_ge i k with h1 | h1
      · exact h1
      · rw [List.getElem?_eq_none (by rw [h.1.len]; exact h1)] at hi; cases hi
    have := h2.cells (g := g) rfl (j * k + i) u (by rw [h.1.fget xs j x i hj hik]; exact hi)
    rwa [Addr.add_mid] at this
theorem OwnK.keep (h : OwnK k f w B e A c xs) (hg : w.grownBy w' row) (hne : ∀ g, row = some g → blk A ≠ some g) : OwnK k f w' B e A c xs := by
  refine ⟨h.1, World.ownsRow.kept h.2 hg ?_⟩
  cases A with
  | none => exact .inl rfl
  | some a =>
    refine .inr ?_
    simp only [Value.ownBlock]
    intro e
    exact hne _ e.symm (by simp [blk])
theorem OwnK.grown (h : OwnK k f w B e A c xs) (hg : w.grownBy w' none) : OwnK k f w' B e A c xs := h.keep hg (by simp)
theorem OwnK.go (h : OwnK k f w B e A c xs) (hg : w.grownBy w' row) (hd : Dj (blk A) row) : OwnK k f w' B e A c xs := h.keep hg fun g e k => hd g k e
theorem OwnK.lt (h : OwnK k f w B e A c xs) {g : Nat} (hg : blk A = some g) : B ≤ g ∧ g < w.heap.size := by
  refine World.ownsRow.lt h.2 g ?_
  cases A with
  | none => simp [blk] at hg
  | some a => simpa [blk, Value.ownBlock] using hg
theorem OwnK.lt' (h : OwnK k f w B e A c xs) : Lt (blk A) w.heap.size := fun _ hg => (h.lt hg).2
theorem OwnK.ge' (h : OwnK k f w B e A c xs) : Ge (blk A) B := fun _ hg => (h.lt hg).1
theorem OwnK.eqv (hw : Eqv w w') (h : OwnK k f w B e A c xs) : OwnK k f w' B e A c xs := h.grown (gr_eqv (gr_refl w none) hw)
theorem OwnK.base {B' : Nat} (h : OwnK k f w B e A c xs) (hB : ∀ g, blk A = some g → B' ≤ g) : OwnK k f w B' e A c xs := by
  refine ⟨h.1, h.2.1, ?_⟩
  rcases h.2.2 with hn | ⟨g, cap, cur, hv, hb, rest⟩
  · exact .inl hn
  · refine .inr ⟨g, cap, cur, hv, ?_, rest⟩
    simp only [Value.slice.injEq] at hv
    exact hB g (by rw [hv.1]; rfl)
theorem OwnK.ofBl {m : Nat} (ho : OneK k f) (h : Bl w g e (xs.flatMap f)) (hB : B ≤ g) (hm : xs.length ≤ maxLen) (hn : m = xs.length) : OwnK k f w B e (some ⟨g, 0, none⟩) m xs := by
  subst hn
  refine ⟨ho, ho.flen xs, .inr ⟨g, _, _, rfl, hB, h, Nat.le_refl _, hm, by simpa using ho.flen xs, ?_⟩⟩
  rw [← ho.flen xs]
  exact List.take_length
theorem OwnK.take (h : OwnK k f w B e A c xs) (m : Nat) (hm : m ≤ xs.length) : OwnK k f w B e A c (xs.take m) := by
  rcases h.2.2 with ⟨hv, hn⟩ | ⟨g, cap, cur, hv, hb, hg, hnc, hcm, hcs, htake⟩
  · simp only [Value.slice.injEq] at hv
    obtain ⟨rfl, _, rfl⟩ := hv
    have : xs = [] := List.eq_nil_of_length_eq_zero hn
    subst this
    simpa using OwnK.nil h.1 w B e
  · simp only [Value.slice.injEq] at hv
    obtain ⟨rfl, _, rfl⟩ := hv
    have hl : (xs.take m).length = m := by simp; omega
    refine ⟨h.1, h.1.flen _, .inr ⟨g, c, cur, rfl, hb, hg, by omega, hcm, hcs, ?_⟩⟩
    rw [hl]
    have e1 : (xs.take m).flatMap f = (xs.flatMap f).take (m * k) := by
      have h2 := h.1.flen (xs.take m)
      rw [hl] at h2
      have h3 : xs.flatMap f = (xs.take m).flatMap f ++ (xs.drop m).flatMap f := by rw [← List.flatMap_append, List.take_append_drop]
      rw [h3, List.take_left' h2]
    rw [e1, ← htake, List.take_take, Nat.min_eq_left (Nat.mul_le_mul_right k hm)]
end

/-- elements' types of slices: size, bytes -/
def ckOwK (P : Program) (t e k b : Nat) : Bool := match P.underlying t with
  | some (.slice e') => Nat.beq e' e && (match P.info? e with
    | some i => Nat.beq i.size k && Nat.beq i.bytes b && (match i.zero with | some z => Nat.beq z.cells.size k | none => false)
    | _ => false)
  | _ => false
theorem ckOwK_spec {P : Program} {t e k b : Nat} (h : ckOwK P t e k b = true) : P.underlying t = some (.slice e) ∧ ∃ i z, P.info? e = some i ∧ i.zero = some z ∧ i.size = k ∧ i.bytes = b ∧ z.cells.size = k := by
  unfold ckOwK at h
  split at h
  · rename_i e' he
    simp only [Bool.and_eq_true] at h
    have h1 := Nat.eq_of_beq_eq_true h.1
    subst h1
    refine ⟨he, ?_⟩
    have h2 := h.2
    split at h2
    · rename_i i hi
      simp only [Bool.and_eq_true] at h2
      obtain ⟨⟨h3, h4⟩, h5⟩ := h2
      split at h5
      · rename_i z hz
        exact ⟨i, z, hi, hz, Nat.eq_of_beq_eq_true h3, Nat.eq_of_beq_eq_true h4, Nat.eq_of_beq_eq_true h5⟩
      · cases h5
    · cases h2
  · cases h

section rules
variable {P : Program} {T : Tab} {N : Nat} {ops : Array Oper} {Q : Post} {L : Slots} {w w0 : World} {rest : List Oper} {d : Nat} {dd : Option Tmp} {ty : TypeId} {pos : String} {af : Array Edge} {t t' : TypeId} {x y i : Operand} {kk kk' : IntKind} {q : Int}
variable {α : Type} {k : Nat} {f : α → List Value} {A : Option Addr} {c n B : Nat} {xs ys : List α} {e : TypeId} {us : List Value}
theorem Yld.iaddrK {e : TypeId} (hT : T.Ok P) (hR : RdK k f w0 A c xs) (hs : nk T.sl t = some (e, k)) (hx : opv L x = some (.slice A n c)) (hn : n = xs.length) (hi : opv L i = some (.int kk q)) (h0 : 0 ≤ q) (h1 : q < n) :
    Yld P N w ⟨dd, .indexAddr t x i, ty, pos, af, none⟩ L (.pointer (A.map (·.add (q.toNat * k)))) := fun a w1 _ ha => by
  obtain ⟨hu, j, hj, hj1⟩ := hT.sl hs
  obtain ⟨g, o, rfl, _⟩ := hR.cells (fun e => by rw [e] at hn; simp at hn; omega)
  unfold execOp
  simp [ha.ev hx, ha.ev hi, Instr.indexAt, run_underlying hu, asIntOf, h0, h1, sizeOf, typeInfo, hj, hj1]
theorem Yld.faddrK {m fi o j : Nat} {s : TypeId} {os : List Nat} (hT : T.Ok P) (hR : RdK k f w0 A c xs) (hj : j < xs.length) (hos : nk T.off s = some os) (ho : os[fi]? = some o) (hx : opv L x = some (.pointer (A.map (·.add m)))) :
    Yld P N w ⟨dd, .fieldAddr s x fi, ty, pos, af, none⟩ L (.pointer (A.map (·.add (m + o)))) := fun a w1 _ ha => by
  obtain ⟨g, p, rfl, _⟩ := hR.cells (fun e => by rw [e] at hj; simp at hj)
  obtain ⟨fs, hfs, hall⟩ := hT.off hos
  obtain ⟨fd, hfd, rfl, i, hi, hi0⟩ := hall _ _ ho
  unfold execOp
  simp [ha.ev hx, Instr.fieldAt, run_underlying hfs, hfd, Instr.sureAddr, fieldPlace, sizeOf, typeInfo, hi, hi0, Addr.add_mid, Nat.add_assoc]
theorem RdK.cellsAt (hR : RdK k f w A c xs) (dv : α) {j : Nat} (hj : j < xs.length) : ∃ g o, A = some ⟨g, o, none⟩ ∧ ∀ i u, (f (xs.getD j dv))[i]? = some u → w.cell? ⟨g, o + (j * k + i), none⟩ = some u := by
  obtain ⟨g, o, hA, hc⟩ := hR.cells (fun e => by rw [e] at hj; simp at hj)
  exact ⟨g, o, hA, fun i u hi => hc j _ i u (by simp [List.getD, hj]) hi⟩
theorem Yld.iloadK (dv : α) {j : Nat} (hT : T.Ok P) (hR : RdK k f w A c xs) (hs : nk T.agg t = some k) (hx : opv L x = some (.pointer (A.map (·.add (j * k))))) (hj : j < xs.length) :
    Yld P N w ⟨dd, .load t x, ty, pos, af, none⟩ L (.agg ⟨f (xs.getD j dv)⟩) := fun a w1 hw ha => by
  obtain ⟨⟨de, hu, hr⟩, i, hi, hi1⟩ := hT.agg hs
  obtain ⟨g, o, rfl, hc⟩ := hR.cellsAt dv hj
  have hrow : de.isRow = true := by cases de <;> simp_all [isRow]
  have := run_loadVar_mid (P := P) w1 g (o + j * k) t (f (xs.getD j dv)) de (fun p v hv' => by
    rw [hw.cell, Nat.add_assoc]
    exact hc p v hv') hu hrow (by simp [hi, hi1, hR.ok.len])
  unfold execOp
  simp only [ha.ev hx, Option.map_some, Addr.add_mid, Instr.loadAt, Instr.sureAddr, Sem.run_bind, Sem.run_pure, Result.andThen_ok, this]
/-- a field that is itself a struct or an array -/
theorem Yld.iloadP (dv : α) {j o m : Nat} {vs : List Value} (hT : T.Ok P) (hR : RdK k f w A c xs) (hs : nk T.agg t = some m) (hx : opv L x = some (.pointer (A.map (·.add (j * k + o))))) (hj : j < xs.length) (hv : ((f (xs.getD j dv)).drop o).take m = vs) (hl : vs.length = m) :
    Yld P N w ⟨dd, .load t x, ty, pos, af, none⟩ L (.agg ⟨vs⟩) := fun a w1 hw ha => by
  obtain ⟨⟨de, hu, hr⟩, i, hi, hi1⟩ := hT.agg hs
  obtain ⟨g, p, rfl, hc⟩ := hR.cellsAt dv hj
  have hrow : de.isRow = true := by cases de <;> simp_all [isRow]
  have := run_loadVar_mid (P := P) w1 g (p + (j * k + o)) t vs de (fun r v hv' => by
    rw [hw.cell, Nat.add_assoc, Nat.add_assoc]
    refine hc (o + r) v ?_
    rw [← hv, List.getElem?_take] at hv'
    split at hv'
    · rw [List.getElem?_drop] at hv'; exact hv'
    · cases hv') hu hrow (by simp [hi, hi1, hl])
  unfold execOp
  simp only [ha.ev hx, Option.map_some, Addr.add_mid, Instr.loadAt, Instr.sureAddr, Sem.run_bind, Sem.run_pure, Result.andThen_ok, this]
end rules
end Go.Proofs.YtlonpmajnglmoaaDoor

 /- Slices whose elements take k cells each: append, literals, make. -/
namespace Go.Proofs.YtlonpmajnglmoaaDoor
open Go Go.RowKit
section
variable {α : Type} {k : Nat} {f : α → List Value}
theorem OneK.fidx (h : OneK k f) : ∀ (xs : List α) (p : Nat) (u : Value), (xs.flatMap f)[p]? = some u → ∃ j x i, p = j * k + i ∧ xs[j]? = some x ∧ (f x)[i]? = some u
  | [], p, u, hu => by simp at hu
  | x :: xs, p, u, hu => by
    rw [List.flatMap_cons] at hu
    by_cases hp : p < k
    · rw [List.getElem?_append_left (by rw [h.len]; exact hp)] at hu
      exact ⟨0, x, p, by omega, rfl, hu⟩
    · rw [List.getElem?_append_right (by rw [h.len]; omega), h.len] at hu
      obtain ⟨j, y, i, h1, h2, h3⟩ := h.fidx xs _ u hu
      exact ⟨j + 1, y, i, by rw [Nat.add_mul]; omega, by simpa using h2, h3⟩
/-- the parts' cells of a literal -/
def partsA (L : Slots) : Nat → List (Nat × Operand) → Option (List (List Value))
  | _, [] => some []
  | j, (i, x) :: r => bif Nat.beq i j then (match opv L x, partsA L (j + 1) r with
    | some (.agg ⟨vs⟩), some us => some (vs :: us)
    | _, _ => none) else none
theorem fill_partsA {N : Nat} {L : Slots} {a : Act} (ha : Has N L a) (k : Nat) : ∀ (ps : List (Nat × Operand)) (j : Nat) (vs : List (List Value)) (done : List Value) (cells : Array Value), partsA L j ps = some vs → (∀ u ∈ vs, u.length = k) → done.length = j * k → cells.toList.take (j * k) = done → cells.size = (j + vs.length) * k →
    Instr.fill (fun i => some (i * k, k)) cells (ps.map fun p => (p.1, a.eval p.2)) = some ⟨done ++ vs.flatten⟩
  | [], j, vs, done, cells, hp, _, hdl, ht, hs => by
    simp only [partsA, Option.some.injEq] at hp
    subst hp
    simp only [List.map_nil, Instr.fill, List.flatten_nil, List.append_nil]
    congr 1
    apply Array.ext'
    rw [← ht, List.take_of_length_le (by simp at hs ⊢; omega)]
  | (i, x) :: ps, j, vs, done, cells, hp, h1, hdl, ht, hs => by
    simp only [partsA] at hp
    cases hij : Nat.beq i j with
    | false => simp [hij] at hp
    | true =>
      have := Nat.eq_of_beq_eq_true hij
      subst this
      simp only [hij, cond_true] at hp
      split at hp
      · rename_i v us hv hus
        simp only [Option.some.injEq] at hp
        subst hp
        have hvk : v.length = k := h1 v (by simp)
        have hcs : (Value.agg ⟨v⟩).cells = ⟨v⟩ := rfl
        simp only [List.length_cons] at hs
        have hs2 : cells.size = i * k + k + us.length * k := by rw [hs, Nat.add_mul, Nat.add_mul]; omega
        simp only [List.map_cons, Instr.fill, ha.ev hv, hcs]
        have h5 : ((⟨v⟩ : Array Value).zipIdx.foldl (fun cs (x : Value × Nat) => match x with | (c, j) => cs.setIfInBounds (i * k + j) c) cells).toList = splice cells.toList (i * k) v := by
          have h3 := foldl_splice v 0 cells (i * k) (by omega)
          rw [Nat.add_zero] at h3
          have h4 : ((⟨v⟩ : Array Value).zipIdx.foldl (fun (cs : Array Value) (x : Value × Nat) => cs.setIfInBounds (i * k + x.2) x.1) cells).toList = splice cells.toList (i * k) v := by
            rw [← h3, ← Array.foldl_toList]
            simp
          exact h4
        generalize hq : (⟨v⟩ : Array Value).zipIdx.foldl (fun cs (x : Value × Nat) => match x with | (c, j) => cs.setIfInBounds (i * k + j) c) cells = q at h5
        rw [if_neg (by simp [hvk]; omega)]
        have hql : q.size = cells.size := by
          have := congrArg List.length h5
          rw [splice_length _ _ _ (by simp; omega)] at this
          simpa using this
        have := fill_partsA ha k ps (i + 1) us (done ++ v) q hus (fun u hu => h1 u (by simp [hu])) (by rw [List.length_append, hdl, hvk, Nat.add_mul]; omega) (by
          rw [h5, Nat.add_mul, Nat.one_mul]
          unfold splice
          rw [ht, List.take_left' (by rw [List.length_append, hdl, hvk])]) (by rw [hql, hs2, Nat.add_mul, Nat.add_mul]; omega)
        rw [this]
        simp
      · cases hp
theorem flatten_map (f : α → List Value) : ∀ xs : List α, (xs.map f).flatten = xs.flatMap f
  | [] => rfl
  | x :: xs => by simp [List.flatMap_cons, flatten_map f xs]
end
section rules
variable {P : Program} {T : Tab} {N : Nat} {ops : Array Oper} {Q : Post} {L : Slots} {w : World} {rest : List Oper} {d : Nat} {ty : TypeId} {pos : String} {af : Array Edge} {t t' : TypeId} {x y : Operand} {kk kk' : IntKind}
variable {α : Type} {k : Nat} {f : α → List Value} {A : Option Addr} {c n B : Nat} {xs ys : List α} {e : TypeId}
theorem Eff.litK {b m : Nat} {ps : List (Nat × Operand)} (hf : OneK k f) (hs : ckOwK P t e k b = true) (hp : partsA L 0 ps = some (xs.map f)) (hm : xs.length = m) (hm2 : Nat.ble (m * k) 16777216 = true) :
    Eff P N w ⟨some d, .buildSlice t m ⟨ps⟩, ty, pos, af, none⟩ L (fun v w' => v = .slice (some ⟨w.heap.size, 0, none⟩) m m ∧ Bl w' w.heap.size e (xs.flatMap f) ∧ w.grownBy w' none) := fun a w1 hw ha => by
    have hs1 : w1.heap.size = w.heap.size := by rw [hw.heap]
    have hm2 : m * k ≤ 16777216 := by simpa using hm2
    obtain ⟨hu, j, z, hj, hz, hj1, _, hz1⟩ := ckOwK_spec hs
    refine ⟨_, w1.alloc (.cells ⟨xs.flatMap f⟩ e), ?_, rfl, newBlock w1 hw _ e⟩
    have hne : ¬ (m * k > 2 ^ 24) := by omega
    have hmap : ((⟨ps⟩ : Array (Nat × Operand)).map fun p => (p.1, a.eval p.2)).toList = ps.map fun p => (p.1, a.eval p.2) := by simp
    have hfill : ∀ cells : Array Value, cells.size = m * k → Instr.fill (fun i => some (i * k, k)) cells (ps.map fun p => (p.1, a.eval p.2)) = some ⟨xs.flatMap f⟩ := fun cells hc => by
      have := fill_partsA ha k ps 0 (xs.map f) [] cells hp (fun u hu => by
        obtain ⟨y, _, rfl⟩ := List.mem_map.1 hu
        exact hf.len y) (by simp) (by simp) (by rw [hc, List.length_map, hm, Nat.zero_add])
      rw [this, flatten_map]
      rfl
    have hzr : (zeroValue e).run P w1 = .ok z w1 := by simp [zeroValue, typeInfo, hj, hz]
    unfold execOp
    simp only [Instr.buildSlice, Sem.run_bind, run_underlying hu, Result.andThen_ok, sizeOf, typeInfo, program, Sem.run, hj, hj1, hne, if_false, Sem.run_pure, hmap]
    by_cases hm0 : m * k = 0
    · simp only [hm0, if_true, Sem.run_bind, Sem.run_pure, Result.andThen_ok]
      rw [hfill _ (by simp [hm0])]
      simp only [newRow, newObj, Sem.run_bind, Sem.run_pure]
      rw [← hs1]; rfl
    · rw [if_neg hm0]
      simp only [Sem.run_bind, hzr, Result.andThen_ok, Sem.run_pure]
      rw [hfill _ (by simp)]
      simp only [newRow, newObj, Sem.run_bind, Sem.run_pure]
      rw [← hs1]; rfl
theorem WL.litK {b m : Nat} {ps : List (Nat × Operand)} (xs : List α) (hf : OneK k f) (hd : Nat.blt d N = true) (hs : ckOwK P t e k b = true) (hp : partsA L 0 ps = some (xs.map f)) (hm : xs.length = m) (hm2 : Nat.ble (m * k) 16777216 = true)
    (hk : ∀ g w', Bl w' g e (xs.flatMap f) → w.grownBy w' none → w.heap.size ≤ g → WL P N ops Q rest ((d, .slice (some ⟨g, 0, none⟩) m m) :: L) w') :
    WL P N ops Q (⟨some d, .buildSlice t m ⟨ps⟩, ty, pos, af, none⟩ :: rest) L w :=
  WL.put (R := fun v w' => v = .slice (some ⟨w.heap.size, 0, none⟩) m m ∧ Bl w' w.heap.size e (xs.flatMap f) ∧ w.grownBy w' none) hd (Eff.litK hf hs hp hm hm2) (fun v w' ⟨hv, hb, hg⟩ => by subst hv; exact hk _ _ hb hg (Nat.le_refl _))
theorem run_append_own_srcK {w1 : World} {tx : TypeId} {v : Value} {b m : Nat} {ys : List α} (hs : ckOwK P t e k b = true) (hO : OwnK k f w1 B e A c xs) (hS : Src P k tx v m (ys.flatMap f) w1) (hm : m = ys.length) (hl : (xs.length + ys.length) * b ≤ 140737488355328) (h63 : xs.length + ys.length ≤ maxLen) (hB : B ≤ w1.heap.size) (ty : TypeId) :
    ∃ A' c' w', (Builtin.append_ #[t, tx] ty #[.slice A xs.length c, v]).run P w1 = .ok (.slice A' (xs ++ ys).length c') w' ∧ OwnK k f w' B e A' c' (xs ++ ys) ∧ w1.grownBy w' (blk A) ∧ (∀ g, blk A' = some g → blk A = some g ∨ w1.heap.size ≤ g) := by
  obtain ⟨hu, i, z, hi, hz, hi1, hib, hz1⟩ := ckOwK_spec hs
  subst hib
  subst hm
  have h63' : ((xs.length + ys.length : Nat) : Int) ≤ 9223372036854775807 := by simp only [maxLen] at h63; omega
  have hf := hO.1
  have hfx := hf.flen xs
  have hfy := hf.flen ys
  have hge := grownCap_ge w1 (xs.length + ys.length) c e
  have hcm := grownCap_le_maxLen w1 (xs.length + ys.length) c e (by omega)
  have grow : c < xs.length + ys.length → ∃ A' c' w', (Builtin.append_ #[t, tx] ty #[.slice A xs.length c, v]).run P w1 = .ok (.slice A' (xs ++ ys).length c') w' ∧ OwnK k f w' B e A' c' (xs ++ ys) ∧ w1.grownBy w' (blk A) ∧ (∀ g, blk A' = some g → blk A = some g ∨ w1.heap.size ≤ g) := by
    intro hlt
    have hold : (Builtin.firstCells i.size xs.length (.slice A xs.length c)).run P w1.drew = .ok ((xs.flatMap f).toArray) w1.drew := by
      rw [hi1]
      rcases hO.2.2 with ⟨hv, hn⟩ | ⟨g, cap, cur, hv, hb, hg, hnc, hcm', hcs, htake⟩
      · simp only [Value.slice.injEq] at hv
        obtain ⟨rfl, _, rfl⟩ := hv
        have : xs = [] := List.eq_nil_of_length_eq_zero hn
        subst this
        exact run_firstCells_none w1.drew k 0 0 0
      · simp only [Value.slice.injEq] at hv
        obtain ⟨rfl, _, rfl⟩ := hv
        exact run_firstCells_some w1.drew k xs.length ⟨g, 0, none⟩ xs.length c (xs.flatMap f) hfx (fun j u hj => hO.2.cells (g := g) rfl j u hj)
    have hr := run_append_grow_src (P := P) w1 t tx ty e i z hu hi hz A xs.length c (xs.flatMap f) hold v ys.length (ys.flatMap f) (by rw [hi1]; exact hS) hlt h63' (growslice_fits hlt hl)
    refine ⟨_, _, _, by rw [hr, List.length_append], ⟨hf, ?_⟩, ?_, ?_⟩
    · refine ⟨hf.flen _, .inr ⟨w1.heap.size, _, _, by rw [List.length_append], hB, heap_alloc_new w1.drew _, by rw [List.length_append]; exact hge, hcm, ?_, ?_⟩⟩
      · have : (grownCap w1 (xs.length + ys.length) c e) * k = xs.length * k + ys.length * k + (grownCap w1 (xs.length + ys.length) c e - (xs.length + ys.length)) * k := by
          rw [← Nat.add_mul, ← Nat.add_mul]
          congr 1
          omega
        simp only [Array.size_append, List.size_toArray, List.length_append, size_zeroCells, hz1, hfx, hfy]
        omega
      · rw [hf.flen (xs ++ ys) |>.symm]
        simp only [Array.toList_append, List.flatMap_append]
        rw [List.take_left' (by simp)]
    · exact ⟨rfl, rfl, rfl, by simp, fun k hk _ => heap_alloc_old w1.drew _ hk⟩
    · intro g hg
      simp only [blk, Option.map_some, Option.some.injEq] at hg
      exact .inr (by omega)
  by_cases hroom : xs.length + ys.length ≤ c
  · rcases hO.2.2 with ⟨hv, hn⟩ | ⟨g, cap, cur, hv, hb, hg, hnc, hcm', hcs, htake⟩
    · simp only [Value.slice.injEq] at hv
      obtain ⟨rfl, _, rfl⟩ := hv
      have hx0 : xs = [] := List.eq_nil_of_length_eq_zero hn
      have hy0 : ys = [] := List.eq_nil_of_length_eq_zero (by omega)
      subst hx0; subst hy0
      refine ⟨none, 0, w1, ?_, OwnK.nil hf w1 B e, gr_refl _ _, fun g hg => by simp [blk] at hg⟩
      have := hS.cells
      rcases hS.kind with ⟨e', hk⟩ | hk <;> simp [Builtin.append_, run_underlying hu, run_underlying hk, sizeOf, typeInfo, hi, hi1, hS.len] <;> simp at this <;> simp [this]
    · simp only [Value.slice.injEq] at hv
      obtain ⟨rfl, _, rfl⟩ := hv
      have hB1 : Bl w1 g e cur.toList := hg
      have hcl : cur.toList.length = c * k := by simpa using hcs
      have hxk : xs.length * k + ys.length * k ≤ c * k := by rw [← Nat.add_mul]; exact Nat.mul_le_mul_right k hroom
      have hr := run_append_room_src (P := P) w1 t tx ty e i hu hi g 0 xs.length c v ys.length (ys.flatMap f) (by rw [hi1]; exact hS) hroom (fun j hj => by
        rw [hi1, hB1.cell]
        rw [List.getElem?_eq_getElem (by omega)]
        rfl) (fun j _ => hB1.frozen _)
      have hst := run_storeCells_at P g (xs.length * k) e (ys.flatMap f) 0 cur w1 hg (by simp at hcl; omega) hS.one
      have hst2 := run_storeCells_cells (P := P) g (xs.length * k) (ys.flatMap f) 0 w1 (fun j hj => by
        rw [hB1.cell]
        rw [List.getElem?_eq_getElem (by omega)]
        rfl) (fun j _ => hB1.frozen _) hS.one
      have hw : w1.setCells g (0 + xs.length * i.size) (ys.flatMap f) = w1.setRow g (List.take (xs.length * k + 0) cur.toList ++ ys.flatMap f ++ List.drop (xs.length * k + 0 + (ys.flatMap f).length) cur.toList).toArray := by
        rw [hst] at hst2
        injection hst2 with _ h2
        rw [hi1, Nat.zero_add]
        exact h2.symm
      rw [hw] at hr
      refine ⟨_, _, _, by rw [hr, List.length_append], ⟨hf, ?_⟩, ?_, fun g' hg' => .inl hg'⟩
      · refine ⟨hf.flen _, .inr ⟨g, c, _, by rw [List.length_append], hb, setRow_heap w1 g cur _ e _ hg, by rw [List.length_append]; exact hroom, hcm', ?_, ?_⟩⟩
        · simp only [List.size_toArray, List.length_append, List.length_take, List.length_drop, hcl, hfy]
          omega
        · rw [hf.flen (xs ++ ys) |>.symm]
          simp only [Nat.add_zero, htake, List.flatMap_append]
          rw [List.take_left' (by simp)]
      · exact ⟨rfl, rfl, rfl, by simp, fun k _ hk => setRow_other w1 g k _ (fun e => hk (by simp [blk, e]))⟩
  · exact grow (by omega)
theorem src_rdK {w1 : World} {A2 : Option Addr} {c2 : Nat} {ys : List α} {e' : TypeId} (hu : P.underlying t = some (.slice e')) (hR : RdK k f w1 A2 c2 ys) : Src P k t (.slice A2 ys.length c2) ys.length (ys.flatMap f) w1 := by
  by_cases hy : ys = []
  · subst hy
    cases A2 with
    | none => exact Src.ofNil w1 hu c2
    | some ad => exact Src.ofSlice w1 hu ad 0 c2 [] (by simp) (by simp) (by simp)
  · obtain ⟨g, o, rfl, hc⟩ := hR.cells hy
    exact Src.ofSlice w1 hu ⟨g, o, none⟩ ys.length c2 (ys.flatMap f) (hR.ok.flen ys) (fun p u hp => by
      obtain ⟨j, x, i, rfl, hx, hi⟩ := hR.ok.fidx ys p u hp
      rw [Addr.add_mid]
      exact hc j x i u hx hi) hR.ok.mem
theorem Eff.appendK {A2 : Option Addr} {c2 n2 : Nat} {ys : List α} {b : Nat} (hs : ckOwK P t e k b = true) (hO : OwnK k f w B e A c xs) (hx : opv L x = some (.slice A n c)) (hn : n = xs.length) (hR : RdK k f w A2 c2 ys) (hy : opv L y = some (.slice A2 n2 c2)) (hn2 : n2 = ys.length) (hl : (xs.length + ys.length) * b ≤ 140737488355328) (h63 : xs.length + ys.length ≤ maxLen) (hB : B ≤ w.heap.size) :
    Eff P N w ⟨some d, .call ⟨.builtin .append, ⟨[x, y]⟩, ⟨[t, t]⟩⟩, ty, pos, af, none⟩ L (fun v w' => ∃ A' c', v = .slice A' (xs ++ ys).length c' ∧ OwnK k f w' B e A' c' (xs ++ ys) ∧ w.grownBy w' (blk A) ∧ (∀ g, blk A' = some g → blk A = some g ∨ w.heap.size ≤ g)) := fun a w1 hw ha => by
    obtain ⟨hu, _⟩ := ckOwK_spec hs
    subst hn; subst hn2
    have hs1 : w1.heap.size = w.heap.size := by rw [hw.heap]
    obtain ⟨A', c', w', hr, h1, h2, h3⟩ := run_append_own_srcK (P := P) (ty := ty) hs (hO.eqv hw) (src_rdK hu (hR.eqv hw)) rfl hl h63 (by omega)
    refine ⟨_, w', ?_, A', c', rfl, h1, eqv_gr hw h2, fun g hg => by rw [← hs1]; exact h3 g hg⟩
    unfold execOp
    simp [resolve, invoke, builtin, ha.ev hx, ha.ev hy, hr]
theorem WL.appendK {A2 : Option Addr} {c2 n2 : Nat} {ys : List α} {b : Nat} (hd : Nat.blt d N = true) (hs : ckOwK P t e k b = true) (hO : OwnK k f w B e A c xs) (hx : opv L x = some (.slice A n c)) (hn : n = xs.length) (hR : RdK k f w A2 c2 ys) (hy : opv L y = some (.slice A2 n2 c2)) (hn2 : n2 = ys.length)
    (hl : (xs.length + ys.length) * b ≤ 140737488355328) (h63 : xs.length + ys.length ≤ maxLen) (hB : B ≤ w.heap.size)
    (hk : ∀ A' c' w', OwnK k f w' B e A' c' (xs ++ ys) → w.grownBy w' (blk A) → (∀ g, blk A' = some g → blk A = some g ∨ w.heap.size ≤ g) → WL P N ops Q rest ((d, .slice A' (xs ++ ys).length c') :: L) w') :
    WL P N ops Q (⟨some d, .call ⟨.builtin .append, ⟨[x, y]⟩, ⟨[t, t]⟩⟩, ty, pos, af, none⟩ :: rest) L w :=
  WL.put (R := fun v w' => ∃ A' c', v = .slice A' (xs ++ ys).length c' ∧ OwnK k f w' B e A' c' (xs ++ ys) ∧ w.grownBy w' (blk A) ∧ (∀ g, blk A' = some g → blk A = some g ∨ w.heap.size ≤ g)) hd (Eff.appendK hs hO hx hn hR hy hn2 hl h63 hB) (fun v w' ⟨A', c', hv, h1, h2, h3⟩ => by subst hv; exact hk A' c' w' h1 h2 h3)
end rules
/-- arrays of 32 bytes, by value -/
def a32 (x : List UInt8) : List Value := [vb (x.getD 0 0), vb (x.getD 1 0), vb (x.getD 2 0), vb (x.getD 3 0), vb (x.getD 4 0), vb (x.getD 5 0), vb (x.getD 6 0), vb (x.getD 7 0), vb (x.getD 8 0), vb (x.getD 9 0), vb (x.getD 10 0), vb (x.getD 11 0), vb (x.getD 12 0), vb (x.getD 13 0), vb (x.getD 14 0), vb (x.getD 15 0), vb (x.getD 16 0), vb (x.getD 17 0), vb (x.getD 18 0), vb (x.getD 19 0), vb (x.getD 20 0), vb (x.getD 21 0), vb (x.getD 22 0), vb (x.getD 23 0), vb (x.getD 24 0), vb (x.getD 25 0), vb (x.getD 26 0), vb (x.getD 27 0), vb (x.getD 28 0), vb (x.getD 29 0), vb (x.getD 30 0), vb (x.getD 31 0)]
theorem a32_range (x : List UInt8) : a32 x = (List.range 32).map fun i => vb (x.getD i 0) := rfl
theorem a32_get (x : List UInt8) (i : Nat) (h : i < 32) : (a32 x)[i]? = some (vb (x.getD i 0)) := by
  rw [a32_range]; simp [h]
theorem a32_len (x : List UInt8) : (a32 x).length = 32 := rfl
theorem a32_one (x : List UInt8) : ∀ u ∈ a32 x, u.oneCell' = true := fun u hu => by
  rw [a32_range] at hu
  obtain ⟨i, _, rfl⟩ := List.mem_map.1 hu
  rfl
theorem a32_map (x : List UInt8) (h : x.length = 32) : a32 x = x.map vb := by
  apply List.ext_getElem?
  intro i
  by_cases hi : i < 32
  · rw [a32_get x i hi]; simp [List.getD, h, hi]
  · rw [List.getElem?_eq_none (by rw [a32_len]; omega), List.getElem?_eq_none (by simp; omega)]
theorem a32_set (x : List UInt8) (i : Nat) (b : UInt8) (hx : x.length = 32) : (a32 x).set i (vb b) = a32 (x.set i b) := by
  rw [a32_map x hx, a32_map _ (by simp [hx]), List.map_set]
theorem lt32 {i : Int} (h : 0 ≤ i ∧ i < 32) : i.toNat < 32 := by omega
theorem a32_getO (x : List UInt8) (i : Nat) (h : i < 32) : (a32 x)[0 + i * 1]? = some (vb (x.getD i 0)) := by rw [Nat.zero_add, Nat.mul_one]; exact a32_get x i h
theorem a32_setO {x : List UInt8} {i : Nat} {b : UInt8} (hx : x.length = 32) : (a32 x).set (0 + i * 1) (vb b) = a32 (x.set i b) := by rw [Nat.zero_add, Nat.mul_one]; exact a32_set x i b hx
theorem a32_lt {x : List UInt8} {i : Nat} (h : i < 32) : 0 + i * 1 < (a32 x).length := by rw [a32_len]; omega
theorem a32_zero : List.replicate 32 (.int .u8 0) = a32 (List.replicate 32 0) := by rw [a32_map _ (by simp), List.map_replicate]; rfl
theorem all1a {ao bs : List Value} (h : ∀ u ∈ ao, u.oneCell' = true) (k : ∀ u ∈ bs, u.oneCell' = true) : ∀ u ∈ ao ++ bs, u.oneCell' = true := fun u hu => (List.mem_append.1 hu).elim (h u) (k u)
theorem a32_inj {x y : List UInt8} (hx : x.length = 32) (hy : y.length = 32) (h : a32 x = a32 y) : x = y := by
  rw [a32_map x hx, a32_map y hy] at h
  have : Function.Injective vb := fun p q hpq => by
    unfold vb at hpq
    injection hpq with _ h1
    exact UInt8.toNat_inj.1 (by omega)
  exact (List.map_inj_right this).1 h
/-! ## what yields, guarded; make, by an integer; what grew of p is new -/
section
variable {P : Program} {T : Tab} {N : Nat} {ops : Array Oper} {Q : Post} {L : Slots} {w : World} {rest : List Oper} {d : Nat} {ty : TypeId} {pos : String} {af : Array Edge} {t : TypeId} {x y : Operand} {k k' : IntKind} {α : Type} {f : α → Value} {B : Nat} {e : TypeId}
theorem WL.putw {op : Op} {gd : Option (Nat × Bool)} {R : Value → World → Prop} (hg : Wants N ops L gd) (hd : Nat.blt d N = true) (hr : Eff P N w ⟨some d, op, ty, pos, af, none⟩ L R)
    (hk : ∀ v w', R v w' → WL P N ops Q rest ((d, v) :: L) w') : WL P N ops Q (⟨some d, op, ty, pos, af, gd⟩ :: rest) L w := fun a w1 e ha =>
  wpList_step fun K hK => by
    rw [if_pos (Wants.wanted (o := ⟨some d, op, ty, pos, af, gd⟩) hg ha)]
    obtain ⟨v, w', h, hR⟩ := hr a w1 e ha
    have h' : (execOp a.eval ⟨some d, op, ty, pos, af, gd⟩).run P w1 = .ok (.value v) w' := h
    unfold Oper.wp
    rw [h']
    exact hK _ _ (hk v w' hR _ w' (Eqv.refl _) (ha.put hd v))
theorem Ge.app {p p' : Option Nat} {n m : Nat} (h : Ge p n) (k : ∀ g, p' = some g → p = some g ∨ m ≤ g) (hm : n ≤ m) : Ge p' n := fun g hg => (k g hg).elim (h g) (Nat.le_trans hm)
theorem Eff.makeZI {q : Int} {z : α} {b : Nat} (hT : T.Ok P) (hs : nk T.ow t = some (e, b)) (hz : zeroOf P e = some [f z]) (hx : opv L x = some (.int k q)) (hy : opv L y = some (.int k' q)) (h0 : 0 ≤ q) (hm : q * (b : Int) ≤ 140737488355328) (h63 : q ≤ 140737488355328) (hB : B ≤ w.heap.size) :
    Eff P N w ⟨some d, .makeSlice t x y, ty, pos, af, none⟩ L (fun v w' => v = .slice (some ⟨w.heap.size, 0, none⟩) q.toNat q.toNat ∧ Own f w' B e (some ⟨w.heap.size, 0, none⟩) q.toNat (List.replicate q.toNat z) ∧ w.grownBy w' none) := by
  have e1 : ((q.toNat : Nat) : Int) = q := Int.toNat_of_nonneg h0
  have e2 : q.toNat * b ≤ 140737488355328 := by
    have : ((q.toNat * b : Nat) : Int) ≤ 140737488355328 := by rw [Int.natCast_mul, e1]; exact hm
    omega
  exact Eff.makeZ hT hs hz (by rw [e1]; exact hx) (by rw [e1]; exact hy) e2 (by omega) hB
theorem Eff.makeCI {q : Int} {b : Nat} (hT : T.Ok P) (hs : nk T.ow t = some (e, b)) (hx : opv L x = some (.int k 0)) (hy : opv L y = some (.int k' q)) (h0 : 0 ≤ q) (hm : q * (b : Int) ≤ 140737488355328) (h63 : q ≤ 140737488355328) (hB : B ≤ w.heap.size) :
    Eff P N w ⟨some d, .makeSlice t x y, ty, pos, af, none⟩ L (fun v w' => v = .slice (some ⟨w.heap.size, 0, none⟩) 0 q.toNat ∧ Own f w' B e (some ⟨w.heap.size, 0, none⟩) q.toNat [] ∧ w.grownBy w' none) := fun a w1 hw ha => by
  obtain ⟨m, rfl⟩ := Int.eq_ofNat_of_zero_le h0
  have e2 : m * b ≤ 140737488355328 := by
    have : ((m * b : Nat) : Int) ≤ 140737488355328 := by rw [Int.natCast_mul]; exact hm
    omega
  simp only [Int.toNat_natCast]
  obtain ⟨hu, i, z0, hi, hz0, hi1, hib, hz1⟩ := hT.ow hs
  have hs1 : w1.heap.size = w.heap.size := by rw [hw.heap]
  obtain ⟨w', hr, hO, hg⟩ := run_make_own (P := P) w1 B t e i z0 1 hu hi hz0 hi1 k k' m (by rw [hib, Nat.mul_comm]; omega) (by simp only [maxLen]; omega) (by omega)
  refine ⟨_, w', ?_, by rw [← hs1], ?_, eqv_gr hw hg⟩
  · unfold execOp
    simp only [ha.ev hx, ha.ev hy, Sem.run_bind, hr, Result.andThen_ok, Sem.run_pure]
  · unfold Own
    rw [← hs1]
    simpa using hO
end
theorem Rd.take {α : Type} {f : α → Value} {w : World} {A : Option Addr} {c : Nat} {xs : List α} (h : Rd f w A c xs) (m : Nat) : Rd f w A c (xs.take m) :=
  ⟨by have := h.cap; simp; omega, h.max, fun hx => by
    obtain ⟨ad, e, hc⟩ := h.cells (fun e => hx (by rw [e]; simp))
    refine ⟨ad, e, fun j x hj => hc j x ?_⟩
    rw [List.getElem?_take] at hj
    split at hj
    · exact hj
    · cases hj⟩
theorem eqvL {a b c : World} (h : a = b) (e : Eqv b c) : Eqv a c := by rw [h]; exact e
/-! ## function values -/
section
variable {P : Program} {T : Tab} {N : Nat} {ops : Array Oper} {Q : Post} {L : Slots} {w : World} {rest : List Oper} {d : Nat} {ty : TypeId} {pos : String} {af : Array Edge}
end
end Go.Proofs.YtlonpmajnglmoaaDoor

 /- slices.Concat, Sort, Compact of texts; strings.Cut and Compare, in the generator's form. -/
namespace Go.Proofs.YtlonpmajnglmoaaDoor
open Go Go.RowKit
theorem enc_vs : encStr = vs := by funext l; rfl
def M_slices_Sort_string_string (xs : List (List UInt8)) (K : List (List UInt8) → Prop) : Prop := xs.length < 4611686018427387904 ∧ K (xs.mergeSort fun x y => decide (x ≤ y))
theorem W_slices_Sort_string_string {w : World} {xs : List (List UInt8)} {A : Option Addr} {c n B : Nat} {e : TypeId} {K : List (List UInt8) → Prop} (hO : Own vs w B e A c xs) (hn : n = xs.length) (H : M_slices_Sort_string_string xs K) :
    Fn Tryd.prog 98 ⟨[.slice A n c]⟩ w (fun v w' => ∃ ys : List (List UInt8), v = .tuple #[] ∧ Own vs w' B e A c ys ∧ w.grownBy w' (blk A) ∧ ys.length = xs.length ∧ K ys) := by
  subst hn
  refine ⟨by kernel_rfl, fun w1 e1 => ?_⟩
  have hO1 := own_eqv e1 hO
  rcases hO1.2 with ⟨hv, hn⟩ | ⟨g, cap, cur, hv, hb, hg, hnc, hcm, hcs, htake⟩
  · simp only [Value.slice.injEq] at hv
    obtain ⟨rfl, _, rfl⟩ := hv
    have : xs = [] := List.eq_nil_of_length_eq_zero hn
    subst this
    refine (Tryd.slices_Sort_string_none none 0 w1).mono fun _ w' ⟨he, hw⟩ => ⟨_, w, he, by rw [hw]; exact e1, [], rfl, hO, gr_refl _ _, rfl, ?_⟩
    simpa using H.2
  · simp only [Value.slice.injEq] at hv
    obtain ⟨rfl, _, rfl⟩ := hv
    refine (Tryd.slices_Sort_string g 0 c xs w1 (holds_of_block hg (by rw [enc_vs]; simpa using htake)) (Array.getElem?_eq_some_iff.1 hg).1 H.1).mono fun _ w' ⟨he, q, os, hw⟩ => ?_
    have hl : (xs.mergeSort fun x y => decide (x ≤ y)).length = xs.length := List.length_mergeSort xs
    have h1 := ownsRow_sorted (n := q) (os := os) hl hb hg hnc hcm hcs
    have h2 := grownBy_sorted (w := w1) (g := g) (n := q) (os := os) (xs.mergeSort fun x y => decide (x ≤ y)).toArray
    rw [← hw] at h1 h2
    refine ⟨_, w', he, Eqv.refl _, _, rfl, ?_, eqv_gr e1 h2, hl, H.2⟩
    unfold Own
    rw [hl, ← enc_vs]
    exact h1
end Go.Proofs.YtlonpmajnglmoaaDoor


 /- Printed by a program (wip/vg): what the functions mean, plainly, and their walks. -/
namespace Go.Proofs.YtlonpmajnglmoaaDoor
open Go Go.RowKit
attribute [local irreducible] WL WC WX WQ WK WJ Yld Eff Ef0 Fn
def M_path_letter (c : Int) (K : Bool → Prop) : Prop :=
 ((((((decide ((48 : Int) ≤ c)) && (decide (c ≤ (57 : Int)))) || ((decide ((65 : Int) ≤ c)) && (decide (c ≤ (90 : Int))))) || ((decide ((97 : Int) ≤ c)) && (decide (c ≤ (122 : Int))))) = true → K true) ∧
 (((((decide ((48 : Int) ≤ c)) && (decide (c ≤ (57 : Int)))) || ((decide ((65 : Int) ≤ c)) && (decide (c ≤ (90 : Int))))) || ((decide ((97 : Int) ≤ c)) && (decide (c ≤ (122 : Int))))) = false → M_strings_IndexByte ([33, 35, 37, 43, 44, 45, 46, 61, 64, 95, 126] : List UInt8) c (fun (t26 : Int) =>
 K (decide ((0 : Int) ≤ t26)))))

def M_path_dots (s : List UInt8) (K : Bool → Prop) : Prop :=
 K (((decide (s = ([] : List UInt8))) || (decide (s = ([46] : List UInt8)))) || (decide (s = ([46, 46] : List UInt8))))

def M_path_fair (s : List UInt8) (K : Bool → Prop) : Prop :=
 Lp1 (fun (t6 : Int) kont1 => ((t6 < (s.length : Int) → (0 ≤ t6 ∧ t6 < s.length) ∧
 M_path_letter ((s.getD t6.toNat 0).toNat : Int) (fun (t12 : Bool) =>
 (((!t12) = true → K false) ∧
 ((!t12) = false → (In .i64 (t6 + (1 : Int))) ∧
 kont1 (t6 + (1 : Int)))))) ∧
 (¬ (t6 < (s.length : Int)) → M_path_dots s (fun (t16 : Bool) =>
 K (!t16))))) (0 : Int)

def M_path_Valid (p : List UInt8) (K : Bool → Prop) : Prop :=
 (((200 : Int) < (p.length : Int) → K false) ∧
 (¬ ((200 : Int) < (p.length : Int)) → M_strings_Split p ([47] : List UInt8) (fun (t9 : List (List UInt8)) =>
 Lp1 (fun (t11 : Int) kont1 => ((t11 < (t9.length : Int) → (0 ≤ t11 ∧ t11 < (t9.length : Nat)) ∧
 M_path_fair (t9.getD t11.toNat []) (fun (t16 : Bool) =>
 (((!t16) = true → K false) ∧
 ((!t16) = false → (In .i64 (t11 + (1 : Int))) ∧
 kont1 (t11 + (1 : Int)))))) ∧
 (¬ (t11 < (t9.length : Int)) → K true))) (0 : Int))))

def M_smithyworld_Number (n : Int) (below : Int) (K : Int → Prop) : Prop :=
 (below ≠ 0) ∧
 (In .i64 ((n.tmod below) + below)) ∧
 (below ≠ 0) ∧
 K (((n.tmod below) + below).tmod below)

set_option maxHeartbeats 8000000 in
theorem W_path_letter {w : World} {c : Int} {K : Bool → Prop} (H : M_path_letter c K) : Fn Tryd.prog 126 ⟨[.int .u8 c]⟩ w (fun v w' => w = w' ∧ ∃ (r : Bool), v = .bool r ∧ K r) := by
  unfold M_path_letter at H
  refine Fn.enter (by kernel_rfl) Tryd.func126 rfl Tryd.ntmps126 rfl ?_
  refine WC.seq ?_
  refine WC.region ?_
  refine WL.y rfl (Yld.pure tab_ok rfl) ?_
  refine WL.nil (WX.then_normal ?_)
  refine WC.seq ?_
  refine WC.seq ?_
  refine WC.region ?_
  refine WL.y rfl (Yld.pure tab_ok rfl) ?_
  refine WL.y rfl (Yld.pure tab_ok rfl) ?_
  refine WL.y rfl (Yld.pure tab_ok rfl) ?_
  refine WL.midF 3 (fun L' w' => ∃ q1 : Bool, L' = [(8, .bool q1), (0, .int .u8 c)] ∧ ((decide ((48 : Int) ≤ c)) && (decide (c ≤ (57 : Int)))) = q1 ∧ w = w') ?_ (fun hQ => ?_)
  · rintro _ _ ⟨q1, rfl, rfl, rfl⟩
    refine WL.y rfl (Yld.pure tab_ok rfl) ?_
    refine WL.midF 7 (fun L' w' => ∃ q2 : Bool, L' = [(16, .bool q2), (0, .int .u8 c)] ∧ (((decide ((48 : Int) ≤ c)) && (decide (c ≤ (57 : Int)))) || ((decide ((65 : Int) ≤ c)) && (decide (c ≤ (90 : Int))))) = q2 ∧ w = w') ?_ (fun hQ => ?_)
    · rintro _ _ ⟨q2, rfl, rfl, rfl⟩
      refine WL.y rfl (Yld.pure tab_ok rfl) ?_
      refine WL.midF 7 (fun L' w' => ∃ q3 : Bool, L' = [(24, .bool q3), (0, .int .u8 c)] ∧ ((((decide ((48 : Int) ≤ c)) && (decide (c ≤ (57 : Int)))) || ((decide ((65 : Int) ≤ c)) && (decide (c ≤ (90 : Int))))) || ((decide ((97 : Int) ≤ c)) && (decide (c ≤ (122 : Int))))) = q3 ∧ w = w') ?_ (fun hQ => ?_)
      · rintro _ _ ⟨q3, rfl, rfl, rfl⟩
        refine WL.nil (WX.then_normal ?_)
        refine WC.cond rfl (fun b1 => ?_) (fun b1 => ?_)
        · replace H := H.1 (b1)
          refine WC.seq ?_
          refine WC.region ?_
          refine WL.y rfl (Yld.pure tab_ok rfl) ?_
          refine WL.nil (WX.then_normal ?_)
          refine WC.ret (WX.then_ret ?_)
          exact WX.ret1 rfl rfl ⟨rfl, true, rfl, H⟩
        · replace H := H.2 (b1)
          refine WC.skip (WX.then_normal ?_)
          refine WC.seq ?_
          refine WC.region ?_
          refine WL.y rfl (Yld.pure tab_ok rfl) ?_
          refine WL.call rfl rfl (W_strings_IndexByte H) ?_
          rintro _ _ ⟨rfl, t26, rfl, H⟩
          refine WL.y rfl (Yld.pure tab_ok rfl) ?_
          refine WL.y rfl (Yld.pure tab_ok rfl) ?_
          refine WL.nil (WX.then_normal ?_)
          refine WC.ret ?_
          exact WX.ret1 rfl rfl ⟨rfl, decide ((0 : Int) ≤ t26), rfl, H⟩
      · clear H
        rcases Bool.eq_false_or_eq_true (((decide ((48 : Int) ≤ c)) && (decide (c ≤ (57 : Int)))) || ((decide ((65 : Int) ≤ c)) && (decide (c ≤ (90 : Int))))) with b2 | b2
        · refine WL.gno rfl rfl (okb b2) rfl ?_
          refine WL.gno rfl rfl (okb b2) rfl ?_
          refine WL.gno rfl rfl (okb b2) rfl ?_
          refine WL.gun rfl rfl rfl rfl ?_
          refine WL.gun rfl rfl rfl rfl ?_
          refine WL.gno rfl rfl (okb b2) rfl ?_
          refine WL.y rfl (Yld.pickT (okb b2) rfl) ?_
          exact WL.weaken (by repeat (first | exact Sub.nil | refine Sub.cons rfl ?_)) (hQ _ _ ⟨true, rfl, by rw [b2] <;> rfl, rfl⟩)
        · refine WL.gyes rfl rfl (okb b2) rfl (Yld.pure tab_ok rfl) ?_
          refine WL.gyes rfl rfl (okb b2) rfl (Yld.pure tab_ok rfl) ?_
          refine WL.gyes rfl rfl (okb b2) rfl (Yld.pure tab_ok rfl) ?_
          rcases Bool.eq_false_or_eq_true (decide ((97 : Int) ≤ c)) with b3 | b3
          · refine WL.gyes rfl rfl (okb b3) rfl (Yld.pure tab_ok rfl) ?_
            refine WL.gyes rfl rfl (okb b3) rfl (Yld.pure tab_ok rfl) ?_
            refine WL.gyes rfl rfl (okb b2) rfl (Yld.pickT (okb b3) rfl) ?_
            refine WL.y rfl (Yld.pickF (okb b2) rfl) ?_
            exact WL.weaken (by repeat (first | exact Sub.nil | refine Sub.cons rfl ?_)) (hQ _ _ ⟨decide (c ≤ (122 : Int)), rfl, by rw [b2, b3] <;> rfl, rfl⟩)
          · refine WL.gno rfl rfl (okb b3) rfl ?_
            refine WL.gno rfl rfl (okb b3) rfl ?_
            refine WL.gyes rfl rfl (okb b2) rfl (Yld.pickF (okb b3) rfl) ?_
            refine WL.y rfl (Yld.pickF (okb b2) rfl) ?_
            exact WL.weaken (by repeat (first | exact Sub.nil | refine Sub.cons rfl ?_)) (hQ _ _ ⟨false, rfl, by rw [b2, b3] <;> rfl, rfl⟩)
    · clear H
      rcases Bool.eq_false_or_eq_true ((decide ((48 : Int) ≤ c)) && (decide (c ≤ (57 : Int)))) with b4 | b4
      · refine WL.gno rfl rfl (okb b4) rfl ?_
        refine WL.gno rfl rfl (okb b4) rfl ?_
        refine WL.gno rfl rfl (okb b4) rfl ?_
        refine WL.gun rfl rfl rfl rfl ?_
        refine WL.gun rfl rfl rfl rfl ?_
        refine WL.gno rfl rfl (okb b4) rfl ?_
        refine WL.y rfl (Yld.pickT (okb b4) rfl) ?_
        exact WL.weaken (by repeat (first | exact Sub.nil | refine Sub.cons rfl ?_)) (hQ _ _ ⟨true, rfl, by rw [b4] <;> rfl, rfl⟩)
      · refine WL.gyes rfl rfl (okb b4) rfl (Yld.pure tab_ok rfl) ?_
        refine WL.gyes rfl rfl (okb b4) rfl (Yld.pure tab_ok rfl) ?_
        refine WL.gyes rfl rfl (okb b4) rfl (Yld.pure tab_ok rfl) ?_
        rcases Bool.eq_false_or_eq_true (decide ((65 : Int) ≤ c)) with b5 | b5
        · refine WL.gyes rfl rfl (okb b5) rfl (Yld.pure tab_ok rfl) ?_
          refine WL.gyes rfl rfl (okb b5) rfl (Yld.pure tab_ok rfl) ?_
          refine WL.gyes rfl rfl (okb b4) rfl (Yld.pickT (okb b5) rfl) ?_
          refine WL.y rfl (Yld.pickF (okb b4) rfl) ?_
          exact WL.weaken (by repeat (first | exact Sub.nil | refine Sub.cons rfl ?_)) (hQ _ _ ⟨decide (c ≤ (90 : Int)), rfl, by rw [b4, b5] <;> rfl, rfl⟩)
        · refine WL.gno rfl rfl (okb b5) rfl ?_
          refine WL.gno rfl rfl (okb b5) rfl ?_
          refine WL.gyes rfl rfl (okb b4) rfl (Yld.pickF (okb b5) rfl) ?_
          refine WL.y rfl (Yld.pickF (okb b4) rfl) ?_
          exact WL.weaken (by repeat (first | exact Sub.nil | refine Sub.cons rfl ?_)) (hQ _ _ ⟨false, rfl, by rw [b4, b5] <;> rfl, rfl⟩)
  · clear H
    rcases Bool.eq_false_or_eq_true (decide ((48 : Int) ≤ c)) with b6 | b6
    · refine WL.gyes rfl rfl (okb b6) rfl (Yld.pure tab_ok rfl) ?_
      refine WL.gyes rfl rfl (okb b6) rfl (Yld.pure tab_ok rfl) ?_
      refine WL.y rfl (Yld.pickT (okb b6) rfl) ?_
      exact WL.weaken (by repeat (first | exact Sub.nil | refine Sub.cons rfl ?_)) (hQ _ _ ⟨decide (c ≤ (57 : Int)), rfl, by rw [b6] <;> rfl, rfl⟩)
    · refine WL.gno rfl rfl (okb b6) rfl ?_
      refine WL.gno rfl rfl (okb b6) rfl ?_
      refine WL.y rfl (Yld.pickF (okb b6) rfl) ?_
      exact WL.weaken (by repeat (first | exact Sub.nil | refine Sub.cons rfl ?_)) (hQ _ _ ⟨false, rfl, by rw [b6] <;> rfl, rfl⟩)

set_option maxHeartbeats 8000000 in
theorem W_path_dots {w : World} {s : List UInt8} {K : Bool → Prop} (H : M_path_dots s K) : Fn Tryd.prog 127 ⟨[vs s]⟩ w (fun v w' => w = w' ∧ ∃ (r : Bool), v = .bool r ∧ K r) := by
  unfold M_path_dots at H
  refine Fn.enter (by kernel_rfl) Tryd.func127 rfl Tryd.ntmps127 rfl ?_
  refine WC.seq ?_
  refine WC.region ?_
  refine WL.y rfl (Yld.pure tab_ok rfl) ?_
  refine WL.nil (WX.then_normal ?_)
  refine WC.seq ?_
  refine WC.region ?_
  refine WL.y rfl (Yld.pure tab_ok rfl) ?_
  refine WL.y rfl (Yld.pure tab_ok rfl) ?_
  refine WL.y rfl (Yld.pure tab_ok rfl) ?_
  refine WL.midF 3 (fun L' w' => ∃ q1 : Bool, L' = [(8, .bool q1), (0, vs s)] ∧ ((decide (s = ([] : List UInt8))) || (decide (s = ([46] : List UInt8)))) = q1 ∧ w = w') ?_ (fun hQ => ?_)
  · rintro _ _ ⟨q1, rfl, rfl, rfl⟩
    refine WL.y rfl (Yld.pure tab_ok rfl) ?_
    refine WL.midF 3 (fun L' w' => ∃ q2 : Bool, L' = [(12, .bool q2)] ∧ (((decide (s = ([] : List UInt8))) || (decide (s = ([46] : List UInt8)))) || (decide (s = ([46, 46] : List UInt8)))) = q2 ∧ w = w') ?_ (fun hQ => ?_)
    · rintro _ _ ⟨q2, rfl, rfl, rfl⟩
      refine WL.y rfl (Yld.pure tab_ok rfl) ?_
      refine WL.nil (WX.then_normal ?_)
      refine WC.ret ?_
      exact WX.ret1 rfl rfl ⟨rfl, ((decide (s = ([] : List UInt8))) || (decide (s = ([46] : List UInt8)))) || (decide (s = ([46, 46] : List UInt8))), rfl, H⟩
    · clear H
      rcases Bool.eq_false_or_eq_true ((decide (s = ([] : List UInt8))) || (decide (s = ([46] : List UInt8)))) with b1 | b1
      · refine WL.gno rfl rfl (okb b1) rfl ?_
        refine WL.gno rfl rfl (okb b1) rfl ?_
        refine WL.y rfl (Yld.pickT (okb b1) rfl) ?_
        exact WL.weaken (by repeat (first | exact Sub.nil | refine Sub.cons rfl ?_)) (hQ _ _ ⟨true, rfl, by rw [b1] <;> rfl, rfl⟩)
      · refine WL.gyes rfl rfl (okb b1) rfl (Yld.pure tab_ok rfl) ?_
        refine WL.gyes rfl rfl (okb b1) rfl (Yld.pure tab_ok rfl) ?_
        refine WL.y rfl (Yld.pickF (okb b1) rfl) ?_
        exact WL.weaken (by repeat (first | exact Sub.nil | refine Sub.cons rfl ?_)) (hQ _ _ ⟨decide (s = ([46, 46] : List UInt8)), rfl, by rw [b1] <;> rfl, rfl⟩)
  · clear H
    rcases Bool.eq_false_or_eq_true (decide (s = ([] : List UInt8))) with b2 | b2
    · refine WL.gno rfl rfl (okb b2) rfl ?_
      refine WL.gno rfl rfl (okb b2) rfl ?_
      refine WL.y rfl (Yld.pickT (okb b2) rfl) ?_
      exact WL.weaken (by repeat (first | exact Sub.nil | refine Sub.cons rfl ?_)) (hQ _ _ ⟨true, rfl, by rw [b2] <;> rfl, rfl⟩)
    · refine WL.gyes rfl rfl (okb b2) rfl (Yld.pure tab_ok rfl) ?_
      refine WL.gyes rfl rfl (okb b2) rfl (Yld.pure tab_ok rfl) ?_
      refine WL.y rfl (Yld.pickF (okb b2) rfl) ?_
      exact WL.weaken (by repeat (first | exact Sub.nil | refine Sub.cons rfl ?_)) (hQ _ _ ⟨decide (s = ([46] : List UInt8)), rfl, by rw [b2] <;> rfl, rfl⟩)

set_option maxHeartbeats 8000000 in
theorem W_path_fair {w : World} {s : List UInt8} {K : Bool → Prop} (H : M_path_fair s K) : Fn Tryd.prog 102 ⟨[vs s]⟩ w (fun v w' => w = w' ∧ ∃ (r : Bool), v = .bool r ∧ K r) := by
  unfold M_path_fair at H
  refine Fn.enter (by kernel_rfl) Tryd.func102 rfl Tryd.ntmps102 rfl ?_
  refine WC.seq ?_
  refine WC.region ?_
  refine WL.y rfl (Yld.pure tab_ok rfl) ?_
  refine WL.nil (WX.then_normal ?_)
  refine WC.seq ?_
  refine WC.seq ?_
  refine WC.region ?_
  refine WL.y rfl (Yld.pure tab_ok rfl) ?_
  refine WL.y rfl (Yld.pure tab_ok rfl) ?_
  refine WL.y rfl (Yld.pure tab_ok rfl) ?_
  refine WL.nil (WX.then_normal ?_)
  refine WC.block ?_
  obtain ⟨I1, mu1, h0_1, HR1⟩ := H
  refine WC.loopF (fun n' L' w' => ∃ (t6 : Int), n' = mu1 t6 ∧ L' = [(0, vs s), (5, .int .i64 (s.length : Int)), (6, .int .i64 t6)] ∧ I1 t6 ∧ w = w') _ _ ⟨(0 : Int), rfl, rfl, h0_1, rfl⟩ (by repeat (first | exact Sub.nil | refine Sub.cons rfl ?_)) ?_
  clear h0_1
  rintro _ _ _ ⟨t6, rfl, rfl, hI1, rfl⟩
  have H := HR1 t6 hI1
  refine WC.seq ?_
  refine WC.region ?_
  refine WL.y rfl (Yld.pure tab_ok rfl) ?_
  refine WL.nil (WX.then_normal ?_)
  refine WC.seq ?_
  refine WC.cond rfl (fun b1 => ?_) (fun b1 => ?_)
  · replace H := H.1 (of_decide_eq_true b1)
    refine WC.skip (WX.then_normal ?_)
    refine WC.seq ?_
    refine WC.block ?_
    refine WC.seq ?_
    refine WC.region ?_
    refine WL.y rfl (Yld.pure tab_ok rfl) ?_
    refine WL.y rfl (Yld.pure tab_ok rfl) ?_
    refine WL.nil (WX.then_normal ?_)
    refine WC.seq ?_
    refine WC.region ?_
    refine WL.y rfl (Yld.pure tab_ok rfl) ?_
    refine WL.y rfl (Yld.pure tab_ok rfl) ?_
    obtain ⟨h1, H⟩ := H
    refine WL.y rfl (Yld.sidx tab_ok rfl rfl rfl h1.1 h1.2) ?_
    refine WL.call rfl rfl (W_path_letter H) ?_
    rintro _ _ ⟨rfl, t12, rfl, H⟩
    refine WL.y rfl (Yld.pure tab_ok rfl) ?_
    refine WL.nil (WX.then_normal ?_)
    refine WC.cond rfl (fun b2 => ?_) (fun b2 => ?_)
    · replace H := H.1 (b2)
      refine WC.seq ?_
      refine WC.region ?_
      refine WL.y rfl (Yld.pure tab_ok rfl) ?_
      refine WL.nil (WX.then_normal ?_)
      refine WC.ret (WX.block_ret (WX.then_ret (WX.then_ret (WX.block_ret (WX.then_ret ?_)))))
      exact WX.ret1 rfl rfl ⟨rfl, false, rfl, H⟩
    · replace H := H.2 (b2)
      refine WC.skip (WX.block_normal (WX.then_normal ?_))
      refine WC.region ?_
      obtain ⟨h2, H⟩ := H
      refine WL.y rfl (Yld.add rfl rfl h2) ?_
      refine WL.y rfl (Yld.pure tab_ok rfl) ?_
      refine WL.nil ?_
      exact WX.roundF _ ⟨t6 + (1 : Int), rfl, rfl, H.1, rfl⟩ (by repeat (first | exact Sub.nil | refine Sub.cons rfl ?_)) H.2
  · replace H := H.2 (of_decide_eq_false b1)
    refine WC.exit (WX.then_exit (WX.then_exit (WX.block_same (WX.then_normal ?_))))
    refine WC.seq ?_
    refine WC.region ?_
    refine WL.y rfl (Yld.pure tab_ok rfl) ?_
    refine WL.call rfl rfl (W_path_dots H) ?_
    rintro _ _ ⟨rfl, t16, rfl, H⟩
    refine WL.y rfl (Yld.pure tab_ok rfl) ?_
    refine WL.y rfl (Yld.pure tab_ok rfl) ?_
    refine WL.nil (WX.then_normal ?_)
    refine WC.ret ?_
    exact WX.ret1 rfl rfl ⟨rfl, !t16, rfl, H⟩

set_option maxHeartbeats 8000000 in
theorem W_path_Valid {S : List Nat} {w : World} {p : List UInt8} {K : Bool → Prop} (hG : GOK S w) (hS100 : 100 ∈ S) (H : M_path_Valid p K) : Fn Tryd.prog 61 ⟨[vs p]⟩ w (fun v w' => w.grownBy w' none ∧ ∃ (r : Bool), v = .bool r ∧ K r) := by
  unfold M_path_Valid at H
  refine Fn.enter (by kernel_rfl) Tryd.func61 rfl Tryd.ntmps61 rfl ?_
  refine WC.seq ?_
  refine WC.region ?_
  refine WL.y rfl (Yld.pure tab_ok rfl) ?_
  refine WL.nil (WX.then_normal ?_)
  refine WC.seq ?_
  refine WC.seq ?_
  refine WC.region ?_
  refine WL.y rfl (Yld.pure tab_ok rfl) ?_
  refine WL.y rfl (Yld.pure tab_ok rfl) ?_
  refine WL.y rfl (Yld.pure tab_ok rfl) ?_
  refine WL.nil (WX.then_normal ?_)
  refine WC.cond rfl (fun b1 => ?_) (fun b1 => ?_)
  · replace H := H.1 (of_decide_eq_true b1)
    refine WC.seq ?_
    refine WC.region ?_
    refine WL.y rfl (Yld.pure tab_ok rfl) ?_
    refine WL.nil (WX.then_normal ?_)
    refine WC.ret (WX.then_ret ?_)
    exact WX.ret1 rfl rfl ⟨(gr_refl _ _), false, rfl, H⟩
  · replace H := H.2 (of_decide_eq_false b1)
    refine WC.skip (WX.then_normal ?_)
    refine WC.seq ?_
    refine WC.seq ?_
    refine WC.region ?_
    refine WL.y rfl (Yld.pure tab_ok rfl) ?_
    refine WL.call rfl rfl (W_strings_Split hG hS100 H) ?_
    rintro _ w1 ⟨hg1, t9, A_t9, c_t9, rfl, ht9, H⟩
    have hb1 := ht9.ge'
    have k1 := ht9.base (fun g hg => Nat.le_trans (Nat.le_refl _) (hb1 g hg))
    have gr1 := hg1
    refine WL.y rfl (Yld.pure tab_ok rfl) ?_
    refine WL.y rfl (Yld.pure tab_ok rfl) ?_
    refine WL.nil (WX.then_normal ?_)
    refine WC.block ?_
    obtain ⟨I1, mu1, h0_1, HR1⟩ := H
    refine WC.loopF (fun n' L' w' => ∃ (t11 : Int), n' = mu1 t11 ∧ L' = [(9, .slice A_t9 t9.length c_t9), (10, .int .i64 (t9.length : Int)), (11, .int .i64 t11)] ∧ I1 t11 ∧ w1 = w') _ _ ⟨(0 : Int), rfl, rfl, h0_1, rfl⟩ (by repeat (first | exact Sub.nil | refine Sub.cons rfl ?_)) ?_
    clear h0_1
    rintro _ _ _ ⟨t11, rfl, rfl, hI1, rfl⟩
    have H := HR1 t11 hI1
    refine WC.seq ?_
    refine WC.region ?_
    refine WL.y rfl (Yld.pure tab_ok rfl) ?_
    refine WL.nil (WX.then_normal ?_)
    refine WC.seq ?_
    refine WC.cond rfl (fun b2 => ?_) (fun b2 => ?_)
    · replace H := H.1 (of_decide_eq_true b2)
      refine WC.skip (WX.then_normal ?_)
      refine WC.seq ?_
      refine WC.block ?_
      refine WC.seq ?_
      refine WC.region ?_
      obtain ⟨h1, H⟩ := H
      refine WL.y rfl (Yld.iaddrW tab_ok k1.rd rfl rfl rfl rfl h1.1 h1.2) ?_
      refine WL.y rfl (Yld.iload [] tab_ok k1.rd rfl rfl (iltN h1 rfl)) ?_
      refine WL.y rfl (Yld.pure tab_ok rfl) ?_
      refine WL.nil (WX.then_normal ?_)
      refine WC.seq ?_
      refine WC.region ?_
      refine WL.y rfl (Yld.pure tab_ok rfl) ?_
      refine WL.call rfl rfl (W_path_fair H) ?_
      rintro _ _ ⟨rfl, t16, rfl, H⟩
      refine WL.y rfl (Yld.pure tab_ok rfl) ?_
      refine WL.nil (WX.then_normal ?_)
      refine WC.cond rfl (fun b3 => ?_) (fun b3 => ?_)
      · replace H := H.1 (b3)
        refine WC.seq ?_
        refine WC.region ?_
        refine WL.y rfl (Yld.pure tab_ok rfl) ?_
        refine WL.nil (WX.then_normal ?_)
        refine WC.ret (WX.block_ret (WX.then_ret (WX.then_ret (WX.block_ret (WX.then_ret ?_)))))
        exact WX.ret1 rfl rfl ⟨gr1, false, rfl, H⟩
      · replace H := H.2 (b3)
        refine WC.skip (WX.block_normal (WX.then_normal ?_))
        refine WC.region ?_
        obtain ⟨h2, H⟩ := H
        refine WL.y rfl (Yld.add rfl rfl h2) ?_
        refine WL.y rfl (Yld.pure tab_ok rfl) ?_
        refine WL.nil ?_
        exact WX.roundF _ ⟨t11 + (1 : Int), rfl, rfl, H.1, rfl⟩ (by repeat (first | exact Sub.nil | refine Sub.cons rfl ?_)) H.2
    · replace H := H.2 (of_decide_eq_false b2)
      refine WC.exit (WX.then_exit (WX.then_exit (WX.block_same (WX.then_normal ?_))))
      refine WC.seq ?_
      refine WC.region ?_
      refine WL.y rfl (Yld.pure tab_ok rfl) ?_
      refine WL.nil (WX.then_normal ?_)
      refine WC.ret ?_
      exact WX.ret1 rfl rfl ⟨gr1, true, rfl, H⟩

set_option maxHeartbeats 8000000 in
theorem W_smithyworld_Number {w : World} {n : Int} {below : Int} {K : Int → Prop} (H : M_smithyworld_Number n below K) : Fn Tryd.prog 20 ⟨[.int .i64 n, .int .i64 below]⟩ w (fun v w' => w = w' ∧ ∃ (r : Int), v = .int .i64 r ∧ K r) := by
  unfold M_smithyworld_Number at H
  refine Fn.enter (by kernel_rfl) Tryd.func20 rfl Tryd.ntmps20 rfl ?_
  refine WC.seq ?_
  refine WC.region ?_
  refine WL.y rfl (Yld.pure tab_ok rfl) ?_
  refine WL.nil (WX.then_normal ?_)
  refine WC.seq ?_
  refine WC.region ?_
  refine WL.y rfl (Yld.pure tab_ok rfl) ?_
  refine WL.y rfl (Yld.pure tab_ok rfl) ?_
  obtain ⟨h1, H⟩ := H
  refine WL.y rfl (Yld.rem' rfl rfl h1) ?_
  refine WL.y rfl (Yld.pure tab_ok rfl) ?_
  obtain ⟨h2, H⟩ := H
  refine WL.y rfl (Yld.add rfl rfl h2) ?_
  refine WL.y rfl (Yld.pure tab_ok rfl) ?_
  obtain ⟨h3, H⟩ := H
  refine WL.y rfl (Yld.rem' rfl rfl h3) ?_
  refine WL.y rfl (Yld.pure tab_ok rfl) ?_
  refine WL.nil (WX.then_normal ?_)
  refine WC.ret ?_
  exact WX.ret1 rfl rfl ⟨rfl, ((n.tmod below) + below).tmod below, rfl, H⟩

end Go.Proofs.YtlonpmajnglmoaaDoor

 namespace Go.Proofs.YtlonpmajnglmoaaDoor
open Go Go.RowKit
attribute [local irreducible] WL WC WX WQ Yld Fn
theorem u64_and31 (k : Int) : bits BinOp.and IntKind.u64 (IntKind.u64.wrap k) 31 = k % 32 := by
  show IntKind.u64.wrap ((BitVec.ofInt 64 (IntKind.u64.wrap k) &&& BitVec.ofInt 64 31).toNat : Int) = _
  rw [BitVec.toNat_and]
  have e : (BitVec.ofInt 64 31).toNat = 2^5 - 1 := by decide
  rw [e, Nat.and_two_pow_sub_one_eq_mod, BitVec.toNat_ofInt, IntKind.wrap_u64, IntKind.wrap_u64]
  omega
/-- a word turned left, as_ the program reckons it -/
def rotl (x k : Int) : Int := bits .or .u32 (shlV .u32 x (k % 32).toNat) (shrV .u32 x (32 - k % 32).toNat)
theorem rot_fn (x k : Int) (w : World) : Fn Tryd.prog 200 ⟨[vu x, vi k]⟩ w fun v w' => v = vu (rotl x k) ∧ w' = w := by
  have hs := u64_and31 k
  refine Fn.enter (by kernel_rfl) Tryd.func200 rfl Tryd.ntmps200 rfl ?_
  repeat (first | refine WC.seq ?_ | refine WC.block ?_ | refine WC.region ?_ | refine WL.nil ?_ | refine WX.then_normal ?_ | refine WC.skip ?_ | refine WC.exit ?_ | refine WC.ret ?_ | refine WX.then_exit ?_ | refine WX.then_ret ?_ | refine WX.block_normal ?_ | refine WX.block_ret ?_ | refine WX.block_same ?_ | refine WX.block_other rfl ?_ | refine WC.label ?_ | refine WC.scope ?_ | refine WX.scope_normal ?_ | refine WX.scope_ret ?_ | refine WX.scope_exit ?_ | refine WL.y rfl (Yld.add rfl rfl (by simp only [In]; omega)) ?_ | refine WL.y rfl (Yld.sub rfl rfl (by simp only [In]; omega)) ?_ | refine WL.y rfl (Yld.mul rfl rfl (by simp only [In]; omega)) ?_ | refine WL.y rfl (Yld.convB tab_ok rfl rfl rfl rfl) ?_ | refine WL.y rfl (Yld.conv tab_ok rfl rfl rfl (by simp only [In]; omega)) ?_ | refine WL.y rfl (Yld.quo rfl rfl (by omega) (by omega) (by simp only [In]; omega)) ?_ | refine WL.y rfl (Yld.rem rfl rfl (by omega) (by omega)) ?_ | refine WL.y rfl (Yld.shl rfl rfl (by omega)) ?_ | refine WL.y rfl (Yld.shr rfl rfl (by omega)) ?_ | refine WL.y rfl (Yld.pure tab_ok rfl) ?_)
  rw [hs]
  repeat (first | refine WC.seq ?_ | refine WC.block ?_ | refine WC.region ?_ | refine WL.nil ?_ | refine WX.then_normal ?_ | refine WC.skip ?_ | refine WC.exit ?_ | refine WC.ret ?_ | refine WX.then_exit ?_ | refine WX.then_ret ?_ | refine WX.block_normal ?_ | refine WX.block_ret ?_ | refine WX.block_same ?_ | refine WX.block_other rfl ?_ | refine WC.label ?_ | refine WC.scope ?_ | refine WX.scope_normal ?_ | refine WX.scope_ret ?_ | refine WX.scope_exit ?_ | refine WL.y rfl (Yld.add rfl rfl (by simp only [In]; omega)) ?_ | refine WL.y rfl (Yld.sub rfl rfl (by simp only [In]; omega)) ?_ | refine WL.y rfl (Yld.mul rfl rfl (by simp only [In]; omega)) ?_ | refine WL.y rfl (Yld.convB tab_ok rfl rfl rfl rfl) ?_ | refine WL.y rfl (Yld.conv tab_ok rfl rfl rfl (by simp only [In]; omega)) ?_ | refine WL.y rfl (Yld.quo rfl rfl (by omega) (by omega) (by simp only [In]; omega)) ?_ | refine WL.y rfl (Yld.rem rfl rfl (by omega) (by omega)) ?_ | refine WL.y rfl (Yld.shl rfl rfl (by omega)) ?_ | refine WL.y rfl (Yld.shr rfl rfl (by omega)) ?_ | refine WL.y rfl (Yld.pure tab_ok rfl) ?_)
  exact WX.ret1 rfl rfl ⟨rfl, rfl⟩
/-- a word turned right -/
def rotr (x n : Int) : Int := rotl x (0 - n)
theorem right_fn (x n : Int) (w : World) (h0 : 0 ≤ n) (h1 : n ≤ 32) : Fn Tryd.prog 183 ⟨[vu x, vi n]⟩ w fun v w' => v = vu (rotr x n) ∧ w' = w := by
  have hs : IntKind.i64.wrap (0 - n) = 0 - n := In.wrap (by simp only [In]; omega)
  refine Fn.enter (by kernel_rfl) Tryd.func183 rfl Tryd.ntmps183 rfl ?_
  repeat (first | refine WC.seq ?_ | refine WC.block ?_ | refine WC.region ?_ | refine WL.nil ?_ | refine WX.then_normal ?_ | refine WC.skip ?_ | refine WC.exit ?_ | refine WC.ret ?_ | refine WX.then_exit ?_ | refine WX.then_ret ?_ | refine WX.block_normal ?_ | refine WX.block_ret ?_ | refine WX.block_same ?_ | refine WX.block_other rfl ?_ | refine WC.label ?_ | refine WC.scope ?_ | refine WX.scope_normal ?_ | refine WX.scope_ret ?_ | refine WX.scope_exit ?_ | refine WL.y rfl (Yld.add rfl rfl (by simp only [In]; omega)) ?_ | refine WL.y rfl (Yld.sub rfl rfl (by simp only [In]; omega)) ?_ | refine WL.y rfl (Yld.mul rfl rfl (by simp only [In]; omega)) ?_ | refine WL.y rfl (Yld.convB tab_ok rfl rfl rfl rfl) ?_ | refine WL.y rfl (Yld.conv tab_ok rfl rfl rfl (by simp only [In]; omega)) ?_ | refine WL.y rfl (Yld.quo rfl rfl (by omega) (by omega) (by simp only [In]; omega)) ?_ | refine WL.y rfl (Yld.rem rfl rfl (by omega) (by omega)) ?_ | refine WL.y rfl (Yld.shl rfl rfl (by omega)) ?_ | refine WL.y rfl (Yld.shr rfl rfl (by omega)) ?_ | refine WL.y rfl (Yld.pure tab_ok rfl) ?_)
  rw [hs]
  refine WL.call rfl rfl (rot_fn x (0 - n) w) ?_
  rintro v w' ⟨rfl, rfl⟩
  repeat (first | refine WC.seq ?_ | refine WC.block ?_ | refine WC.region ?_ | refine WL.nil ?_ | refine WX.then_normal ?_ | refine WC.skip ?_ | refine WC.exit ?_ | refine WC.ret ?_ | refine WX.then_exit ?_ | refine WX.then_ret ?_ | refine WX.block_normal ?_ | refine WX.block_ret ?_ | refine WX.block_same ?_ | refine WX.block_other rfl ?_ | refine WC.label ?_ | refine WC.scope ?_ | refine WX.scope_normal ?_ | refine WX.scope_ret ?_ | refine WX.scope_exit ?_ | refine WL.y rfl (Yld.add rfl rfl (by simp only [In]; omega)) ?_ | refine WL.y rfl (Yld.sub rfl rfl (by simp only [In]; omega)) ?_ | refine WL.y rfl (Yld.mul rfl rfl (by simp only [In]; omega)) ?_ | refine WL.y rfl (Yld.convB tab_ok rfl rfl rfl rfl) ?_ | refine WL.y rfl (Yld.conv tab_ok rfl rfl rfl (by simp only [In]; omega)) ?_ | refine WL.y rfl (Yld.quo rfl rfl (by omega) (by omega) (by simp only [In]; omega)) ?_ | refine WL.y rfl (Yld.rem rfl rfl (by omega) (by omega)) ?_ | refine WL.y rfl (Yld.shl rfl rfl (by omega)) ?_ | refine WL.y rfl (Yld.shr rfl rfl (by omega)) ?_ | refine WL.y rfl (Yld.pure tab_ok rfl) ?_)
  exact WX.ret1 rfl rfl ⟨rfl, rfl⟩
end Go.Proofs.YtlonpmajnglmoaaDoor

 namespace Go.Proofs.YtlonpmajnglmoaaDoor
open Go Go.RowKit
attribute [local irreducible] WL WC WX WQ Yld Fn

def ktab : List Int := [0x428a2f98, 0x71374491, 0xb5c0fbcf, 0xe9b5dba5, 0x3956c25b, 0x59f111f1, 0x923f82a4, 0xab1c5ed5,
  0xd807aa98, 0x12835b01, 0x243185be, 0x550c7dc3, 0x72be5d74, 0x80deb1fe, 0x9bdc06a7, 0xc19bf174,
  0xe49b69c1, 0xefbe4786, 0x0fc19dc6, 0x240ca1cc, 0x2de92c6f, 0x4a7484aa, 0x5cb0a9dc, 0x76f988da,
  0x983e5152, 0xa831c66d, 0xb00327c8, 0xbf597fc7, 0xc6e00bf3, 0xd5a79147, 0x06ca6351, 0x14292967,
  0x27b70a85, 0x2e1b2138, 0x4d2c6dfc, 0x53380d13, 0x650a7354, 0x766a0abb, 0x81c2c92e, 0x92722c85,
  0xa2bfe8a1, 0xa81a664b, 0xc24b8b70, 0xc76c51a3, 0xd192e819, 0xd6990624, 0xf40e3585, 0x106aa070,
  0x19a4c116, 0x1e376c08, 0x2748774c, 0x34b0bcb5, 0x391c0cb3, 0x4ed8aa4a, 0x5b9cca4f, 0x682e6ff3,
  0x748f82ee, 0x78a5636f, 0x84c87814, 0x8cc70208, 0x90befffa, 0xa4506ceb, 0xbef9a3f7, 0xc67178f2]
theorem oneM {α : Type} {f : α → Value} (hf : One f) (xs : List α) : ∀ u ∈ xs.map f, u.oneCell' = true := fun u hu => by
  obtain ⟨a, _, rfl⟩ := List.mem_map.1 hu
  exact hf a
theorem table_fn (w : World) : Fn Tryd.prog 182 ⟨[]⟩ w fun v w' => v = .agg ⟨ktab.map vu⟩ ∧ w.grownBy w' none := by
  refine Fn.enter (by kernel_rfl) Tryd.func182 rfl Tryd.ntmps182 rfl ?_
  repeat (first | refine WC.seq ?_ | refine WC.block ?_ | refine WC.region ?_ | refine WL.nil ?_ | refine WX.then_normal ?_ | refine WC.skip ?_ | refine WC.exit ?_ | refine WC.ret ?_ | refine WX.then_exit ?_ | refine WX.then_ret ?_ | refine WX.block_normal ?_ | refine WX.block_ret ?_ | refine WX.block_same ?_ | refine WX.block_other rfl ?_ | refine WC.label ?_ | refine WC.scope ?_ | refine WX.scope_normal ?_ | refine WX.scope_ret ?_ | refine WX.scope_exit ?_ | refine WL.y rfl (Yld.add rfl rfl (by simp only [In]; omega)) ?_ | refine WL.y rfl (Yld.sub rfl rfl (by simp only [In]; omega)) ?_ | refine WL.y rfl (Yld.mul rfl rfl (by simp only [In]; omega)) ?_ | refine WL.y rfl (Yld.convB tab_ok rfl rfl rfl rfl) ?_ | refine WL.y rfl (Yld.conv tab_ok rfl rfl rfl (by simp only [In]; omega)) ?_ | refine WL.y rfl (Yld.quo rfl rfl (by omega) (by omega) (by simp only [In]; omega)) ?_ | refine WL.y rfl (Yld.rem rfl rfl (by omega) (by omega)) ?_ | refine WL.y rfl (Yld.shl rfl rfl (by omega)) ?_ | refine WL.y rfl (Yld.shr rfl rfl (by omega)) ?_ | refine WL.y rfl (Yld.pure tab_ok rfl) ?_)
  refine WL.alloc rfl zero239 (fun g w1 hB hg _ => ?_)
  repeat (first | refine WC.seq ?_ | refine WC.block ?_ | refine WC.region ?_ | refine WL.nil ?_ | refine WX.then_normal ?_ | refine WC.skip ?_ | refine WC.exit ?_ | refine WC.ret ?_ | refine WX.then_exit ?_ | refine WX.then_ret ?_ | refine WX.block_normal ?_ | refine WX.block_ret ?_ | refine WX.block_same ?_ | refine WX.block_other rfl ?_ | refine WC.label ?_ | refine WC.scope ?_ | refine WX.scope_normal ?_ | refine WX.scope_ret ?_ | refine WX.scope_exit ?_ | refine WL.y rfl (Yld.add rfl rfl (by simp only [In]; omega)) ?_ | refine WL.y rfl (Yld.sub rfl rfl (by simp only [In]; omega)) ?_ | refine WL.y rfl (Yld.mul rfl rfl (by simp only [In]; omega)) ?_ | refine WL.y rfl (Yld.convB tab_ok rfl rfl rfl rfl) ?_ | refine WL.y rfl (Yld.conv tab_ok rfl rfl rfl (by simp only [In]; omega)) ?_ | refine WL.y rfl (Yld.quo rfl rfl (by omega) (by omega) (by simp only [In]; omega)) ?_ | refine WL.y rfl (Yld.rem rfl rfl (by omega) (by omega)) ?_ | refine WL.y rfl (Yld.shl rfl rfl (by omega)) ?_ | refine WL.y rfl (Yld.shr rfl rfl (by omega)) ?_ | refine WL.y rfl (Yld.pure tab_ok rfl) ?_)
  refine WL.y rfl (Yld.arr (us := ktab.map vu) tab_ok rfl zero239 rfl rfl (oneM One.u _) rfl) ?_
  refine WL.storeW tab_ok rfl rfl rfl (oneM One.u _) hB rfl rfl (fun w2 hB2 hg2 => ?_)
  repeat (first | refine WC.seq ?_ | refine WC.block ?_ | refine WC.region ?_ | refine WL.nil ?_ | refine WX.then_normal ?_ | refine WC.skip ?_ | refine WC.exit ?_ | refine WC.ret ?_ | refine WX.then_exit ?_ | refine WX.then_ret ?_ | refine WX.block_normal ?_ | refine WX.block_ret ?_ | refine WX.block_same ?_ | refine WX.block_other rfl ?_ | refine WC.label ?_ | refine WC.scope ?_ | refine WX.scope_normal ?_ | refine WX.scope_ret ?_ | refine WX.scope_exit ?_ | refine WL.y rfl (Yld.add rfl rfl (by simp only [In]; omega)) ?_ | refine WL.y rfl (Yld.sub rfl rfl (by simp only [In]; omega)) ?_ | refine WL.y rfl (Yld.mul rfl rfl (by simp only [In]; omega)) ?_ | refine WL.y rfl (Yld.convB tab_ok rfl rfl rfl rfl) ?_ | refine WL.y rfl (Yld.conv tab_ok rfl rfl rfl (by simp only [In]; omega)) ?_ | refine WL.y rfl (Yld.quo rfl rfl (by omega) (by omega) (by simp only [In]; omega)) ?_ | refine WL.y rfl (Yld.rem rfl rfl (by omega) (by omega)) ?_ | refine WL.y rfl (Yld.shl rfl rfl (by omega)) ?_ | refine WL.y rfl (Yld.shr rfl rfl (by omega)) ?_ | refine WL.y rfl (Yld.pure tab_ok rfl) ?_)
  exact WX.retc tab_ok rfl rfl rfl hB2 rfl ⟨rfl, gr_new hg hg2 (by assumption)⟩
def h0s : List Int := [0x6a09e667, 0xbb67ae85, 0x3c6ef372, 0xa54ff53a, 0x510e527f, 0x9b05688c, 0x1f83d9ab, 0x5be0cd19]
/-- a state's cells -/
def stc (hs : List Int) (A : Option Addr) (c : Nat) (r : List UInt8) (n : Int) : List Value := hs.map vu ++ [.slice A r.length c, .int .u64 n]
theorem new_fn (w : World) : Fn Tryd.prog 115 ⟨[]⟩ w fun v w' => ∃ g, v = .pointer (some ⟨g, 0, none⟩) ∧ Bl w' g 214 (stc h0s none 0 [] 0) ∧ w.grownBy w' none ∧ w.heap.size ≤ g := by
  refine Fn.enter (by kernel_rfl) Tryd.func115 rfl Tryd.ntmps115 rfl ?_
  repeat (first | refine WC.seq ?_ | refine WC.block ?_ | refine WC.region ?_ | refine WL.nil ?_ | refine WX.then_normal ?_ | refine WC.skip ?_ | refine WC.exit ?_ | refine WC.ret ?_ | refine WX.then_exit ?_ | refine WX.then_ret ?_ | refine WX.block_normal ?_ | refine WX.block_ret ?_ | refine WX.block_same ?_ | refine WX.block_other rfl ?_ | refine WC.label ?_ | refine WC.scope ?_ | refine WX.scope_normal ?_ | refine WX.scope_ret ?_ | refine WX.scope_exit ?_ | refine WL.y rfl (Yld.add rfl rfl (by simp only [In]; omega)) ?_ | refine WL.y rfl (Yld.sub rfl rfl (by simp only [In]; omega)) ?_ | refine WL.y rfl (Yld.mul rfl rfl (by simp only [In]; omega)) ?_ | refine WL.y rfl (Yld.convB tab_ok rfl rfl rfl rfl) ?_ | refine WL.y rfl (Yld.conv tab_ok rfl rfl rfl (by simp only [In]; omega)) ?_ | refine WL.y rfl (Yld.quo rfl rfl (by omega) (by omega) (by simp only [In]; omega)) ?_ | refine WL.y rfl (Yld.rem rfl rfl (by omega) (by omega)) ?_ | refine WL.y rfl (Yld.shl rfl rfl (by omega)) ?_ | refine WL.y rfl (Yld.shr rfl rfl (by omega)) ?_ | refine WL.y rfl (Yld.pure tab_ok rfl) ?_)
  refine WL.y rfl (Yld.arr (us := h0s.map vu) tab_ok rfl zero212 rfl rfl (oneM One.u _) rfl) ?_
  refine WL.y rfl (Yld.struct (us := stc h0s none 0 [] 0) zero214 places214 rfl rfl) ?_
  refine WL.box rfl rfl rfl (fun g w1 hB hg hs => ?_)
  repeat (first | refine WC.seq ?_ | refine WC.block ?_ | refine WC.region ?_ | refine WL.nil ?_ | refine WX.then_normal ?_ | refine WC.skip ?_ | refine WC.exit ?_ | refine WC.ret ?_ | refine WX.then_exit ?_ | refine WX.then_ret ?_ | refine WX.block_normal ?_ | refine WX.block_ret ?_ | refine WX.block_same ?_ | refine WX.block_other rfl ?_ | refine WC.label ?_ | refine WC.scope ?_ | refine WX.scope_normal ?_ | refine WX.scope_ret ?_ | refine WX.scope_exit ?_ | refine WL.y rfl (Yld.add rfl rfl (by simp only [In]; omega)) ?_ | refine WL.y rfl (Yld.sub rfl rfl (by simp only [In]; omega)) ?_ | refine WL.y rfl (Yld.mul rfl rfl (by simp only [In]; omega)) ?_ | refine WL.y rfl (Yld.convB tab_ok rfl rfl rfl rfl) ?_ | refine WL.y rfl (Yld.conv tab_ok rfl rfl rfl (by simp only [In]; omega)) ?_ | refine WL.y rfl (Yld.quo rfl rfl (by omega) (by omega) (by simp only [In]; omega)) ?_ | refine WL.y rfl (Yld.rem rfl rfl (by omega) (by omega)) ?_ | refine WL.y rfl (Yld.shl rfl rfl (by omega)) ?_ | refine WL.y rfl (Yld.shr rfl rfl (by omega)) ?_ | refine WL.y rfl (Yld.pure tab_ok rfl) ?_)
  exact WX.ret1 rfl rfl ⟨g, rfl, hB, hg, hs⟩
end Go.Proofs.YtlonpmajnglmoaaDoor

 namespace Go.Proofs.YtlonpmajnglmoaaDoor
open Go Go.RowKit
attribute [local irreducible] WL WC WX WQ Yld Fn

/-- one word more of the schedule -/
def wnext (bs : List UInt8) (ws : List Int) (i : Nat) : Int :=
  if i < 16 then bits .or .u32 (bits .or .u32 (bits .or .u32 (shlV .u32 ((bs.getD (4 * i) 0).toNat : Int) 24) (shlV .u32 ((bs.getD (4 * i + 1) 0).toNat : Int) 16)) (shlV .u32 ((bs.getD (4 * i + 2) 0).toNat : Int) 8)) ((bs.getD (4 * i + 3) 0).toNat : Int)
  else
    let x := ws.getD (i - 15) 0
    let y := ws.getD (i - 2) 0
    IntKind.u32.wrap (IntKind.u32.wrap (IntKind.u32.wrap (ws.getD (i - 16) 0 + ws.getD (i - 7) 0) + bits .xor .u32 (bits .xor .u32 (rotr x 7) (rotr x 18)) (shrV .u32 x 3)) + bits .xor .u32 (bits .xor .u32 (rotr y 17) (rotr y 19)) (shrV .u32 y 10))
def wsAt (bs : List UInt8) : Nat → List Int
  | 0 => List.replicate 64 0
  | i + 1 => (wsAt bs i).set i (wnext bs (wsAt bs i) i)
theorem wsAt_len (bs : List UInt8) : ∀ i, (wsAt bs i).length = 64
  | 0 => rfl
  | i + 1 => by rw [wsAt, List.length_set, wsAt_len bs i]

/-- one round -/
def hnext (ws : List Int) (h : List Int) (i : Nat) : List Int :=
  let e := h.getD 4 0
  let a := h.getD 0 0
  let one := IntKind.u32.wrap (IntKind.u32.wrap (IntKind.u32.wrap (IntKind.u32.wrap (h.getD 7 0 + bits .xor .u32 (bits .xor .u32 (rotr e 6) (rotr e 11)) (rotr e 25)) + bits .xor .u32 (bits .and .u32 e (h.getD 5 0)) (bits .and .u32 (bits .xor .u32 IntKind.u32.max e) (h.getD 6 0))) + ktab.getD i 0) + ws.getD i 0)
  let two := IntKind.u32.wrap (bits .xor .u32 (bits .xor .u32 (rotr a 2) (rotr a 13)) (rotr a 22) + bits .xor .u32 (bits .xor .u32 (bits .and .u32 a (h.getD 1 0)) (bits .and .u32 a (h.getD 2 0))) (bits .and .u32 (h.getD 1 0) (h.getD 2 0)))
  [IntKind.u32.wrap (one + two), h.getD 0 0, h.getD 1 0, h.getD 2 0, IntKind.u32.wrap (h.getD 3 0 + one), h.getD 4 0, h.getD 5 0, h.getD 6 0]
def hAt (ws : List Int) (h : List Int) : Nat → List Int
  | 0 => h
  | i + 1 => hnext ws (hAt ws h i) i
theorem hAt_len (ws h : List Int) (hh : h.length = 8) : ∀ i, (hAt ws h i).length = 8
  | 0 => hh
  | _ + 1 => rfl
/-- the state's words, the first i of them raised -/
def sumAt (hs h : List Int) : Nat → List Int
  | 0 => hs
  | i + 1 => (sumAt hs h i).set i (IntKind.u32.wrap ((sumAt hs h i).getD i 0 + h.getD i 0))
theorem sumAt_len (hs h : List Int) : ∀ i, (sumAt hs h i).length = hs.length
  | 0 => rfl
  | i + 1 => by rw [sumAt, List.length_set, sumAt_len hs h i]
/-- a block is taken in -/
def mixS (hs : List Int) (bs : List UInt8) : List Int := sumAt hs (hAt (wsAt bs 64) hs 64) 8
theorem mixS_len (hs : List Int) (bs : List UInt8) : (mixS hs bs).length = hs.length := sumAt_len _ _ 8

set_option maxHeartbeats 1000000 in
theorem mix_fn (g : Nat) (hs : List Int) (tl : List Value) (A : Option Addr) (c : Nat) (bs : List UInt8) (w : World) (hh : hs.length = 8) (hB : Bl w g 214 (hs.map vu ++ tl)) (hR : Rd vb w A c bs) (hl : 64 ≤ bs.length) :
    Fn Tryd.prog 145 ⟨[.pointer (some ⟨g, 0, none⟩), .slice A bs.length c]⟩ w fun v w' => v = .tuple #[] ∧ Bl w' g 214 ((mixS hs bs).map vu ++ tl) ∧ w.grownBy w' (some g) := by
  have hglt := hB.lt
  refine Fn.enter (by kernel_rfl) Tryd.func145 rfl Tryd.ntmps145 rfl ?_
  repeat (first | refine WC.seq ?_ | refine WC.block ?_ | refine WC.region ?_ | refine WL.nil ?_ | refine WX.then_normal ?_ | refine WC.skip ?_ | refine WC.exit ?_ | refine WC.ret ?_ | refine WX.then_exit ?_ | refine WX.then_ret ?_ | refine WX.block_normal ?_ | refine WX.block_ret ?_ | refine WX.block_same ?_ | refine WX.block_other rfl ?_ | refine WC.label ?_ | refine WC.scope ?_ | refine WX.scope_normal ?_ | refine WX.scope_ret ?_ | refine WX.scope_exit ?_ | refine WL.y rfl (Yld.add rfl rfl (by simp only [In]; omega)) ?_ | refine WL.y rfl (Yld.sub rfl rfl (by simp only [In]; omega)) ?_ | refine WL.y rfl (Yld.mul rfl rfl (by simp only [In]; omega)) ?_ | refine WL.y rfl (Yld.convB tab_ok rfl rfl rfl rfl) ?_ | refine WL.y rfl (Yld.conv tab_ok rfl rfl rfl (by simp only [In]; omega)) ?_ | refine WL.y rfl (Yld.quo rfl rfl (by omega) (by omega) (by simp only [In]; omega)) ?_ | refine WL.y rfl (Yld.rem rfl rfl (by omega) (by omega)) ?_ | refine WL.y rfl (Yld.shl rfl rfl (by omega)) ?_ | refine WL.y rfl (Yld.shr rfl rfl (by omega)) ?_ | refine WL.y rfl (Yld.pure tab_ok rfl) ?_)
  refine WL.call rfl rfl (table_fn w) ?_
  rintro _ w1 ⟨rfl, hg1⟩
  refine WL.alloc rfl zero239 (fun gk w2 hk2 hg2 hlk => ?_)
  refine WL.storeW tab_ok rfl rfl rfl (oneM One.u _) hk2 rfl rfl (fun w3 hk3 hg3 => ?_)
  repeat (first | refine WC.seq ?_ | refine WC.block ?_ | refine WC.region ?_ | refine WL.nil ?_ | refine WX.then_normal ?_ | refine WC.skip ?_ | refine WC.exit ?_ | refine WC.ret ?_ | refine WX.then_exit ?_ | refine WX.then_ret ?_ | refine WX.block_normal ?_ | refine WX.block_ret ?_ | refine WX.block_same ?_ | refine WX.block_other rfl ?_ | refine WC.label ?_ | refine WC.scope ?_ | refine WX.scope_normal ?_ | refine WX.scope_ret ?_ | refine WX.scope_exit ?_ | refine WL.y rfl (Yld.add rfl rfl (by simp only [In]; omega)) ?_ | refine WL.y rfl (Yld.sub rfl rfl (by simp only [In]; omega)) ?_ | refine WL.y rfl (Yld.mul rfl rfl (by simp only [In]; omega)) ?_ | refine WL.y rfl (Yld.convB tab_ok rfl rfl rfl rfl) ?_ | refine WL.y rfl (Yld.conv tab_ok rfl rfl rfl (by simp only [In]; omega)) ?_ | refine WL.y rfl (Yld.quo rfl rfl (by omega) (by omega) (by simp only [In]; omega)) ?_ | refine WL.y rfl (Yld.rem rfl rfl (by omega) (by omega)) ?_ | refine WL.y rfl (Yld.shl rfl rfl (by omega)) ?_ | refine WL.y rfl (Yld.shr rfl rfl (by omega)) ?_ | refine WL.y rfl (Yld.pure tab_ok rfl) ?_)
  refine WL.alloc rfl zero239 (fun gw w4 hw4 hg4 hlw => ?_)
  repeat (first | refine WC.seq ?_ | refine WC.block ?_ | refine WC.region ?_ | refine WL.nil ?_ | refine WX.then_normal ?_ | refine WC.skip ?_ | refine WC.exit ?_ | refine WC.ret ?_ | refine WX.then_exit ?_ | refine WX.then_ret ?_ | refine WX.block_normal ?_ | refine WX.block_ret ?_ | refine WX.block_same ?_ | refine WX.block_other rfl ?_ | refine WC.label ?_ | refine WC.scope ?_ | refine WX.scope_normal ?_ | refine WX.scope_ret ?_ | refine WX.scope_exit ?_ | refine WL.y rfl (Yld.add rfl rfl (by simp only [In]; omega)) ?_ | refine WL.y rfl (Yld.sub rfl rfl (by simp only [In]; omega)) ?_ | refine WL.y rfl (Yld.mul rfl rfl (by simp only [In]; omega)) ?_ | refine WL.y rfl (Yld.convB tab_ok rfl rfl rfl rfl) ?_ | refine WL.y rfl (Yld.conv tab_ok rfl rfl rfl (by simp only [In]; omega)) ?_ | refine WL.y rfl (Yld.quo rfl rfl (by omega) (by omega) (by simp only [In]; omega)) ?_ | refine WL.y rfl (Yld.rem rfl rfl (by omega) (by omega)) ?_ | refine WL.y rfl (Yld.shl rfl rfl (by omega)) ?_ | refine WL.y rfl (Yld.shr rfl rfl (by omega)) ?_ | refine WL.y rfl (Yld.pure tab_ok rfl) ?_)
  have hz1 := hg1.size
  have hz2 := hg2.size
  have hz3 := hg3.size
  have hz4 := hg4.size
  have hk4 : Bl w4 gk 239 (ktab.map vu) := hk3.keep hg4 (by simp)
  have hkl := hk3.lt
  have hR4 : Rd vb w4 A c bs := ((hR.grown (gr_trans hg1 hg2)).keep hg3 (fun q hq e => by
    injection hq with hq
    have := hR.lt (fun e => by rw [e] at hl; simp at hl) e
    omega)).grown hg4
  have hB4 : Bl w4 g 214 (hs.map vu ++ tl) := ((hB.keep (gr_trans hg1 hg2) (by simp)).keep hg3 (fun e => by injection e with e; omega)).keep hg4 (by simp)
  have hgr4 : w.grownBy w4 none := gr_trans (gr_new (gr_trans hg1 hg2) hg3 (by omega)) hg4
  clear hk2 hk3 hg1 hg2 hg3 hg4
  refine WC.loop (S := Nat) (fun i => 64 - i) (fun i => [(17, vi i), (5, .pointer (some ⟨gw, 0, none⟩)), (4, .pointer (some ⟨gk, 0, none⟩)), (0, .pointer (some ⟨g, 0, none⟩)), (1, .slice A bs.length c)])
    (fun i w' => i ≤ 64 ∧ Bl w' gw 239 ((wsAt bs i).map vu) ∧ w4.grownBy w' (some gw)) 0 ⟨by omega, by rw [wsAt, List.map_replicate]; exact hw4, gr_refl _ _⟩ (by repeat (first | exact Sub.nil | refine Sub.cons rfl ?_)) (fun i w5 ⟨hi, hw5, hg5⟩ => ?_)
  have hlen := wsAt_len bs i
  have hR5 : Rd vb w5 A c bs := hR4.keep hg5 (fun q hq e => by
    injection hq with hq
    have := hR.lt (fun e => by rw [e] at hl; simp at hl) e
    omega)
  repeat (first | refine WC.seq ?_ | refine WC.block ?_ | refine WC.region ?_ | refine WL.nil ?_ | refine WX.then_normal ?_ | refine WC.skip ?_ | refine WC.exit ?_ | refine WC.ret ?_ | refine WX.then_exit ?_ | refine WX.then_ret ?_ | refine WX.block_normal ?_ | refine WX.block_ret ?_ | refine WX.block_same ?_ | refine WX.block_other rfl ?_ | refine WC.label ?_ | refine WC.scope ?_ | refine WX.scope_normal ?_ | refine WX.scope_ret ?_ | refine WX.scope_exit ?_ | refine WL.y rfl (Yld.add rfl rfl (by simp only [In]; omega)) ?_ | refine WL.y rfl (Yld.sub rfl rfl (by simp only [In]; omega)) ?_ | refine WL.y rfl (Yld.mul rfl rfl (by simp only [In]; omega)) ?_ | refine WL.y rfl (Yld.convB tab_ok rfl rfl rfl rfl) ?_ | refine WL.y rfl (Yld.conv tab_ok rfl rfl rfl (by simp only [In]; omega)) ?_ | refine WL.y rfl (Yld.quo rfl rfl (by omega) (by omega) (by simp only [In]; omega)) ?_ | refine WL.y rfl (Yld.rem rfl rfl (by omega) (by omega)) ?_ | refine WL.y rfl (Yld.shl rfl rfl (by omega)) ?_ | refine WL.y rfl (Yld.shr rfl rfl (by omega)) ?_ | refine WL.y rfl (Yld.pure tab_ok rfl) ?_)
  refine WC.cond rfl (fun h => ?_) (fun h => ?_)
  · simp only [decide_eq_true_eq] at h
    repeat (first | refine WC.seq ?_ | refine WC.block ?_ | refine WC.region ?_ | refine WL.nil ?_ | refine WX.then_normal ?_ | refine WC.skip ?_ | refine WC.exit ?_ | refine WC.ret ?_ | refine WX.then_exit ?_ | refine WX.then_ret ?_ | refine WX.block_normal ?_ | refine WX.block_ret ?_ | refine WX.block_same ?_ | refine WX.block_other rfl ?_ | refine WC.label ?_ | refine WC.scope ?_ | refine WX.scope_normal ?_ | refine WX.scope_ret ?_ | refine WX.scope_exit ?_ | refine WL.y rfl (Yld.add rfl rfl (by simp only [In]; omega)) ?_ | refine WL.y rfl (Yld.sub rfl rfl (by simp only [In]; omega)) ?_ | refine WL.y rfl (Yld.mul rfl rfl (by simp only [In]; omega)) ?_ | refine WL.y rfl (Yld.convB tab_ok rfl rfl rfl rfl) ?_ | refine WL.y rfl (Yld.conv tab_ok rfl rfl rfl (by simp only [In]; omega)) ?_ | refine WL.y rfl (Yld.quo rfl rfl (by omega) (by omega) (by simp only [In]; omega)) ?_ | refine WL.y rfl (Yld.rem rfl rfl (by omega) (by omega)) ?_ | refine WL.y rfl (Yld.shl rfl rfl (by omega)) ?_ | refine WL.y rfl (Yld.shr rfl rfl (by omega)) ?_ | refine WL.y rfl (Yld.pure tab_ok rfl) ?_)
    refine WC.cond rfl (fun h16 => ?_) (fun h16 => ?_)
    · simp only [decide_eq_true_eq] at h16
      repeat (first | refine WC.seq ?_ | refine WC.block ?_ | refine WC.region ?_ | refine WL.nil ?_ | refine WX.then_normal ?_ | refine WC.skip ?_ | refine WC.exit ?_ | refine WC.ret ?_ | refine WX.then_exit ?_ | refine WX.then_ret ?_ | refine WX.block_normal ?_ | refine WX.block_ret ?_ | refine WX.block_same ?_ | refine WX.block_other rfl ?_ | refine WC.label ?_ | refine WC.scope ?_ | refine WX.scope_normal ?_ | refine WX.scope_ret ?_ | refine WX.scope_exit ?_ | refine WL.y rfl (Yld.add rfl rfl (by simp only [In]; omega)) ?_ | refine WL.y rfl (Yld.sub rfl rfl (by simp only [In]; omega)) ?_ | refine WL.y rfl (Yld.mul rfl rfl (by simp only [In]; omega)) ?_ | refine WL.y rfl (Yld.convB tab_ok rfl rfl rfl rfl) ?_ | refine WL.y rfl (Yld.conv tab_ok rfl rfl rfl (by simp only [In]; omega)) ?_ | refine WL.y rfl (Yld.quo rfl rfl (by omega) (by omega) (by simp only [In]; omega)) ?_ | refine WL.y rfl (Yld.rem rfl rfl (by omega) (by omega)) ?_ | refine WL.y rfl (Yld.shl rfl rfl (by omega)) ?_ | refine WL.y rfl (Yld.shr rfl rfl (by omega)) ?_ | refine WL.y rfl (Yld.pure tab_ok rfl) ?_)
      refine WC.tail 35 mixed (by kernel_rfl) ?_
      repeat (first | refine WQ.y rfl (Yld.iaddr tab_ok hR5 rfl rfl rfl rfl (by omega) (by omega)) ?_ | refine WQ.y rfl (Yld.iload 0 tab_ok hR5 rfl rfl (by omega)) ?_ | refine WQ.y rfl (Yld.aaddr tab_ok rfl rfl rfl (by omega) (by omega)) ?_ | refine WQ.y rfl (Yld.add rfl rfl (by simp only [In]; omega)) ?_ | refine WQ.y rfl (Yld.sub rfl rfl (by simp only [In]; omega)) ?_ | refine WQ.y rfl (Yld.mul rfl rfl (by simp only [In]; omega)) ?_ | refine WQ.y rfl (Yld.convB tab_ok rfl rfl rfl rfl) ?_ | refine WQ.y rfl (Yld.conv tab_ok rfl rfl rfl (by simp only [In]; omega)) ?_ | refine WQ.y rfl (Yld.quo rfl rfl (by omega) (by omega) (by simp only [In]; omega)) ?_ | refine WQ.y rfl (Yld.rem rfl rfl (by omega) (by omega)) ?_ | refine WQ.y rfl (Yld.shl rfl rfl (by omega)) ?_ | refine WQ.y rfl (Yld.shr rfl rfl (by omega)) ?_ | refine WQ.y rfl (Yld.pure tab_ok rfl) ?_)
      refine WQ.tail ?_
      refine WL.store1 one145 rfl rfl rfl hw5 (by rw [List.length_map]; omega) (fun w6 hw6 hg6 => ?_)
      repeat (first | refine WC.seq ?_ | refine WC.block ?_ | refine WC.region ?_ | refine WL.nil ?_ | refine WX.then_normal ?_ | refine WC.skip ?_ | refine WC.exit ?_ | refine WC.ret ?_ | refine WX.then_exit ?_ | refine WX.then_ret ?_ | refine WX.block_normal ?_ | refine WX.block_ret ?_ | refine WX.block_same ?_ | refine WX.block_other rfl ?_ | refine WC.label ?_ | refine WC.scope ?_ | refine WX.scope_normal ?_ | refine WX.scope_ret ?_ | refine WX.scope_exit ?_ | refine WL.y rfl (Yld.add rfl rfl (by simp only [In]; omega)) ?_ | refine WL.y rfl (Yld.sub rfl rfl (by simp only [In]; omega)) ?_ | refine WL.y rfl (Yld.mul rfl rfl (by simp only [In]; omega)) ?_ | refine WL.y rfl (Yld.convB tab_ok rfl rfl rfl rfl) ?_ | refine WL.y rfl (Yld.conv tab_ok rfl rfl rfl (by simp only [In]; omega)) ?_ | refine WL.y rfl (Yld.quo rfl rfl (by omega) (by omega) (by simp only [In]; omega)) ?_ | refine WL.y rfl (Yld.rem rfl rfl (by omega) (by omega)) ?_ | refine WL.y rfl (Yld.shl rfl rfl (by omega)) ?_ | refine WL.y rfl (Yld.shr rfl rfl (by omega)) ?_ | refine WL.y rfl (Yld.pure tab_ok rfl) ?_)
      refine WX.round (i + 1) ⟨by omega, ?_, gr_trans hg5 hg6⟩ (by omega) (by repeat (first | exact Sub.nil | refine Sub.cons rfl ?_))
      have e0 : (4 * (i : Int)).toNat = 4 * i := by omega
      have e1 : (4 * (i : Int) + 1).toNat = 4 * i + 1 := by omega
      have e2 : (4 * (i : Int) + 2).toNat = 4 * i + 2 := by omega
      have e3 : (4 * (i : Int) + 3).toNat = 4 * i + 3 := by omega
      have ei : 0 + (i : Int).toNat * 1 = i := by omega
      rw [e0, e1, e2, e3, ei] at hw6
      rw [wsAt, List.map_set, wnext, if_pos (by omega)]
      exact hw6
    · simp only [decide_eq_false_iff_not] at h16
      repeat (first | refine WC.seq ?_ | refine WC.block ?_ | refine WC.region ?_ | refine WL.nil ?_ | refine WX.then_normal ?_ | refine WC.skip ?_ | refine WC.exit ?_ | refine WC.ret ?_ | refine WX.then_exit ?_ | refine WX.then_ret ?_ | refine WX.block_normal ?_ | refine WX.block_ret ?_ | refine WX.block_same ?_ | refine WX.block_other rfl ?_ | refine WC.label ?_ | refine WC.scope ?_ | refine WX.scope_normal ?_ | refine WX.scope_ret ?_ | refine WX.scope_exit ?_ | refine WL.y rfl (Yld.add rfl rfl (by simp only [In]; omega)) ?_ | refine WL.y rfl (Yld.sub rfl rfl (by simp only [In]; omega)) ?_ | refine WL.y rfl (Yld.mul rfl rfl (by simp only [In]; omega)) ?_ | refine WL.y rfl (Yld.convB tab_ok rfl rfl rfl rfl) ?_ | refine WL.y rfl (Yld.conv tab_ok rfl rfl rfl (by simp only [In]; omega)) ?_ | refine WL.y rfl (Yld.quo rfl rfl (by omega) (by omega) (by simp only [In]; omega)) ?_ | refine WL.y rfl (Yld.rem rfl rfl (by omega) (by omega)) ?_ | refine WL.y rfl (Yld.shl rfl rfl (by omega)) ?_ | refine WL.y rfl (Yld.shr rfl rfl (by omega)) ?_ | refine WL.y rfl (Yld.pure tab_ok rfl) ?_)
      refine WC.quiet mixed (by kernel_rfl) ?_
      repeat (first | refine WQ.y rfl (Yld.bloadm 0 tab_ok hw5 rfl rfl (by omega)) ?_ | refine WQ.y rfl (Yld.aaddr tab_ok rfl rfl rfl (by omega) (by omega)) ?_ | refine WQ.y rfl (Yld.add rfl rfl (by simp only [In]; omega)) ?_ | refine WQ.y rfl (Yld.sub rfl rfl (by simp only [In]; omega)) ?_ | refine WQ.y rfl (Yld.mul rfl rfl (by simp only [In]; omega)) ?_ | refine WQ.y rfl (Yld.convB tab_ok rfl rfl rfl rfl) ?_ | refine WQ.y rfl (Yld.conv tab_ok rfl rfl rfl (by simp only [In]; omega)) ?_ | refine WQ.y rfl (Yld.quo rfl rfl (by omega) (by omega) (by simp only [In]; omega)) ?_ | refine WQ.y rfl (Yld.rem rfl rfl (by omega) (by omega)) ?_ | refine WQ.y rfl (Yld.shl rfl rfl (by omega)) ?_ | refine WQ.y rfl (Yld.shr rfl rfl (by omega)) ?_ | refine WQ.y rfl (Yld.pure tab_ok rfl) ?_)
      refine WQ.nil ?_
      repeat (first | refine WC.seq ?_ | refine WC.block ?_ | refine WC.region ?_ | refine WL.nil ?_ | refine WX.then_normal ?_ | refine WC.skip ?_ | refine WC.exit ?_ | refine WC.ret ?_ | refine WX.then_exit ?_ | refine WX.then_ret ?_ | refine WX.block_normal ?_ | refine WX.block_ret ?_ | refine WX.block_same ?_ | refine WX.block_other rfl ?_ | refine WC.label ?_ | refine WC.scope ?_ | refine WX.scope_normal ?_ | refine WX.scope_ret ?_ | refine WX.scope_exit ?_ | refine WL.y rfl (Yld.add rfl rfl (by simp only [In]; omega)) ?_ | refine WL.y rfl (Yld.sub rfl rfl (by simp only [In]; omega)) ?_ | refine WL.y rfl (Yld.mul rfl rfl (by simp only [In]; omega)) ?_ | refine WL.y rfl (Yld.convB tab_ok rfl rfl rfl rfl) ?_ | refine WL.y rfl (Yld.conv tab_ok rfl rfl rfl (by simp only [In]; omega)) ?_ | refine WL.y rfl (Yld.quo rfl rfl (by omega) (by omega) (by simp only [In]; omega)) ?_ | refine WL.y rfl (Yld.rem rfl rfl (by omega) (by omega)) ?_ | refine WL.y rfl (Yld.shl rfl rfl (by omega)) ?_ | refine WL.y rfl (Yld.shr rfl rfl (by omega)) ?_ | refine WL.y rfl (Yld.pure tab_ok rfl) ?_)
      refine WC.tail 29 mixed (by kernel_rfl) ?_
      repeat (first | refine WQ.y rfl (Yld.bloadm 0 tab_ok hw5 rfl rfl (by omega)) ?_ | refine WQ.y rfl (Yld.aaddr tab_ok rfl rfl rfl (by omega) (by omega)) ?_ | refine WQ.call rfl rfl (right_fn _ _ _ (by omega) (by omega)) ?_ | refine WQ.y rfl (Yld.add rfl rfl (by simp only [In]; omega)) ?_ | refine WQ.y rfl (Yld.sub rfl rfl (by simp only [In]; omega)) ?_ | refine WQ.y rfl (Yld.mul rfl rfl (by simp only [In]; omega)) ?_ | refine WQ.y rfl (Yld.convB tab_ok rfl rfl rfl rfl) ?_ | refine WQ.y rfl (Yld.conv tab_ok rfl rfl rfl (by simp only [In]; omega)) ?_ | refine WQ.y rfl (Yld.quo rfl rfl (by omega) (by omega) (by simp only [In]; omega)) ?_ | refine WQ.y rfl (Yld.rem rfl rfl (by omega) (by omega)) ?_ | refine WQ.y rfl (Yld.shl rfl rfl (by omega)) ?_ | refine WQ.y rfl (Yld.shr rfl rfl (by omega)) ?_ | refine WQ.y rfl (Yld.pure tab_ok rfl) ?_)
      refine WQ.tail ?_
      refine WL.store1 one145 rfl rfl rfl hw5 (by rw [List.length_map]; omega) (fun w6 hw6 hg6 => ?_)
      repeat (first | refine WC.seq ?_ | refine WC.block ?_ | refine WC.region ?_ | refine WL.nil ?_ | refine WX.then_normal ?_ | refine WC.skip ?_ | refine WC.exit ?_ | refine WC.ret ?_ | refine WX.then_exit ?_ | refine WX.then_ret ?_ | refine WX.block_normal ?_ | refine WX.block_ret ?_ | refine WX.block_same ?_ | refine WX.block_other rfl ?_ | refine WC.label ?_ | refine WC.scope ?_ | refine WX.scope_normal ?_ | refine WX.scope_ret ?_ | refine WX.scope_exit ?_ | refine WL.y rfl (Yld.add rfl rfl (by simp only [In]; omega)) ?_ | refine WL.y rfl (Yld.sub rfl rfl (by simp only [In]; omega)) ?_ | refine WL.y rfl (Yld.mul rfl rfl (by simp only [In]; omega)) ?_ | refine WL.y rfl (Yld.convB tab_ok rfl rfl rfl rfl) ?_ | refine WL.y rfl (Yld.conv tab_ok rfl rfl rfl (by simp only [In]; omega)) ?_ | refine WL.y rfl (Yld.quo rfl rfl (by omega) (by omega) (by simp only [In]; omega)) ?_ | refine WL.y rfl (Yld.rem rfl rfl (by omega) (by omega)) ?_ | refine WL.y rfl (Yld.shl rfl rfl (by omega)) ?_ | refine WL.y rfl (Yld.shr rfl rfl (by omega)) ?_ | refine WL.y rfl (Yld.pure tab_ok rfl) ?_)
      refine WX.round (i + 1) ⟨by omega, ?_, gr_trans hg5 hg6⟩ (by omega) (by repeat (first | exact Sub.nil | refine Sub.cons rfl ?_))
      have e0 : 0 + ((i : Int) - 16).toNat * 1 = i - 16 := by omega
      have e1 : 0 + ((i : Int) - 7).toNat * 1 = i - 7 := by omega
      have e2 : 0 + ((i : Int) - 15).toNat * 1 = i - 15 := by omega
      have e3 : 0 + ((i : Int) - 2).toNat * 1 = i - 2 := by omega
      have ei : 0 + (i : Int).toNat * 1 = i := by omega
      rw [e0, e1, e2, e3, ei] at hw6
      rw [wsAt, List.map_set, wnext, if_neg (by omega)]
      exact hw6
  · simp only [decide_eq_false_iff_not] at h
    obtain rfl : i = 64 := by omega
    have hk5 : Bl w5 gk 239 (ktab.map vu) := hk4.keep hg5 (fun e => by injection e with e; omega)
    have hB5 : Bl w5 g 214 (hs.map vu ++ tl) := hB4.keep hg5 (fun e => by injection e with e; omega)
    have hgr5 : w.grownBy w5 none := gr_new hgr4 hg5 (by omega)
    have hwl := hw5.lt
    clear hg5 hw4 hk4 hB4 hR4 hR5 hgr4
    repeat (first | refine WC.seq ?_ | refine WC.block ?_ | refine WC.region ?_ | refine WL.nil ?_ | refine WX.then_normal ?_ | refine WC.skip ?_ | refine WC.exit ?_ | refine WC.ret ?_ | refine WX.then_exit ?_ | refine WX.then_ret ?_ | refine WX.block_normal ?_ | refine WX.block_ret ?_ | refine WX.block_same ?_ | refine WX.block_other rfl ?_ | refine WC.label ?_ | refine WC.scope ?_ | refine WX.scope_normal ?_ | refine WX.scope_ret ?_ | refine WX.scope_exit ?_ | refine WL.y rfl (Yld.add rfl rfl (by simp only [In]; omega)) ?_ | refine WL.y rfl (Yld.sub rfl rfl (by simp only [In]; omega)) ?_ | refine WL.y rfl (Yld.mul rfl rfl (by simp only [In]; omega)) ?_ | refine WL.y rfl (Yld.convB tab_ok rfl rfl rfl rfl) ?_ | refine WL.y rfl (Yld.conv tab_ok rfl rfl rfl (by simp only [In]; omega)) ?_ | refine WL.y rfl (Yld.quo rfl rfl (by omega) (by omega) (by simp only [In]; omega)) ?_ | refine WL.y rfl (Yld.rem rfl rfl (by omega) (by omega)) ?_ | refine WL.y rfl (Yld.shl rfl rfl (by omega)) ?_ | refine WL.y rfl (Yld.shr rfl rfl (by omega)) ?_ | refine WL.y rfl (Yld.pure tab_ok rfl) ?_)
    refine WL.y rfl (Yld.bagg (vs := hs.map vu) tab_ok hB5 rfl rfl (by simp [hh]) (by simp [hh])) ?_
    refine WL.alloc rfl zero212 (fun gh w6 hh6 hg6 hlh => ?_)
    refine WL.storeW tab_ok rfl rfl rfl (oneM One.u _) hh6 rfl (by simp [hh]) (fun w7 hh7 hg7 => ?_)
    have hz6 := hg6.size
    have hz7 := hg7.size
    have hhl := hh7.lt
    have hk7 : Bl w7 gk 239 (ktab.map vu) := (hk5.keep hg6 (by simp)).keep hg7 (fun e => by injection e with e; have := hk5.lt; omega)
    have hw7 : Bl w7 gw 239 ((wsAt bs 64).map vu) := (hw5.keep hg6 (by simp)).keep hg7 (fun e => by injection e with e; omega)
    have hB7 : Bl w7 g 214 (hs.map vu ++ tl) := (hB5.keep hg6 (by simp)).keep hg7 (fun e => by injection e with e; have := hB5.lt; omega)
    have hgr7 : w.grownBy w7 none := gr_new (gr_trans hgr5 hg6) hg7 (by have := hgr5.size; omega)
    have hkl7 := hk7.lt
    clear hh6 hg6 hg7 hk5 hw5 hB5 hgr5
    generalize hws : wsAt bs 64 = ws at *
    repeat (first | refine WC.seq ?_ | refine WC.block ?_ | refine WC.region ?_ | refine WL.nil ?_ | refine WX.then_normal ?_ | refine WC.skip ?_ | refine WC.exit ?_ | refine WC.ret ?_ | refine WX.then_exit ?_ | refine WX.then_ret ?_ | refine WX.block_normal ?_ | refine WX.block_ret ?_ | refine WX.block_same ?_ | refine WX.block_other rfl ?_ | refine WC.label ?_ | refine WC.scope ?_ | refine WX.scope_normal ?_ | refine WX.scope_ret ?_ | refine WX.scope_exit ?_ | refine WL.y rfl (Yld.add rfl rfl (by simp only [In]; omega)) ?_ | refine WL.y rfl (Yld.sub rfl rfl (by simp only [In]; omega)) ?_ | refine WL.y rfl (Yld.mul rfl rfl (by simp only [In]; omega)) ?_ | refine WL.y rfl (Yld.convB tab_ok rfl rfl rfl rfl) ?_ | refine WL.y rfl (Yld.conv tab_ok rfl rfl rfl (by simp only [In]; omega)) ?_ | refine WL.y rfl (Yld.quo rfl rfl (by omega) (by omega) (by simp only [In]; omega)) ?_ | refine WL.y rfl (Yld.rem rfl rfl (by omega) (by omega)) ?_ | refine WL.y rfl (Yld.shl rfl rfl (by omega)) ?_ | refine WL.y rfl (Yld.shr rfl rfl (by omega)) ?_ | refine WL.y rfl (Yld.pure tab_ok rfl) ?_)
    refine WC.loop (S := Nat) (fun i => 64 - i) (fun i => [(99, vi i), (9, .pointer (some ⟨gh, 0, none⟩)), (5, .pointer (some ⟨gw, 0, none⟩)), (4, .pointer (some ⟨gk, 0, none⟩)), (0, .pointer (some ⟨g, 0, none⟩))])
      (fun i w' => i ≤ 64 ∧ Bl w' gh 212 ((hAt ws hs i).map vu) ∧ w7.grownBy w' (some gh)) 0 ⟨by omega, hh7, gr_refl _ _⟩ (by repeat (first | exact Sub.nil | refine Sub.cons rfl ?_)) (fun i w8 ⟨hi, hh8, hg8⟩ => ?_)
    have hl8 := hAt_len ws hs hh i
    have hk8 : Bl w8 gk 239 (ktab.map vu) := hk7.keep hg8 (fun e => by injection e with e; omega)
    have hw8 : Bl w8 gw 239 (ws.map vu) := hw7.keep hg8 (fun e => by injection e with e; omega)
    repeat (first | refine WC.seq ?_ | refine WC.block ?_ | refine WC.region ?_ | refine WL.nil ?_ | refine WX.then_normal ?_ | refine WC.skip ?_ | refine WC.exit ?_ | refine WC.ret ?_ | refine WX.then_exit ?_ | refine WX.then_ret ?_ | refine WX.block_normal ?_ | refine WX.block_ret ?_ | refine WX.block_same ?_ | refine WX.block_other rfl ?_ | refine WC.label ?_ | refine WC.scope ?_ | refine WX.scope_normal ?_ | refine WX.scope_ret ?_ | refine WX.scope_exit ?_ | refine WL.y rfl (Yld.add rfl rfl (by simp only [In]; omega)) ?_ | refine WL.y rfl (Yld.sub rfl rfl (by simp only [In]; omega)) ?_ | refine WL.y rfl (Yld.mul rfl rfl (by simp only [In]; omega)) ?_ | refine WL.y rfl (Yld.convB tab_ok rfl rfl rfl rfl) ?_ | refine WL.y rfl (Yld.conv tab_ok rfl rfl rfl (by simp only [In]; omega)) ?_ | refine WL.y rfl (Yld.quo rfl rfl (by omega) (by omega) (by simp only [In]; omega)) ?_ | refine WL.y rfl (Yld.rem rfl rfl (by omega) (by omega)) ?_ | refine WL.y rfl (Yld.shl rfl rfl (by omega)) ?_ | refine WL.y rfl (Yld.shr rfl rfl (by omega)) ?_ | refine WL.y rfl (Yld.pure tab_ok rfl) ?_)
    have hkt : ktab.length = 64 := rfl
    refine WC.cond rfl (fun h => ?_) (fun h => ?_)
    · simp only [decide_eq_true_eq] at h
      repeat (first | refine WC.seq ?_ | refine WC.block ?_ | refine WC.region ?_ | refine WL.nil ?_ | refine WX.then_normal ?_ | refine WC.skip ?_ | refine WC.exit ?_ | refine WC.ret ?_ | refine WX.then_exit ?_ | refine WX.then_ret ?_ | refine WX.block_normal ?_ | refine WX.block_ret ?_ | refine WX.block_same ?_ | refine WX.block_other rfl ?_ | refine WC.label ?_ | refine WC.scope ?_ | refine WX.scope_normal ?_ | refine WX.scope_ret ?_ | refine WX.scope_exit ?_ | refine WL.y rfl (Yld.add rfl rfl (by simp only [In]; omega)) ?_ | refine WL.y rfl (Yld.sub rfl rfl (by simp only [In]; omega)) ?_ | refine WL.y rfl (Yld.mul rfl rfl (by simp only [In]; omega)) ?_ | refine WL.y rfl (Yld.convB tab_ok rfl rfl rfl rfl) ?_ | refine WL.y rfl (Yld.conv tab_ok rfl rfl rfl (by simp only [In]; omega)) ?_ | refine WL.y rfl (Yld.quo rfl rfl (by omega) (by omega) (by simp only [In]; omega)) ?_ | refine WL.y rfl (Yld.rem rfl rfl (by omega) (by omega)) ?_ | refine WL.y rfl (Yld.shl rfl rfl (by omega)) ?_ | refine WL.y rfl (Yld.shr rfl rfl (by omega)) ?_ | refine WL.y rfl (Yld.pure tab_ok rfl) ?_)
      refine WC.quiet mixed (by kernel_rfl) ?_
      repeat (first | refine WQ.y rfl (Yld.bloadm 0 tab_ok hh8 rfl rfl (by omega)) ?_ | refine WQ.y rfl (Yld.aaddr tab_ok rfl rfl rfl (by omega) (by omega)) ?_ | refine WQ.y rfl (Yld.add rfl rfl (by simp only [In]; omega)) ?_ | refine WQ.y rfl (Yld.sub rfl rfl (by simp only [In]; omega)) ?_ | refine WQ.y rfl (Yld.mul rfl rfl (by simp only [In]; omega)) ?_ | refine WQ.y rfl (Yld.convB tab_ok rfl rfl rfl rfl) ?_ | refine WQ.y rfl (Yld.conv tab_ok rfl rfl rfl (by simp only [In]; omega)) ?_ | refine WQ.y rfl (Yld.quo rfl rfl (by omega) (by omega) (by simp only [In]; omega)) ?_ | refine WQ.y rfl (Yld.rem rfl rfl (by omega) (by omega)) ?_ | refine WQ.y rfl (Yld.shl rfl rfl (by omega)) ?_ | refine WQ.y rfl (Yld.shr rfl rfl (by omega)) ?_ | refine WQ.y rfl (Yld.pure tab_ok rfl) ?_)
      refine WQ.nil ?_
      repeat (first | refine WC.seq ?_ | refine WC.block ?_ | refine WC.region ?_ | refine WL.nil ?_ | refine WX.then_normal ?_ | refine WC.skip ?_ | refine WC.exit ?_ | refine WC.ret ?_ | refine WX.then_exit ?_ | refine WX.then_ret ?_ | refine WX.block_normal ?_ | refine WX.block_ret ?_ | refine WX.block_same ?_ | refine WX.block_other rfl ?_ | refine WC.label ?_ | refine WC.scope ?_ | refine WX.scope_normal ?_ | refine WX.scope_ret ?_ | refine WX.scope_exit ?_ | refine WL.y rfl (Yld.add rfl rfl (by simp only [In]; omega)) ?_ | refine WL.y rfl (Yld.sub rfl rfl (by simp only [In]; omega)) ?_ | refine WL.y rfl (Yld.mul rfl rfl (by simp only [In]; omega)) ?_ | refine WL.y rfl (Yld.convB tab_ok rfl rfl rfl rfl) ?_ | refine WL.y rfl (Yld.conv tab_ok rfl rfl rfl (by simp only [In]; omega)) ?_ | refine WL.y rfl (Yld.quo rfl rfl (by omega) (by omega) (by simp only [In]; omega)) ?_ | refine WL.y rfl (Yld.rem rfl rfl (by omega) (by omega)) ?_ | refine WL.y rfl (Yld.shl rfl rfl (by omega)) ?_ | refine WL.y rfl (Yld.shr rfl rfl (by omega)) ?_ | refine WL.y rfl (Yld.pure tab_ok rfl) ?_)
      refine WC.quiet mixed (by kernel_rfl) ?_
      repeat (first | refine WQ.y rfl (Yld.bloadm 0 tab_ok hh8 rfl rfl (by omega)) ?_ | refine WQ.y rfl (Yld.bloadm 0 tab_ok hk8 rfl rfl (by omega)) ?_ | refine WQ.y rfl (Yld.bloadm 0 tab_ok hw8 rfl rfl (by omega)) ?_ | refine WQ.y rfl (Yld.aaddr tab_ok rfl rfl rfl (by omega) (by omega)) ?_ | refine WQ.call rfl rfl (right_fn _ _ _ (by omega) (by omega)) ?_ | refine WQ.y rfl (Yld.add rfl rfl (by simp only [In]; omega)) ?_ | refine WQ.y rfl (Yld.sub rfl rfl (by simp only [In]; omega)) ?_ | refine WQ.y rfl (Yld.mul rfl rfl (by simp only [In]; omega)) ?_ | refine WQ.y rfl (Yld.convB tab_ok rfl rfl rfl rfl) ?_ | refine WQ.y rfl (Yld.conv tab_ok rfl rfl rfl (by simp only [In]; omega)) ?_ | refine WQ.y rfl (Yld.quo rfl rfl (by omega) (by omega) (by simp only [In]; omega)) ?_ | refine WQ.y rfl (Yld.rem rfl rfl (by omega) (by omega)) ?_ | refine WQ.y rfl (Yld.shl rfl rfl (by omega)) ?_ | refine WQ.y rfl (Yld.shr rfl rfl (by omega)) ?_ | refine WQ.y rfl (Yld.pure tab_ok rfl) ?_)
      refine WQ.nil ?_
      have ei : 0 + (i : Int).toNat * 1 = i := by omega
      rw [ei]
      repeat (first | refine WC.seq ?_ | refine WC.block ?_ | refine WC.region ?_ | refine WL.nil ?_ | refine WX.then_normal ?_ | refine WC.skip ?_ | refine WC.exit ?_ | refine WC.ret ?_ | refine WX.then_exit ?_ | refine WX.then_ret ?_ | refine WX.block_normal ?_ | refine WX.block_ret ?_ | refine WX.block_same ?_ | refine WX.block_other rfl ?_ | refine WC.label ?_ | refine WC.scope ?_ | refine WX.scope_normal ?_ | refine WX.scope_ret ?_ | refine WX.scope_exit ?_ | refine WL.y rfl (Yld.add rfl rfl (by simp only [In]; omega)) ?_ | refine WL.y rfl (Yld.sub rfl rfl (by simp only [In]; omega)) ?_ | refine WL.y rfl (Yld.mul rfl rfl (by simp only [In]; omega)) ?_ | refine WL.y rfl (Yld.convB tab_ok rfl rfl rfl rfl) ?_ | refine WL.y rfl (Yld.conv tab_ok rfl rfl rfl (by simp only [In]; omega)) ?_ | refine WL.y rfl (Yld.quo rfl rfl (by omega) (by omega) (by simp only [In]; omega)) ?_ | refine WL.y rfl (Yld.rem rfl rfl (by omega) (by omega)) ?_ | refine WL.y rfl (Yld.shl rfl rfl (by omega)) ?_ | refine WL.y rfl (Yld.shr rfl rfl (by omega)) ?_ | refine WL.y rfl (Yld.pure tab_ok rfl) ?_)
      refine WC.quiet mixed (by kernel_rfl) ?_
      repeat (first | refine WQ.y rfl (Yld.bloadm 0 tab_ok hh8 rfl rfl (by omega)) ?_ | refine WQ.y rfl (Yld.aaddr tab_ok rfl rfl rfl (by omega) (by omega)) ?_ | refine WQ.call rfl rfl (right_fn _ _ _ (by omega) (by omega)) ?_ | refine WQ.y rfl (Yld.add rfl rfl (by simp only [In]; omega)) ?_ | refine WQ.y rfl (Yld.sub rfl rfl (by simp only [In]; omega)) ?_ | refine WQ.y rfl (Yld.mul rfl rfl (by simp only [In]; omega)) ?_ | refine WQ.y rfl (Yld.convB tab_ok rfl rfl rfl rfl) ?_ | refine WQ.y rfl (Yld.conv tab_ok rfl rfl rfl (by simp only [In]; omega)) ?_ | refine WQ.y rfl (Yld.quo rfl rfl (by omega) (by omega) (by simp only [In]; omega)) ?_ | refine WQ.y rfl (Yld.rem rfl rfl (by omega) (by omega)) ?_ | refine WQ.y rfl (Yld.shl rfl rfl (by omega)) ?_ | refine WQ.y rfl (Yld.shr rfl rfl (by omega)) ?_ | refine WQ.y rfl (Yld.pure tab_ok rfl) ?_)
      refine WQ.nil ?_
      repeat (first | refine WL.y rfl (Yld.bloadm 0 tab_ok hh8 rfl rfl (by omega)) ?_ | refine WL.y rfl (Yld.aaddr tab_ok rfl rfl rfl (by omega) (by omega)) ?_ | refine WC.seq ?_ | refine WC.block ?_ | refine WC.region ?_ | refine WL.nil ?_ | refine WX.then_normal ?_ | refine WC.skip ?_ | refine WC.exit ?_ | refine WC.ret ?_ | refine WX.then_exit ?_ | refine WX.then_ret ?_ | refine WX.block_normal ?_ | refine WX.block_ret ?_ | refine WX.block_same ?_ | refine WX.block_other rfl ?_ | refine WC.label ?_ | refine WC.scope ?_ | refine WX.scope_normal ?_ | refine WX.scope_ret ?_ | refine WX.scope_exit ?_ | refine WL.y rfl (Yld.add rfl rfl (by simp only [In]; omega)) ?_ | refine WL.y rfl (Yld.sub rfl rfl (by simp only [In]; omega)) ?_ | refine WL.y rfl (Yld.mul rfl rfl (by simp only [In]; omega)) ?_ | refine WL.y rfl (Yld.convB tab_ok rfl rfl rfl rfl) ?_ | refine WL.y rfl (Yld.conv tab_ok rfl rfl rfl (by simp only [In]; omega)) ?_ | refine WL.y rfl (Yld.quo rfl rfl (by omega) (by omega) (by simp only [In]; omega)) ?_ | refine WL.y rfl (Yld.rem rfl rfl (by omega) (by omega)) ?_ | refine WL.y rfl (Yld.shl rfl rfl (by omega)) ?_ | refine WL.y rfl (Yld.shr rfl rfl (by omega)) ?_ | refine WL.y rfl (Yld.pure tab_ok rfl) ?_)
      refine WL.y rfl (Yld.arr (us := (hnext ws (hAt ws hs i) i).map vu) tab_ok rfl zero212 rfl rfl (oneM One.u _) rfl) ?_
      refine WL.storeW tab_ok rfl rfl rfl (oneM One.u _) hh8 (by simp [hl8]) rfl (fun w9 hh9 hg9 => ?_)
      repeat (first | refine WC.seq ?_ | refine WC.block ?_ | refine WC.region ?_ | refine WL.nil ?_ | refine WX.then_normal ?_ | refine WC.skip ?_ | refine WC.exit ?_ | refine WC.ret ?_ | refine WX.then_exit ?_ | refine WX.then_ret ?_ | refine WX.block_normal ?_ | refine WX.block_ret ?_ | refine WX.block_same ?_ | refine WX.block_other rfl ?_ | refine WC.label ?_ | refine WC.scope ?_ | refine WX.scope_normal ?_ | refine WX.scope_ret ?_ | refine WX.scope_exit ?_ | refine WL.y rfl (Yld.add rfl rfl (by simp only [In]; omega)) ?_ | refine WL.y rfl (Yld.sub rfl rfl (by simp only [In]; omega)) ?_ | refine WL.y rfl (Yld.mul rfl rfl (by simp only [In]; omega)) ?_ | refine WL.y rfl (Yld.convB tab_ok rfl rfl rfl rfl) ?_ | refine WL.y rfl (Yld.conv tab_ok rfl rfl rfl (by simp only [In]; omega)) ?_ | refine WL.y rfl (Yld.quo rfl rfl (by omega) (by omega) (by simp only [In]; omega)) ?_ | refine WL.y rfl (Yld.rem rfl rfl (by omega) (by omega)) ?_ | refine WL.y rfl (Yld.shl rfl rfl (by omega)) ?_ | refine WL.y rfl (Yld.shr rfl rfl (by omega)) ?_ | refine WL.y rfl (Yld.pure tab_ok rfl) ?_)
      exact WX.round (i + 1) ⟨by omega, hh9, gr_trans hg8 hg9⟩ (by omega) (by repeat (first | exact Sub.nil | refine Sub.cons rfl ?_))
    · simp only [decide_eq_false_iff_not] at h
      obtain rfl : i = 64 := by omega
      have hB8 : Bl w8 g 214 (hs.map vu ++ tl) := hB7.keep hg8 (fun e => by injection e with e; omega)
      have hgr8 : w.grownBy w8 none := gr_new hgr7 hg8 (by have := hgr7.size; omega)
      have hhl8 := hh8.lt
      have hgl8 := hB8.lt
      have hne : g ≠ gh := by omega
      clear hg8 hh7 hk7 hw7 hB7 hgr7 hk8 hw8
      have hfin : mixS hs bs = sumAt hs (hAt ws hs 64) 8 := by rw [mixS, hws]
      generalize hAt ws hs 64 = hv at *
      repeat (first | refine WC.seq ?_ | refine WC.block ?_ | refine WC.region ?_ | refine WL.nil ?_ | refine WX.then_normal ?_ | refine WC.skip ?_ | refine WC.exit ?_ | refine WC.ret ?_ | refine WX.then_exit ?_ | refine WX.then_ret ?_ | refine WX.block_normal ?_ | refine WX.block_ret ?_ | refine WX.block_same ?_ | refine WX.block_other rfl ?_ | refine WC.label ?_ | refine WC.scope ?_ | refine WX.scope_normal ?_ | refine WX.scope_ret ?_ | refine WX.scope_exit ?_ | refine WL.y rfl (Yld.add rfl rfl (by simp only [In]; omega)) ?_ | refine WL.y rfl (Yld.sub rfl rfl (by simp only [In]; omega)) ?_ | refine WL.y rfl (Yld.mul rfl rfl (by simp only [In]; omega)) ?_ | refine WL.y rfl (Yld.convB tab_ok rfl rfl rfl rfl) ?_ | refine WL.y rfl (Yld.conv tab_ok rfl rfl rfl (by simp only [In]; omega)) ?_ | refine WL.y rfl (Yld.quo rfl rfl (by omega) (by omega) (by simp only [In]; omega)) ?_ | refine WL.y rfl (Yld.rem rfl rfl (by omega) (by omega)) ?_ | refine WL.y rfl (Yld.shl rfl rfl (by omega)) ?_ | refine WL.y rfl (Yld.shr rfl rfl (by omega)) ?_ | refine WL.y rfl (Yld.pure tab_ok rfl) ?_)
      refine WC.loop (S := Nat) (fun i => 8 - i) (fun i => [(181, vi i), (9, .pointer (some ⟨gh, 0, none⟩)), (0, .pointer (some ⟨g, 0, none⟩))])
        (fun i w' => i ≤ 8 ∧ Bl w' g 214 ((sumAt hs hv i).map vu ++ tl) ∧ w8.grownBy w' (some g)) 0 ⟨by omega, hB8, gr_refl _ _⟩ (by repeat (first | exact Sub.nil | refine Sub.cons rfl ?_)) (fun i w9 ⟨hi, hB9, hg9⟩ => ?_)
      have hsl := sumAt_len hs hv i
      have hh9 : Bl w9 gh 212 (hv.map vu) := hh8.keep hg9 (fun e => by injection e with e; omega)
      repeat (first | refine WC.seq ?_ | refine WC.block ?_ | refine WC.region ?_ | refine WL.nil ?_ | refine WX.then_normal ?_ | refine WC.skip ?_ | refine WC.exit ?_ | refine WC.ret ?_ | refine WX.then_exit ?_ | refine WX.then_ret ?_ | refine WX.block_normal ?_ | refine WX.block_ret ?_ | refine WX.block_same ?_ | refine WX.block_other rfl ?_ | refine WC.label ?_ | refine WC.scope ?_ | refine WX.scope_normal ?_ | refine WX.scope_ret ?_ | refine WX.scope_exit ?_ | refine WL.y rfl (Yld.add rfl rfl (by simp only [In]; omega)) ?_ | refine WL.y rfl (Yld.sub rfl rfl (by simp only [In]; omega)) ?_ | refine WL.y rfl (Yld.mul rfl rfl (by simp only [In]; omega)) ?_ | refine WL.y rfl (Yld.convB tab_ok rfl rfl rfl rfl) ?_ | refine WL.y rfl (Yld.conv tab_ok rfl rfl rfl (by simp only [In]; omega)) ?_ | refine WL.y rfl (Yld.quo rfl rfl (by omega) (by omega) (by simp only [In]; omega)) ?_ | refine WL.y rfl (Yld.rem rfl rfl (by omega) (by omega)) ?_ | refine WL.y rfl (Yld.shl rfl rfl (by omega)) ?_ | refine WL.y rfl (Yld.shr rfl rfl (by omega)) ?_ | refine WL.y rfl (Yld.pure tab_ok rfl) ?_)
      refine WC.cond rfl (fun h => ?_) (fun h => ?_)
      · simp only [decide_eq_true_eq] at h
        have ei : 0 + 0 + (i : Int).toNat * 1 = i := by omega
        have hv9 : ((sumAt hs hv i).map vu ++ tl)[0 + 0 + (i : Int).toNat * 1]? = some (vu ((sumAt hs hv i).getD i 0)) := by
          rw [ei, List.getElem?_append_left (by rw [List.length_map]; omega)]
          simp [List.getD, show i < (sumAt hs hv i).length by omega]
        repeat (first | refine WC.seq ?_ | refine WC.block ?_ | refine WC.region ?_ | refine WL.nil ?_ | refine WX.then_normal ?_ | refine WC.skip ?_ | refine WC.exit ?_ | refine WC.ret ?_ | refine WX.then_exit ?_ | refine WX.then_ret ?_ | refine WX.block_normal ?_ | refine WX.block_ret ?_ | refine WX.block_same ?_ | refine WX.block_other rfl ?_ | refine WC.label ?_ | refine WC.scope ?_ | refine WX.scope_normal ?_ | refine WX.scope_ret ?_ | refine WX.scope_exit ?_ | refine WL.y rfl (Yld.add rfl rfl (by simp only [In]; omega)) ?_ | refine WL.y rfl (Yld.sub rfl rfl (by simp only [In]; omega)) ?_ | refine WL.y rfl (Yld.mul rfl rfl (by simp only [In]; omega)) ?_ | refine WL.y rfl (Yld.convB tab_ok rfl rfl rfl rfl) ?_ | refine WL.y rfl (Yld.conv tab_ok rfl rfl rfl (by simp only [In]; omega)) ?_ | refine WL.y rfl (Yld.quo rfl rfl (by omega) (by omega) (by simp only [In]; omega)) ?_ | refine WL.y rfl (Yld.rem rfl rfl (by omega) (by omega)) ?_ | refine WL.y rfl (Yld.shl rfl rfl (by omega)) ?_ | refine WL.y rfl (Yld.shr rfl rfl (by omega)) ?_ | refine WL.y rfl (Yld.pure tab_ok rfl) ?_)
        refine WC.tail 13 mixed (by kernel_rfl) ?_
        repeat (first | refine WQ.y rfl (Yld.bload tab_ok hB9 rfl rfl hv9) ?_ | refine WQ.y rfl (Yld.bloadm 0 tab_ok hh9 rfl rfl (by omega)) ?_ | refine WQ.y rfl (Yld.aaddr tab_ok rfl rfl rfl (by omega) (by omega)) ?_ | refine WQ.y rfl (Yld.add rfl rfl (by simp only [In]; omega)) ?_ | refine WQ.y rfl (Yld.sub rfl rfl (by simp only [In]; omega)) ?_ | refine WQ.y rfl (Yld.mul rfl rfl (by simp only [In]; omega)) ?_ | refine WQ.y rfl (Yld.convB tab_ok rfl rfl rfl rfl) ?_ | refine WQ.y rfl (Yld.conv tab_ok rfl rfl rfl (by simp only [In]; omega)) ?_ | refine WQ.y rfl (Yld.quo rfl rfl (by omega) (by omega) (by simp only [In]; omega)) ?_ | refine WQ.y rfl (Yld.rem rfl rfl (by omega) (by omega)) ?_ | refine WQ.y rfl (Yld.shl rfl rfl (by omega)) ?_ | refine WQ.y rfl (Yld.shr rfl rfl (by omega)) ?_ | refine WQ.y rfl (Yld.pure tab_ok rfl) ?_)
        refine WQ.tail ?_
        refine WL.store1 one145 rfl rfl rfl hB9 (by simp; omega) (fun w10 hB10 hg10 => ?_)
        repeat (first | refine WC.seq ?_ | refine WC.block ?_ | refine WC.region ?_ | refine WL.nil ?_ | refine WX.then_normal ?_ | refine WC.skip ?_ | refine WC.exit ?_ | refine WC.ret ?_ | refine WX.then_exit ?_ | refine WX.then_ret ?_ | refine WX.block_normal ?_ | refine WX.block_ret ?_ | refine WX.block_same ?_ | refine WX.block_other rfl ?_ | refine WC.label ?_ | refine WC.scope ?_ | refine WX.scope_normal ?_ | refine WX.scope_ret ?_ | refine WX.scope_exit ?_ | refine WL.y rfl (Yld.add rfl rfl (by simp only [In]; omega)) ?_ | refine WL.y rfl (Yld.sub rfl rfl (by simp only [In]; omega)) ?_ | refine WL.y rfl (Yld.mul rfl rfl (by simp only [In]; omega)) ?_ | refine WL.y rfl (Yld.convB tab_ok rfl rfl rfl rfl) ?_ | refine WL.y rfl (Yld.conv tab_ok rfl rfl rfl (by simp only [In]; omega)) ?_ | refine WL.y rfl (Yld.quo rfl rfl (by omega) (by omega) (by simp only [In]; omega)) ?_ | refine WL.y rfl (Yld.rem rfl rfl (by omega) (by omega)) ?_ | refine WL.y rfl (Yld.shl rfl rfl (by omega)) ?_ | refine WL.y rfl (Yld.shr rfl rfl (by omega)) ?_ | refine WL.y rfl (Yld.pure tab_ok rfl) ?_)
        refine WX.round (i + 1) ⟨by omega, ?_, gr_trans hg9 hg10⟩ (by omega) (by repeat (first | exact Sub.nil | refine Sub.cons rfl ?_))
        rw [ei] at hB10
        rw [sumAt, List.map_set]
        rw [List.set_append_left _ _ (by rw [List.length_map]; omega)] at hB10
        exact hB10
      · simp only [decide_eq_false_iff_not] at h
        obtain rfl : i = 8 := by omega
        repeat (first | refine WC.seq ?_ | refine WC.block ?_ | refine WC.region ?_ | refine WL.nil ?_ | refine WX.then_normal ?_ | refine WC.skip ?_ | refine WC.exit ?_ | refine WC.ret ?_ | refine WX.then_exit ?_ | refine WX.then_ret ?_ | refine WX.block_normal ?_ | refine WX.block_ret ?_ | refine WX.block_same ?_ | refine WX.block_other rfl ?_ | refine WC.label ?_ | refine WC.scope ?_ | refine WX.scope_normal ?_ | refine WX.scope_ret ?_ | refine WX.scope_exit ?_ | refine WL.y rfl (Yld.add rfl rfl (by simp only [In]; omega)) ?_ | refine WL.y rfl (Yld.sub rfl rfl (by simp only [In]; omega)) ?_ | refine WL.y rfl (Yld.mul rfl rfl (by simp only [In]; omega)) ?_ | refine WL.y rfl (Yld.convB tab_ok rfl rfl rfl rfl) ?_ | refine WL.y rfl (Yld.conv tab_ok rfl rfl rfl (by simp only [In]; omega)) ?_ | refine WL.y rfl (Yld.quo rfl rfl (by omega) (by omega) (by simp only [In]; omega)) ?_ | refine WL.y rfl (Yld.rem rfl rfl (by omega) (by omega)) ?_ | refine WL.y rfl (Yld.shl rfl rfl (by omega)) ?_ | refine WL.y rfl (Yld.shr rfl rfl (by omega)) ?_ | refine WL.y rfl (Yld.pure tab_ok rfl) ?_)
        refine WX.end0 rfl ⟨rfl, ?_, ?_⟩
        · rw [hfin]; exact hB9
        · exact gr_trans (gr_some hgr8 (some g)) hg9
end Go.Proofs.YtlonpmajnglmoaaDoor

 namespace Go.Proofs.YtlonpmajnglmoaaDoor
open Go Go.RowKit
attribute [local irreducible] WL WC WX WQ Yld Fn

theorem grow_fn (m : Int) (w : World) (h0 : 0 ≤ m) (h1 : m ≤ 1073741824) :
    Fn Tryd.prog 181 ⟨[.slice none 0 0, vi m]⟩ w fun v w' => ∃ A c, v = .slice A 0 c ∧ Own vb w' w.heap.size 5 A c [] ∧ w.grownBy w' none ∧ (∀ g, blk A = some g → w.heap.size ≤ g) := by
  refine Fn.enter (by kernel_rfl) Tryd.func181 rfl Tryd.ntmps181 rfl ?_
  repeat (first | refine WC.seq ?_ | refine WC.block ?_ | refine WC.region ?_ | refine WL.nil ?_ | refine WX.then_normal ?_ | refine WC.skip ?_ | refine WC.exit ?_ | refine WC.ret ?_ | refine WX.then_exit ?_ | refine WX.then_ret ?_ | refine WX.block_normal ?_ | refine WX.block_ret ?_ | refine WX.block_same ?_ | refine WX.block_other rfl ?_ | refine WC.label ?_ | refine WC.scope ?_ | refine WX.scope_normal ?_ | refine WX.scope_ret ?_ | refine WX.scope_exit ?_ | refine WL.y rfl (Yld.add rfl rfl (by simp only [In]; omega)) ?_ | refine WL.y rfl (Yld.sub rfl rfl (by simp only [In]; omega)) ?_ | refine WL.y rfl (Yld.mul rfl rfl (by simp only [In]; omega)) ?_ | refine WL.y rfl (Yld.convB tab_ok rfl rfl rfl rfl) ?_ | refine WL.y rfl (Yld.conv tab_ok rfl rfl rfl (by simp only [In]; omega)) ?_ | refine WL.y rfl (Yld.quo rfl rfl (by omega) (by omega) (by simp only [In]; omega)) ?_ | refine WL.y rfl (Yld.rem rfl rfl (by omega) (by omega)) ?_ | refine WL.y rfl (Yld.shl rfl rfl (by omega)) ?_ | refine WL.y rfl (Yld.shr rfl rfl (by omega)) ?_ | refine WL.y rfl (Yld.pure tab_ok rfl) ?_)
  refine WC.cond rfl (fun h => ?_) (fun h => ?_)
  · simp only [decide_eq_true_eq] at h
    omega
  · repeat (first | refine WC.seq ?_ | refine WC.block ?_ | refine WC.region ?_ | refine WL.nil ?_ | refine WX.then_normal ?_ | refine WC.skip ?_ | refine WC.exit ?_ | refine WC.ret ?_ | refine WX.then_exit ?_ | refine WX.then_ret ?_ | refine WX.block_normal ?_ | refine WX.block_ret ?_ | refine WX.block_same ?_ | refine WX.block_other rfl ?_ | refine WC.label ?_ | refine WC.scope ?_ | refine WX.scope_normal ?_ | refine WX.scope_ret ?_ | refine WX.scope_exit ?_ | refine WL.y rfl (Yld.add rfl rfl (by simp only [In]; omega)) ?_ | refine WL.y rfl (Yld.sub rfl rfl (by simp only [In]; omega)) ?_ | refine WL.y rfl (Yld.mul rfl rfl (by simp only [In]; omega)) ?_ | refine WL.y rfl (Yld.convB tab_ok rfl rfl rfl rfl) ?_ | refine WL.y rfl (Yld.conv tab_ok rfl rfl rfl (by simp only [In]; omega)) ?_ | refine WL.y rfl (Yld.quo rfl rfl (by omega) (by omega) (by simp only [In]; omega)) ?_ | refine WL.y rfl (Yld.rem rfl rfl (by omega) (by omega)) ?_ | refine WL.y rfl (Yld.shl rfl rfl (by omega)) ?_ | refine WL.y rfl (Yld.shr rfl rfl (by omega)) ?_ | refine WL.y rfl (Yld.pure tab_ok rfl) ?_)
    have e : m - (((0 : Nat) : Int) - ((0 : Nat) : Int)) = m := by omega
    rw [e]
    refine WC.cond rfl (fun h => ?_) (fun h => ?_)
    · repeat (first | refine WC.seq ?_ | refine WC.block ?_ | refine WC.region ?_ | refine WL.nil ?_ | refine WX.then_normal ?_ | refine WC.skip ?_ | refine WC.exit ?_ | refine WC.ret ?_ | refine WX.then_exit ?_ | refine WX.then_ret ?_ | refine WX.block_normal ?_ | refine WX.block_ret ?_ | refine WX.block_same ?_ | refine WX.block_other rfl ?_ | refine WC.label ?_ | refine WC.scope ?_ | refine WX.scope_normal ?_ | refine WX.scope_ret ?_ | refine WX.scope_exit ?_ | refine WL.y rfl (Yld.add rfl rfl (by simp only [In]; omega)) ?_ | refine WL.y rfl (Yld.sub rfl rfl (by simp only [In]; omega)) ?_ | refine WL.y rfl (Yld.mul rfl rfl (by simp only [In]; omega)) ?_ | refine WL.y rfl (Yld.convB tab_ok rfl rfl rfl rfl) ?_ | refine WL.y rfl (Yld.conv tab_ok rfl rfl rfl (by simp only [In]; omega)) ?_ | refine WL.y rfl (Yld.quo rfl rfl (by omega) (by omega) (by simp only [In]; omega)) ?_ | refine WL.y rfl (Yld.rem rfl rfl (by omega) (by omega)) ?_ | refine WL.y rfl (Yld.shl rfl rfl (by omega)) ?_ | refine WL.y rfl (Yld.shr rfl rfl (by omega)) ?_ | refine WL.y rfl (Yld.pure tab_ok rfl) ?_)
      refine WL.ocut (f := vb) (lo := none) tab_ok rfl rfl (Own.nil vb w w.heap.size 5) rfl rfl rfl rfl (by omega) (by omega) (fun _ => ?_)
      repeat (first | refine WC.seq ?_ | refine WC.block ?_ | refine WC.region ?_ | refine WL.nil ?_ | refine WX.then_normal ?_ | refine WC.skip ?_ | refine WC.exit ?_ | refine WC.ret ?_ | refine WX.then_exit ?_ | refine WX.then_ret ?_ | refine WX.block_normal ?_ | refine WX.block_ret ?_ | refine WX.block_same ?_ | refine WX.block_other rfl ?_ | refine WC.label ?_ | refine WC.scope ?_ | refine WX.scope_normal ?_ | refine WX.scope_ret ?_ | refine WX.scope_exit ?_ | refine WL.y rfl (Yld.add rfl rfl (by simp only [In]; omega)) ?_ | refine WL.y rfl (Yld.sub rfl rfl (by simp only [In]; omega)) ?_ | refine WL.y rfl (Yld.mul rfl rfl (by simp only [In]; omega)) ?_ | refine WL.y rfl (Yld.convB tab_ok rfl rfl rfl rfl) ?_ | refine WL.y rfl (Yld.conv tab_ok rfl rfl rfl (by simp only [In]; omega)) ?_ | refine WL.y rfl (Yld.quo rfl rfl (by omega) (by omega) (by simp only [In]; omega)) ?_ | refine WL.y rfl (Yld.rem rfl rfl (by omega) (by omega)) ?_ | refine WL.y rfl (Yld.shl rfl rfl (by omega)) ?_ | refine WL.y rfl (Yld.shr rfl rfl (by omega)) ?_ | refine WL.y rfl (Yld.pure tab_ok rfl) ?_)
      refine WL.appendZ (f := vb) (z := 0) tab_ok rfl rfl rfl zero5 rfl rfl h0 (by omega) (by omega) (Nat.le_refl _) (fun A' c' w' hO hg hf => ?_)
      repeat (first | refine WC.seq ?_ | refine WC.block ?_ | refine WC.region ?_ | refine WL.nil ?_ | refine WX.then_normal ?_ | refine WC.skip ?_ | refine WC.exit ?_ | refine WC.ret ?_ | refine WX.then_exit ?_ | refine WX.then_ret ?_ | refine WX.block_normal ?_ | refine WX.block_ret ?_ | refine WX.block_same ?_ | refine WX.block_other rfl ?_ | refine WC.label ?_ | refine WC.scope ?_ | refine WX.scope_normal ?_ | refine WX.scope_ret ?_ | refine WX.scope_exit ?_ | refine WL.y rfl (Yld.add rfl rfl (by simp only [In]; omega)) ?_ | refine WL.y rfl (Yld.sub rfl rfl (by simp only [In]; omega)) ?_ | refine WL.y rfl (Yld.mul rfl rfl (by simp only [In]; omega)) ?_ | refine WL.y rfl (Yld.convB tab_ok rfl rfl rfl rfl) ?_ | refine WL.y rfl (Yld.conv tab_ok rfl rfl rfl (by simp only [In]; omega)) ?_ | refine WL.y rfl (Yld.quo rfl rfl (by omega) (by omega) (by simp only [In]; omega)) ?_ | refine WL.y rfl (Yld.rem rfl rfl (by omega) (by omega)) ?_ | refine WL.y rfl (Yld.shl rfl rfl (by omega)) ?_ | refine WL.y rfl (Yld.shr rfl rfl (by omega)) ?_ | refine WL.y rfl (Yld.pure tab_ok rfl) ?_)
      refine WL.ocut (lo := none) tab_ok rfl rfl hO rfl (by simp) rfl rfl (by omega) (by omega) (fun hO2 => ?_)
      repeat (first | refine WC.seq ?_ | refine WC.block ?_ | refine WC.region ?_ | refine WL.nil ?_ | refine WX.then_normal ?_ | refine WC.skip ?_ | refine WC.exit ?_ | refine WC.ret ?_ | refine WX.then_exit ?_ | refine WX.then_ret ?_ | refine WX.block_normal ?_ | refine WX.block_ret ?_ | refine WX.block_same ?_ | refine WX.block_other rfl ?_ | refine WC.label ?_ | refine WC.scope ?_ | refine WX.scope_normal ?_ | refine WX.scope_ret ?_ | refine WX.scope_exit ?_ | refine WL.y rfl (Yld.add rfl rfl (by simp only [In]; omega)) ?_ | refine WL.y rfl (Yld.sub rfl rfl (by simp only [In]; omega)) ?_ | refine WL.y rfl (Yld.mul rfl rfl (by simp only [In]; omega)) ?_ | refine WL.y rfl (Yld.convB tab_ok rfl rfl rfl rfl) ?_ | refine WL.y rfl (Yld.conv tab_ok rfl rfl rfl (by simp only [In]; omega)) ?_ | refine WL.y rfl (Yld.quo rfl rfl (by omega) (by omega) (by simp only [In]; omega)) ?_ | refine WL.y rfl (Yld.rem rfl rfl (by omega) (by omega)) ?_ | refine WL.y rfl (Yld.shl rfl rfl (by omega)) ?_ | refine WL.y rfl (Yld.shr rfl rfl (by omega)) ?_ | refine WL.y rfl (Yld.pure tab_ok rfl) ?_)
      exact WX.ret1 rfl rfl ⟨A', c', rfl, hO2, hg, hf⟩
    · repeat (first | refine WC.seq ?_ | refine WC.block ?_ | refine WC.region ?_ | refine WL.nil ?_ | refine WX.then_normal ?_ | refine WC.skip ?_ | refine WC.exit ?_ | refine WC.ret ?_ | refine WX.then_exit ?_ | refine WX.then_ret ?_ | refine WX.block_normal ?_ | refine WX.block_ret ?_ | refine WX.block_same ?_ | refine WX.block_other rfl ?_ | refine WC.label ?_ | refine WC.scope ?_ | refine WX.scope_normal ?_ | refine WX.scope_ret ?_ | refine WX.scope_exit ?_ | refine WL.y rfl (Yld.add rfl rfl (by simp only [In]; omega)) ?_ | refine WL.y rfl (Yld.sub rfl rfl (by simp only [In]; omega)) ?_ | refine WL.y rfl (Yld.mul rfl rfl (by simp only [In]; omega)) ?_ | refine WL.y rfl (Yld.convB tab_ok rfl rfl rfl rfl) ?_ | refine WL.y rfl (Yld.conv tab_ok rfl rfl rfl (by simp only [In]; omega)) ?_ | refine WL.y rfl (Yld.quo rfl rfl (by omega) (by omega) (by simp only [In]; omega)) ?_ | refine WL.y rfl (Yld.rem rfl rfl (by omega) (by omega)) ?_ | refine WL.y rfl (Yld.shl rfl rfl (by omega)) ?_ | refine WL.y rfl (Yld.shr rfl rfl (by omega)) ?_ | refine WL.y rfl (Yld.pure tab_ok rfl) ?_)
      exact WX.ret1 rfl rfl ⟨none, 0, rfl, Own.nil _ _ _ _, gr_refl _ _, fun g hg => by simp [blk] at hg⟩
theorem clone_fn (A : Option Addr) (c : Nat) (bs : List UInt8) (w : World) (hR : Rd vb w A c bs) (hl : bs.length ≤ 1073741824) :
    Fn Tryd.prog 146 ⟨[.slice A bs.length c]⟩ w fun v w' => ∃ A' c', v = .slice A' bs.length c' ∧ Own vb w' w.heap.size 5 A' c' bs ∧ w.grownBy w' none ∧ (∀ g, blk A' = some g → w.heap.size ≤ g) := by
  refine Fn.enter (by kernel_rfl) Tryd.func146 rfl Tryd.ntmps146 rfl ?_
  repeat (first | refine WC.seq ?_ | refine WC.block ?_ | refine WC.region ?_ | refine WL.nil ?_ | refine WX.then_normal ?_ | refine WC.skip ?_ | refine WC.exit ?_ | refine WC.ret ?_ | refine WX.then_exit ?_ | refine WX.then_ret ?_ | refine WX.block_normal ?_ | refine WX.block_ret ?_ | refine WX.block_same ?_ | refine WX.block_other rfl ?_ | refine WC.label ?_ | refine WC.scope ?_ | refine WX.scope_normal ?_ | refine WX.scope_ret ?_ | refine WX.scope_exit ?_ | refine WL.y rfl (Yld.add rfl rfl (by simp only [In]; omega)) ?_ | refine WL.y rfl (Yld.sub rfl rfl (by simp only [In]; omega)) ?_ | refine WL.y rfl (Yld.mul rfl rfl (by simp only [In]; omega)) ?_ | refine WL.y rfl (Yld.convB tab_ok rfl rfl rfl rfl) ?_ | refine WL.y rfl (Yld.conv tab_ok rfl rfl rfl (by simp only [In]; omega)) ?_ | refine WL.y rfl (Yld.quo rfl rfl (by omega) (by omega) (by simp only [In]; omega)) ?_ | refine WL.y rfl (Yld.rem rfl rfl (by omega) (by omega)) ?_ | refine WL.y rfl (Yld.shl rfl rfl (by omega)) ?_ | refine WL.y rfl (Yld.shr rfl rfl (by omega)) ?_ | refine WL.y rfl (Yld.pure tab_ok rfl) ?_)
  refine WL.y rfl (Yld.eqnil tab_ok rfl rfl rfl) ?_
  repeat (first | refine WC.seq ?_ | refine WC.block ?_ | refine WC.region ?_ | refine WL.nil ?_ | refine WX.then_normal ?_ | refine WC.skip ?_ | refine WC.exit ?_ | refine WC.ret ?_ | refine WX.then_exit ?_ | refine WX.then_ret ?_ | refine WX.block_normal ?_ | refine WX.block_ret ?_ | refine WX.block_same ?_ | refine WX.block_other rfl ?_ | refine WC.label ?_ | refine WC.scope ?_ | refine WX.scope_normal ?_ | refine WX.scope_ret ?_ | refine WX.scope_exit ?_ | refine WL.y rfl (Yld.add rfl rfl (by simp only [In]; omega)) ?_ | refine WL.y rfl (Yld.sub rfl rfl (by simp only [In]; omega)) ?_ | refine WL.y rfl (Yld.mul rfl rfl (by simp only [In]; omega)) ?_ | refine WL.y rfl (Yld.convB tab_ok rfl rfl rfl rfl) ?_ | refine WL.y rfl (Yld.conv tab_ok rfl rfl rfl (by simp only [In]; omega)) ?_ | refine WL.y rfl (Yld.quo rfl rfl (by omega) (by omega) (by simp only [In]; omega)) ?_ | refine WL.y rfl (Yld.rem rfl rfl (by omega) (by omega)) ?_ | refine WL.y rfl (Yld.shl rfl rfl (by omega)) ?_ | refine WL.y rfl (Yld.shr rfl rfl (by omega)) ?_ | refine WL.y rfl (Yld.pure tab_ok rfl) ?_)
  refine WC.cond rfl (fun h => ?_) (fun h => ?_)
  · have hA : A = none := by simpa using h
    subst hA
    have hb : bs = [] := by
      rcases List.eq_nil_or_concat bs with h | ⟨l, b, h⟩
      · exact h
      · obtain ⟨ad, h2, _⟩ := hR.cells (by rw [h]; simp)
        cases h2
    subst hb
    repeat (first | refine WC.seq ?_ | refine WC.block ?_ | refine WC.region ?_ | refine WL.nil ?_ | refine WX.then_normal ?_ | refine WC.skip ?_ | refine WC.exit ?_ | refine WC.ret ?_ | refine WX.then_exit ?_ | refine WX.then_ret ?_ | refine WX.block_normal ?_ | refine WX.block_ret ?_ | refine WX.block_same ?_ | refine WX.block_other rfl ?_ | refine WC.label ?_ | refine WC.scope ?_ | refine WX.scope_normal ?_ | refine WX.scope_ret ?_ | refine WX.scope_exit ?_ | refine WL.y rfl (Yld.add rfl rfl (by simp only [In]; omega)) ?_ | refine WL.y rfl (Yld.sub rfl rfl (by simp only [In]; omega)) ?_ | refine WL.y rfl (Yld.mul rfl rfl (by simp only [In]; omega)) ?_ | refine WL.y rfl (Yld.convB tab_ok rfl rfl rfl rfl) ?_ | refine WL.y rfl (Yld.conv tab_ok rfl rfl rfl (by simp only [In]; omega)) ?_ | refine WL.y rfl (Yld.quo rfl rfl (by omega) (by omega) (by simp only [In]; omega)) ?_ | refine WL.y rfl (Yld.rem rfl rfl (by omega) (by omega)) ?_ | refine WL.y rfl (Yld.shl rfl rfl (by omega)) ?_ | refine WL.y rfl (Yld.shr rfl rfl (by omega)) ?_ | refine WL.y rfl (Yld.pure tab_ok rfl) ?_)
    exact WX.ret1 rfl rfl ⟨none, 0, rfl, Own.nil _ _ _ _, gr_refl _ _, fun g hg => by simp [blk] at hg⟩
  · repeat (first | refine WC.seq ?_ | refine WC.block ?_ | refine WC.region ?_ | refine WL.nil ?_ | refine WX.then_normal ?_ | refine WC.skip ?_ | refine WC.exit ?_ | refine WC.ret ?_ | refine WX.then_exit ?_ | refine WX.then_ret ?_ | refine WX.block_normal ?_ | refine WX.block_ret ?_ | refine WX.block_same ?_ | refine WX.block_other rfl ?_ | refine WC.label ?_ | refine WC.scope ?_ | refine WX.scope_normal ?_ | refine WX.scope_ret ?_ | refine WX.scope_exit ?_ | refine WL.y rfl (Yld.add rfl rfl (by simp only [In]; omega)) ?_ | refine WL.y rfl (Yld.sub rfl rfl (by simp only [In]; omega)) ?_ | refine WL.y rfl (Yld.mul rfl rfl (by simp only [In]; omega)) ?_ | refine WL.y rfl (Yld.convB tab_ok rfl rfl rfl rfl) ?_ | refine WL.y rfl (Yld.conv tab_ok rfl rfl rfl (by simp only [In]; omega)) ?_ | refine WL.y rfl (Yld.quo rfl rfl (by omega) (by omega) (by simp only [In]; omega)) ?_ | refine WL.y rfl (Yld.rem rfl rfl (by omega) (by omega)) ?_ | refine WL.y rfl (Yld.shl rfl rfl (by omega)) ?_ | refine WL.y rfl (Yld.shr rfl rfl (by omega)) ?_ | refine WL.y rfl (Yld.pure tab_ok rfl) ?_)
    refine WL.lit (us := []) tab_ok rfl rfl rfl (by simp) rfl (by omega) (fun g w1 hB hg hlt => ?_)
    repeat (first | refine WC.seq ?_ | refine WC.block ?_ | refine WC.region ?_ | refine WL.nil ?_ | refine WX.then_normal ?_ | refine WC.skip ?_ | refine WC.exit ?_ | refine WC.ret ?_ | refine WX.then_exit ?_ | refine WX.then_ret ?_ | refine WX.block_normal ?_ | refine WX.block_ret ?_ | refine WX.block_same ?_ | refine WX.block_other rfl ?_ | refine WC.label ?_ | refine WC.scope ?_ | refine WX.scope_normal ?_ | refine WX.scope_ret ?_ | refine WX.scope_exit ?_ | refine WL.y rfl (Yld.add rfl rfl (by simp only [In]; omega)) ?_ | refine WL.y rfl (Yld.sub rfl rfl (by simp only [In]; omega)) ?_ | refine WL.y rfl (Yld.mul rfl rfl (by simp only [In]; omega)) ?_ | refine WL.y rfl (Yld.convB tab_ok rfl rfl rfl rfl) ?_ | refine WL.y rfl (Yld.conv tab_ok rfl rfl rfl (by simp only [In]; omega)) ?_ | refine WL.y rfl (Yld.quo rfl rfl (by omega) (by omega) (by simp only [In]; omega)) ?_ | refine WL.y rfl (Yld.rem rfl rfl (by omega) (by omega)) ?_ | refine WL.y rfl (Yld.shl rfl rfl (by omega)) ?_ | refine WL.y rfl (Yld.shr rfl rfl (by omega)) ?_ | refine WL.y rfl (Yld.pure tab_ok rfl) ?_)
    have hO : Own vb w1 w.heap.size 5 (some ⟨g, 0, none⟩) 0 [] := ⟨by simp, .inr ⟨g, 0, #[], rfl, hlt, hB, by simp, by simp [maxLen], rfl, rfl⟩⟩
    refine WL.append tab_ok rfl rfl One.b hO rfl rfl (hR.grown hg) rfl rfl (by simp; omega) (by simp [maxLen]; omega) hg.size (fun A' c' w' hO' hg' hf => ?_)
    repeat (first | refine WC.seq ?_ | refine WC.block ?_ | refine WC.region ?_ | refine WL.nil ?_ | refine WX.then_normal ?_ | refine WC.skip ?_ | refine WC.exit ?_ | refine WC.ret ?_ | refine WX.then_exit ?_ | refine WX.then_ret ?_ | refine WX.block_normal ?_ | refine WX.block_ret ?_ | refine WX.block_same ?_ | refine WX.block_other rfl ?_ | refine WC.label ?_ | refine WC.scope ?_ | refine WX.scope_normal ?_ | refine WX.scope_ret ?_ | refine WX.scope_exit ?_ | refine WL.y rfl (Yld.add rfl rfl (by simp only [In]; omega)) ?_ | refine WL.y rfl (Yld.sub rfl rfl (by simp only [In]; omega)) ?_ | refine WL.y rfl (Yld.mul rfl rfl (by simp only [In]; omega)) ?_ | refine WL.y rfl (Yld.convB tab_ok rfl rfl rfl rfl) ?_ | refine WL.y rfl (Yld.conv tab_ok rfl rfl rfl (by simp only [In]; omega)) ?_ | refine WL.y rfl (Yld.quo rfl rfl (by omega) (by omega) (by simp only [In]; omega)) ?_ | refine WL.y rfl (Yld.rem rfl rfl (by omega) (by omega)) ?_ | refine WL.y rfl (Yld.shl rfl rfl (by omega)) ?_ | refine WL.y rfl (Yld.shr rfl rfl (by omega)) ?_ | refine WL.y rfl (Yld.pure tab_ok rfl) ?_)
    have hs1 := hg.size
    refine WX.ret1 rfl rfl ⟨A', c', rfl, hO', gr_new hg hg' hlt, fun q hq => ?_⟩
    rcases hf q hq with h | h
    · simp only [blk, Option.map_some, Option.some.injEq] at h
      omega
    · omega
end Go.Proofs.YtlonpmajnglmoaaDoor

 namespace Go.Proofs.YtlonpmajnglmoaaDoor
open Go Go.RowKit
attribute [local irreducible] WL WC WX WQ Yld Fn

/-- a slice of bytes, as_ a value: where it lies, its capacity, its bytes -/
def vS (x : Option Addr × Nat × List UInt8) : Value := .slice x.1 x.2.2.length x.2.1
theorem One.S : One vS := fun _ => rfl
def catS (l : List (Option Addr × Nat × List UInt8)) : List UInt8 := l.flatMap (·.2.2)
theorem catS_take (l : List (Option Addr × Nat × List UInt8)) (k : Nat) (h : k < l.length) : catS (l.take (k + 1)) = catS (l.take k) ++ (l.getD k (none, 0, [])).2.2 := by
  unfold catS
  rw [List.take_succ_eq_append_getElem h, List.flatMap_append]
  simp [List.getD, h]
theorem catS_le (l : List (Option Addr × Nat × List UInt8)) (k : Nat) : (catS (l.take k)).length ≤ (catS l).length := by
  unfold catS
  conv => rhs; rw [← List.take_append_drop k l, List.flatMap_append, List.length_append]
  omega
theorem concat_fn (A : Option Addr) (c : Nat) (l : List (Option Addr × Nat × List UInt8)) (w : World) (hR : Rd vS w A c l) (hl : ∀ x ∈ l, Rd vb w x.1 x.2.1 x.2.2) (hs : (catS l).length ≤ 1073741824) :
    Fn Tryd.prog 144 ⟨[.slice A l.length c]⟩ w fun v w' => ∃ A' c', v = .slice A' (catS l).length c' ∧ Own vb w' w.heap.size 5 A' c' (catS l) ∧ w.grownBy w' none := by
  have hml : l.length ≤ 9223372036854775807 := by have h1 := hR.cap; have h2 := hR.max; unfold maxLen at h2; omega
  refine Fn.enter (by kernel_rfl) Tryd.func144 rfl Tryd.ntmps144 rfl ?_
  repeat (first | refine WC.seq ?_ | refine WC.block ?_ | refine WC.region ?_ | refine WL.nil ?_ | refine WX.then_normal ?_ | refine WC.skip ?_ | refine WC.exit ?_ | refine WC.ret ?_ | refine WX.then_exit ?_ | refine WX.then_ret ?_ | refine WX.block_normal ?_ | refine WX.block_ret ?_ | refine WX.block_same ?_ | refine WX.block_other rfl ?_ | refine WC.label ?_ | refine WC.scope ?_ | refine WX.scope_normal ?_ | refine WX.scope_ret ?_ | refine WX.scope_exit ?_ | refine WL.y rfl (Yld.add rfl rfl (by simp only [In]; omega)) ?_ | refine WL.y rfl (Yld.sub rfl rfl (by simp only [In]; omega)) ?_ | refine WL.y rfl (Yld.mul rfl rfl (by simp only [In]; omega)) ?_ | refine WL.y rfl (Yld.convB tab_ok rfl rfl rfl rfl) ?_ | refine WL.y rfl (Yld.conv tab_ok rfl rfl rfl (by simp only [In]; omega)) ?_ | refine WL.y rfl (Yld.quo rfl rfl (by omega) (by omega) (by simp only [In]; omega)) ?_ | refine WL.y rfl (Yld.rem rfl rfl (by omega) (by omega)) ?_ | refine WL.y rfl (Yld.shl rfl rfl (by omega)) ?_ | refine WL.y rfl (Yld.shr rfl rfl (by omega)) ?_ | refine WL.y rfl (Yld.pure tab_ok rfl) ?_)
  refine WC.loop (S := Nat) (fun i => l.length - i) (fun i => [(11, vi i), (3, vi (catS (l.take i)).length), (10, vi l.length), (9, .slice A l.length c), (0, .slice A l.length c)])
    (fun i w' => i ≤ l.length ∧ w' = w) 0 ⟨by omega, rfl⟩ (by repeat (first | exact Sub.nil | refine Sub.cons rfl ?_)) (fun i w' ⟨hi, hw⟩ => ?_)
  subst hw
  have hc1 := catS_le l i
  repeat (first | refine WC.seq ?_ | refine WC.block ?_ | refine WC.region ?_ | refine WL.nil ?_ | refine WX.then_normal ?_ | refine WC.skip ?_ | refine WC.exit ?_ | refine WC.ret ?_ | refine WX.then_exit ?_ | refine WX.then_ret ?_ | refine WX.block_normal ?_ | refine WX.block_ret ?_ | refine WX.block_same ?_ | refine WX.block_other rfl ?_ | refine WC.label ?_ | refine WC.scope ?_ | refine WX.scope_normal ?_ | refine WX.scope_ret ?_ | refine WX.scope_exit ?_ | refine WL.y rfl (Yld.add rfl rfl (by simp only [In]; omega)) ?_ | refine WL.y rfl (Yld.sub rfl rfl (by simp only [In]; omega)) ?_ | refine WL.y rfl (Yld.mul rfl rfl (by simp only [In]; omega)) ?_ | refine WL.y rfl (Yld.convB tab_ok rfl rfl rfl rfl) ?_ | refine WL.y rfl (Yld.conv tab_ok rfl rfl rfl (by simp only [In]; omega)) ?_ | refine WL.y rfl (Yld.quo rfl rfl (by omega) (by omega) (by simp only [In]; omega)) ?_ | refine WL.y rfl (Yld.rem rfl rfl (by omega) (by omega)) ?_ | refine WL.y rfl (Yld.shl rfl rfl (by omega)) ?_ | refine WL.y rfl (Yld.shr rfl rfl (by omega)) ?_ | refine WL.y rfl (Yld.pure tab_ok rfl) ?_)
  refine WC.cond rfl (fun h => ?_) (fun h => ?_)
  · simp only [decide_eq_true_eq] at h
    have hlt : i < l.length := by omega
    have hc2 := catS_le l (i + 1)
    have hc3 := catS_take l i hlt
    have hc4 : (catS (l.take (i + 1))).length = (catS (l.take i)).length + (l.getD i (none, 0, [])).2.2.length := by rw [hc3, List.length_append]
    repeat (first | refine WL.y rfl (Yld.iaddrN tab_ok hR rfl rfl rfl rfl (by omega)) ?_ | refine WL.y rfl (Yld.iload (none, 0, []) tab_ok hR rfl rfl (by omega)) ?_ | refine WC.seq ?_ | refine WC.block ?_ | refine WC.region ?_ | refine WL.nil ?_ | refine WX.then_normal ?_ | refine WC.skip ?_ | refine WC.exit ?_ | refine WC.ret ?_ | refine WX.then_exit ?_ | refine WX.then_ret ?_ | refine WX.block_normal ?_ | refine WX.block_ret ?_ | refine WX.block_same ?_ | refine WX.block_other rfl ?_ | refine WC.label ?_ | refine WC.scope ?_ | refine WX.scope_normal ?_ | refine WX.scope_ret ?_ | refine WX.scope_exit ?_ | refine WL.y rfl (Yld.add rfl rfl (by simp only [In]; omega)) ?_ | refine WL.y rfl (Yld.sub rfl rfl (by simp only [In]; omega)) ?_ | refine WL.y rfl (Yld.mul rfl rfl (by simp only [In]; omega)) ?_ | refine WL.y rfl (Yld.convB tab_ok rfl rfl rfl rfl) ?_ | refine WL.y rfl (Yld.conv tab_ok rfl rfl rfl (by simp only [In]; omega)) ?_ | refine WL.y rfl (Yld.quo rfl rfl (by omega) (by omega) (by simp only [In]; omega)) ?_ | refine WL.y rfl (Yld.rem rfl rfl (by omega) (by omega)) ?_ | refine WL.y rfl (Yld.shl rfl rfl (by omega)) ?_ | refine WL.y rfl (Yld.shr rfl rfl (by omega)) ?_ | refine WL.y rfl (Yld.pure tab_ok rfl) ?_)
    refine WC.cond rfl (fun h2 => ?_) (fun h2 => ?_)
    · simp only [decide_eq_true_eq] at h2
      omega
    · repeat (first | refine WC.seq ?_ | refine WC.block ?_ | refine WC.region ?_ | refine WL.nil ?_ | refine WX.then_normal ?_ | refine WC.skip ?_ | refine WC.exit ?_ | refine WC.ret ?_ | refine WX.then_exit ?_ | refine WX.then_ret ?_ | refine WX.block_normal ?_ | refine WX.block_ret ?_ | refine WX.block_same ?_ | refine WX.block_other rfl ?_ | refine WC.label ?_ | refine WC.scope ?_ | refine WX.scope_normal ?_ | refine WX.scope_ret ?_ | refine WX.scope_exit ?_ | refine WL.y rfl (Yld.add rfl rfl (by simp only [In]; omega)) ?_ | refine WL.y rfl (Yld.sub rfl rfl (by simp only [In]; omega)) ?_ | refine WL.y rfl (Yld.mul rfl rfl (by simp only [In]; omega)) ?_ | refine WL.y rfl (Yld.convB tab_ok rfl rfl rfl rfl) ?_ | refine WL.y rfl (Yld.conv tab_ok rfl rfl rfl (by simp only [In]; omega)) ?_ | refine WL.y rfl (Yld.quo rfl rfl (by omega) (by omega) (by simp only [In]; omega)) ?_ | refine WL.y rfl (Yld.rem rfl rfl (by omega) (by omega)) ?_ | refine WL.y rfl (Yld.shl rfl rfl (by omega)) ?_ | refine WL.y rfl (Yld.shr rfl rfl (by omega)) ?_ | refine WL.y rfl (Yld.pure tab_ok rfl) ?_)
      refine WX.round (i + 1) ⟨by omega, rfl⟩ (by omega) ?_
      refine Sub.cons rfl (Sub.cons ?_ (by repeat (first | exact Sub.nil | refine Sub.cons rfl ?_)))
      rw [hc4]
      rfl
  · simp only [decide_eq_false_iff_not] at h
    obtain rfl : i = l.length := by omega
    rw [List.take_of_length_le (Nat.le_refl _)] at *
    repeat (first | refine WC.seq ?_ | refine WC.block ?_ | refine WC.region ?_ | refine WL.nil ?_ | refine WX.then_normal ?_ | refine WC.skip ?_ | refine WC.exit ?_ | refine WC.ret ?_ | refine WX.then_exit ?_ | refine WX.then_ret ?_ | refine WX.block_normal ?_ | refine WX.block_ret ?_ | refine WX.block_same ?_ | refine WX.block_other rfl ?_ | refine WC.label ?_ | refine WC.scope ?_ | refine WX.scope_normal ?_ | refine WX.scope_ret ?_ | refine WX.scope_exit ?_ | refine WL.y rfl (Yld.add rfl rfl (by simp only [In]; omega)) ?_ | refine WL.y rfl (Yld.sub rfl rfl (by simp only [In]; omega)) ?_ | refine WL.y rfl (Yld.mul rfl rfl (by simp only [In]; omega)) ?_ | refine WL.y rfl (Yld.convB tab_ok rfl rfl rfl rfl) ?_ | refine WL.y rfl (Yld.conv tab_ok rfl rfl rfl (by simp only [In]; omega)) ?_ | refine WL.y rfl (Yld.quo rfl rfl (by omega) (by omega) (by simp only [In]; omega)) ?_ | refine WL.y rfl (Yld.rem rfl rfl (by omega) (by omega)) ?_ | refine WL.y rfl (Yld.shl rfl rfl (by omega)) ?_ | refine WL.y rfl (Yld.shr rfl rfl (by omega)) ?_ | refine WL.y rfl (Yld.pure tab_ok rfl) ?_)
    refine WL.call rfl rfl (grow_fn (catS l).length w' (by omega) (by omega)) ?_
    rintro _ w1 ⟨A1, c1, rfl, hO1, hg1, _⟩
    have hR1 := hR.grown hg1
    repeat (first | refine WC.seq ?_ | refine WC.block ?_ | refine WC.region ?_ | refine WL.nil ?_ | refine WX.then_normal ?_ | refine WC.skip ?_ | refine WC.exit ?_ | refine WC.ret ?_ | refine WX.then_exit ?_ | refine WX.then_ret ?_ | refine WX.block_normal ?_ | refine WX.block_ret ?_ | refine WX.block_same ?_ | refine WX.block_other rfl ?_ | refine WC.label ?_ | refine WC.scope ?_ | refine WX.scope_normal ?_ | refine WX.scope_ret ?_ | refine WX.scope_exit ?_ | refine WL.y rfl (Yld.add rfl rfl (by simp only [In]; omega)) ?_ | refine WL.y rfl (Yld.sub rfl rfl (by simp only [In]; omega)) ?_ | refine WL.y rfl (Yld.mul rfl rfl (by simp only [In]; omega)) ?_ | refine WL.y rfl (Yld.convB tab_ok rfl rfl rfl rfl) ?_ | refine WL.y rfl (Yld.conv tab_ok rfl rfl rfl (by simp only [In]; omega)) ?_ | refine WL.y rfl (Yld.quo rfl rfl (by omega) (by omega) (by simp only [In]; omega)) ?_ | refine WL.y rfl (Yld.rem rfl rfl (by omega) (by omega)) ?_ | refine WL.y rfl (Yld.shl rfl rfl (by omega)) ?_ | refine WL.y rfl (Yld.shr rfl rfl (by omega)) ?_ | refine WL.y rfl (Yld.pure tab_ok rfl) ?_)
    refine WC.loop (S := Nat × Option Addr × Nat) (fun s => l.length - s.1) (fun s => [(27, vi s.1), (6, .slice s.2.1 (catS (l.take s.1)).length s.2.2), (26, vi l.length), (25, .slice A l.length c)])
      (fun s w2 => s.1 ≤ l.length ∧ Own vb w2 w'.heap.size 5 s.2.1 s.2.2 (catS (l.take s.1)) ∧ w'.grownBy w2 none) (0, A1, c1) ⟨by simp, hO1, hg1⟩ (by repeat (first | exact Sub.nil | refine Sub.cons rfl ?_)) (fun ⟨i, A2, c2⟩ w2 ⟨hi, hO2, hg2⟩ => ?_)
    have hR2 := hR.grown hg2
    have hc1 := catS_le l i
    simp only at hi hO2
    repeat (first | refine WC.seq ?_ | refine WC.block ?_ | refine WC.region ?_ | refine WL.nil ?_ | refine WX.then_normal ?_ | refine WC.skip ?_ | refine WC.exit ?_ | refine WC.ret ?_ | refine WX.then_exit ?_ | refine WX.then_ret ?_ | refine WX.block_normal ?_ | refine WX.block_ret ?_ | refine WX.block_same ?_ | refine WX.block_other rfl ?_ | refine WC.label ?_ | refine WC.scope ?_ | refine WX.scope_normal ?_ | refine WX.scope_ret ?_ | refine WX.scope_exit ?_ | refine WL.y rfl (Yld.add rfl rfl (by simp only [In]; omega)) ?_ | refine WL.y rfl (Yld.sub rfl rfl (by simp only [In]; omega)) ?_ | refine WL.y rfl (Yld.mul rfl rfl (by simp only [In]; omega)) ?_ | refine WL.y rfl (Yld.convB tab_ok rfl rfl rfl rfl) ?_ | refine WL.y rfl (Yld.conv tab_ok rfl rfl rfl (by simp only [In]; omega)) ?_ | refine WL.y rfl (Yld.quo rfl rfl (by omega) (by omega) (by simp only [In]; omega)) ?_ | refine WL.y rfl (Yld.rem rfl rfl (by omega) (by omega)) ?_ | refine WL.y rfl (Yld.shl rfl rfl (by omega)) ?_ | refine WL.y rfl (Yld.shr rfl rfl (by omega)) ?_ | refine WL.y rfl (Yld.pure tab_ok rfl) ?_)
    refine WC.cond rfl (fun h => ?_) (fun h => ?_)
    · simp only [decide_eq_true_eq] at h
      have hlt : i < l.length := by omega
      have hc2 := catS_le l (i + 1)
      have hc3 := catS_take l i hlt
      have hc4 : (catS (l.take (i + 1))).length = (catS (l.take i)).length + (l.getD i (none, 0, [])).2.2.length := by rw [hc3, List.length_append]
      repeat (first | refine WL.y rfl (Yld.iaddrN tab_ok hR2 rfl rfl rfl rfl (by omega)) ?_ | refine WL.y rfl (Yld.iload (none, 0, []) tab_ok hR2 rfl rfl (by omega)) ?_ | refine WC.seq ?_ | refine WC.block ?_ | refine WC.region ?_ | refine WL.nil ?_ | refine WX.then_normal ?_ | refine WC.skip ?_ | refine WC.exit ?_ | refine WC.ret ?_ | refine WX.then_exit ?_ | refine WX.then_ret ?_ | refine WX.block_normal ?_ | refine WX.block_ret ?_ | refine WX.block_same ?_ | refine WX.block_other rfl ?_ | refine WC.label ?_ | refine WC.scope ?_ | refine WX.scope_normal ?_ | refine WX.scope_ret ?_ | refine WX.scope_exit ?_ | refine WL.y rfl (Yld.add rfl rfl (by simp only [In]; omega)) ?_ | refine WL.y rfl (Yld.sub rfl rfl (by simp only [In]; omega)) ?_ | refine WL.y rfl (Yld.mul rfl rfl (by simp only [In]; omega)) ?_ | refine WL.y rfl (Yld.convB tab_ok rfl rfl rfl rfl) ?_ | refine WL.y rfl (Yld.conv tab_ok rfl rfl rfl (by simp only [In]; omega)) ?_ | refine WL.y rfl (Yld.quo rfl rfl (by omega) (by omega) (by simp only [In]; omega)) ?_ | refine WL.y rfl (Yld.rem rfl rfl (by omega) (by omega)) ?_ | refine WL.y rfl (Yld.shl rfl rfl (by omega)) ?_ | refine WL.y rfl (Yld.shr rfl rfl (by omega)) ?_ | refine WL.y rfl (Yld.pure tab_ok rfl) ?_)
      have hx : l.getD i (none, 0, []) ∈ l := by simp [List.getD, hlt]
      have hRx := (hl _ hx).grown hg2
      have hz2 := hg2.size
      refine WL.append tab_ok rfl rfl One.b hO2 rfl rfl hRx rfl rfl (by omega) (by unfold maxLen; omega) hz2 (fun A3 c3 w3 hO3 hg3 hf3 => ?_)
      repeat (first | refine WC.seq ?_ | refine WC.block ?_ | refine WC.region ?_ | refine WL.nil ?_ | refine WX.then_normal ?_ | refine WC.skip ?_ | refine WC.exit ?_ | refine WC.ret ?_ | refine WX.then_exit ?_ | refine WX.then_ret ?_ | refine WX.block_normal ?_ | refine WX.block_ret ?_ | refine WX.block_same ?_ | refine WX.block_other rfl ?_ | refine WC.label ?_ | refine WC.scope ?_ | refine WX.scope_normal ?_ | refine WX.scope_ret ?_ | refine WX.scope_exit ?_ | refine WL.y rfl (Yld.add rfl rfl (by simp only [In]; omega)) ?_ | refine WL.y rfl (Yld.sub rfl rfl (by simp only [In]; omega)) ?_ | refine WL.y rfl (Yld.mul rfl rfl (by simp only [In]; omega)) ?_ | refine WL.y rfl (Yld.convB tab_ok rfl rfl rfl rfl) ?_ | refine WL.y rfl (Yld.conv tab_ok rfl rfl rfl (by simp only [In]; omega)) ?_ | refine WL.y rfl (Yld.quo rfl rfl (by omega) (by omega) (by simp only [In]; omega)) ?_ | refine WL.y rfl (Yld.rem rfl rfl (by omega) (by omega)) ?_ | refine WL.y rfl (Yld.shl rfl rfl (by omega)) ?_ | refine WL.y rfl (Yld.shr rfl rfl (by omega)) ?_ | refine WL.y rfl (Yld.pure tab_ok rfl) ?_)
      refine WX.round (i + 1, A3, c3) ⟨by simp; omega, ?_, ?_⟩ (by simp; omega) ?_
      · simp only [hc3]; exact hO3
      · cases hq : blk A2 with
        | none => rw [hq] at hg3; exact gr_trans hg2 hg3
        | some q => rw [hq] at hg3; exact gr_new hg2 hg3 (hO2.lt hq).1
      · refine Sub.cons rfl (Sub.cons ?_ (by repeat (first | exact Sub.nil | refine Sub.cons rfl ?_)))
        rw [hc3]
        rfl
    · simp only [decide_eq_false_iff_not] at h
      obtain rfl : i = l.length := by omega
      rw [List.take_of_length_le (Nat.le_refl _)] at hO2 ⊢
      repeat (first | refine WC.seq ?_ | refine WC.block ?_ | refine WC.region ?_ | refine WL.nil ?_ | refine WX.then_normal ?_ | refine WC.skip ?_ | refine WC.exit ?_ | refine WC.ret ?_ | refine WX.then_exit ?_ | refine WX.then_ret ?_ | refine WX.block_normal ?_ | refine WX.block_ret ?_ | refine WX.block_same ?_ | refine WX.block_other rfl ?_ | refine WC.label ?_ | refine WC.scope ?_ | refine WX.scope_normal ?_ | refine WX.scope_ret ?_ | refine WX.scope_exit ?_ | refine WL.y rfl (Yld.add rfl rfl (by simp only [In]; omega)) ?_ | refine WL.y rfl (Yld.sub rfl rfl (by simp only [In]; omega)) ?_ | refine WL.y rfl (Yld.mul rfl rfl (by simp only [In]; omega)) ?_ | refine WL.y rfl (Yld.convB tab_ok rfl rfl rfl rfl) ?_ | refine WL.y rfl (Yld.conv tab_ok rfl rfl rfl (by simp only [In]; omega)) ?_ | refine WL.y rfl (Yld.quo rfl rfl (by omega) (by omega) (by simp only [In]; omega)) ?_ | refine WL.y rfl (Yld.rem rfl rfl (by omega) (by omega)) ?_ | refine WL.y rfl (Yld.shl rfl rfl (by omega)) ?_ | refine WL.y rfl (Yld.shr rfl rfl (by omega)) ?_ | refine WL.y rfl (Yld.pure tab_ok rfl) ?_)
      exact WX.ret1 rfl rfl ⟨A2, c2, rfl, hO2, hg2⟩
end Go.Proofs.YtlonpmajnglmoaaDoor

 namespace Go.Proofs.YtlonpmajnglmoaaDoor
open Go Go.RowKit
attribute [local irreducible] WL WC WX WQ Yld Fn

theorem Rd.ofBl {α : Type} {f : α → Value} {w : World} {g : Nat} {e : TypeId} {xs : List α} {m : Nat} (h : Bl w g e (xs.map f)) (hm : xs.length ≤ m) (h63 : m ≤ maxLen) : Rd f w (some ⟨g, 0, none⟩) m xs :=
  ⟨hm, h63, fun _ => ⟨_, rfl, fun j x hj => by rw [Addr.add_mid, Nat.zero_add, h.cell]; simp [hj]⟩⟩
/-- all whole blocks of all are taken in; what is left -/
def absorb : Nat → List Int → List UInt8 → List Int × List UInt8
  | 0, hs, all => (hs, all)
  | m + 1, hs, all => if 64 ≤ all.length then absorb m (mixS hs (all.take 64)) (all.drop 64) else (hs, all)
theorem absorb_more : ∀ (m : Nat) (hs : List Int) (all : List UInt8), all.length ≤ m → absorb (m + 1) hs all = absorb m hs all
  | 0, hs, all, h => by
    have : ¬ 64 ≤ all.length := by omega
    simp [absorb, this]
  | m + 1, hs, all, h => by
    rw [absorb]
    conv => rhs; rw [absorb]
    split
    · exact absorb_more m _ _ (by simp; omega)
    · rfl
/-- the state (words, bytes that are left) behind more bytes -/
def wrS (hs : List Int) (r b : List UInt8) : List Int × List UInt8 := absorb (r ++ b).length hs (r ++ b)
structure St (w : World) (g : Nat) (hs : List Int) (r : List UInt8) (n : Int) : Prop where
  len : hs.length = 8
  at_ : ∃ A c, Bl w g 214 (stc hs A c r n) ∧ Rd vb w A c r ∧ blk A ≠ some g
theorem stc_8 {hs : List Int} (hh : hs.length = 8) (A : Option Addr) (c : Nat) (r : List UInt8) (n : Int) : (stc hs A c r n)[8]? = some (.slice A r.length c) := by
  unfold stc; rw [List.getElem?_append_right (by simp [hh])]; simp [hh]
theorem stc_9 {hs : List Int} (hh : hs.length = 8) (A : Option Addr) (c : Nat) (r : List UInt8) (n : Int) : (stc hs A c r n)[9]? = some (.int .u64 n) := by
  unfold stc; rw [List.getElem?_append_right (by simp [hh])]; simp [hh]
theorem stc_set8 {hs : List Int} (hh : hs.length = 8) (A A' : Option Addr) (c c' : Nat) (r r' : List UInt8) (n : Int) : (stc hs A c r n).set 8 (.slice A' r'.length c') = stc hs A' c' r' n := by
  unfold stc; rw [List.set_append_right _ _ (by simp [hh])]; simp [hh]
theorem stc_set9 {hs : List Int} (hh : hs.length = 8) (A : Option Addr) (c : Nat) (r : List UInt8) (n n' : Int) : (stc hs A c r n).set 9 (.int .u64 n') = stc hs A c r n' := by
  unfold stc; rw [List.set_append_right _ _ (by simp [hh])]; simp [hh]
theorem stc_len {hs : List Int} (hh : hs.length = 8) (A : Option Addr) (c : Nat) (r : List UInt8) (n : Int) : (stc hs A c r n).length = 10 := by simp [stc, hh]

theorem write_fn (g : Nat) (hs : List Int) (r : List UInt8) (n : Int) (A2 : Option Addr) (c2 : Nat) (b : List UInt8) (w : World) (hS : St w g hs r n) (hR2 : Rd vb w A2 c2 b) (hA2 : b ≠ [] → blk A2 ≠ some g) (hn : 0 ≤ n) (hn2 : n ≤ 1073741824) (hr : r.length ≤ 64) (hb : b.length ≤ 1000000) :
    Fn Tryd.prog 116 ⟨[.pointer (some ⟨g, 0, none⟩), .slice A2 b.length c2]⟩ w fun v w' => v = .tuple #[] ∧ St w' g (wrS hs r b).1 (wrS hs r b).2 (n + b.length) ∧ w.grownBy w' (some g) := by
  obtain ⟨hh, A, c, hB, hR, hA⟩ := hS
  refine Fn.enter (by kernel_rfl) Tryd.func116 rfl Tryd.ntmps116 rfl ?_
  repeat (first | refine WL.y rfl (Yld.bload tab_ok hB rfl rfl (stc_9 hh A c r n)) ?_ | refine WC.seq ?_ | refine WC.block ?_ | refine WC.region ?_ | refine WL.nil ?_ | refine WX.then_normal ?_ | refine WC.skip ?_ | refine WC.exit ?_ | refine WC.ret ?_ | refine WX.then_exit ?_ | refine WX.then_ret ?_ | refine WX.block_normal ?_ | refine WX.block_ret ?_ | refine WX.block_same ?_ | refine WX.block_other rfl ?_ | refine WC.label ?_ | refine WC.scope ?_ | refine WX.scope_normal ?_ | refine WX.scope_ret ?_ | refine WX.scope_exit ?_ | refine WL.y rfl (Yld.add rfl rfl (by simp only [In]; omega)) ?_ | refine WL.y rfl (Yld.sub rfl rfl (by simp only [In]; omega)) ?_ | refine WL.y rfl (Yld.mul rfl rfl (by simp only [In]; omega)) ?_ | refine WL.y rfl (Yld.convB tab_ok rfl rfl rfl rfl) ?_ | refine WL.y rfl (Yld.conv tab_ok rfl rfl rfl (by simp only [In]; omega)) ?_ | refine WL.y rfl (Yld.quo rfl rfl (by omega) (by omega) (by simp only [In]; omega)) ?_ | refine WL.y rfl (Yld.rem rfl rfl (by omega) (by omega)) ?_ | refine WL.y rfl (Yld.shl rfl rfl (by omega)) ?_ | refine WL.y rfl (Yld.shr rfl rfl (by omega)) ?_ | refine WL.y rfl (Yld.pure tab_ok rfl) ?_)
  refine WL.store1 one146 rfl rfl rfl hB (by rw [stc_len hh]; omega) (fun w1 hB1 hg1 => ?_)
  rw [stc_set9 hh] at hB1
  have hR1 := hR.keep hg1 (fun q hq e => by injection hq with hq; exact hA (by rw [e, hq]))
  have hR21 := hR2.keep' hg1 (fun hb q hq e => by injection hq with hq; exact hA2 hb (by rw [e, hq]))
  repeat (first | refine WL.y rfl (Yld.bload tab_ok hB1 rfl rfl (stc_8 hh A c r _)) ?_ | refine WC.seq ?_ | refine WC.block ?_ | refine WC.region ?_ | refine WL.nil ?_ | refine WX.then_normal ?_ | refine WC.skip ?_ | refine WC.exit ?_ | refine WC.ret ?_ | refine WX.then_exit ?_ | refine WX.then_ret ?_ | refine WX.block_normal ?_ | refine WX.block_ret ?_ | refine WX.block_same ?_ | refine WX.block_other rfl ?_ | refine WC.label ?_ | refine WC.scope ?_ | refine WX.scope_normal ?_ | refine WX.scope_ret ?_ | refine WX.scope_exit ?_ | refine WL.y rfl (Yld.add rfl rfl (by simp only [In]; omega)) ?_ | refine WL.y rfl (Yld.sub rfl rfl (by simp only [In]; omega)) ?_ | refine WL.y rfl (Yld.mul rfl rfl (by simp only [In]; omega)) ?_ | refine WL.y rfl (Yld.convB tab_ok rfl rfl rfl rfl) ?_ | refine WL.y rfl (Yld.conv tab_ok rfl rfl rfl (by simp only [In]; omega)) ?_ | refine WL.y rfl (Yld.quo rfl rfl (by omega) (by omega) (by simp only [In]; omega)) ?_ | refine WL.y rfl (Yld.rem rfl rfl (by omega) (by omega)) ?_ | refine WL.y rfl (Yld.shl rfl rfl (by omega)) ?_ | refine WL.y rfl (Yld.shr rfl rfl (by omega)) ?_ | refine WL.y rfl (Yld.pure tab_ok rfl) ?_)
  refine WL.lit (us := [vS (A, c, r), vS (A2, c2, b)]) tab_ok rfl rfl rfl (by intro u hu; simp at hu; rcases hu with rfl | rfl <;> rfl) rfl (by omega) (fun gl w2 hL2 hg2 hl2 => ?_)
  refine WL.call rfl rfl (concat_fn (some ⟨gl, 0, none⟩) 2 [(A, c, r), (A2, c2, b)] w2 (Rd.ofBl hL2 (by simp) (by simp [maxLen])) (by intro x hx; simp at hx; rcases hx with rfl | rfl; exact hR1.grown hg2; exact hR21.grown hg2) (by simp [catS]; omega)) ?_
  rintro _ w3 ⟨A3, c3, rfl, hO3, hg3⟩
  have hcat : catS [(A, c, r), (A2, c2, b)] = r ++ b := by simp [catS]
  rw [hcat] at hO3 ⊢
  have hB3 := (hB1.keep hg2 (by simp)).keep hg3 (by simp)
  have hz1 := hg1.size
  have hz2 := hg2.size
  have hgl : g < w2.heap.size := by have := hB1.lt; omega
  have hA3 : blk A3 ≠ some g := fun e => by have := (hO3.lt e).1; omega
  have hg13 : w.grownBy w3 (some g) := gr_trans (gr_trans hg1 (gr_some hg2 _)) (gr_some hg3 _)
  have hR3 := hO3.rd
  clear hO3 hL2 hg1 hg2 hg3 hR1 hR21 hB1
  repeat (first | refine WC.seq ?_ | refine WC.block ?_ | refine WC.region ?_ | refine WL.nil ?_ | refine WX.then_normal ?_ | refine WC.skip ?_ | refine WC.exit ?_ | refine WC.ret ?_ | refine WX.then_exit ?_ | refine WX.then_ret ?_ | refine WX.block_normal ?_ | refine WX.block_ret ?_ | refine WX.block_same ?_ | refine WX.block_other rfl ?_ | refine WC.label ?_ | refine WC.scope ?_ | refine WX.scope_normal ?_ | refine WX.scope_ret ?_ | refine WX.scope_exit ?_ | refine WL.y rfl (Yld.add rfl rfl (by simp only [In]; omega)) ?_ | refine WL.y rfl (Yld.sub rfl rfl (by simp only [In]; omega)) ?_ | refine WL.y rfl (Yld.mul rfl rfl (by simp only [In]; omega)) ?_ | refine WL.y rfl (Yld.convB tab_ok rfl rfl rfl rfl) ?_ | refine WL.y rfl (Yld.conv tab_ok rfl rfl rfl (by simp only [In]; omega)) ?_ | refine WL.y rfl (Yld.quo rfl rfl (by omega) (by omega) (by simp only [In]; omega)) ?_ | refine WL.y rfl (Yld.rem rfl rfl (by omega) (by omega)) ?_ | refine WL.y rfl (Yld.shl rfl rfl (by omega)) ?_ | refine WL.y rfl (Yld.shr rfl rfl (by omega)) ?_ | refine WL.y rfl (Yld.pure tab_ok rfl) ?_)
  refine WC.loop (S := Nat × List Int × Option Addr × Nat × List UInt8) (fun s => s.2.2.2.2.length) (fun s => [(4, .slice s.2.2.1 s.2.2.2.2.length s.2.2.2.1), (0, .pointer (some ⟨g, 0, none⟩))])
    (fun s w4 => s.2.1.length = 8 ∧ Bl w4 g 214 (stc s.2.1 A c r (n + b.length)) ∧ Rd vb w4 s.2.2.1 s.2.2.2.1 s.2.2.2.2 ∧ blk s.2.2.1 ≠ some g ∧ s.2.2.2.2.length ≤ s.1 ∧ s.2.2.2.2.length ≤ 2000000 ∧ absorb s.1 s.2.1 s.2.2.2.2 = wrS hs r b ∧ w3.grownBy w4 (some g))
    ((r ++ b).length, hs, A3, c3, r ++ b) ⟨hh, hB3, hR3, hA3, Nat.le_refl _, by simp; omega, rfl, gr_refl _ _⟩ (by repeat (first | exact Sub.nil | refine Sub.cons rfl ?_)) (fun ⟨m, h4, A4, c4, al⟩ w4 ⟨hh4, hB4, hR4, hA4, hm4, hl4, ha4, hg4⟩ => ?_)
  simp only at hh4 hB4 hR4 hA4 hm4 hl4 ha4
  repeat (first | refine WC.seq ?_ | refine WC.block ?_ | refine WC.region ?_ | refine WL.nil ?_ | refine WX.then_normal ?_ | refine WC.skip ?_ | refine WC.exit ?_ | refine WC.ret ?_ | refine WX.then_exit ?_ | refine WX.then_ret ?_ | refine WX.block_normal ?_ | refine WX.block_ret ?_ | refine WX.block_same ?_ | refine WX.block_other rfl ?_ | refine WC.label ?_ | refine WC.scope ?_ | refine WX.scope_normal ?_ | refine WX.scope_ret ?_ | refine WX.scope_exit ?_ | refine WL.y rfl (Yld.add rfl rfl (by simp only [In]; omega)) ?_ | refine WL.y rfl (Yld.sub rfl rfl (by simp only [In]; omega)) ?_ | refine WL.y rfl (Yld.mul rfl rfl (by simp only [In]; omega)) ?_ | refine WL.y rfl (Yld.convB tab_ok rfl rfl rfl rfl) ?_ | refine WL.y rfl (Yld.conv tab_ok rfl rfl rfl (by simp only [In]; omega)) ?_ | refine WL.y rfl (Yld.quo rfl rfl (by omega) (by omega) (by simp only [In]; omega)) ?_ | refine WL.y rfl (Yld.rem rfl rfl (by omega) (by omega)) ?_ | refine WL.y rfl (Yld.shl rfl rfl (by omega)) ?_ | refine WL.y rfl (Yld.shr rfl rfl (by omega)) ?_ | refine WL.y rfl (Yld.pure tab_ok rfl) ?_)
  refine WC.cond rfl (fun h => ?_) (fun h => ?_)
  · simp only [decide_eq_true_eq] at h
    have h64 : 64 ≤ al.length := by omega
    repeat (first | refine WC.seq ?_ | refine WC.block ?_ | refine WC.region ?_ | refine WL.nil ?_ | refine WX.then_normal ?_ | refine WC.skip ?_ | refine WC.exit ?_ | refine WC.ret ?_ | refine WX.then_exit ?_ | refine WX.then_ret ?_ | refine WX.block_normal ?_ | refine WX.block_ret ?_ | refine WX.block_same ?_ | refine WX.block_other rfl ?_ | refine WC.label ?_ | refine WC.scope ?_ | refine WX.scope_normal ?_ | refine WX.scope_ret ?_ | refine WX.scope_exit ?_ | refine WL.y rfl (Yld.add rfl rfl (by simp only [In]; omega)) ?_ | refine WL.y rfl (Yld.sub rfl rfl (by simp only [In]; omega)) ?_ | refine WL.y rfl (Yld.mul rfl rfl (by simp only [In]; omega)) ?_ | refine WL.y rfl (Yld.convB tab_ok rfl rfl rfl rfl) ?_ | refine WL.y rfl (Yld.conv tab_ok rfl rfl rfl (by simp only [In]; omega)) ?_ | refine WL.y rfl (Yld.quo rfl rfl (by omega) (by omega) (by simp only [In]; omega)) ?_ | refine WL.y rfl (Yld.rem rfl rfl (by omega) (by omega)) ?_ | refine WL.y rfl (Yld.shl rfl rfl (by omega)) ?_ | refine WL.y rfl (Yld.shr rfl rfl (by omega)) ?_ | refine WL.y rfl (Yld.pure tab_ok rfl) ?_)
    refine WL.cut tab_ok hR4 rfl rfl rfl rfl rfl rfl (by omega) (by omega) (by omega) (fun A5 c5 hR5 hA5 => ?_)
    refine WL.call rfl rfl (mix_fn g h4 _ A5 c5 _ w4 hh4 hB4 hR5 (by simp; omega)) ?_
    rintro _ w5 ⟨rfl, hB5, hg5⟩
    have hR45 := hR4.keep hg5 (fun q hq e => by injection hq with hq; exact hA4 (by rw [e, hq]))
    repeat (first | refine WC.seq ?_ | refine WC.block ?_ | refine WC.region ?_ | refine WL.nil ?_ | refine WX.then_normal ?_ | refine WC.skip ?_ | refine WC.exit ?_ | refine WC.ret ?_ | refine WX.then_exit ?_ | refine WX.then_ret ?_ | refine WX.block_normal ?_ | refine WX.block_ret ?_ | refine WX.block_same ?_ | refine WX.block_other rfl ?_ | refine WC.label ?_ | refine WC.scope ?_ | refine WX.scope_normal ?_ | refine WX.scope_ret ?_ | refine WX.scope_exit ?_ | refine WL.y rfl (Yld.add rfl rfl (by simp only [In]; omega)) ?_ | refine WL.y rfl (Yld.sub rfl rfl (by simp only [In]; omega)) ?_ | refine WL.y rfl (Yld.mul rfl rfl (by simp only [In]; omega)) ?_ | refine WL.y rfl (Yld.convB tab_ok rfl rfl rfl rfl) ?_ | refine WL.y rfl (Yld.conv tab_ok rfl rfl rfl (by simp only [In]; omega)) ?_ | refine WL.y rfl (Yld.quo rfl rfl (by omega) (by omega) (by simp only [In]; omega)) ?_ | refine WL.y rfl (Yld.rem rfl rfl (by omega) (by omega)) ?_ | refine WL.y rfl (Yld.shl rfl rfl (by omega)) ?_ | refine WL.y rfl (Yld.shr rfl rfl (by omega)) ?_ | refine WL.y rfl (Yld.pure tab_ok rfl) ?_)
    refine WL.cut tab_ok hR45 rfl rfl rfl rfl rfl rfl (by omega) (by omega) (by omega) (fun A6 c6 hR6 hA6 => ?_)
    repeat (first | refine WC.seq ?_ | refine WC.block ?_ | refine WC.region ?_ | refine WL.nil ?_ | refine WX.then_normal ?_ | refine WC.skip ?_ | refine WC.exit ?_ | refine WC.ret ?_ | refine WX.then_exit ?_ | refine WX.then_ret ?_ | refine WX.block_normal ?_ | refine WX.block_ret ?_ | refine WX.block_same ?_ | refine WX.block_other rfl ?_ | refine WC.label ?_ | refine WC.scope ?_ | refine WX.scope_normal ?_ | refine WX.scope_ret ?_ | refine WX.scope_exit ?_ | refine WL.y rfl (Yld.add rfl rfl (by simp only [In]; omega)) ?_ | refine WL.y rfl (Yld.sub rfl rfl (by simp only [In]; omega)) ?_ | refine WL.y rfl (Yld.mul rfl rfl (by simp only [In]; omega)) ?_ | refine WL.y rfl (Yld.convB tab_ok rfl rfl rfl rfl) ?_ | refine WL.y rfl (Yld.conv tab_ok rfl rfl rfl (by simp only [In]; omega)) ?_ | refine WL.y rfl (Yld.quo rfl rfl (by omega) (by omega) (by simp only [In]; omega)) ?_ | refine WL.y rfl (Yld.rem rfl rfl (by omega) (by omega)) ?_ | refine WL.y rfl (Yld.shl rfl rfl (by omega)) ?_ | refine WL.y rfl (Yld.shr rfl rfl (by omega)) ?_ | refine WL.y rfl (Yld.pure tab_ok rfl) ?_)
    have h0 : Int.toNat 64 - Int.toNat 0 = 64 := rfl
    have hm0 : 1 ≤ m := by omega
    obtain ⟨q, rfl⟩ : ∃ q, m = q + 1 := ⟨m - 1, by omega⟩
    have hlen6 : ((al.drop (Int.toNat 64)).take ((al.length : Int).toNat - Int.toNat 64)) = al.drop 64 := by
      rw [List.take_of_length_le]
      · rfl
      · rw [List.length_drop]; omega
    rw [hlen6] at hR6 ⊢
    refine WX.round (q, mixS h4 ((al.drop (Int.toNat 0)).take (Int.toNat 64 - Int.toNat 0)), A6, c6, al.drop 64) ⟨?_, hB5, hR6, fun e => hA4 (hA6 _ e), ?_, ?_, ?_, gr_trans hg4 hg5⟩ ?_ (by repeat (first | exact Sub.nil | refine Sub.cons rfl ?_))
    · rw [mixS_len]; exact hh4
    · simp only [List.length_drop]; omega
    · simp only [List.length_drop]; omega
    · rw [← ha4, absorb, if_pos h64]
      rfl
    · simp only [List.length_drop]; omega
  · simp only [decide_eq_false_iff_not] at h
    have hfin : wrS hs r b = (h4, al) := by
      rw [← ha4]
      cases m with
      | zero => rfl
      | succ q => rw [absorb, if_neg (by omega)]
    repeat (first | refine WC.seq ?_ | refine WC.block ?_ | refine WC.region ?_ | refine WL.nil ?_ | refine WX.then_normal ?_ | refine WC.skip ?_ | refine WC.exit ?_ | refine WC.ret ?_ | refine WX.then_exit ?_ | refine WX.then_ret ?_ | refine WX.block_normal ?_ | refine WX.block_ret ?_ | refine WX.block_same ?_ | refine WX.block_other rfl ?_ | refine WC.label ?_ | refine WC.scope ?_ | refine WX.scope_normal ?_ | refine WX.scope_ret ?_ | refine WX.scope_exit ?_ | refine WL.y rfl (Yld.add rfl rfl (by simp only [In]; omega)) ?_ | refine WL.y rfl (Yld.sub rfl rfl (by simp only [In]; omega)) ?_ | refine WL.y rfl (Yld.mul rfl rfl (by simp only [In]; omega)) ?_ | refine WL.y rfl (Yld.convB tab_ok rfl rfl rfl rfl) ?_ | refine WL.y rfl (Yld.conv tab_ok rfl rfl rfl (by simp only [In]; omega)) ?_ | refine WL.y rfl (Yld.quo rfl rfl (by omega) (by omega) (by simp only [In]; omega)) ?_ | refine WL.y rfl (Yld.rem rfl rfl (by omega) (by omega)) ?_ | refine WL.y rfl (Yld.shl rfl rfl (by omega)) ?_ | refine WL.y rfl (Yld.shr rfl rfl (by omega)) ?_ | refine WL.y rfl (Yld.pure tab_ok rfl) ?_)
    refine WL.store1 one142 rfl rfl rfl hB4 (by rw [stc_len hh4]; omega) (fun w5 hB5 hg5 => ?_)
    rw [stc_set8 hh4] at hB5
    repeat (first | refine WC.seq ?_ | refine WC.block ?_ | refine WC.region ?_ | refine WL.nil ?_ | refine WX.then_normal ?_ | refine WC.skip ?_ | refine WC.exit ?_ | refine WC.ret ?_ | refine WX.then_exit ?_ | refine WX.then_ret ?_ | refine WX.block_normal ?_ | refine WX.block_ret ?_ | refine WX.block_same ?_ | refine WX.block_other rfl ?_ | refine WC.label ?_ | refine WC.scope ?_ | refine WX.scope_normal ?_ | refine WX.scope_ret ?_ | refine WX.scope_exit ?_ | refine WL.y rfl (Yld.add rfl rfl (by simp only [In]; omega)) ?_ | refine WL.y rfl (Yld.sub rfl rfl (by simp only [In]; omega)) ?_ | refine WL.y rfl (Yld.mul rfl rfl (by simp only [In]; omega)) ?_ | refine WL.y rfl (Yld.convB tab_ok rfl rfl rfl rfl) ?_ | refine WL.y rfl (Yld.conv tab_ok rfl rfl rfl (by simp only [In]; omega)) ?_ | refine WL.y rfl (Yld.quo rfl rfl (by omega) (by omega) (by simp only [In]; omega)) ?_ | refine WL.y rfl (Yld.rem rfl rfl (by omega) (by omega)) ?_ | refine WL.y rfl (Yld.shl rfl rfl (by omega)) ?_ | refine WL.y rfl (Yld.shr rfl rfl (by omega)) ?_ | refine WL.y rfl (Yld.pure tab_ok rfl) ?_)
    refine WX.end0 rfl ⟨rfl, ?_, gr_trans (gr_trans hg13 hg4) hg5⟩
    rw [hfin]
    exact ⟨hh4, A4, c4, hB5, hR4.keep hg5 (fun q hq e => by injection hq with hq; exact hA4 (by rw [e, hq])), hA4⟩
end Go.Proofs.YtlonpmajnglmoaaDoor

 namespace Go.Proofs.YtlonpmajnglmoaaDoor
open Go Go.RowKit
attribute [local irreducible] WL WC WX WQ Yld Fn

/-- a number as_ a byte -/
def u8v (z : Int) : UInt8 := UInt8.ofNat (IntKind.u8.wrap z).toNat
theorem vb_u8v (z : Int) : Value.int .u8 (IntKind.u8.wrap z) = vb (u8v z) := by
  unfold vb u8v
  have h : IntKind.u8.wrap z = z % 256 := IntKind.wrap_u8 z
  rw [h]
  congr 1
  rw [UInt8.toNat_ofNat']
  omega
theorem Yld.toB {P : Program} {T : Tab} {N : Nat} {L : Slots} {w : World} {dd : Option Tmp} {ty : TypeId} {pos : String} {af : Array Edge} {s d : TypeId} {k k2 : IntKind} {x : Operand} {z : Int} (hT : T.Ok P) (hs : nk T.int s = some k) (hd : nk T.int d = some .u8) (hx : opv L x = some (.int k2 z)) :
    Yld P N w ⟨dd, .convert s d x, ty, pos, af, none⟩ L (vb (u8v z)) := by
  rw [← vb_u8v]
  exact Yld.pure hT (by simp [pv, hx, o1, pvConv, hs, hd])

def padS (l : List UInt8) : List UInt8 := l ++ List.replicate ((120 - l.length % 64) % 64) 0
theorem padS_step (l : List UInt8) (h : l.length % 64 ≠ 56) : padS (l ++ [0]) = padS l := by
  unfold padS
  have : (120 - l.length % 64) % 64 = (120 - (l ++ [0]).length % 64) % 64 + 1 := by simp; omega
  rw [this, List.replicate_succ]
  simp
def lenB (n : Int) (i : Nat) : UInt8 := u8v (shrV .u64 n (8 * (7 - (i : Int))).toNat)
def lenBs (n : Int) : Nat → List UInt8
  | 0 => []
  | i + 1 => lenBs n i ++ [lenB n i]
theorem lenBs_len (n : Int) : ∀ i, (lenBs n i).length = i
  | 0 => rfl
  | i + 1 => by rw [lenBs, List.length_append, lenBs_len n i]; rfl
def endS (r : List UInt8) (n : Int) : List UInt8 := padS (r ++ [0x80]) ++ lenBs (8 * n) 8
def outAt (h : List Int) : Nat → List UInt8
  | 0 => List.replicate 32 0
  | i + 1 => (outAt h i).set i (u8v (shrV .u32 (h.getD (i / 4) 0) (24 - 8 * ((i : Int) % 4)).toNat))
theorem outAt_len (h : List Int) : ∀ i, (outAt h i).length = 32
  | 0 => rfl
  | i + 1 => by rw [outAt, List.length_set, outAt_len h i]
/-- the digest of a state -/
def sumS (hs : List Int) (r : List UInt8) (n : Int) : List UInt8 := outAt (absorb (endS r n).length hs (endS r n)).1 32
theorem sumS_len (hs : List Int) (r : List UInt8) (n : Int) : (sumS hs r n).length = 32 := outAt_len _ 32
theorem bl_one {α : Type} {f : α → Value} {w : World} {g : Nat} {e : TypeId} {x : α} (h : Bl w g e [f x]) : Rd f w (some ⟨g, 0, none⟩) 1 [x] := Rd.ofBl (xs := [x]) h (by simp) (by simp [maxLen])

set_option maxHeartbeats 1000000 in
theorem sum_fn (g : Nat) (hs : List Int) (r : List UInt8) (n : Int) (w : World) (hS : St w g hs r n) (hn : 0 ≤ n) (hn2 : n ≤ 1073741824) (hr : r.length ≤ 64) :
    Fn Tryd.prog 117 ⟨[.pointer (some ⟨g, 0, none⟩)]⟩ w fun v w' => v = .agg ⟨(sumS hs r n).map vb⟩ ∧ w.grownBy w' none := by
  obtain ⟨hh, A, c, hB, hR, hA⟩ := hS
  have hgw := hB.lt
  refine Fn.enter (by kernel_rfl) Tryd.func117 rfl Tryd.ntmps117 rfl ?_
  repeat (first | refine WC.seq ?_ | refine WC.block ?_ | refine WC.region ?_ | refine WL.nil ?_ | refine WX.then_normal ?_ | refine WC.skip ?_ | refine WC.exit ?_ | refine WC.ret ?_ | refine WX.then_exit ?_ | refine WX.then_ret ?_ | refine WX.block_normal ?_ | refine WX.block_ret ?_ | refine WX.block_same ?_ | refine WX.block_other rfl ?_ | refine WC.label ?_ | refine WC.scope ?_ | refine WX.scope_normal ?_ | refine WX.scope_ret ?_ | refine WX.scope_exit ?_ | refine WL.y rfl (Yld.add rfl rfl (by simp only [In]; omega)) ?_ | refine WL.y rfl (Yld.sub rfl rfl (by simp only [In]; omega)) ?_ | refine WL.y rfl (Yld.mul rfl rfl (by simp only [In]; omega)) ?_ | refine WL.y rfl (Yld.convB tab_ok rfl rfl rfl rfl) ?_ | refine WL.y rfl (Yld.conv tab_ok rfl rfl rfl (by simp only [In]; omega)) ?_ | refine WL.y rfl (Yld.quo rfl rfl (by omega) (by omega) (by simp only [In]; omega)) ?_ | refine WL.y rfl (Yld.rem rfl rfl (by omega) (by omega)) ?_ | refine WL.y rfl (Yld.shl rfl rfl (by omega)) ?_ | refine WL.y rfl (Yld.shr rfl rfl (by omega)) ?_ | refine WL.y rfl (Yld.pure tab_ok rfl) ?_)
  refine WL.alloc rfl zero74 (fun go w1 ho1 hg1 hlo => ?_)
  have hB1 := hB.keep hg1 (by simp)
  have hR1 := hR.grown hg1
  repeat (first | refine WL.y rfl (Yld.bagg (vs := stc hs A c r n) tab_ok hB1 rfl rfl (by rw [List.drop_zero, List.take_of_length_le]; rw [stc_len hh]; exact Nat.le_refl _) (stc_len hh _ _ _ _)) ?_ | refine WC.seq ?_ | refine WC.block ?_ | refine WC.region ?_ | refine WL.nil ?_ | refine WX.then_normal ?_ | refine WC.skip ?_ | refine WC.exit ?_ | refine WC.ret ?_ | refine WX.then_exit ?_ | refine WX.then_ret ?_ | refine WX.block_normal ?_ | refine WX.block_ret ?_ | refine WX.block_same ?_ | refine WX.block_other rfl ?_ | refine WC.label ?_ | refine WC.scope ?_ | refine WX.scope_normal ?_ | refine WX.scope_ret ?_ | refine WX.scope_exit ?_ | refine WL.y rfl (Yld.add rfl rfl (by simp only [In]; omega)) ?_ | refine WL.y rfl (Yld.sub rfl rfl (by simp only [In]; omega)) ?_ | refine WL.y rfl (Yld.mul rfl rfl (by simp only [In]; omega)) ?_ | refine WL.y rfl (Yld.convB tab_ok rfl rfl rfl rfl) ?_ | refine WL.y rfl (Yld.conv tab_ok rfl rfl rfl (by simp only [In]; omega)) ?_ | refine WL.y rfl (Yld.quo rfl rfl (by omega) (by omega) (by simp only [In]; omega)) ?_ | refine WL.y rfl (Yld.rem rfl rfl (by omega) (by omega)) ?_ | refine WL.y rfl (Yld.shl rfl rfl (by omega)) ?_ | refine WL.y rfl (Yld.shr rfl rfl (by omega)) ?_ | refine WL.y rfl (Yld.pure tab_ok rfl) ?_)
  refine WL.alloc rfl zero214 (fun gt w2 ht2 hg2 hlt => ?_)
  refine WL.storeW tab_ok rfl rfl rfl (by intro u hu; simp [stc] at hu; rcases hu with ⟨q, _, rfl⟩ | rfl | rfl <;> rfl) ht2 rfl (stc_len hh _ _ _ _) (fun w3 ht3 hg3 => ?_)
  have hz1 := hg1.size
  have hgolt := ho1.lt
  have hz2 := hg2.size
  have hz3 := hg3.size
  have hgr3 : w.grownBy w3 none := gr_new (gr_trans hg1 hg2) hg3 (by omega)
  have hB3 := (hB1.keep hg2 (by simp)).keep hg3 (fun e => by injection e with e; omega)
  have hgt3 := ht3.lt
  have ho3 := (ho1.keep hg2 (by simp)).keep hg3 (fun e => by injection e with e; have := ho1.lt; omega)
  have hR3 := hR.grown hgr3
  clear hB1 hR1 hg1 hg2 hg3 ht2 ho1
  repeat (first | refine WL.y rfl (Yld.bload tab_ok hB3 rfl rfl (stc_9 hh A c r _)) ?_ | refine WL.y rfl (Yld.bload tab_ok hB3 rfl rfl (stc_8 hh A c r _)) ?_ | refine WC.seq ?_ | refine WC.block ?_ | refine WC.region ?_ | refine WL.nil ?_ | refine WX.then_normal ?_ | refine WC.skip ?_ | refine WC.exit ?_ | refine WC.ret ?_ | refine WX.then_exit ?_ | refine WX.then_ret ?_ | refine WX.block_normal ?_ | refine WX.block_ret ?_ | refine WX.block_same ?_ | refine WX.block_other rfl ?_ | refine WC.label ?_ | refine WC.scope ?_ | refine WX.scope_normal ?_ | refine WX.scope_ret ?_ | refine WX.scope_exit ?_ | refine WL.y rfl (Yld.add rfl rfl (by simp only [In]; omega)) ?_ | refine WL.y rfl (Yld.sub rfl rfl (by simp only [In]; omega)) ?_ | refine WL.y rfl (Yld.mul rfl rfl (by simp only [In]; omega)) ?_ | refine WL.y rfl (Yld.convB tab_ok rfl rfl rfl rfl) ?_ | refine WL.y rfl (Yld.conv tab_ok rfl rfl rfl (by simp only [In]; omega)) ?_ | refine WL.y rfl (Yld.quo rfl rfl (by omega) (by omega) (by simp only [In]; omega)) ?_ | refine WL.y rfl (Yld.rem rfl rfl (by omega) (by omega)) ?_ | refine WL.y rfl (Yld.shl rfl rfl (by omega)) ?_ | refine WL.y rfl (Yld.shr rfl rfl (by omega)) ?_ | refine WL.y rfl (Yld.pure tab_ok rfl) ?_)
  refine WL.call rfl rfl (clone_fn A c r w3 hR3 (by omega)) ?_
  rintro _ w4 ⟨A4, c4, rfl, hO4, hg4, hf4⟩
  refine WL.lit (us := [vb 0x80]) tab_ok rfl rfl rfl (by intro u hu; simp at hu; rw [hu]; rfl) rfl (by omega) (fun gl w5 hL5 hg5 hl5 => ?_)
  refine WL.append tab_ok rfl rfl One.b (hO4.grown hg5) rfl rfl (bl_one (x := 0x80) hL5) rfl rfl (by simp; omega) (by simp [maxLen]; omega) (by have := hg4.size; have := hg5.size; omega) (fun A6 c6 w6 hO6 hg6 hf6 => ?_)
  have hgr6 : w3.grownBy w6 none := by
    cases hq : blk A4 with
    | none => rw [hq] at hg6; exact gr_trans (gr_trans hg4 hg5) hg6
    | some q => rw [hq] at hg6; exact gr_new (gr_trans hg4 hg5) hg6 (hO4.lt hq).1
  clear hO4 hg4 hf4 hL5 hg5 hg6 hf6
  have hp0 : padS (r ++ [0x80]) = padS (r ++ [0x80]) := rfl
  repeat (first | refine WC.seq ?_ | refine WC.block ?_ | refine WC.region ?_ | refine WL.nil ?_ | refine WX.then_normal ?_ | refine WC.skip ?_ | refine WC.exit ?_ | refine WC.ret ?_ | refine WX.then_exit ?_ | refine WX.then_ret ?_ | refine WX.block_normal ?_ | refine WX.block_ret ?_ | refine WX.block_same ?_ | refine WX.block_other rfl ?_ | refine WC.label ?_ | refine WC.scope ?_ | refine WX.scope_normal ?_ | refine WX.scope_ret ?_ | refine WX.scope_exit ?_ | refine WL.y rfl (Yld.add rfl rfl (by simp only [In]; omega)) ?_ | refine WL.y rfl (Yld.sub rfl rfl (by simp only [In]; omega)) ?_ | refine WL.y rfl (Yld.mul rfl rfl (by simp only [In]; omega)) ?_ | refine WL.y rfl (Yld.convB tab_ok rfl rfl rfl rfl) ?_ | refine WL.y rfl (Yld.conv tab_ok rfl rfl rfl (by simp only [In]; omega)) ?_ | refine WL.y rfl (Yld.quo rfl rfl (by omega) (by omega) (by simp only [In]; omega)) ?_ | refine WL.y rfl (Yld.rem rfl rfl (by omega) (by omega)) ?_ | refine WL.y rfl (Yld.shl rfl rfl (by omega)) ?_ | refine WL.y rfl (Yld.shr rfl rfl (by omega)) ?_ | refine WL.y rfl (Yld.pure tab_ok rfl) ?_)
  refine WC.loop (S := Option Addr × Nat × List UInt8) (fun s => (120 - s.2.2.length % 64) % 64) (fun s => [(5, .slice s.1 s.2.2.length s.2.1), (4, .int .u64 (8 * n)), (3, .pointer (some ⟨gt, 0, none⟩)), (2, .pointer (some ⟨go, 0, none⟩))])
    (fun s w7 => Own vb w7 w3.heap.size 5 s.1 s.2.1 s.2.2 ∧ padS s.2.2 = padS (r ++ [0x80]) ∧ s.2.2.length ≤ 128 + 64 ∧ w3.grownBy w7 none)
    (A6, c6, r ++ [0x80]) ⟨hO6, rfl, by simp; omega, hgr6⟩ (by repeat (first | exact Sub.nil | refine Sub.cons rfl ?_)) (fun ⟨A7, c7, e7⟩ w7 ⟨hO7, hp7, hl7, hg7⟩ => ?_)
  simp only at hO7 hp7 hl7
  repeat (first | refine WC.seq ?_ | refine WC.block ?_ | refine WC.region ?_ | refine WL.nil ?_ | refine WX.then_normal ?_ | refine WC.skip ?_ | refine WC.exit ?_ | refine WC.ret ?_ | refine WX.then_exit ?_ | refine WX.then_ret ?_ | refine WX.block_normal ?_ | refine WX.block_ret ?_ | refine WX.block_same ?_ | refine WX.block_other rfl ?_ | refine WC.label ?_ | refine WC.scope ?_ | refine WX.scope_normal ?_ | refine WX.scope_ret ?_ | refine WX.scope_exit ?_ | refine WL.y rfl (Yld.add rfl rfl (by simp only [In]; omega)) ?_ | refine WL.y rfl (Yld.sub rfl rfl (by simp only [In]; omega)) ?_ | refine WL.y rfl (Yld.mul rfl rfl (by simp only [In]; omega)) ?_ | refine WL.y rfl (Yld.convB tab_ok rfl rfl rfl rfl) ?_ | refine WL.y rfl (Yld.conv tab_ok rfl rfl rfl (by simp only [In]; omega)) ?_ | refine WL.y rfl (Yld.quo rfl rfl (by omega) (by omega) (by simp only [In]; omega)) ?_ | refine WL.y rfl (Yld.rem rfl rfl (by omega) (by omega)) ?_ | refine WL.y rfl (Yld.shl rfl rfl (by omega)) ?_ | refine WL.y rfl (Yld.shr rfl rfl (by omega)) ?_ | refine WL.y rfl (Yld.pure tab_ok rfl) ?_)
  refine WC.cond rfl (fun h => ?_) (fun h => ?_)
  · have h56 : e7.length % 64 ≠ 56 := by
      simp only [Bool.not_eq_true', decide_eq_false_iff_not] at h
      omega
    have hle : (padS e7).length ≤ 192 := by
      rw [hp7]; unfold padS; simp; omega
    have hl8 : e7.length + 1 ≤ 192 := by
      unfold padS at hle
      rw [List.length_append, List.length_replicate] at hle
      omega
    repeat (first | refine WC.seq ?_ | refine WC.block ?_ | refine WC.region ?_ | refine WL.nil ?_ | refine WX.then_normal ?_ | refine WC.skip ?_ | refine WC.exit ?_ | refine WC.ret ?_ | refine WX.then_exit ?_ | refine WX.then_ret ?_ | refine WX.block_normal ?_ | refine WX.block_ret ?_ | refine WX.block_same ?_ | refine WX.block_other rfl ?_ | refine WC.label ?_ | refine WC.scope ?_ | refine WX.scope_normal ?_ | refine WX.scope_ret ?_ | refine WX.scope_exit ?_ | refine WL.y rfl (Yld.add rfl rfl (by simp only [In]; omega)) ?_ | refine WL.y rfl (Yld.sub rfl rfl (by simp only [In]; omega)) ?_ | refine WL.y rfl (Yld.mul rfl rfl (by simp only [In]; omega)) ?_ | refine WL.y rfl (Yld.convB tab_ok rfl rfl rfl rfl) ?_ | refine WL.y rfl (Yld.conv tab_ok rfl rfl rfl (by simp only [In]; omega)) ?_ | refine WL.y rfl (Yld.quo rfl rfl (by omega) (by omega) (by simp only [In]; omega)) ?_ | refine WL.y rfl (Yld.rem rfl rfl (by omega) (by omega)) ?_ | refine WL.y rfl (Yld.shl rfl rfl (by omega)) ?_ | refine WL.y rfl (Yld.shr rfl rfl (by omega)) ?_ | refine WL.y rfl (Yld.pure tab_ok rfl) ?_)
    refine WL.lit (us := [vb 0]) tab_ok rfl rfl rfl (by intro u hu; simp at hu; rw [hu]; rfl) rfl (by omega) (fun gl w8 hL8 hg8 hl8 => ?_)
    refine WL.append tab_ok rfl rfl One.b (hO7.grown hg8) rfl rfl (bl_one (x := 0) hL8) rfl rfl (by simp; omega) (by simp [maxLen]; omega) (by have := hg7.size; have := hg8.size; omega) (fun A9 c9 w9 hO9 hg9 hf9 => ?_)
    repeat (first | refine WC.seq ?_ | refine WC.block ?_ | refine WC.region ?_ | refine WL.nil ?_ | refine WX.then_normal ?_ | refine WC.skip ?_ | refine WC.exit ?_ | refine WC.ret ?_ | refine WX.then_exit ?_ | refine WX.then_ret ?_ | refine WX.block_normal ?_ | refine WX.block_ret ?_ | refine WX.block_same ?_ | refine WX.block_other rfl ?_ | refine WC.label ?_ | refine WC.scope ?_ | refine WX.scope_normal ?_ | refine WX.scope_ret ?_ | refine WX.scope_exit ?_ | refine WL.y rfl (Yld.add rfl rfl (by simp only [In]; omega)) ?_ | refine WL.y rfl (Yld.sub rfl rfl (by simp only [In]; omega)) ?_ | refine WL.y rfl (Yld.mul rfl rfl (by simp only [In]; omega)) ?_ | refine WL.y rfl (Yld.convB tab_ok rfl rfl rfl rfl) ?_ | refine WL.y rfl (Yld.conv tab_ok rfl rfl rfl (by simp only [In]; omega)) ?_ | refine WL.y rfl (Yld.quo rfl rfl (by omega) (by omega) (by simp only [In]; omega)) ?_ | refine WL.y rfl (Yld.rem rfl rfl (by omega) (by omega)) ?_ | refine WL.y rfl (Yld.shl rfl rfl (by omega)) ?_ | refine WL.y rfl (Yld.shr rfl rfl (by omega)) ?_ | refine WL.y rfl (Yld.pure tab_ok rfl) ?_)
    refine WX.round (A9, c9, e7 ++ [0]) ⟨hO9, by rw [padS_step _ h56]; exact hp7, by simp; omega, ?_⟩ (by simp; omega) (by repeat (first | exact Sub.nil | refine Sub.cons rfl ?_))
    cases hq : blk A7 with
    | none => rw [hq] at hg9; exact gr_trans (gr_trans hg7 hg8) hg9
    | some q => rw [hq] at hg9; exact gr_new (gr_trans hg7 hg8) hg9 (hO7.lt hq).1
  · have h56 : e7.length % 64 = 56 := by
      simp only [Bool.not_eq_false', decide_eq_true_eq] at h
      omega
    have he7 : e7 = padS (r ++ [0x80]) := by
      rw [← hp7]; unfold padS; rw [h56]; simp
    have hpl : e7.length ≤ 184 := by rw [he7]; unfold padS; simp; omega
    repeat (first | refine WC.seq ?_ | refine WC.block ?_ | refine WC.region ?_ | refine WL.nil ?_ | refine WX.then_normal ?_ | refine WC.skip ?_ | refine WC.exit ?_ | refine WC.ret ?_ | refine WX.then_exit ?_ | refine WX.then_ret ?_ | refine WX.block_normal ?_ | refine WX.block_ret ?_ | refine WX.block_same ?_ | refine WX.block_other rfl ?_ | refine WC.label ?_ | refine WC.scope ?_ | refine WX.scope_normal ?_ | refine WX.scope_ret ?_ | refine WX.scope_exit ?_ | refine WL.y rfl (Yld.add rfl rfl (by simp only [In]; omega)) ?_ | refine WL.y rfl (Yld.sub rfl rfl (by simp only [In]; omega)) ?_ | refine WL.y rfl (Yld.mul rfl rfl (by simp only [In]; omega)) ?_ | refine WL.y rfl (Yld.convB tab_ok rfl rfl rfl rfl) ?_ | refine WL.y rfl (Yld.conv tab_ok rfl rfl rfl (by simp only [In]; omega)) ?_ | refine WL.y rfl (Yld.quo rfl rfl (by omega) (by omega) (by simp only [In]; omega)) ?_ | refine WL.y rfl (Yld.rem rfl rfl (by omega) (by omega)) ?_ | refine WL.y rfl (Yld.shl rfl rfl (by omega)) ?_ | refine WL.y rfl (Yld.shr rfl rfl (by omega)) ?_ | refine WL.y rfl (Yld.pure tab_ok rfl) ?_)
    refine WC.loop (S := Nat × Option Addr × Nat) (fun s => 8 - s.1) (fun s => [(32, vi s.1), (5, .slice s.2.1 (e7 ++ lenBs (8 * n) s.1).length s.2.2), (4, .int .u64 (8 * n)), (3, .pointer (some ⟨gt, 0, none⟩)), (2, .pointer (some ⟨go, 0, none⟩))])
      (fun s w8 => s.1 ≤ 8 ∧ Own vb w8 w3.heap.size 5 s.2.1 s.2.2 (e7 ++ lenBs (8 * n) s.1) ∧ w3.grownBy w8 none)
      (0, A7, c7) ⟨by simp, by simpa [lenBs] using hO7, hg7⟩ (by simp only [lenBs, List.append_nil]; repeat (first | exact Sub.nil | refine Sub.cons rfl ?_)) (fun ⟨i, A8, c8⟩ w8 ⟨hi, hO8, hg8⟩ => ?_)
    simp only at hi hO8
    have hlb := lenBs_len (8 * n) i
    repeat (first | refine WC.seq ?_ | refine WC.block ?_ | refine WC.region ?_ | refine WL.nil ?_ | refine WX.then_normal ?_ | refine WC.skip ?_ | refine WC.exit ?_ | refine WC.ret ?_ | refine WX.then_exit ?_ | refine WX.then_ret ?_ | refine WX.block_normal ?_ | refine WX.block_ret ?_ | refine WX.block_same ?_ | refine WX.block_other rfl ?_ | refine WC.label ?_ | refine WC.scope ?_ | refine WX.scope_normal ?_ | refine WX.scope_ret ?_ | refine WX.scope_exit ?_ | refine WL.y rfl (Yld.add rfl rfl (by simp only [In]; omega)) ?_ | refine WL.y rfl (Yld.sub rfl rfl (by simp only [In]; omega)) ?_ | refine WL.y rfl (Yld.mul rfl rfl (by simp only [In]; omega)) ?_ | refine WL.y rfl (Yld.convB tab_ok rfl rfl rfl rfl) ?_ | refine WL.y rfl (Yld.conv tab_ok rfl rfl rfl (by simp only [In]; omega)) ?_ | refine WL.y rfl (Yld.quo rfl rfl (by omega) (by omega) (by simp only [In]; omega)) ?_ | refine WL.y rfl (Yld.rem rfl rfl (by omega) (by omega)) ?_ | refine WL.y rfl (Yld.shl rfl rfl (by omega)) ?_ | refine WL.y rfl (Yld.shr rfl rfl (by omega)) ?_ | refine WL.y rfl (Yld.pure tab_ok rfl) ?_)
    refine WC.cond rfl (fun h => ?_) (fun h => ?_)
    · simp only [decide_eq_true_eq] at h
      repeat (first | refine WL.y rfl (Yld.toB tab_ok rfl rfl rfl) ?_ | refine WC.seq ?_ | refine WC.block ?_ | refine WC.region ?_ | refine WL.nil ?_ | refine WX.then_normal ?_ | refine WC.skip ?_ | refine WC.exit ?_ | refine WC.ret ?_ | refine WX.then_exit ?_ | refine WX.then_ret ?_ | refine WX.block_normal ?_ | refine WX.block_ret ?_ | refine WX.block_same ?_ | refine WX.block_other rfl ?_ | refine WC.label ?_ | refine WC.scope ?_ | refine WX.scope_normal ?_ | refine WX.scope_ret ?_ | refine WX.scope_exit ?_ | refine WL.y rfl (Yld.add rfl rfl (by simp only [In]; omega)) ?_ | refine WL.y rfl (Yld.sub rfl rfl (by simp only [In]; omega)) ?_ | refine WL.y rfl (Yld.mul rfl rfl (by simp only [In]; omega)) ?_ | refine WL.y rfl (Yld.convB tab_ok rfl rfl rfl rfl) ?_ | refine WL.y rfl (Yld.conv tab_ok rfl rfl rfl (by simp only [In]; omega)) ?_ | refine WL.y rfl (Yld.quo rfl rfl (by omega) (by omega) (by simp only [In]; omega)) ?_ | refine WL.y rfl (Yld.rem rfl rfl (by omega) (by omega)) ?_ | refine WL.y rfl (Yld.shl rfl rfl (by omega)) ?_ | refine WL.y rfl (Yld.shr rfl rfl (by omega)) ?_ | refine WL.y rfl (Yld.pure tab_ok rfl) ?_)
      refine WL.lit (us := [vb (lenB (8 * n) i)]) tab_ok rfl rfl rfl (by intro u hu; simp at hu; rw [hu]; rfl) rfl (by omega) (fun gl w9 hL9 hg9 hl9 => ?_)
      refine WL.append tab_ok rfl rfl One.b (hO8.grown hg9) rfl rfl (bl_one (x := lenB (8 * n) i) hL9) rfl rfl (by simp; omega) (by simp [maxLen]; omega) (by have := hg8.size; have := hg9.size; omega) (fun A10 c10 w10 hO10 hg10 hf10 => ?_)
      repeat (first | refine WC.seq ?_ | refine WC.block ?_ | refine WC.region ?_ | refine WL.nil ?_ | refine WX.then_normal ?_ | refine WC.skip ?_ | refine WC.exit ?_ | refine WC.ret ?_ | refine WX.then_exit ?_ | refine WX.then_ret ?_ | refine WX.block_normal ?_ | refine WX.block_ret ?_ | refine WX.block_same ?_ | refine WX.block_other rfl ?_ | refine WC.label ?_ | refine WC.scope ?_ | refine WX.scope_normal ?_ | refine WX.scope_ret ?_ | refine WX.scope_exit ?_ | refine WL.y rfl (Yld.add rfl rfl (by simp only [In]; omega)) ?_ | refine WL.y rfl (Yld.sub rfl rfl (by simp only [In]; omega)) ?_ | refine WL.y rfl (Yld.mul rfl rfl (by simp only [In]; omega)) ?_ | refine WL.y rfl (Yld.convB tab_ok rfl rfl rfl rfl) ?_ | refine WL.y rfl (Yld.conv tab_ok rfl rfl rfl (by simp only [In]; omega)) ?_ | refine WL.y rfl (Yld.quo rfl rfl (by omega) (by omega) (by simp only [In]; omega)) ?_ | refine WL.y rfl (Yld.rem rfl rfl (by omega) (by omega)) ?_ | refine WL.y rfl (Yld.shl rfl rfl (by omega)) ?_ | refine WL.y rfl (Yld.shr rfl rfl (by omega)) ?_ | refine WL.y rfl (Yld.pure tab_ok rfl) ?_)
      have hap : e7 ++ lenBs (8 * n) i ++ [lenB (8 * n) i] = e7 ++ lenBs (8 * n) (i + 1) := by rw [List.append_assoc]; rfl
      rw [hap] at hO10 ⊢
      exact WX.round (i + 1, A10, c10) ⟨by simp; omega, hO10, gr_own (gr_trans hg8 hg9) (hO8.grown hg9) hg10 (Nat.le_refl _)⟩ (by simp; omega) (by repeat (first | exact Sub.nil | refine Sub.cons rfl ?_))
    · simp only [decide_eq_false_iff_not] at h
      obtain rfl : i = 8 := by omega
      have hend : e7 ++ lenBs (8 * n) 8 = endS r n := by rw [he7]; rfl
      rw [hend] at hO8 ⊢
      have hel : (endS r n).length ≤ 192 := by rw [← hend, List.length_append, hlb]; omega
      have hem : (endS r n).length % 64 = 0 := by rw [← hend, List.length_append, hlb]; omega
      have hR8 := hO8.rd
      have hA8 : blk A8 ≠ some gt := fun e => by have := (hO8.lt e).1; omega
      have hA8o : blk A8 ≠ some go := fun e => by have := (hO8.lt e).1; have := ho3.lt; omega
      have ht8 := ht3.keep hg8 (by simp)
      have ho8 := ho3.keep hg8 (by simp)
      have hgr8 := gr_trans hgr3 hg8
      have hz8 := hg8.size
      generalize endS r n = en at *
      clear hO7 hp7 hO8 hO6 hgr6 hp0 hg8 hg7
      repeat (first | refine WC.seq ?_ | refine WC.block ?_ | refine WC.region ?_ | refine WL.nil ?_ | refine WX.then_normal ?_ | refine WC.skip ?_ | refine WC.exit ?_ | refine WC.ret ?_ | refine WX.then_exit ?_ | refine WX.then_ret ?_ | refine WX.block_normal ?_ | refine WX.block_ret ?_ | refine WX.block_same ?_ | refine WX.block_other rfl ?_ | refine WC.label ?_ | refine WC.scope ?_ | refine WX.scope_normal ?_ | refine WX.scope_ret ?_ | refine WX.scope_exit ?_ | refine WL.y rfl (Yld.add rfl rfl (by simp only [In]; omega)) ?_ | refine WL.y rfl (Yld.sub rfl rfl (by simp only [In]; omega)) ?_ | refine WL.y rfl (Yld.mul rfl rfl (by simp only [In]; omega)) ?_ | refine WL.y rfl (Yld.convB tab_ok rfl rfl rfl rfl) ?_ | refine WL.y rfl (Yld.conv tab_ok rfl rfl rfl (by simp only [In]; omega)) ?_ | refine WL.y rfl (Yld.quo rfl rfl (by omega) (by omega) (by simp only [In]; omega)) ?_ | refine WL.y rfl (Yld.rem rfl rfl (by omega) (by omega)) ?_ | refine WL.y rfl (Yld.shl rfl rfl (by omega)) ?_ | refine WL.y rfl (Yld.shr rfl rfl (by omega)) ?_ | refine WL.y rfl (Yld.pure tab_ok rfl) ?_)
      refine WC.loop (S := Nat × List Int) (fun s => en.length - 64 * s.1) (fun s => [(7, vi (64 * s.1 : Nat)), (5, .slice A8 en.length c8), (3, .pointer (some ⟨gt, 0, none⟩)), (2, .pointer (some ⟨go, 0, none⟩))])
        (fun s w9 => 64 * s.1 ≤ en.length ∧ s.2.length = 8 ∧ Bl w9 gt 214 (stc s.2 A c r n) ∧ absorb (en.length - s.1) s.2 (en.drop (64 * s.1)) = absorb en.length hs en ∧ w8.grownBy w9 (some gt))
        (0, hs) ⟨by simp, hh, ht8, by simp, gr_refl _ _⟩ (by repeat (first | exact Sub.nil | refine Sub.cons rfl ?_)) (fun ⟨i, h9⟩ w9 ⟨hi9, hh9, ht9, ha9, hg9⟩ => ?_)
      simp only at hi9 hh9 ht9 ha9
      have hR9 := hR8.keep hg9 (fun q hq e => by injection hq with hq; exact hA8 (by rw [e, hq]))
      repeat (first | refine WC.seq ?_ | refine WC.block ?_ | refine WC.region ?_ | refine WL.nil ?_ | refine WX.then_normal ?_ | refine WC.skip ?_ | refine WC.exit ?_ | refine WC.ret ?_ | refine WX.then_exit ?_ | refine WX.then_ret ?_ | refine WX.block_normal ?_ | refine WX.block_ret ?_ | refine WX.block_same ?_ | refine WX.block_other rfl ?_ | refine WC.label ?_ | refine WC.scope ?_ | refine WX.scope_normal ?_ | refine WX.scope_ret ?_ | refine WX.scope_exit ?_ | refine WL.y rfl (Yld.add rfl rfl (by simp only [In]; omega)) ?_ | refine WL.y rfl (Yld.sub rfl rfl (by simp only [In]; omega)) ?_ | refine WL.y rfl (Yld.mul rfl rfl (by simp only [In]; omega)) ?_ | refine WL.y rfl (Yld.convB tab_ok rfl rfl rfl rfl) ?_ | refine WL.y rfl (Yld.conv tab_ok rfl rfl rfl (by simp only [In]; omega)) ?_ | refine WL.y rfl (Yld.quo rfl rfl (by omega) (by omega) (by simp only [In]; omega)) ?_ | refine WL.y rfl (Yld.rem rfl rfl (by omega) (by omega)) ?_ | refine WL.y rfl (Yld.shl rfl rfl (by omega)) ?_ | refine WL.y rfl (Yld.shr rfl rfl (by omega)) ?_ | refine WL.y rfl (Yld.pure tab_ok rfl) ?_)
      refine WC.cond rfl (fun h => ?_) (fun h => ?_)
      · simp only [decide_eq_true_eq] at h
        repeat (first | refine WC.seq ?_ | refine WC.block ?_ | refine WC.region ?_ | refine WL.nil ?_ | refine WX.then_normal ?_ | refine WC.skip ?_ | refine WC.exit ?_ | refine WC.ret ?_ | refine WX.then_exit ?_ | refine WX.then_ret ?_ | refine WX.block_normal ?_ | refine WX.block_ret ?_ | refine WX.block_same ?_ | refine WX.block_other rfl ?_ | refine WC.label ?_ | refine WC.scope ?_ | refine WX.scope_normal ?_ | refine WX.scope_ret ?_ | refine WX.scope_exit ?_ | refine WL.y rfl (Yld.add rfl rfl (by simp only [In]; omega)) ?_ | refine WL.y rfl (Yld.sub rfl rfl (by simp only [In]; omega)) ?_ | refine WL.y rfl (Yld.mul rfl rfl (by simp only [In]; omega)) ?_ | refine WL.y rfl (Yld.convB tab_ok rfl rfl rfl rfl) ?_ | refine WL.y rfl (Yld.conv tab_ok rfl rfl rfl (by simp only [In]; omega)) ?_ | refine WL.y rfl (Yld.quo rfl rfl (by omega) (by omega) (by simp only [In]; omega)) ?_ | refine WL.y rfl (Yld.rem rfl rfl (by omega) (by omega)) ?_ | refine WL.y rfl (Yld.shl rfl rfl (by omega)) ?_ | refine WL.y rfl (Yld.shr rfl rfl (by omega)) ?_ | refine WL.y rfl (Yld.pure tab_ok rfl) ?_)
        refine WL.cut tab_ok hR9 rfl rfl rfl rfl rfl rfl (by omega) (by omega) (by omega) (fun A10 c10 hR10 hA10 => ?_)
        refine WL.call rfl rfl (mix_fn gt h9 _ A10 c10 _ w9 hh9 ht9 hR10 (by simp; omega)) ?_
        rintro _ w10 ⟨rfl, hB10, hg10⟩
        repeat (first | refine WC.seq ?_ | refine WC.block ?_ | refine WC.region ?_ | refine WL.nil ?_ | refine WX.then_normal ?_ | refine WC.skip ?_ | refine WC.exit ?_ | refine WC.ret ?_ | refine WX.then_exit ?_ | refine WX.then_ret ?_ | refine WX.block_normal ?_ | refine WX.block_ret ?_ | refine WX.block_same ?_ | refine WX.block_other rfl ?_ | refine WC.label ?_ | refine WC.scope ?_ | refine WX.scope_normal ?_ | refine WX.scope_ret ?_ | refine WX.scope_exit ?_ | refine WL.y rfl (Yld.add rfl rfl (by simp only [In]; omega)) ?_ | refine WL.y rfl (Yld.sub rfl rfl (by simp only [In]; omega)) ?_ | refine WL.y rfl (Yld.mul rfl rfl (by simp only [In]; omega)) ?_ | refine WL.y rfl (Yld.convB tab_ok rfl rfl rfl rfl) ?_ | refine WL.y rfl (Yld.conv tab_ok rfl rfl rfl (by simp only [In]; omega)) ?_ | refine WL.y rfl (Yld.quo rfl rfl (by omega) (by omega) (by simp only [In]; omega)) ?_ | refine WL.y rfl (Yld.rem rfl rfl (by omega) (by omega)) ?_ | refine WL.y rfl (Yld.shl rfl rfl (by omega)) ?_ | refine WL.y rfl (Yld.shr rfl rfl (by omega)) ?_ | refine WL.y rfl (Yld.pure tab_ok rfl) ?_)
        have ec1 : (((64 * i : Nat) : Int) + 64).toNat - ((64 * i : Nat) : Int).toNat = 64 := by omega
        have ec2 : ((64 * i : Nat) : Int).toNat = 64 * i := by omega
        simp only [ec1] at hB10
        simp only [ec2] at hB10
        have hd : 64 ≤ (en.drop (64 * i)).length := by rw [List.length_drop]; omega
        obtain ⟨q, hq⟩ : ∃ q, en.length - i = q + 1 := ⟨en.length - i - 1, by omega⟩
        refine WX.round (i + 1, mixS h9 ((en.drop (64 * i)).take 64)) ⟨by simp only; omega, by rw [mixS_len]; exact hh9, hB10, ?_, gr_trans hg9 hg10⟩ (by simp only; omega) ?_
        · rw [← ha9, hq, absorb, if_pos hd, List.drop_drop]
          simp only
          rw [show en.length - (i + 1) = q by omega, show 64 * i + 64 = 64 * (i + 1) by omega]
        · refine Sub.cons ?_ (by repeat (first | exact Sub.nil | refine Sub.cons rfl ?_))
          show some (vi (((64 * i : Nat) : Int) + 64)) = some (vi ((64 * (i + 1) : Nat) : Int))
          rw [show ((64 * i : Nat) : Int) + 64 = ((64 * (i + 1) : Nat) : Int) by omega]
      · simp only [decide_eq_false_iff_not] at h
        have hnil : en.drop (64 * i) = [] := List.drop_eq_nil_of_le (by omega)
        have habs : ∀ k, absorb k h9 [] = (h9, []) := fun k => by
          cases k with
          | zero => rfl
          | succ k => rw [absorb, if_neg (by simp)]
        have hfin : (absorb en.length hs en).1 = h9 := by rw [← ha9, hnil, habs]
        have hres : sumS hs r n = outAt h9 32 := by
          rw [sumS, ← hfin, ← hend, he7]
          rfl
        have ho9 := ho8.keep hg9 (fun e => by injection e with e; have := ho3.lt; omega)
        have hgr9 : w.grownBy w9 none := gr_new hgr8 hg9 (by omega)
        have hz9 := hg9.size
        clear hg9 hR9 hR8 ht8 ho8 hgr8
        repeat (first | refine WC.seq ?_ | refine WC.block ?_ | refine WC.region ?_ | refine WL.nil ?_ | refine WX.then_normal ?_ | refine WC.skip ?_ | refine WC.exit ?_ | refine WC.ret ?_ | refine WX.then_exit ?_ | refine WX.then_ret ?_ | refine WX.block_normal ?_ | refine WX.block_ret ?_ | refine WX.block_same ?_ | refine WX.block_other rfl ?_ | refine WC.label ?_ | refine WC.scope ?_ | refine WX.scope_normal ?_ | refine WX.scope_ret ?_ | refine WX.scope_exit ?_ | refine WL.y rfl (Yld.add rfl rfl (by simp only [In]; omega)) ?_ | refine WL.y rfl (Yld.sub rfl rfl (by simp only [In]; omega)) ?_ | refine WL.y rfl (Yld.mul rfl rfl (by simp only [In]; omega)) ?_ | refine WL.y rfl (Yld.convB tab_ok rfl rfl rfl rfl) ?_ | refine WL.y rfl (Yld.conv tab_ok rfl rfl rfl (by simp only [In]; omega)) ?_ | refine WL.y rfl (Yld.quo rfl rfl (by omega) (by omega) (by simp only [In]; omega)) ?_ | refine WL.y rfl (Yld.rem rfl rfl (by omega) (by omega)) ?_ | refine WL.y rfl (Yld.shl rfl rfl (by omega)) ?_ | refine WL.y rfl (Yld.shr rfl rfl (by omega)) ?_ | refine WL.y rfl (Yld.pure tab_ok rfl) ?_)
        refine WL.alloc rfl zero74 (fun gu w10 hu10 hg10 hlu => ?_)
        have ho10 := ho9.keep hg10 (by simp)
        have ht10 := ht9.keep hg10 (by simp)
        have hgr10 := gr_trans hgr9 hg10
        have htlt := ht10.lt
        have holt := ho10.lt
        have holt9 := ho9.lt
        have htlt9 := ht9.lt
        repeat (first | refine WC.seq ?_ | refine WC.block ?_ | refine WC.region ?_ | refine WL.nil ?_ | refine WX.then_normal ?_ | refine WC.skip ?_ | refine WC.exit ?_ | refine WC.ret ?_ | refine WX.then_exit ?_ | refine WX.then_ret ?_ | refine WX.block_normal ?_ | refine WX.block_ret ?_ | refine WX.block_same ?_ | refine WX.block_other rfl ?_ | refine WC.label ?_ | refine WC.scope ?_ | refine WX.scope_normal ?_ | refine WX.scope_ret ?_ | refine WX.scope_exit ?_ | refine WL.y rfl (Yld.add rfl rfl (by simp only [In]; omega)) ?_ | refine WL.y rfl (Yld.sub rfl rfl (by simp only [In]; omega)) ?_ | refine WL.y rfl (Yld.mul rfl rfl (by simp only [In]; omega)) ?_ | refine WL.y rfl (Yld.convB tab_ok rfl rfl rfl rfl) ?_ | refine WL.y rfl (Yld.conv tab_ok rfl rfl rfl (by simp only [In]; omega)) ?_ | refine WL.y rfl (Yld.quo rfl rfl (by omega) (by omega) (by simp only [In]; omega)) ?_ | refine WL.y rfl (Yld.rem rfl rfl (by omega) (by omega)) ?_ | refine WL.y rfl (Yld.shl rfl rfl (by omega)) ?_ | refine WL.y rfl (Yld.shr rfl rfl (by omega)) ?_ | refine WL.y rfl (Yld.pure tab_ok rfl) ?_)
        refine WC.loop (S := Nat) (fun i => 32 - i) (fun i => [(57, vi i), (8, .pointer (some ⟨gu, 0, none⟩)), (3, .pointer (some ⟨gt, 0, none⟩)), (2, .pointer (some ⟨go, 0, none⟩))])
          (fun i w11 => i ≤ 32 ∧ Bl w11 gu 74 ((outAt h9 i).map vb) ∧ w10.grownBy w11 (some gu)) 0 ⟨by omega, by rw [outAt, List.map_replicate]; exact hu10, gr_refl _ _⟩ (by repeat (first | exact Sub.nil | refine Sub.cons rfl ?_)) (fun i w11 ⟨hi, hu11, hg11⟩ => ?_)
        have hol := outAt_len h9 i
        have ht11 := ht10.keep hg11 (fun e => by injection e with e; omega)
        have ho11 := ho10.keep hg11 (fun e => by injection e with e; omega)
        repeat (first | refine WC.seq ?_ | refine WC.block ?_ | refine WC.region ?_ | refine WL.nil ?_ | refine WX.then_normal ?_ | refine WC.skip ?_ | refine WC.exit ?_ | refine WC.ret ?_ | refine WX.then_exit ?_ | refine WX.then_ret ?_ | refine WX.block_normal ?_ | refine WX.block_ret ?_ | refine WX.block_same ?_ | refine WX.block_other rfl ?_ | refine WC.label ?_ | refine WC.scope ?_ | refine WX.scope_normal ?_ | refine WX.scope_ret ?_ | refine WX.scope_exit ?_ | refine WL.y rfl (Yld.add rfl rfl (by simp only [In]; omega)) ?_ | refine WL.y rfl (Yld.sub rfl rfl (by simp only [In]; omega)) ?_ | refine WL.y rfl (Yld.mul rfl rfl (by simp only [In]; omega)) ?_ | refine WL.y rfl (Yld.convB tab_ok rfl rfl rfl rfl) ?_ | refine WL.y rfl (Yld.conv tab_ok rfl rfl rfl (by simp only [In]; omega)) ?_ | refine WL.y rfl (Yld.quo rfl rfl (by omega) (by omega) (by simp only [In]; omega)) ?_ | refine WL.y rfl (Yld.rem rfl rfl (by omega) (by omega)) ?_ | refine WL.y rfl (Yld.shl rfl rfl (by omega)) ?_ | refine WL.y rfl (Yld.shr rfl rfl (by omega)) ?_ | refine WL.y rfl (Yld.pure tab_ok rfl) ?_)
        refine WC.cond rfl (fun h => ?_) (fun h => ?_)
        · simp only [decide_eq_true_eq] at h
          have hv : (stc h9 A c r n)[0 + 0 + ((i : Int) / 4).toNat * 1]? = some (vu (h9.getD (i / 4) 0)) := by
            have e : 0 + 0 + ((i : Int) / 4).toNat * 1 = i / 4 := by omega
            rw [e, stc, List.getElem?_append_left (by rw [List.length_map]; omega)]
            simp [List.getD, show i / 4 < h9.length by omega]
          repeat (first | refine WL.y rfl (Yld.aaddrN tab_ok rfl rfl rfl (by omega)) ?_ | refine WL.y rfl (Yld.aaddr tab_ok rfl rfl rfl (by omega) (by omega)) ?_ | refine WL.y rfl (Yld.bload tab_ok ht11 rfl rfl hv) ?_ | refine WL.y rfl (Yld.toB tab_ok rfl rfl rfl) ?_ | refine WC.seq ?_ | refine WC.block ?_ | refine WC.region ?_ | refine WL.nil ?_ | refine WX.then_normal ?_ | refine WC.skip ?_ | refine WC.exit ?_ | refine WC.ret ?_ | refine WX.then_exit ?_ | refine WX.then_ret ?_ | refine WX.block_normal ?_ | refine WX.block_ret ?_ | refine WX.block_same ?_ | refine WX.block_other rfl ?_ | refine WC.label ?_ | refine WC.scope ?_ | refine WX.scope_normal ?_ | refine WX.scope_ret ?_ | refine WX.scope_exit ?_ | refine WL.y rfl (Yld.add rfl rfl (by simp only [In]; omega)) ?_ | refine WL.y rfl (Yld.sub rfl rfl (by simp only [In]; omega)) ?_ | refine WL.y rfl (Yld.mul rfl rfl (by simp only [In]; omega)) ?_ | refine WL.y rfl (Yld.convB tab_ok rfl rfl rfl rfl) ?_ | refine WL.y rfl (Yld.conv tab_ok rfl rfl rfl (by simp only [In]; omega)) ?_ | refine WL.y rfl (Yld.quo rfl rfl (by omega) (by omega) (by simp only [In]; omega)) ?_ | refine WL.y rfl (Yld.rem rfl rfl (by omega) (by omega)) ?_ | refine WL.y rfl (Yld.shl rfl rfl (by omega)) ?_ | refine WL.y rfl (Yld.shr rfl rfl (by omega)) ?_ | refine WL.y rfl (Yld.pure tab_ok rfl) ?_)
          refine WL.store1 one5 rfl rfl rfl hu11 (by rw [List.length_map]; omega) (fun w12 hu12 hg12 => ?_)
          repeat (first | refine WC.seq ?_ | refine WC.block ?_ | refine WC.region ?_ | refine WL.nil ?_ | refine WX.then_normal ?_ | refine WC.skip ?_ | refine WC.exit ?_ | refine WC.ret ?_ | refine WX.then_exit ?_ | refine WX.then_ret ?_ | refine WX.block_normal ?_ | refine WX.block_ret ?_ | refine WX.block_same ?_ | refine WX.block_other rfl ?_ | refine WC.label ?_ | refine WC.scope ?_ | refine WX.scope_normal ?_ | refine WX.scope_ret ?_ | refine WX.scope_exit ?_ | refine WL.y rfl (Yld.add rfl rfl (by simp only [In]; omega)) ?_ | refine WL.y rfl (Yld.sub rfl rfl (by simp only [In]; omega)) ?_ | refine WL.y rfl (Yld.mul rfl rfl (by simp only [In]; omega)) ?_ | refine WL.y rfl (Yld.convB tab_ok rfl rfl rfl rfl) ?_ | refine WL.y rfl (Yld.conv tab_ok rfl rfl rfl (by simp only [In]; omega)) ?_ | refine WL.y rfl (Yld.quo rfl rfl (by omega) (by omega) (by simp only [In]; omega)) ?_ | refine WL.y rfl (Yld.rem rfl rfl (by omega) (by omega)) ?_ | refine WL.y rfl (Yld.shl rfl rfl (by omega)) ?_ | refine WL.y rfl (Yld.shr rfl rfl (by omega)) ?_ | refine WL.y rfl (Yld.pure tab_ok rfl) ?_)
          refine WX.round (i + 1) ⟨by omega, ?_, gr_trans hg11 hg12⟩ (by omega) (by repeat (first | exact Sub.nil | refine Sub.cons rfl ?_))
          rw [show 0 + i * 1 = i by omega] at hu12
          rw [outAt, List.map_set]
          exact hu12
        · simp only [decide_eq_false_iff_not] at h
          obtain rfl : i = 32 := by omega
          repeat (first | refine WL.y rfl (Yld.bagg (vs := (outAt h9 32).map vb) tab_ok hu11 rfl rfl (by rw [List.drop_zero, List.take_of_length_le]; simp [hol]) (by simp [hol])) ?_ | refine WC.seq ?_ | refine WC.block ?_ | refine WC.region ?_ | refine WL.nil ?_ | refine WX.then_normal ?_ | refine WC.skip ?_ | refine WC.exit ?_ | refine WC.ret ?_ | refine WX.then_exit ?_ | refine WX.then_ret ?_ | refine WX.block_normal ?_ | refine WX.block_ret ?_ | refine WX.block_same ?_ | refine WX.block_other rfl ?_ | refine WC.label ?_ | refine WC.scope ?_ | refine WX.scope_normal ?_ | refine WX.scope_ret ?_ | refine WX.scope_exit ?_ | refine WL.y rfl (Yld.add rfl rfl (by simp only [In]; omega)) ?_ | refine WL.y rfl (Yld.sub rfl rfl (by simp only [In]; omega)) ?_ | refine WL.y rfl (Yld.mul rfl rfl (by simp only [In]; omega)) ?_ | refine WL.y rfl (Yld.convB tab_ok rfl rfl rfl rfl) ?_ | refine WL.y rfl (Yld.conv tab_ok rfl rfl rfl (by simp only [In]; omega)) ?_ | refine WL.y rfl (Yld.quo rfl rfl (by omega) (by omega) (by simp only [In]; omega)) ?_ | refine WL.y rfl (Yld.rem rfl rfl (by omega) (by omega)) ?_ | refine WL.y rfl (Yld.shl rfl rfl (by omega)) ?_ | refine WL.y rfl (Yld.shr rfl rfl (by omega)) ?_ | refine WL.y rfl (Yld.pure tab_ok rfl) ?_)
          refine WL.storeW tab_ok rfl rfl rfl (oneM One.b _) ho11 rfl (by simp [hol]) (fun w12 ho12 hg12 => ?_)
          repeat (first | refine WC.seq ?_ | refine WC.block ?_ | refine WC.region ?_ | refine WL.nil ?_ | refine WX.then_normal ?_ | refine WC.skip ?_ | refine WC.exit ?_ | refine WC.ret ?_ | refine WX.then_exit ?_ | refine WX.then_ret ?_ | refine WX.block_normal ?_ | refine WX.block_ret ?_ | refine WX.block_same ?_ | refine WX.block_other rfl ?_ | refine WC.label ?_ | refine WC.scope ?_ | refine WX.scope_normal ?_ | refine WX.scope_ret ?_ | refine WX.scope_exit ?_ | refine WL.y rfl (Yld.add rfl rfl (by simp only [In]; omega)) ?_ | refine WL.y rfl (Yld.sub rfl rfl (by simp only [In]; omega)) ?_ | refine WL.y rfl (Yld.mul rfl rfl (by simp only [In]; omega)) ?_ | refine WL.y rfl (Yld.convB tab_ok rfl rfl rfl rfl) ?_ | refine WL.y rfl (Yld.conv tab_ok rfl rfl rfl (by simp only [In]; omega)) ?_ | refine WL.y rfl (Yld.quo rfl rfl (by omega) (by omega) (by simp only [In]; omega)) ?_ | refine WL.y rfl (Yld.rem rfl rfl (by omega) (by omega)) ?_ | refine WL.y rfl (Yld.shl rfl rfl (by omega)) ?_ | refine WL.y rfl (Yld.shr rfl rfl (by omega)) ?_ | refine WL.y rfl (Yld.pure tab_ok rfl) ?_)
          refine WX.retc tab_ok rfl rfl rfl ho12 (by simp [hol]) ⟨by rw [hres], ?_⟩
          exact gr_new (gr_new hgr10 hg11 (by have := hgr9.size; omega)) hg12 hlo
end Go.Proofs.YtlonpmajnglmoaaDoor

 namespace Go.Proofs.YtlonpmajnglmoaaDoor
open Go Go.RowKit
attribute [local irreducible] WL WC WX WQ WK Yld Eff Fn

def digs : List UInt8 := [48, 49, 50, 51, 52, 53, 54, 55, 56, 57, 97, 98, 99, 100, 101, 102]
def hexB (b : UInt8) : List UInt8 := [digs.getD (shrV .u8 (b.toNat : Int) 4).toNat 0, digs.getD (bits .and .u8 (b.toNat : Int) 15).toNat 0]
def hexS (l : List UInt8) : List UInt8 := l.flatMap hexB
theorem shr_4 (b : UInt8) : 0 ≤ shrV .u8 (b.toNat : Int) 4 ∧ shrV .u8 (b.toNat : Int) 4 < 16 := by
  have := b.toNat_lt
  have e : shrV .u8 (b.toNat : Int) 4 = (b.toNat : Int) / 16 := by
    unfold shrV
    rw [Int.fdiv_eq_ediv_of_nonneg _ (by decide)]
    rfl
  rw [e]
  omega
theorem and_15 (b : UInt8) : 0 ≤ bits .and .u8 (b.toNat : Int) 15 ∧ bits .and .u8 (b.toNat : Int) 15 < 16 := by
  have := b.toNat_lt
  have e : bits .and .u8 (b.toNat : Int) 15 = (b.toNat : Int) % 16 := by
    show IntKind.u8.wrap ((BitVec.ofInt 8 (b.toNat : Int) &&& BitVec.ofInt 8 15).toNat : Int) = _
    rw [BitVec.toNat_and]
    have e : (BitVec.ofInt 8 15).toNat = 2^4 - 1 := by decide
    rw [e, Nat.and_two_pow_sub_one_eq_mod, BitVec.toNat_ofInt, IntKind.wrap_u8]
    omega
  rw [e]
  omega
theorem hexS_len (l : List UInt8) : (hexS l).length = 2 * l.length := by
  unfold hexS
  induction l with
  | nil => rfl
  | cons b l ih => rw [List.flatMap_cons, List.length_append, ih]; simp [hexB]; omega
theorem hexS_take (l : List UInt8) (k : Nat) (h : k < l.length) : hexS (l.take (k + 1)) = hexS (l.take k) ++ hexB (l.getD k 0) := by
  unfold hexS
  rw [List.take_succ_eq_append_getElem h, List.flatMap_append]
  simp [List.getD, h]
theorem text_fn (l : List UInt8) (w : World) (hl : l.length = 32) : Fn Tryd.prog 83 ⟨[.agg ⟨l.map vb⟩]⟩ w fun v w' => v = .string ⟨⟨hexS l⟩⟩ ∧ w.grownBy w' none := by
  have hml : (l.map vb).length = 32 := by rw [List.length_map]; exact hl
  refine Fn.enter (by kernel_rfl) Tryd.func83 rfl Tryd.ntmps83 rfl ?_
  repeat (first | refine WC.seq ?_ | refine WC.block ?_ | refine WC.region ?_ | refine WL.nil ?_ | refine WX.then_normal ?_ | refine WC.skip ?_ | refine WC.exit ?_ | refine WC.ret ?_ | refine WX.then_exit ?_ | refine WX.then_ret ?_ | refine WX.block_normal ?_ | refine WX.block_ret ?_ | refine WX.block_same ?_ | refine WX.block_other rfl ?_ | refine WC.label ?_ | refine WC.scope ?_ | refine WX.scope_normal ?_ | refine WX.scope_ret ?_ | refine WX.scope_exit ?_ | refine WL.y rfl (Yld.add rfl rfl (by simp only [In]; omega)) ?_ | refine WL.y rfl (Yld.sub rfl rfl (by simp only [In]; omega)) ?_ | refine WL.y rfl (Yld.mul rfl rfl (by simp only [In]; omega)) ?_ | refine WL.y rfl (Yld.convB tab_ok rfl rfl rfl rfl) ?_ | refine WL.y rfl (Yld.conv tab_ok rfl rfl rfl (by simp only [In]; omega)) ?_ | refine WL.y rfl (Yld.quo rfl rfl (by omega) (by omega) (by simp only [In]; omega)) ?_ | refine WL.y rfl (Yld.rem rfl rfl (by omega) (by omega)) ?_ | refine WL.y rfl (Yld.shl rfl rfl (by omega)) ?_ | refine WL.y rfl (Yld.shr rfl rfl (by omega)) ?_ | refine WL.y rfl (Yld.pure tab_ok rfl) ?_)
  refine WL.box rfl rfl rfl (fun g w1 hB hg hlt => ?_)
  repeat (first | refine WC.seq ?_ | refine WC.block ?_ | refine WC.region ?_ | refine WL.nil ?_ | refine WX.then_normal ?_ | refine WC.skip ?_ | refine WC.exit ?_ | refine WC.ret ?_ | refine WX.then_exit ?_ | refine WX.then_ret ?_ | refine WX.block_normal ?_ | refine WX.block_ret ?_ | refine WX.block_same ?_ | refine WX.block_other rfl ?_ | refine WC.label ?_ | refine WC.scope ?_ | refine WX.scope_normal ?_ | refine WX.scope_ret ?_ | refine WX.scope_exit ?_ | refine WL.y rfl (Yld.add rfl rfl (by simp only [In]; omega)) ?_ | refine WL.y rfl (Yld.sub rfl rfl (by simp only [In]; omega)) ?_ | refine WL.y rfl (Yld.mul rfl rfl (by simp only [In]; omega)) ?_ | refine WL.y rfl (Yld.convB tab_ok rfl rfl rfl rfl) ?_ | refine WL.y rfl (Yld.conv tab_ok rfl rfl rfl (by simp only [In]; omega)) ?_ | refine WL.y rfl (Yld.quo rfl rfl (by omega) (by omega) (by simp only [In]; omega)) ?_ | refine WL.y rfl (Yld.rem rfl rfl (by omega) (by omega)) ?_ | refine WL.y rfl (Yld.shl rfl rfl (by omega)) ?_ | refine WL.y rfl (Yld.shr rfl rfl (by omega)) ?_ | refine WL.y rfl (Yld.pure tab_ok rfl) ?_)
  refine WL.y rfl (Yld.bagg (vs := l.map vb) tab_ok hB rfl rfl (by rw [List.drop_zero]; exact List.take_of_length_le (Nat.le_of_eq hml)) hml) ?_
  repeat (first | refine WC.seq ?_ | refine WC.block ?_ | refine WC.region ?_ | refine WL.nil ?_ | refine WX.then_normal ?_ | refine WC.skip ?_ | refine WC.exit ?_ | refine WC.ret ?_ | refine WX.then_exit ?_ | refine WX.then_ret ?_ | refine WX.block_normal ?_ | refine WX.block_ret ?_ | refine WX.block_same ?_ | refine WX.block_other rfl ?_ | refine WC.label ?_ | refine WC.scope ?_ | refine WX.scope_normal ?_ | refine WX.scope_ret ?_ | refine WX.scope_exit ?_ | refine WL.y rfl (Yld.add rfl rfl (by simp only [In]; omega)) ?_ | refine WL.y rfl (Yld.sub rfl rfl (by simp only [In]; omega)) ?_ | refine WL.y rfl (Yld.mul rfl rfl (by simp only [In]; omega)) ?_ | refine WL.y rfl (Yld.convB tab_ok rfl rfl rfl rfl) ?_ | refine WL.y rfl (Yld.conv tab_ok rfl rfl rfl (by simp only [In]; omega)) ?_ | refine WL.y rfl (Yld.quo rfl rfl (by omega) (by omega) (by simp only [In]; omega)) ?_ | refine WL.y rfl (Yld.rem rfl rfl (by omega) (by omega)) ?_ | refine WL.y rfl (Yld.shl rfl rfl (by omega)) ?_ | refine WL.y rfl (Yld.shr rfl rfl (by omega)) ?_ | refine WL.y rfl (Yld.pure tab_ok rfl) ?_)
  refine WC.loop (S := Nat × Option Addr × Nat) (fun s => 32 - s.1) (fun s => [(7, vi s.1), (3, .slice s.2.1 (hexS (l.take s.1)).length s.2.2), (6, .agg ⟨l.map vb⟩)])
    (fun s w2 => s.1 ≤ 32 ∧ Own vb w2 w.heap.size 5 s.2.1 s.2.2 (hexS (l.take s.1)) ∧ w.grownBy w2 none) (0, none, 0) ⟨by simp, Own.nil _ _ _ _, hg⟩ (by repeat (first | exact Sub.nil | refine Sub.cons rfl ?_)) (fun ⟨i, A2, c2⟩ w2 ⟨hi, hO2, hg2⟩ => ?_)
  simp only at hi hO2
  repeat (first | refine WC.seq ?_ | refine WC.block ?_ | refine WC.region ?_ | refine WL.nil ?_ | refine WX.then_normal ?_ | refine WC.skip ?_ | refine WC.exit ?_ | refine WC.ret ?_ | refine WX.then_exit ?_ | refine WX.then_ret ?_ | refine WX.block_normal ?_ | refine WX.block_ret ?_ | refine WX.block_same ?_ | refine WX.block_other rfl ?_ | refine WC.label ?_ | refine WC.scope ?_ | refine WX.scope_normal ?_ | refine WX.scope_ret ?_ | refine WX.scope_exit ?_ | refine WL.y rfl (Yld.add rfl rfl (by simp only [In]; omega)) ?_ | refine WL.y rfl (Yld.sub rfl rfl (by simp only [In]; omega)) ?_ | refine WL.y rfl (Yld.mul rfl rfl (by simp only [In]; omega)) ?_ | refine WL.y rfl (Yld.convB tab_ok rfl rfl rfl rfl) ?_ | refine WL.y rfl (Yld.conv tab_ok rfl rfl rfl (by simp only [In]; omega)) ?_ | refine WL.y rfl (Yld.quo rfl rfl (by omega) (by omega) (by simp only [In]; omega)) ?_ | refine WL.y rfl (Yld.rem rfl rfl (by omega) (by omega)) ?_ | refine WL.y rfl (Yld.shl rfl rfl (by omega)) ?_ | refine WL.y rfl (Yld.shr rfl rfl (by omega)) ?_ | refine WL.y rfl (Yld.pure tab_ok rfl) ?_)
  refine WC.cond rfl (fun h => ?_) (fun h => ?_)
  · simp only [decide_eq_true_eq] at h
    have hlt : i < l.length := by omega
    have hv : (l.map vb)[i]? = some (vb (l.getD i 0)) := by simp [List.getD, hlt]
    repeat (first | refine WL.y rfl (Yld.aidxN tab_ok rfl rfl rfl rfl (by omega) hv) ?_ | refine WC.seq ?_ | refine WC.block ?_ | refine WC.region ?_ | refine WL.nil ?_ | refine WX.then_normal ?_ | refine WC.skip ?_ | refine WC.exit ?_ | refine WC.ret ?_ | refine WX.then_exit ?_ | refine WX.then_ret ?_ | refine WX.block_normal ?_ | refine WX.block_ret ?_ | refine WX.block_same ?_ | refine WX.block_other rfl ?_ | refine WC.label ?_ | refine WC.scope ?_ | refine WX.scope_normal ?_ | refine WX.scope_ret ?_ | refine WX.scope_exit ?_ | refine WL.y rfl (Yld.add rfl rfl (by simp only [In]; omega)) ?_ | refine WL.y rfl (Yld.sub rfl rfl (by simp only [In]; omega)) ?_ | refine WL.y rfl (Yld.mul rfl rfl (by simp only [In]; omega)) ?_ | refine WL.y rfl (Yld.convB tab_ok rfl rfl rfl rfl) ?_ | refine WL.y rfl (Yld.conv tab_ok rfl rfl rfl (by simp only [In]; omega)) ?_ | refine WL.y rfl (Yld.quo rfl rfl (by omega) (by omega) (by simp only [In]; omega)) ?_ | refine WL.y rfl (Yld.rem rfl rfl (by omega) (by omega)) ?_ | refine WL.y rfl (Yld.shl rfl rfl (by omega)) ?_ | refine WL.y rfl (Yld.shr rfl rfl (by omega)) ?_ | refine WL.y rfl (Yld.pure tab_ok rfl) ?_)
    have h4 := shr_4 (l.getD i 0)
    have h15 := and_15 (l.getD i 0)
    refine WC.chain (fun k => !(Nat.beq k 7 || Nat.beq k 8)) (fun _ => True) mixed (by kernel_rfl) (fun _ _ => trivial) ?_
    repeat (first | refine WK.y rfl rfl (fun _ _ => Yld.sidx tab_ok rfl rfl rfl (by first | exact h4.1 | exact h15.1) (by first | exact h4.2 | exact h15.2)) ?_ | refine WK.y rfl rfl (fun _ _ => Yld.add rfl rfl (by simp only [In]; omega)) ?_ | refine WK.y rfl rfl (fun _ _ => Yld.sub rfl rfl (by simp only [In]; omega)) ?_ | refine WK.y rfl rfl (fun _ _ => Yld.mul rfl rfl (by simp only [In]; omega)) ?_ | refine WK.y rfl rfl (fun _ _ => Yld.convB tab_ok rfl rfl rfl rfl) ?_ | refine WK.y rfl rfl (fun _ _ => Yld.conv tab_ok rfl rfl rfl (by simp only [In]; omega)) ?_ | refine WK.y rfl rfl (fun _ _ => Yld.quo rfl rfl (by omega) (by omega) (by simp only [In]; omega)) ?_ | refine WK.y rfl rfl (fun _ _ => Yld.rem rfl rfl (by omega) (by omega)) ?_ | refine WK.y rfl rfl (fun _ _ => Yld.shl rfl rfl (by omega)) ?_ | refine WK.y rfl rfl (fun _ _ => Yld.shr rfl rfl (by omega)) ?_ | refine WK.y rfl rfl (fun _ _ => Yld.pure tab_ok rfl) ?_)
    refine WK.put rfl rfl (Eff.lit (us := (hexB (l.getD i 0)).map vb) tab_ok rfl rfl (oneM One.b _) rfl (by omega)) (fun _ _ _ => trivial) ?_
    rintro _ w3 ⟨rfl, hL3, hg3⟩
    have hR3 := Rd.ofBl hL3 (m := 2) (by simp [hexB]) (by simp [maxLen])
    have hxl : (hexS (l.take i)).length ≤ 64 := by rw [hexS_len, List.length_take]; omega
    have hO3 := hO2.grown hg3
    refine WK.put rfl rfl (Eff.append tab_ok rfl One.b hO3 rfl rfl hR3 rfl rfl (by simp [hexB]; omega) (by simp [maxLen, hexB]; omega) (by have := hg2.size; have := hg3.size; omega)) (fun _ _ _ => trivial) ?_
    rintro _ w4 ⟨A4, c4, rfl, hO4, hg4, hf4⟩
    repeat (first | refine WK.y rfl rfl (fun _ _ => Yld.add rfl rfl (by simp only [In]; omega)) ?_ | refine WK.y rfl rfl (fun _ _ => Yld.sub rfl rfl (by simp only [In]; omega)) ?_ | refine WK.y rfl rfl (fun _ _ => Yld.mul rfl rfl (by simp only [In]; omega)) ?_ | refine WK.y rfl rfl (fun _ _ => Yld.convB tab_ok rfl rfl rfl rfl) ?_ | refine WK.y rfl rfl (fun _ _ => Yld.conv tab_ok rfl rfl rfl (by simp only [In]; omega)) ?_ | refine WK.y rfl rfl (fun _ _ => Yld.quo rfl rfl (by omega) (by omega) (by simp only [In]; omega)) ?_ | refine WK.y rfl rfl (fun _ _ => Yld.rem rfl rfl (by omega) (by omega)) ?_ | refine WK.y rfl rfl (fun _ _ => Yld.shl rfl rfl (by omega)) ?_ | refine WK.y rfl rfl (fun _ _ => Yld.shr rfl rfl (by omega)) ?_ | refine WK.y rfl rfl (fun _ _ => Yld.pure tab_ok rfl) ?_)
    refine WK.nil ?_
    repeat (first | refine WC.seq ?_ | refine WC.block ?_ | refine WC.region ?_ | refine WL.nil ?_ | refine WX.then_normal ?_ | refine WC.skip ?_ | refine WC.exit ?_ | refine WC.ret ?_ | refine WX.then_exit ?_ | refine WX.then_ret ?_ | refine WX.block_normal ?_ | refine WX.block_ret ?_ | refine WX.block_same ?_ | refine WX.block_other rfl ?_ | refine WC.label ?_ | refine WC.scope ?_ | refine WX.scope_normal ?_ | refine WX.scope_ret ?_ | refine WX.scope_exit ?_ | refine WL.y rfl (Yld.add rfl rfl (by simp only [In]; omega)) ?_ | refine WL.y rfl (Yld.sub rfl rfl (by simp only [In]; omega)) ?_ | refine WL.y rfl (Yld.mul rfl rfl (by simp only [In]; omega)) ?_ | refine WL.y rfl (Yld.convB tab_ok rfl rfl rfl rfl) ?_ | refine WL.y rfl (Yld.conv tab_ok rfl rfl rfl (by simp only [In]; omega)) ?_ | refine WL.y rfl (Yld.quo rfl rfl (by omega) (by omega) (by simp only [In]; omega)) ?_ | refine WL.y rfl (Yld.rem rfl rfl (by omega) (by omega)) ?_ | refine WL.y rfl (Yld.shl rfl rfl (by omega)) ?_ | refine WL.y rfl (Yld.shr rfl rfl (by omega)) ?_ | refine WL.y rfl (Yld.pure tab_ok rfl) ?_)
    rw [← hexS_take l i hlt] at hO4 ⊢
    exact WX.round (i + 1, A4, c4) ⟨by simp only; omega, hO4, gr_own (gr_trans hg2 hg3) hO3 hg4 (Nat.le_refl _)⟩ (by simp only; omega) (by repeat (first | exact Sub.nil | refine Sub.cons rfl ?_))
  · simp only [decide_eq_false_iff_not] at h
    obtain rfl : i = 32 := by omega
    rw [List.take_of_length_le (by omega)] at hO2
    repeat (first | refine WC.seq ?_ | refine WC.block ?_ | refine WC.region ?_ | refine WL.nil ?_ | refine WX.then_normal ?_ | refine WC.skip ?_ | refine WC.exit ?_ | refine WC.ret ?_ | refine WX.then_exit ?_ | refine WX.then_ret ?_ | refine WX.block_normal ?_ | refine WX.block_ret ?_ | refine WX.block_same ?_ | refine WX.block_other rfl ?_ | refine WC.label ?_ | refine WC.scope ?_ | refine WX.scope_normal ?_ | refine WX.scope_ret ?_ | refine WX.scope_exit ?_ | refine WL.y rfl (Yld.add rfl rfl (by simp only [In]; omega)) ?_ | refine WL.y rfl (Yld.sub rfl rfl (by simp only [In]; omega)) ?_ | refine WL.y rfl (Yld.mul rfl rfl (by simp only [In]; omega)) ?_ | refine WL.y rfl (Yld.convB tab_ok rfl rfl rfl rfl) ?_ | refine WL.y rfl (Yld.conv tab_ok rfl rfl rfl (by simp only [In]; omega)) ?_ | refine WL.y rfl (Yld.quo rfl rfl (by omega) (by omega) (by simp only [In]; omega)) ?_ | refine WL.y rfl (Yld.rem rfl rfl (by omega) (by omega)) ?_ | refine WL.y rfl (Yld.shl rfl rfl (by omega)) ?_ | refine WL.y rfl (Yld.shr rfl rfl (by omega)) ?_ | refine WL.y rfl (Yld.pure tab_ok rfl) ?_)
    refine WL.y rfl (Yld.b2s tab_ok hO2.rd rfl rfl rfl rfl (by rw [List.take_of_length_le]; omega)) ?_
    repeat (first | refine WC.seq ?_ | refine WC.block ?_ | refine WC.region ?_ | refine WL.nil ?_ | refine WX.then_normal ?_ | refine WC.skip ?_ | refine WC.exit ?_ | refine WC.ret ?_ | refine WX.then_exit ?_ | refine WX.then_ret ?_ | refine WX.block_normal ?_ | refine WX.block_ret ?_ | refine WX.block_same ?_ | refine WX.block_other rfl ?_ | refine WC.label ?_ | refine WC.scope ?_ | refine WX.scope_normal ?_ | refine WX.scope_ret ?_ | refine WX.scope_exit ?_ | refine WL.y rfl (Yld.add rfl rfl (by simp only [In]; omega)) ?_ | refine WL.y rfl (Yld.sub rfl rfl (by simp only [In]; omega)) ?_ | refine WL.y rfl (Yld.mul rfl rfl (by simp only [In]; omega)) ?_ | refine WL.y rfl (Yld.convB tab_ok rfl rfl rfl rfl) ?_ | refine WL.y rfl (Yld.conv tab_ok rfl rfl rfl (by simp only [In]; omega)) ?_ | refine WL.y rfl (Yld.quo rfl rfl (by omega) (by omega) (by simp only [In]; omega)) ?_ | refine WL.y rfl (Yld.rem rfl rfl (by omega) (by omega)) ?_ | refine WL.y rfl (Yld.shl rfl rfl (by omega)) ?_ | refine WL.y rfl (Yld.shr rfl rfl (by omega)) ?_ | refine WL.y rfl (Yld.pure tab_ok rfl) ?_)
    exact WX.ret1 rfl rfl ⟨rfl, hg2⟩
/-- the digest of bytes -/
def shaS (b : List UInt8) : List UInt8 := sumS (wrS h0s [] b).1 (wrS h0s [] b).2 b.length
theorem wrS_len (hs : List Int) (r b : List UInt8) : (wrS hs r b).2.length < 64 := by
  have key : ∀ (m : Nat) (hs : List Int) (al : List UInt8), al.length ≤ m → (absorb m hs al).2.length < 64 := by
    intro m
    induction m with
    | zero => intro hs al h; simp [absorb]; omega
    | succ m ih =>
      intro hs al h
      rw [absorb]
      split
      · exact ih _ _ (by rw [List.length_drop]; omega)
      · simp only; omega
  exact key _ hs (r ++ b) (Nat.le_refl _)
theorem of_fn (A : Option Addr) (c : Nat) (b : List UInt8) (w : World) (hR : Rd vb w A c b) (hb : b.length ≤ 1000000) : Fn Tryd.prog 80 ⟨[.slice A b.length c]⟩ w fun v w' => v = .agg ⟨(shaS b).map vb⟩ ∧ w.grownBy w' none := by
  refine Fn.enter (by kernel_rfl) Tryd.func80 rfl Tryd.ntmps80 rfl ?_
  repeat (first | refine WC.seq ?_ | refine WC.block ?_ | refine WC.region ?_ | refine WL.nil ?_ | refine WX.then_normal ?_ | refine WC.skip ?_ | refine WC.exit ?_ | refine WC.ret ?_ | refine WX.then_exit ?_ | refine WX.then_ret ?_ | refine WX.block_normal ?_ | refine WX.block_ret ?_ | refine WX.block_same ?_ | refine WX.block_other rfl ?_ | refine WC.label ?_ | refine WC.scope ?_ | refine WX.scope_normal ?_ | refine WX.scope_ret ?_ | refine WX.scope_exit ?_ | refine WL.y rfl (Yld.add rfl rfl (by simp only [In]; omega)) ?_ | refine WL.y rfl (Yld.sub rfl rfl (by simp only [In]; omega)) ?_ | refine WL.y rfl (Yld.mul rfl rfl (by simp only [In]; omega)) ?_ | refine WL.y rfl (Yld.convB tab_ok rfl rfl rfl rfl) ?_ | refine WL.y rfl (Yld.conv tab_ok rfl rfl rfl (by simp only [In]; omega)) ?_ | refine WL.y rfl (Yld.quo rfl rfl (by omega) (by omega) (by simp only [In]; omega)) ?_ | refine WL.y rfl (Yld.rem rfl rfl (by omega) (by omega)) ?_ | refine WL.y rfl (Yld.shl rfl rfl (by omega)) ?_ | refine WL.y rfl (Yld.shr rfl rfl (by omega)) ?_ | refine WL.y rfl (Yld.pure tab_ok rfl) ?_)
  refine WL.alloc rfl zero74 (fun go w1 ho1 hg1 hlo => ?_)
  repeat (first | refine WC.seq ?_ | refine WC.block ?_ | refine WC.region ?_ | refine WL.nil ?_ | refine WX.then_normal ?_ | refine WC.skip ?_ | refine WC.exit ?_ | refine WC.ret ?_ | refine WX.then_exit ?_ | refine WX.then_ret ?_ | refine WX.block_normal ?_ | refine WX.block_ret ?_ | refine WX.block_same ?_ | refine WX.block_other rfl ?_ | refine WC.label ?_ | refine WC.scope ?_ | refine WX.scope_normal ?_ | refine WX.scope_ret ?_ | refine WX.scope_exit ?_ | refine WL.y rfl (Yld.add rfl rfl (by simp only [In]; omega)) ?_ | refine WL.y rfl (Yld.sub rfl rfl (by simp only [In]; omega)) ?_ | refine WL.y rfl (Yld.mul rfl rfl (by simp only [In]; omega)) ?_ | refine WL.y rfl (Yld.convB tab_ok rfl rfl rfl rfl) ?_ | refine WL.y rfl (Yld.conv tab_ok rfl rfl rfl (by simp only [In]; omega)) ?_ | refine WL.y rfl (Yld.quo rfl rfl (by omega) (by omega) (by simp only [In]; omega)) ?_ | refine WL.y rfl (Yld.rem rfl rfl (by omega) (by omega)) ?_ | refine WL.y rfl (Yld.shl rfl rfl (by omega)) ?_ | refine WL.y rfl (Yld.shr rfl rfl (by omega)) ?_ | refine WL.y rfl (Yld.pure tab_ok rfl) ?_)
  refine WL.call rfl rfl (new_fn w1) ?_
  rintro _ w2 ⟨g, rfl, hB2, hg2, hlg⟩
  have hR2 := (hR.grown hg1).grown hg2
  have hz1 := hg1.size
  have hol := ho1.lt
  have hA : b ≠ [] → blk A ≠ some g := fun hb0 e => by have := hR.lt hb0 e; omega
  have hS2 : St w2 g h0s [] 0 := ⟨rfl, none, 0, hB2, Rd.nil _ _ (by simp [maxLen]), by simp [blk]⟩
  repeat (first | refine WC.seq ?_ | refine WC.block ?_ | refine WC.region ?_ | refine WL.nil ?_ | refine WX.then_normal ?_ | refine WC.skip ?_ | refine WC.exit ?_ | refine WC.ret ?_ | refine WX.then_exit ?_ | refine WX.then_ret ?_ | refine WX.block_normal ?_ | refine WX.block_ret ?_ | refine WX.block_same ?_ | refine WX.block_other rfl ?_ | refine WC.label ?_ | refine WC.scope ?_ | refine WX.scope_normal ?_ | refine WX.scope_ret ?_ | refine WX.scope_exit ?_ | refine WL.y rfl (Yld.add rfl rfl (by simp only [In]; omega)) ?_ | refine WL.y rfl (Yld.sub rfl rfl (by simp only [In]; omega)) ?_ | refine WL.y rfl (Yld.mul rfl rfl (by simp only [In]; omega)) ?_ | refine WL.y rfl (Yld.convB tab_ok rfl rfl rfl rfl) ?_ | refine WL.y rfl (Yld.conv tab_ok rfl rfl rfl (by simp only [In]; omega)) ?_ | refine WL.y rfl (Yld.quo rfl rfl (by omega) (by omega) (by simp only [In]; omega)) ?_ | refine WL.y rfl (Yld.rem rfl rfl (by omega) (by omega)) ?_ | refine WL.y rfl (Yld.shl rfl rfl (by omega)) ?_ | refine WL.y rfl (Yld.shr rfl rfl (by omega)) ?_ | refine WL.y rfl (Yld.pure tab_ok rfl) ?_)
  refine WL.call rfl rfl (write_fn g h0s [] 0 A c b w2 hS2 hR2 hA (by omega) (by omega) (by simp) hb) ?_
  rintro _ w3 ⟨rfl, hS3, hg3⟩
  repeat (first | refine WC.seq ?_ | refine WC.block ?_ | refine WC.region ?_ | refine WL.nil ?_ | refine WX.then_normal ?_ | refine WC.skip ?_ | refine WC.exit ?_ | refine WC.ret ?_ | refine WX.then_exit ?_ | refine WX.then_ret ?_ | refine WX.block_normal ?_ | refine WX.block_ret ?_ | refine WX.block_same ?_ | refine WX.block_other rfl ?_ | refine WC.label ?_ | refine WC.scope ?_ | refine WX.scope_normal ?_ | refine WX.scope_ret ?_ | refine WX.scope_exit ?_ | refine WL.y rfl (Yld.add rfl rfl (by simp only [In]; omega)) ?_ | refine WL.y rfl (Yld.sub rfl rfl (by simp only [In]; omega)) ?_ | refine WL.y rfl (Yld.mul rfl rfl (by simp only [In]; omega)) ?_ | refine WL.y rfl (Yld.convB tab_ok rfl rfl rfl rfl) ?_ | refine WL.y rfl (Yld.conv tab_ok rfl rfl rfl (by simp only [In]; omega)) ?_ | refine WL.y rfl (Yld.quo rfl rfl (by omega) (by omega) (by simp only [In]; omega)) ?_ | refine WL.y rfl (Yld.rem rfl rfl (by omega) (by omega)) ?_ | refine WL.y rfl (Yld.shl rfl rfl (by omega)) ?_ | refine WL.y rfl (Yld.shr rfl rfl (by omega)) ?_ | refine WL.y rfl (Yld.pure tab_ok rfl) ?_)
  rw [Int.zero_add] at hS3
  refine WL.call rfl rfl (sum_fn g _ _ _ w3 hS3 (by omega) (by omega) (by have := wrS_len h0s [] b; omega)) ?_
  rintro _ w4 ⟨rfl, hg4⟩
  have hgr3 : w.grownBy w3 none := gr_new (gr_trans hg1 hg2) hg3 (by omega)
  have ho4 := ((ho1.keep hg2 (by simp)).keep hg3 (fun e => by injection e with e; omega)).keep hg4 (by simp)
  have hsl := sumS_len (wrS h0s [] b).1 (wrS h0s [] b).2 b.length
  refine WL.storeW tab_ok rfl rfl rfl (oneM One.b _) ho4 rfl (by rw [List.length_map]; exact hsl) (fun w5 ho5 hg5 => ?_)
  repeat (first | refine WC.seq ?_ | refine WC.block ?_ | refine WC.region ?_ | refine WL.nil ?_ | refine WX.then_normal ?_ | refine WC.skip ?_ | refine WC.exit ?_ | refine WC.ret ?_ | refine WX.then_exit ?_ | refine WX.then_ret ?_ | refine WX.block_normal ?_ | refine WX.block_ret ?_ | refine WX.block_same ?_ | refine WX.block_other rfl ?_ | refine WC.label ?_ | refine WC.scope ?_ | refine WX.scope_normal ?_ | refine WX.scope_ret ?_ | refine WX.scope_exit ?_ | refine WL.y rfl (Yld.add rfl rfl (by simp only [In]; omega)) ?_ | refine WL.y rfl (Yld.sub rfl rfl (by simp only [In]; omega)) ?_ | refine WL.y rfl (Yld.mul rfl rfl (by simp only [In]; omega)) ?_ | refine WL.y rfl (Yld.convB tab_ok rfl rfl rfl rfl) ?_ | refine WL.y rfl (Yld.conv tab_ok rfl rfl rfl (by simp only [In]; omega)) ?_ | refine WL.y rfl (Yld.quo rfl rfl (by omega) (by omega) (by simp only [In]; omega)) ?_ | refine WL.y rfl (Yld.rem rfl rfl (by omega) (by omega)) ?_ | refine WL.y rfl (Yld.shl rfl rfl (by omega)) ?_ | refine WL.y rfl (Yld.shr rfl rfl (by omega)) ?_ | refine WL.y rfl (Yld.pure tab_ok rfl) ?_)
  exact WX.retc tab_ok rfl rfl rfl ho5 (by rw [List.length_map]; exact hsl) ⟨rfl, gr_new (gr_trans hgr3 hg4) hg5 hlo⟩
/-- the digest of several texts: what is taken in, step by step -/
def be4 (n : Nat) : List UInt8 := [u8v (shrV .i64 (n : Int) 24), u8v (shrV .i64 (n : Int) 16), u8v (shrV .i64 (n : Int) 8), u8v (n : Int)]
def stepM (s : List Int × List UInt8 × Int) (x : List UInt8) : List Int × List UInt8 × Int :=
  let a := wrS s.1 s.2.1 (be4 x.length)
  let b := wrS a.1 a.2 x
  (b.1, b.2, s.2.2 + 4 + x.length)
def manyS (l : List (List UInt8)) : List UInt8 :=
  let s := l.foldl stepM (h0s, [], 0)
  sumS s.1 s.2.1 s.2.2
theorem foldM_n (l : List (List UInt8)) (hl : ∀ x ∈ l, x.length ≤ 10000) : ∀ s : List Int × List UInt8 × Int, 0 ≤ s.2.2 → 0 ≤ (l.foldl stepM s).2.2 ∧ (l.foldl stepM s).2.2 ≤ s.2.2 + 10004 * l.length := by
  induction l with
  | nil => intro s h; simp; omega
  | cons x l ih =>
    intro s h
    have hx := hl x (by simp)
    have := ih (fun y hy => hl y (by simp [hy])) (stepM s x) (by simp [stepM]; omega)
    simp only [List.foldl_cons, List.length_cons]
    have e : (stepM s x).2.2 = s.2.2 + 4 + x.length := rfl
    rw [e] at this
    omega
theorem many_fn (A : Option Addr) (c : Nat) (l : List (List UInt8)) (w : World) (hR : Rd vs w A c l) (hl : l.length ≤ 100) (hx : ∀ x ∈ l, x.length ≤ 10000) : Fn Tryd.prog 84 ⟨[.slice A l.length c]⟩ w fun v w' => v = .agg ⟨(manyS l).map vb⟩ ∧ w.grownBy w' none := by
  refine Fn.enter (by kernel_rfl) Tryd.func84 rfl Tryd.ntmps84 rfl ?_
  repeat (first | refine WC.seq ?_ | refine WC.block ?_ | refine WC.region ?_ | refine WL.nil ?_ | refine WX.then_normal ?_ | refine WC.skip ?_ | refine WC.exit ?_ | refine WC.ret ?_ | refine WX.then_exit ?_ | refine WX.then_ret ?_ | refine WX.block_normal ?_ | refine WX.block_ret ?_ | refine WX.block_same ?_ | refine WX.block_other rfl ?_ | refine WC.label ?_ | refine WC.scope ?_ | refine WX.scope_normal ?_ | refine WX.scope_ret ?_ | refine WX.scope_exit ?_ | refine WL.y rfl (Yld.add rfl rfl (by simp only [In]; omega)) ?_ | refine WL.y rfl (Yld.sub rfl rfl (by simp only [In]; omega)) ?_ | refine WL.y rfl (Yld.mul rfl rfl (by simp only [In]; omega)) ?_ | refine WL.y rfl (Yld.convB tab_ok rfl rfl rfl rfl) ?_ | refine WL.y rfl (Yld.conv tab_ok rfl rfl rfl (by simp only [In]; omega)) ?_ | refine WL.y rfl (Yld.quo rfl rfl (by omega) (by omega) (by simp only [In]; omega)) ?_ | refine WL.y rfl (Yld.rem rfl rfl (by omega) (by omega)) ?_ | refine WL.y rfl (Yld.shl rfl rfl (by omega)) ?_ | refine WL.y rfl (Yld.shr rfl rfl (by omega)) ?_ | refine WL.y rfl (Yld.pure tab_ok rfl) ?_)
  refine WL.alloc rfl zero74 (fun go w1 ho1 hg1 hlo => ?_)
  repeat (first | refine WC.seq ?_ | refine WC.block ?_ | refine WC.region ?_ | refine WL.nil ?_ | refine WX.then_normal ?_ | refine WC.skip ?_ | refine WC.exit ?_ | refine WC.ret ?_ | refine WX.then_exit ?_ | refine WX.then_ret ?_ | refine WX.block_normal ?_ | refine WX.block_ret ?_ | refine WX.block_same ?_ | refine WX.block_other rfl ?_ | refine WC.label ?_ | refine WC.scope ?_ | refine WX.scope_normal ?_ | refine WX.scope_ret ?_ | refine WX.scope_exit ?_ | refine WL.y rfl (Yld.add rfl rfl (by simp only [In]; omega)) ?_ | refine WL.y rfl (Yld.sub rfl rfl (by simp only [In]; omega)) ?_ | refine WL.y rfl (Yld.mul rfl rfl (by simp only [In]; omega)) ?_ | refine WL.y rfl (Yld.convB tab_ok rfl rfl rfl rfl) ?_ | refine WL.y rfl (Yld.conv tab_ok rfl rfl rfl (by simp only [In]; omega)) ?_ | refine WL.y rfl (Yld.quo rfl rfl (by omega) (by omega) (by simp only [In]; omega)) ?_ | refine WL.y rfl (Yld.rem rfl rfl (by omega) (by omega)) ?_ | refine WL.y rfl (Yld.shl rfl rfl (by omega)) ?_ | refine WL.y rfl (Yld.shr rfl rfl (by omega)) ?_ | refine WL.y rfl (Yld.pure tab_ok rfl) ?_)
  refine WL.call rfl rfl (new_fn w1) ?_
  rintro _ w2 ⟨g, rfl, hB2, hg2, hlg⟩
  have hol := ho1.lt
  have hz1 := hg1.size
  have ho2 := ho1.keep hg2 (by simp)
  have hS2 : St w2 g h0s [] 0 := ⟨rfl, none, 0, hB2, Rd.nil _ _ (by simp [maxLen]), by simp [blk]⟩
  have hgr2 := gr_trans hg1 hg2
  have hgl2 := hB2.lt
  repeat (first | refine WC.seq ?_ | refine WC.block ?_ | refine WC.region ?_ | refine WL.nil ?_ | refine WX.then_normal ?_ | refine WC.skip ?_ | refine WC.exit ?_ | refine WC.ret ?_ | refine WX.then_exit ?_ | refine WX.then_ret ?_ | refine WX.block_normal ?_ | refine WX.block_ret ?_ | refine WX.block_same ?_ | refine WX.block_other rfl ?_ | refine WC.label ?_ | refine WC.scope ?_ | refine WX.scope_normal ?_ | refine WX.scope_ret ?_ | refine WX.scope_exit ?_ | refine WL.y rfl (Yld.add rfl rfl (by simp only [In]; omega)) ?_ | refine WL.y rfl (Yld.sub rfl rfl (by simp only [In]; omega)) ?_ | refine WL.y rfl (Yld.mul rfl rfl (by simp only [In]; omega)) ?_ | refine WL.y rfl (Yld.convB tab_ok rfl rfl rfl rfl) ?_ | refine WL.y rfl (Yld.conv tab_ok rfl rfl rfl (by simp only [In]; omega)) ?_ | refine WL.y rfl (Yld.quo rfl rfl (by omega) (by omega) (by simp only [In]; omega)) ?_ | refine WL.y rfl (Yld.rem rfl rfl (by omega) (by omega)) ?_ | refine WL.y rfl (Yld.shl rfl rfl (by omega)) ?_ | refine WL.y rfl (Yld.shr rfl rfl (by omega)) ?_ | refine WL.y rfl (Yld.pure tab_ok rfl) ?_)
  refine WC.loop (S := Nat) (fun i => l.length - i) (fun i => [(10, vi i), (9, vi l.length), (8, .slice A l.length c), (3, .pointer (some ⟨g, 0, none⟩)), (2, .pointer (some ⟨go, 0, none⟩))])
    (fun i w3 => i ≤ l.length ∧ St w3 g ((l.take i).foldl stepM (h0s, [], 0)).1 ((l.take i).foldl stepM (h0s, [], 0)).2.1 ((l.take i).foldl stepM (h0s, [], 0)).2.2 ∧ ((l.take i).foldl stepM (h0s, [], 0)).2.1.length < 64 ∧ w2.grownBy w3 (some g)) 0 ⟨by omega, hS2, by simp, gr_refl _ _⟩ (by repeat (first | exact Sub.nil | refine Sub.cons rfl ?_)) (fun i w3 ⟨hi, hS3, hr3, hg3⟩ => ?_)
  have hgr3 : w.grownBy w3 none := gr_new hgr2 hg3 (by omega)
  have hR3 := hR.grown hgr3
  have hz3 := hg3.size
  have hn3 := foldM_n (l.take i) (fun x hm => hx x (List.mem_of_mem_take hm)) (h0s, [], 0) (by simp)
  have htl : (l.take i).length ≤ 100 := by rw [List.length_take]; omega
  simp only at hn3
  repeat (first | refine WC.seq ?_ | refine WC.block ?_ | refine WC.region ?_ | refine WL.nil ?_ | refine WX.then_normal ?_ | refine WC.skip ?_ | refine WC.exit ?_ | refine WC.ret ?_ | refine WX.then_exit ?_ | refine WX.then_ret ?_ | refine WX.block_normal ?_ | refine WX.block_ret ?_ | refine WX.block_same ?_ | refine WX.block_other rfl ?_ | refine WC.label ?_ | refine WC.scope ?_ | refine WX.scope_normal ?_ | refine WX.scope_ret ?_ | refine WX.scope_exit ?_ | refine WL.y rfl (Yld.add rfl rfl (by simp only [In]; omega)) ?_ | refine WL.y rfl (Yld.sub rfl rfl (by simp only [In]; omega)) ?_ | refine WL.y rfl (Yld.mul rfl rfl (by simp only [In]; omega)) ?_ | refine WL.y rfl (Yld.convB tab_ok rfl rfl rfl rfl) ?_ | refine WL.y rfl (Yld.conv tab_ok rfl rfl rfl (by simp only [In]; omega)) ?_ | refine WL.y rfl (Yld.quo rfl rfl (by omega) (by omega) (by simp only [In]; omega)) ?_ | refine WL.y rfl (Yld.rem rfl rfl (by omega) (by omega)) ?_ | refine WL.y rfl (Yld.shl rfl rfl (by omega)) ?_ | refine WL.y rfl (Yld.shr rfl rfl (by omega)) ?_ | refine WL.y rfl (Yld.pure tab_ok rfl) ?_)
  refine WC.cond rfl (fun h => ?_) (fun h => ?_)
  · simp only [decide_eq_true_eq] at h
    have hlt : i < l.length := by omega
    have hxl : (l.getD i []).length ≤ 10000 := hx _ (by simp [List.getD, hlt])
    have hnext : (l.take (i + 1)).foldl stepM (h0s, [], 0) = stepM ((l.take i).foldl stepM (h0s, [], 0)) (l.getD i []) := by
      rw [List.take_succ_eq_append_getElem hlt, List.foldl_append]
      simp [List.getD, hlt]
    repeat (first | refine WL.y rfl (Yld.iaddrN tab_ok hR3 rfl rfl rfl rfl (by omega)) ?_ | refine WL.y rfl (Yld.iload [] tab_ok hR3 rfl rfl (by omega)) ?_ | refine WL.y rfl (Yld.toB tab_ok rfl rfl rfl) ?_ | refine WC.seq ?_ | refine WC.block ?_ | refine WC.region ?_ | refine WL.nil ?_ | refine WX.then_normal ?_ | refine WC.skip ?_ | refine WC.exit ?_ | refine WC.ret ?_ | refine WX.then_exit ?_ | refine WX.then_ret ?_ | refine WX.block_normal ?_ | refine WX.block_ret ?_ | refine WX.block_same ?_ | refine WX.block_other rfl ?_ | refine WC.label ?_ | refine WC.scope ?_ | refine WX.scope_normal ?_ | refine WX.scope_ret ?_ | refine WX.scope_exit ?_ | refine WL.y rfl (Yld.add rfl rfl (by simp only [In]; omega)) ?_ | refine WL.y rfl (Yld.sub rfl rfl (by simp only [In]; omega)) ?_ | refine WL.y rfl (Yld.mul rfl rfl (by simp only [In]; omega)) ?_ | refine WL.y rfl (Yld.convB tab_ok rfl rfl rfl rfl) ?_ | refine WL.y rfl (Yld.conv tab_ok rfl rfl rfl (by simp only [In]; omega)) ?_ | refine WL.y rfl (Yld.quo rfl rfl (by omega) (by omega) (by simp only [In]; omega)) ?_ | refine WL.y rfl (Yld.rem rfl rfl (by omega) (by omega)) ?_ | refine WL.y rfl (Yld.shl rfl rfl (by omega)) ?_ | refine WL.y rfl (Yld.shr rfl rfl (by omega)) ?_ | refine WL.y rfl (Yld.pure tab_ok rfl) ?_)
    generalize (l.take i).foldl stepM (h0s, [], 0) = s3 at *
    refine WL.lit (us := (be4 (l.getD i []).length).map vb) tab_ok rfl rfl rfl (oneM One.b _) rfl (by omega) (fun gl w4 hL4 hg4 hl4 => ?_)
    have hRl : Rd vb w4 (some ⟨gl, 0, none⟩) 4 (be4 (l.getD i []).length) := Rd.ofBl hL4 (by simp [be4]) (by simp [maxLen])
    have hS4 : St w4 g s3.1 s3.2.1 s3.2.2 := by
      obtain ⟨q1, A', c', q2, q3, q4⟩ := hS3
      exact ⟨q1, A', c', q2.keep hg4 (by simp), q3.grown hg4, q4⟩
    refine WL.call rfl rfl (write_fn g _ _ _ (some ⟨gl, 0, none⟩) 4 _ w4 hS4 hRl (fun _ e => by simp [blk] at e; omega) (by omega) (by omega) (by omega) (by simp [be4])) ?_
    rintro _ w5 ⟨rfl, hS5, hg5⟩
    have hr5 := wrS_len s3.1 s3.2.1 (be4 (l.getD i []).length)
    repeat (first | refine WC.seq ?_ | refine WC.block ?_ | refine WC.region ?_ | refine WL.nil ?_ | refine WX.then_normal ?_ | refine WC.skip ?_ | refine WC.exit ?_ | refine WC.ret ?_ | refine WX.then_exit ?_ | refine WX.then_ret ?_ | refine WX.block_normal ?_ | refine WX.block_ret ?_ | refine WX.block_same ?_ | refine WX.block_other rfl ?_ | refine WC.label ?_ | refine WC.scope ?_ | refine WX.scope_normal ?_ | refine WX.scope_ret ?_ | refine WX.scope_exit ?_ | refine WL.y rfl (Yld.add rfl rfl (by simp only [In]; omega)) ?_ | refine WL.y rfl (Yld.sub rfl rfl (by simp only [In]; omega)) ?_ | refine WL.y rfl (Yld.mul rfl rfl (by simp only [In]; omega)) ?_ | refine WL.y rfl (Yld.convB tab_ok rfl rfl rfl rfl) ?_ | refine WL.y rfl (Yld.conv tab_ok rfl rfl rfl (by simp only [In]; omega)) ?_ | refine WL.y rfl (Yld.quo rfl rfl (by omega) (by omega) (by simp only [In]; omega)) ?_ | refine WL.y rfl (Yld.rem rfl rfl (by omega) (by omega)) ?_ | refine WL.y rfl (Yld.shl rfl rfl (by omega)) ?_ | refine WL.y rfl (Yld.shr rfl rfl (by omega)) ?_ | refine WL.y rfl (Yld.pure tab_ok rfl) ?_)
    refine WL.s2b tab_ok rfl rfl rfl rfl rfl (by unfold maxLen; omega) (fun A6 c6 w6 hR6 hg6 hf6 => ?_)
    have hS6 : St w6 g (wrS s3.1 s3.2.1 (be4 (l.getD i []).length)).1 (wrS s3.1 s3.2.1 (be4 (l.getD i []).length)).2 (s3.2.2 + (be4 (l.getD i []).length).length) := by
      obtain ⟨q1, A', c', q2, q3, q4⟩ := hS5
      exact ⟨q1, A', c', q2.keep hg6 (by simp), q3.grown hg6, q4⟩
    have hbl : (be4 (l.getD i []).length).length = 4 := rfl
    have hz4 := hg4.size
    have hz5 := hg5.size
    refine WL.call rfl rfl (write_fn g _ _ _ A6 c6 _ w6 hS6 hR6 (fun _ e => by have := hf6 _ e; omega) (by omega) (by omega) (by omega) (by omega)) ?_
    rintro _ w7 ⟨rfl, hS7, hg7⟩
    repeat (first | refine WC.seq ?_ | refine WC.block ?_ | refine WC.region ?_ | refine WL.nil ?_ | refine WX.then_normal ?_ | refine WC.skip ?_ | refine WC.exit ?_ | refine WC.ret ?_ | refine WX.then_exit ?_ | refine WX.then_ret ?_ | refine WX.block_normal ?_ | refine WX.block_ret ?_ | refine WX.block_same ?_ | refine WX.block_other rfl ?_ | refine WC.label ?_ | refine WC.scope ?_ | refine WX.scope_normal ?_ | refine WX.scope_ret ?_ | refine WX.scope_exit ?_ | refine WL.y rfl (Yld.add rfl rfl (by simp only [In]; omega)) ?_ | refine WL.y rfl (Yld.sub rfl rfl (by simp only [In]; omega)) ?_ | refine WL.y rfl (Yld.mul rfl rfl (by simp only [In]; omega)) ?_ | refine WL.y rfl (Yld.convB tab_ok rfl rfl rfl rfl) ?_ | refine WL.y rfl (Yld.conv tab_ok rfl rfl rfl (by simp only [In]; omega)) ?_ | refine WL.y rfl (Yld.quo rfl rfl (by omega) (by omega) (by simp only [In]; omega)) ?_ | refine WL.y rfl (Yld.rem rfl rfl (by omega) (by omega)) ?_ | refine WL.y rfl (Yld.shl rfl rfl (by omega)) ?_ | refine WL.y rfl (Yld.shr rfl rfl (by omega)) ?_ | refine WL.y rfl (Yld.pure tab_ok rfl) ?_)
    refine WX.round (i + 1) ⟨by omega, ?_, ?_, ?_⟩ (by omega) (by repeat (first | exact Sub.nil | refine Sub.cons rfl ?_))
    · rw [hnext]
      rw [hbl] at hS7
      exact hS7
    · rw [hnext]; exact wrS_len _ _ _
    · exact gr_trans (gr_trans (gr_trans (gr_trans hg3 (gr_some hg4 _)) hg5) (gr_some hg6 _)) hg7
  · simp only [decide_eq_false_iff_not] at h
    obtain rfl : i = l.length := by omega
    rw [List.take_of_length_le (Nat.le_refl _)] at *
    repeat (first | refine WC.seq ?_ | refine WC.block ?_ | refine WC.region ?_ | refine WL.nil ?_ | refine WX.then_normal ?_ | refine WC.skip ?_ | refine WC.exit ?_ | refine WC.ret ?_ | refine WX.then_exit ?_ | refine WX.then_ret ?_ | refine WX.block_normal ?_ | refine WX.block_ret ?_ | refine WX.block_same ?_ | refine WX.block_other rfl ?_ | refine WC.label ?_ | refine WC.scope ?_ | refine WX.scope_normal ?_ | refine WX.scope_ret ?_ | refine WX.scope_exit ?_ | refine WL.y rfl (Yld.add rfl rfl (by simp only [In]; omega)) ?_ | refine WL.y rfl (Yld.sub rfl rfl (by simp only [In]; omega)) ?_ | refine WL.y rfl (Yld.mul rfl rfl (by simp only [In]; omega)) ?_ | refine WL.y rfl (Yld.convB tab_ok rfl rfl rfl rfl) ?_ | refine WL.y rfl (Yld.conv tab_ok rfl rfl rfl (by simp only [In]; omega)) ?_ | refine WL.y rfl (Yld.quo rfl rfl (by omega) (by omega) (by simp only [In]; omega)) ?_ | refine WL.y rfl (Yld.rem rfl rfl (by omega) (by omega)) ?_ | refine WL.y rfl (Yld.shl rfl rfl (by omega)) ?_ | refine WL.y rfl (Yld.shr rfl rfl (by omega)) ?_ | refine WL.y rfl (Yld.pure tab_ok rfl) ?_)
    refine WL.call rfl rfl (sum_fn g _ _ _ w3 hS3 (by omega) (by omega) (by omega)) ?_
    rintro _ w4 ⟨rfl, hg4⟩
    have ho4 := (ho2.keep hg3 (fun e => by injection e with e; omega)).keep hg4 (by simp)
    have hsl : (manyS l).length = 32 := sumS_len _ _ _
    refine WL.storeW (vs := (manyS l).map vb) tab_ok rfl rfl rfl (oneM One.b _) ho4 rfl (by rw [List.length_map]; exact hsl) (fun w5 ho5 hg5 => ?_)
    repeat (first | refine WC.seq ?_ | refine WC.block ?_ | refine WC.region ?_ | refine WL.nil ?_ | refine WX.then_normal ?_ | refine WC.skip ?_ | refine WC.exit ?_ | refine WC.ret ?_ | refine WX.then_exit ?_ | refine WX.then_ret ?_ | refine WX.block_normal ?_ | refine WX.block_ret ?_ | refine WX.block_same ?_ | refine WX.block_other rfl ?_ | refine WC.label ?_ | refine WC.scope ?_ | refine WX.scope_normal ?_ | refine WX.scope_ret ?_ | refine WX.scope_exit ?_ | refine WL.y rfl (Yld.add rfl rfl (by simp only [In]; omega)) ?_ | refine WL.y rfl (Yld.sub rfl rfl (by simp only [In]; omega)) ?_ | refine WL.y rfl (Yld.mul rfl rfl (by simp only [In]; omega)) ?_ | refine WL.y rfl (Yld.convB tab_ok rfl rfl rfl rfl) ?_ | refine WL.y rfl (Yld.conv tab_ok rfl rfl rfl (by simp only [In]; omega)) ?_ | refine WL.y rfl (Yld.quo rfl rfl (by omega) (by omega) (by simp only [In]; omega)) ?_ | refine WL.y rfl (Yld.rem rfl rfl (by omega) (by omega)) ?_ | refine WL.y rfl (Yld.shl rfl rfl (by omega)) ?_ | refine WL.y rfl (Yld.shr rfl rfl (by omega)) ?_ | refine WL.y rfl (Yld.pure tab_ok rfl) ?_)
    exact WX.retc tab_ok rfl rfl rfl ho5 (by rw [List.length_map]; exact hsl) ⟨rfl, gr_new (gr_trans hgr3 hg4) hg5 hlo⟩
end Go.Proofs.YtlonpmajnglmoaaDoor

 namespace Go.Proofs.YtlonpmajnglmoaaDoor
open Go Go.RowKit
attribute [local irreducible] WL WC WX WQ WK Yld Eff Fn

theorem shaS_len (b : List UInt8) : (shaS b).length = 32 := sumS_len _ _ _
theorem manyS_len (l : List (List UInt8)) : (manyS l).length = 32 := sumS_len _ _ _
/-! the law of streaming -/
def D (hs : List Int) (all : List UInt8) : List Int × List UInt8 := absorb all.length hs all
theorem absorb_fuel (hs : List Int) (all : List UInt8) : ∀ m, all.length ≤ m → absorb m hs all = D hs all := by
  intro m
  induction m with
  | zero => intro h; unfold D; rw [Nat.le_zero.mp h]
  | succ m ih =>
    intro h
    rcases Nat.lt_or_ge m all.length with h1 | h1
    · unfold D; rw [show all.length = m + 1 by omega]
    · rw [absorb_more m hs all h1]; exact ih h1
theorem D_step (hs : List Int) (all : List UInt8) : D hs all = if 64 ≤ all.length then D (mixS hs (all.take 64)) (all.drop 64) else (hs, all) := by
  have e := absorb_fuel hs all (all.length + 1) (by omega)
  rw [← e, absorb]
  split
  · exact absorb_fuel _ _ _ (by rw [List.length_drop]; omega)
  · rfl
theorem D_app (y : List UInt8) : ∀ (n : Nat) (hs : List Int) (x : List UInt8), x.length ≤ n → D hs (x ++ y) = D (D hs x).1 ((D hs x).2 ++ y)
  | 0, hs, x, h => by
    have : x = [] := List.length_eq_zero_iff.mp (by omega)
    subst this
    rfl
  | n + 1, hs, x, h => by
    rcases Nat.lt_or_ge x.length 64 with h1 | h1
    · rw [D_step hs x, if_neg (by omega)]
    · rw [D_step hs (x ++ y), if_pos (by rw [List.length_append]; omega), D_step hs x, if_pos h1, List.take_append_of_le_length h1, List.drop_append_of_le_length h1]
      exact D_app y n _ _ (by rw [List.length_drop]; omega)
theorem wrS_app (hs : List Int) (r a b : List UInt8) : wrS hs r (a ++ b) = wrS (wrS hs r a).1 (wrS hs r a).2 b := by
  show D hs (r ++ (a ++ b)) = D (D hs (r ++ a)).1 ((D hs (r ++ a)).2 ++ b)
  rw [← List.append_assoc]
  exact D_app b _ hs (r ++ a) (Nat.le_refl _)
theorem wrS_nil (hs : List Int) (r : List UInt8) (h : r.length < 64) : wrS hs r [] = (hs, r) := by
  show D hs (r ++ []) = _
  rw [List.append_nil, D_step, if_neg (by omega)]
/-- the bytes of texts, each behind its length -/
def catM (l : List (List UInt8)) : List UInt8 := l.flatMap fun x => be4 x.length ++ x
theorem catM_app (a b : List (List UInt8)) : catM (a ++ b) = catM a ++ catM b := by simp [catM]
theorem fold_catM : ∀ (l : List (List UInt8)) (hs : List Int) (r : List UInt8) (n : Int), r.length < 64 → l.foldl stepM (hs, r, n) = ((wrS hs r (catM l)).1, (wrS hs r (catM l)).2, n + (catM l).length)
  | [], hs, r, n, h => by simp [catM, wrS_nil hs r h]
  | x :: l, hs, r, n, h => by
    rw [List.foldl_cons]
    show l.foldl stepM ((wrS (wrS hs r (be4 x.length)).1 (wrS hs r (be4 x.length)).2 x).1, (wrS (wrS hs r (be4 x.length)).1 (wrS hs r (be4 x.length)).2 x).2, n + 4 + x.length) = _
    rw [fold_catM l _ _ _ (wrS_len _ _ _), ← wrS_app, ← wrS_app]
    have e : catM (x :: l) = be4 x.length ++ x ++ catM l := rfl
    have hb : (be4 x.length).length = 4 := rfl
    rw [e, List.length_append, List.length_append, hb]
    congr 2
    omega
/-- THE PLAIN LAW -/
theorem manyS_eq (l : List (List UInt8)) : manyS l = shaS (catM l) := by
  unfold manyS shaS
  rw [fold_catM l h0s [] 0 (by simp)]
  simp
theorem catM_take (l : List (List UInt8)) (i : Nat) (h : i < l.length) : catM (l.take (i + 1)) = catM (l.take i) ++ (be4 (l.getD i []).length ++ l.getD i []) := by
  rw [List.take_succ_eq_append_getElem h, catM_app]
  simp [catM, List.getD, h]
end Go.Proofs.YtlonpmajnglmoaaDoor

 