/- Texts of this claim, joined by a program: Sha0, Sha1, Sha2, Sha3, Sha4, Sha5, Sha6, Sha7, Sha8, KeyA. -/
import Derived.Test.YtjhipfdbionpoaaGreatDoorJ3
import Derived.Test.YtjhipfdbionpoaaGreatDoorRows
namespace Go.Proofs.YtjhipfdbionpoaaGreatDoor
open Go Go.RowKit
attribute [local irreducible] WL WC WX WQ Yld Fn
theorem u64_and31 (k : Int) : bits BinOp.and IntKind.u64 (IntKind.u64.wrap k) 31 = k % 32 := by
  show IntKind.u64.wrap ((BitVec.ofInt 64 (IntKind.u64.wrap k) &&& BitVec.ofInt 64 31).toNat : Int) = _
  rw [BitVec.toNat_and]
  have e : (BitVec.ofInt 64 31).toNat = 2^5 - 1 := by decide
  rw [e, Nat.and_two_pow_sub_one_eq_mod, BitVec.toNat_ofInt, IntKind.wrap_u64, IntKind.wrap_u64]
  omega
/-- a word turned left, as_ the program reckons it -/
def rotl (x k : Int) : Int := bits .or .u32 (shlV .u32 x (k % 32).toNat) (shrV .u32 x (32 - k % 32).toNat)
theorem rot_fn (x k : Int) (w : World) : Fn Tryz.prog 191 ⟨[vu x, vi k]⟩ w fun v w' => v = vu (rotl x k) ∧ w' = w := by
  have hs := u64_and31 k
  refine Fn.enter (by kernel_rfl) Tryz.func191 rfl Tryz.ntmps191 rfl ?_
  repeat (first | refine WC.seq ?_ | refine WC.block ?_ | refine WC.region ?_ | refine WL.nil ?_ | refine WX.then_normal ?_ | refine WC.skip ?_ | refine WC.exit ?_ | refine WC.ret ?_ | refine WX.then_exit ?_ | refine WX.then_ret ?_ | refine WX.block_normal ?_ | refine WX.block_ret ?_ | refine WX.block_same ?_ | refine WX.block_other rfl ?_ | refine WC.label ?_ | refine WC.scope ?_ | refine WX.scope_normal ?_ | refine WX.scope_ret ?_ | refine WX.scope_exit ?_ | refine WL.y rfl (Yld.add rfl rfl (by simp only [In]; omega)) ?_ | refine WL.y rfl (Yld.sub rfl rfl (by simp only [In]; omega)) ?_ | refine WL.y rfl (Yld.mul rfl rfl (by simp only [In]; omega)) ?_ | refine WL.y rfl (Yld.convB tab_ok rfl rfl rfl rfl) ?_ | refine WL.y rfl (Yld.conv tab_ok rfl rfl rfl (by simp only [In]; omega)) ?_ | refine WL.y rfl (Yld.quo rfl rfl (by omega) (by omega) (by simp only [In]; omega)) ?_ | refine WL.y rfl (Yld.rem rfl rfl (by omega) (by omega)) ?_ | refine WL.y rfl (Yld.shl rfl rfl (by omega)) ?_ | refine WL.y rfl (Yld.shr rfl rfl (by omega)) ?_ | refine WL.y rfl (Yld.pure tab_ok rfl) ?_)
  rw [hs]
  repeat (first | refine WC.seq ?_ | refine WC.block ?_ | refine WC.region ?_ | refine WL.nil ?_ | refine WX.then_normal ?_ | refine WC.skip ?_ | refine WC.exit ?_ | refine WC.ret ?_ | refine WX.then_exit ?_ | refine WX.then_ret ?_ | refine WX.block_normal ?_ | refine WX.block_ret ?_ | refine WX.block_same ?_ | refine WX.block_other rfl ?_ | refine WC.label ?_ | refine WC.scope ?_ | refine WX.scope_normal ?_ | refine WX.scope_ret ?_ | refine WX.scope_exit ?_ | refine WL.y rfl (Yld.add rfl rfl (by simp only [In]; omega)) ?_ | refine WL.y rfl (Yld.sub rfl rfl (by simp only [In]; omega)) ?_ | refine WL.y rfl (Yld.mul rfl rfl (by simp only [In]; omega)) ?_ | refine WL.y rfl (Yld.convB tab_ok rfl rfl rfl rfl) ?_ | refine WL.y rfl (Yld.conv tab_ok rfl rfl rfl (by simp only [In]; omega)) ?_ | refine WL.y rfl (Yld.quo rfl rfl (by omega) (by omega) (by simp only [In]; omega)) ?_ | refine WL.y rfl (Yld.rem rfl rfl (by omega) (by omega)) ?_ | refine WL.y rfl (Yld.shl rfl rfl (by omega)) ?_ | refine WL.y rfl (Yld.shr rfl rfl (by omega)) ?_ | refine WL.y rfl (Yld.pure tab_ok rfl) ?_)
  exact WX.ret1 rfl rfl ⟨rfl, rfl⟩
/-- a word turned right -/
def rotr (x n : Int) : Int := rotl x (0 - n)
theorem right_fn (x n : Int) (w : World) (h0 : 0 ≤ n) (h1 : n ≤ 32) : Fn Tryz.prog 174 ⟨[vu x, vi n]⟩ w fun v w' => v = vu (rotr x n) ∧ w' = w := by
  have hs : IntKind.i64.wrap (0 - n) = 0 - n := In.wrap (by simp only [In]; omega)
  refine Fn.enter (by kernel_rfl) Tryz.func174 rfl Tryz.ntmps174 rfl ?_
  repeat (first | refine WC.seq ?_ | refine WC.block ?_ | refine WC.region ?_ | refine WL.nil ?_ | refine WX.then_normal ?_ | refine WC.skip ?_ | refine WC.exit ?_ | refine WC.ret ?_ | refine WX.then_exit ?_ | refine WX.then_ret ?_ | refine WX.block_normal ?_ | refine WX.block_ret ?_ | refine WX.block_same ?_ | refine WX.block_other rfl ?_ | refine WC.label ?_ | refine WC.scope ?_ | refine WX.scope_normal ?_ | refine WX.scope_ret ?_ | refine WX.scope_exit ?_ | refine WL.y rfl (Yld.add rfl rfl (by simp only [In]; omega)) ?_ | refine WL.y rfl (Yld.sub rfl rfl (by simp only [In]; omega)) ?_ | refine WL.y rfl (Yld.mul rfl rfl (by simp only [In]; omega)) ?_ | refine WL.y rfl (Yld.convB tab_ok rfl rfl rfl rfl) ?_ | refine WL.y rfl (Yld.conv tab_ok rfl rfl rfl (by simp only [In]; omega)) ?_ | refine WL.y rfl (Yld.quo rfl rfl (by omega) (by omega) (by simp only [In]; omega)) ?_ | refine WL.y rfl (Yld.rem rfl rfl (by omega) (by omega)) ?_ | refine WL.y rfl (Yld.shl rfl rfl (by omega)) ?_ | refine WL.y rfl (Yld.shr rfl rfl (by omega)) ?_ | refine WL.y rfl (Yld.pure tab_ok rfl) ?_)
  rw [hs]
  refine WL.call rfl rfl (rot_fn x (0 - n) w) ?_
  rintro v w' ⟨rfl, rfl⟩
  repeat (first | refine WC.seq ?_ | refine WC.block ?_ | refine WC.region ?_ | refine WL.nil ?_ | refine WX.then_normal ?_ | refine WC.skip ?_ | refine WC.exit ?_ | refine WC.ret ?_ | refine WX.then_exit ?_ | refine WX.then_ret ?_ | refine WX.block_normal ?_ | refine WX.block_ret ?_ | refine WX.block_same ?_ | refine WX.block_other rfl ?_ | refine WC.label ?_ | refine WC.scope ?_ | refine WX.scope_normal ?_ | refine WX.scope_ret ?_ | refine WX.scope_exit ?_ | refine WL.y rfl (Yld.add rfl rfl (by simp only [In]; omega)) ?_ | refine WL.y rfl (Yld.sub rfl rfl (by simp only [In]; omega)) ?_ | refine WL.y rfl (Yld.mul rfl rfl (by simp only [In]; omega)) ?_ | refine WL.y rfl (Yld.convB tab_ok rfl rfl rfl rfl) ?_ | refine WL.y rfl (Yld.conv tab_ok rfl rfl rfl (by simp only [In]; omega)) ?_ | refine WL.y rfl (Yld.quo rfl rfl (by omega) (by omega) (by simp only [In]; omega)) ?_ | refine WL.y rfl (Yld.rem rfl rfl (by omega) (by omega)) ?_ | refine WL.y rfl (Yld.shl rfl rfl (by omega)) ?_ | refine WL.y rfl (Yld.shr rfl rfl (by omega)) ?_ | refine WL.y rfl (Yld.pure tab_ok rfl) ?_)
  exact WX.ret1 rfl rfl ⟨rfl, rfl⟩
end Go.Proofs.YtjhipfdbionpoaaGreatDoor

 namespace Go.Proofs.YtjhipfdbionpoaaGreatDoor
open Go Go.RowKit
attribute [local irreducible] WL WC WX WQ Yld Fn

def ktab : List Int := [0x428a2f98, 0x71374491, 0xb5c0fbcf, 0xe9b5dba5, 0x3956c25b, 0x59f111f1, 0x923f82a4, 0xab1c5ed5,
  0xd807aa98, 0x12835b01, 0x243185be, 0x550c7dc3, 0x72be5d74, 0x80deb1fe, 0x9bdc06a7, 0xc19bf174,
  0xe49b69c1, 0xefbe4786, 0x0fc19dc6, 0x240ca1cc, 0x2de92c6f, 0x4a7484aa, 0x5cb0a9dc, 0x76f988da,
  0x983e5152, 0xa831c66d, 0xb00327c8, 0xbf597fc7, 0xc6e00bf3, 0xd5a79147, 0x06ca6351, 0x14292967,
  0x27b70a85, 0x2e1b2138, 0x4d2c6dfc, 0x53380d13, 0x650a7354, 0x766a0abb, 0x81c2c92e, 0x92722c85,
  0xa2bfe8a1, 0xa81a664b, 0xc24b8b70, 0xc76c51a3, 0xd192e819, 0xd6990624, 0xf40e3585, 0x106aa070,
  0x19a4c116, 0x1e376c08, 0x2748774c, 0x34b0bcb5, 0x391c0cb3, 0x4ed8aa4a, 0x5b9cca4f, 0x682e6ff3,
  0x748f82ee, 0x78a5636f, 0x84c87814, 0x8cc70208, 0x90befffa, 0xa4506ceb, 0xbef9a3f7, 0xc67178f2]
theorem oneM {α : Type} {f : α → Value} (hf : One f) (xs : List α) : ∀ u ∈ xs.map f, u.oneCell' = true := fun u hu => by
  obtain ⟨a, _, rfl⟩ := List.mem_map.1 hu
  exact hf a
theorem table_fn (w : World) : Fn Tryz.prog 173 ⟨[]⟩ w fun v w' => v = .agg ⟨ktab.map vu⟩ ∧ w.grownBy w' none := by
  refine Fn.enter (by kernel_rfl) Tryz.func173 rfl Tryz.ntmps173 rfl ?_
  repeat (first | refine WC.seq ?_ | refine WC.block ?_ | refine WC.region ?_ | refine WL.nil ?_ | refine WX.then_normal ?_ | refine WC.skip ?_ | refine WC.exit ?_ | refine WC.ret ?_ | refine WX.then_exit ?_ | refine WX.then_ret ?_ | refine WX.block_normal ?_ | refine WX.block_ret ?_ | refine WX.block_same ?_ | refine WX.block_other rfl ?_ | refine WC.label ?_ | refine WC.scope ?_ | refine WX.scope_normal ?_ | refine WX.scope_ret ?_ | refine WX.scope_exit ?_ | refine WL.y rfl (Yld.add rfl rfl (by simp only [In]; omega)) ?_ | refine WL.y rfl (Yld.sub rfl rfl (by simp only [In]; omega)) ?_ | refine WL.y rfl (Yld.mul rfl rfl (by simp only [In]; omega)) ?_ | refine WL.y rfl (Yld.convB tab_ok rfl rfl rfl rfl) ?_ | refine WL.y rfl (Yld.conv tab_ok rfl rfl rfl (by simp only [In]; omega)) ?_ | refine WL.y rfl (Yld.quo rfl rfl (by omega) (by omega) (by simp only [In]; omega)) ?_ | refine WL.y rfl (Yld.rem rfl rfl (by omega) (by omega)) ?_ | refine WL.y rfl (Yld.shl rfl rfl (by omega)) ?_ | refine WL.y rfl (Yld.shr rfl rfl (by omega)) ?_ | refine WL.y rfl (Yld.pure tab_ok rfl) ?_)
  refine WL.alloc rfl zero217 (fun g w1 hB hg _ => ?_)
  repeat (first | refine WC.seq ?_ | refine WC.block ?_ | refine WC.region ?_ | refine WL.nil ?_ | refine WX.then_normal ?_ | refine WC.skip ?_ | refine WC.exit ?_ | refine WC.ret ?_ | refine WX.then_exit ?_ | refine WX.then_ret ?_ | refine WX.block_normal ?_ | refine WX.block_ret ?_ | refine WX.block_same ?_ | refine WX.block_other rfl ?_ | refine WC.label ?_ | refine WC.scope ?_ | refine WX.scope_normal ?_ | refine WX.scope_ret ?_ | refine WX.scope_exit ?_ | refine WL.y rfl (Yld.add rfl rfl (by simp only [In]; omega)) ?_ | refine WL.y rfl (Yld.sub rfl rfl (by simp only [In]; omega)) ?_ | refine WL.y rfl (Yld.mul rfl rfl (by simp only [In]; omega)) ?_ | refine WL.y rfl (Yld.convB tab_ok rfl rfl rfl rfl) ?_ | refine WL.y rfl (Yld.conv tab_ok rfl rfl rfl (by simp only [In]; omega)) ?_ | refine WL.y rfl (Yld.quo rfl rfl (by omega) (by omega) (by simp only [In]; omega)) ?_ | refine WL.y rfl (Yld.rem rfl rfl (by omega) (by omega)) ?_ | refine WL.y rfl (Yld.shl rfl rfl (by omega)) ?_ | refine WL.y rfl (Yld.shr rfl rfl (by omega)) ?_ | refine WL.y rfl (Yld.pure tab_ok rfl) ?_)
  refine WL.y rfl (Yld.arr (us := ktab.map vu) tab_ok rfl zero217 rfl rfl (oneM One.u _) rfl) ?_
  refine WL.storeW tab_ok rfl rfl rfl (oneM One.u _) hB rfl rfl (fun w2 hB2 hg2 => ?_)
  repeat (first | refine WC.seq ?_ | refine WC.block ?_ | refine WC.region ?_ | refine WL.nil ?_ | refine WX.then_normal ?_ | refine WC.skip ?_ | refine WC.exit ?_ | refine WC.ret ?_ | refine WX.then_exit ?_ | refine WX.then_ret ?_ | refine WX.block_normal ?_ | refine WX.block_ret ?_ | refine WX.block_same ?_ | refine WX.block_other rfl ?_ | refine WC.label ?_ | refine WC.scope ?_ | refine WX.scope_normal ?_ | refine WX.scope_ret ?_ | refine WX.scope_exit ?_ | refine WL.y rfl (Yld.add rfl rfl (by simp only [In]; omega)) ?_ | refine WL.y rfl (Yld.sub rfl rfl (by simp only [In]; omega)) ?_ | refine WL.y rfl (Yld.mul rfl rfl (by simp only [In]; omega)) ?_ | refine WL.y rfl (Yld.convB tab_ok rfl rfl rfl rfl) ?_ | refine WL.y rfl (Yld.conv tab_ok rfl rfl rfl (by simp only [In]; omega)) ?_ | refine WL.y rfl (Yld.quo rfl rfl (by omega) (by omega) (by simp only [In]; omega)) ?_ | refine WL.y rfl (Yld.rem rfl rfl (by omega) (by omega)) ?_ | refine WL.y rfl (Yld.shl rfl rfl (by omega)) ?_ | refine WL.y rfl (Yld.shr rfl rfl (by omega)) ?_ | refine WL.y rfl (Yld.pure tab_ok rfl) ?_)
  exact WX.retc tab_ok rfl rfl rfl hB2 rfl ⟨rfl, gr_new hg hg2 (by assumption)⟩
def h0s : List Int := [0x6a09e667, 0xbb67ae85, 0x3c6ef372, 0xa54ff53a, 0x510e527f, 0x9b05688c, 0x1f83d9ab, 0x5be0cd19]
/-- a state's cells -/
def stc (hs : List Int) (A : Option Addr) (c : Nat) (r : List UInt8) (n : Int) : List Value := hs.map vu ++ [.slice A r.length c, .int .u64 n]
theorem new_fn (w : World) : Fn Tryz.prog 130 ⟨[]⟩ w fun v w' => ∃ g, v = .pointer (some ⟨g, 0, none⟩) ∧ Bl w' g 199 (stc h0s none 0 [] 0) ∧ w.grownBy w' none ∧ w.heap.size ≤ g := by
  refine Fn.enter (by kernel_rfl) Tryz.func130 rfl Tryz.ntmps130 rfl ?_
  repeat (first | refine WC.seq ?_ | refine WC.block ?_ | refine WC.region ?_ | refine WL.nil ?_ | refine WX.then_normal ?_ | refine WC.skip ?_ | refine WC.exit ?_ | refine WC.ret ?_ | refine WX.then_exit ?_ | refine WX.then_ret ?_ | refine WX.block_normal ?_ | refine WX.block_ret ?_ | refine WX.block_same ?_ | refine WX.block_other rfl ?_ | refine WC.label ?_ | refine WC.scope ?_ | refine WX.scope_normal ?_ | refine WX.scope_ret ?_ | refine WX.scope_exit ?_ | refine WL.y rfl (Yld.add rfl rfl (by simp only [In]; omega)) ?_ | refine WL.y rfl (Yld.sub rfl rfl (by simp only [In]; omega)) ?_ | refine WL.y rfl (Yld.mul rfl rfl (by simp only [In]; omega)) ?_ | refine WL.y rfl (Yld.convB tab_ok rfl rfl rfl rfl) ?_ | refine WL.y rfl (Yld.conv tab_ok rfl rfl rfl (by simp only [In]; omega)) ?_ | refine WL.y rfl (Yld.quo rfl rfl (by omega) (by omega) (by simp only [In]; omega)) ?_ | refine WL.y rfl (Yld.rem rfl rfl (by omega) (by omega)) ?_ | refine WL.y rfl (Yld.shl rfl rfl (by omega)) ?_ | refine WL.y rfl (Yld.shr rfl rfl (by omega)) ?_ | refine WL.y rfl (Yld.pure tab_ok rfl) ?_)
  refine WL.y rfl (Yld.arr (us := h0s.map vu) tab_ok rfl zero197 rfl rfl (oneM One.u _) rfl) ?_
  refine WL.y rfl (Yld.struct (us := stc h0s none 0 [] 0) zero199 places199 rfl rfl) ?_
  refine WL.box rfl rfl rfl (fun g w1 hB hg hs => ?_)
  repeat (first | refine WC.seq ?_ | refine WC.block ?_ | refine WC.region ?_ | refine WL.nil ?_ | refine WX.then_normal ?_ | refine WC.skip ?_ | refine WC.exit ?_ | refine WC.ret ?_ | refine WX.then_exit ?_ | refine WX.then_ret ?_ | refine WX.block_normal ?_ | refine WX.block_ret ?_ | refine WX.block_same ?_ | refine WX.block_other rfl ?_ | refine WC.label ?_ | refine WC.scope ?_ | refine WX.scope_normal ?_ | refine WX.scope_ret ?_ | refine WX.scope_exit ?_ | refine WL.y rfl (Yld.add rfl rfl (by simp only [In]; omega)) ?_ | refine WL.y rfl (Yld.sub rfl rfl (by simp only [In]; omega)) ?_ | refine WL.y rfl (Yld.mul rfl rfl (by simp only [In]; omega)) ?_ | refine WL.y rfl (Yld.convB tab_ok rfl rfl rfl rfl) ?_ | refine WL.y rfl (Yld.conv tab_ok rfl rfl rfl (by simp only [In]; omega)) ?_ | refine WL.y rfl (Yld.quo rfl rfl (by omega) (by omega) (by simp only [In]; omega)) ?_ | refine WL.y rfl (Yld.rem rfl rfl (by omega) (by omega)) ?_ | refine WL.y rfl (Yld.shl rfl rfl (by omega)) ?_ | refine WL.y rfl (Yld.shr rfl rfl (by omega)) ?_ | refine WL.y rfl (Yld.pure tab_ok rfl) ?_)
  exact WX.ret1 rfl rfl ⟨g, rfl, hB, hg, hs⟩
end Go.Proofs.YtjhipfdbionpoaaGreatDoor

 namespace Go.Proofs.YtjhipfdbionpoaaGreatDoor
open Go Go.RowKit
attribute [local irreducible] WL WC WX WQ Yld Fn

/-- one word more of the schedule -/
def wnext (bs : List UInt8) (ws : List Int) (i : Nat) : Int :=
  if i < 16 then bits .or .u32 (bits .or .u32 (bits .or .u32 (shlV .u32 ((bs.getD (4 * i) 0).toNat : Int) 24) (shlV .u32 ((bs.getD (4 * i + 1) 0).toNat : Int) 16)) (shlV .u32 ((bs.getD (4 * i + 2) 0).toNat : Int) 8)) ((bs.getD (4 * i + 3) 0).toNat : Int)
  else
    let x := ws.getD (i - 15) 0
    let y := ws.getD (i - 2) 0
    IntKind.u32.wrap (IntKind.u32.wrap (IntKind.u32.wrap (ws.getD (i - 16) 0 + ws.getD (i - 7) 0) + bits .xor .u32 (bits .xor .u32 (rotr x 7) (rotr x 18)) (shrV .u32 x 3)) + bits .xor .u32 (bits .xor .u32 (rotr y 17) (rotr y 19)) (shrV .u32 y 10))
def wsAt (bs : List UInt8) : Nat → List Int
  | 0 => List.replicate 64 0
  | i + 1 => (wsAt bs i).set i (wnext bs (wsAt bs i) i)
theorem wsAt_len (bs : List UInt8) : ∀ i, (wsAt bs i).length = 64
  | 0 => rfl
  | i + 1 => by rw [wsAt, List.length_set, wsAt_len bs i]

/-- one round -/
def hnext (ws : List Int) (h : List Int) (i : Nat) : List Int :=
  let e := h.getD 4 0
  let a := h.getD 0 0
  let one := IntKind.u32.wrap (IntKind.u32.wrap (IntKind.u32.wrap (IntKind.u32.wrap (h.getD 7 0 + bits .xor .u32 (bits .xor .u32 (rotr e 6) (rotr e 11)) (rotr e 25)) + bits .xor .u32 (bits .and .u32 e (h.getD 5 0)) (bits .and .u32 (bits .xor .u32 IntKind.u32.max e) (h.getD 6 0))) + ktab.getD i 0) + ws.getD i 0)
  let two := IntKind.u32.wrap (bits .xor .u32 (bits .xor .u32 (rotr a 2) (rotr a 13)) (rotr a 22) + bits .xor .u32 (bits .xor .u32 (bits .and .u32 a (h.getD 1 0)) (bits .and .u32 a (h.getD 2 0))) (bits .and .u32 (h.getD 1 0) (h.getD 2 0)))
  [IntKind.u32.wrap (one + two), h.getD 0 0, h.getD 1 0, h.getD 2 0, IntKind.u32.wrap (h.getD 3 0 + one), h.getD 4 0, h.getD 5 0, h.getD 6 0]
def hAt (ws : List Int) (h : List Int) : Nat → List Int
  | 0 => h
  | i + 1 => hnext ws (hAt ws h i) i
theorem hAt_len (ws h : List Int) (hh : h.length = 8) : ∀ i, (hAt ws h i).length = 8
  | 0 => hh
  | _ + 1 => rfl
/-- the state's words, the first i of them raised -/
def sumAt (hs h : List Int) : Nat → List Int
  | 0 => hs
  | i + 1 => (sumAt hs h i).set i (IntKind.u32.wrap ((sumAt hs h i).getD i 0 + h.getD i 0))
theorem sumAt_len (hs h : List Int) : ∀ i, (sumAt hs h i).length = hs.length
  | 0 => rfl
  | i + 1 => by rw [sumAt, List.length_set, sumAt_len hs h i]
/-- a block is taken in -/
def mixS (hs : List Int) (bs : List UInt8) : List Int := sumAt hs (hAt (wsAt bs 64) hs 64) 8
theorem mixS_len (hs : List Int) (bs : List UInt8) : (mixS hs bs).length = hs.length := sumAt_len _ _ 8

set_option maxHeartbeats 1000000 in
theorem mix_fn (g : Nat) (hs : List Int) (tl : List Value) (A : Option Addr) (c : Nat) (bs : List UInt8) (w : World) (hh : hs.length = 8) (hB : Bl w g 199 (hs.map vu ++ tl)) (hR : Rd vb w A c bs) (hl : 64 ≤ bs.length) :
    Fn Tryz.prog 153 ⟨[.pointer (some ⟨g, 0, none⟩), .slice A bs.length c]⟩ w fun v w' => v = .tuple #[] ∧ Bl w' g 199 ((mixS hs bs).map vu ++ tl) ∧ w.grownBy w' (some g) := by
  have hglt := hB.lt
  refine Fn.enter (by kernel_rfl) Tryz.func153 rfl Tryz.ntmps153 rfl ?_
  repeat (first | refine WC.seq ?_ | refine WC.block ?_ | refine WC.region ?_ | refine WL.nil ?_ | refine WX.then_normal ?_ | refine WC.skip ?_ | refine WC.exit ?_ | refine WC.ret ?_ | refine WX.then_exit ?_ | refine WX.then_ret ?_ | refine WX.block_normal ?_ | refine WX.block_ret ?_ | refine WX.block_same ?_ | refine WX.block_other rfl ?_ | refine WC.label ?_ | refine WC.scope ?_ | refine WX.scope_normal ?_ | refine WX.scope_ret ?_ | refine WX.scope_exit ?_ | refine WL.y rfl (Yld.add rfl rfl (by simp only [In]; omega)) ?_ | refine WL.y rfl (Yld.sub rfl rfl (by simp only [In]; omega)) ?_ | refine WL.y rfl (Yld.mul rfl rfl (by simp only [In]; omega)) ?_ | refine WL.y rfl (Yld.convB tab_ok rfl rfl rfl rfl) ?_ | refine WL.y rfl (Yld.conv tab_ok rfl rfl rfl (by simp only [In]; omega)) ?_ | refine WL.y rfl (Yld.quo rfl rfl (by omega) (by omega) (by simp only [In]; omega)) ?_ | refine WL.y rfl (Yld.rem rfl rfl (by omega) (by omega)) ?_ | refine WL.y rfl (Yld.shl rfl rfl (by omega)) ?_ | refine WL.y rfl (Yld.shr rfl rfl (by omega)) ?_ | refine WL.y rfl (Yld.pure tab_ok rfl) ?_)
  refine WL.call rfl rfl (table_fn w) ?_
  rintro _ w1 ⟨rfl, hg1⟩
  refine WL.alloc rfl zero217 (fun gk w2 hk2 hg2 hlk => ?_)
  refine WL.storeW tab_ok rfl rfl rfl (oneM One.u _) hk2 rfl rfl (fun w3 hk3 hg3 => ?_)
  repeat (first | refine WC.seq ?_ | refine WC.block ?_ | refine WC.region ?_ | refine WL.nil ?_ | refine WX.then_normal ?_ | refine WC.skip ?_ | refine WC.exit ?_ | refine WC.ret ?_ | refine WX.then_exit ?_ | refine WX.then_ret ?_ | refine WX.block_normal ?_ | refine WX.block_ret ?_ | refine WX.block_same ?_ | refine WX.block_other rfl ?_ | refine WC.label ?_ | refine WC.scope ?_ | refine WX.scope_normal ?_ | refine WX.scope_ret ?_ | refine WX.scope_exit ?_ | refine WL.y rfl (Yld.add rfl rfl (by simp only [In]; omega)) ?_ | refine WL.y rfl (Yld.sub rfl rfl (by simp only [In]; omega)) ?_ | refine WL.y rfl (Yld.mul rfl rfl (by simp only [In]; omega)) ?_ | refine WL.y rfl (Yld.convB tab_ok rfl rfl rfl rfl) ?_ | refine WL.y rfl (Yld.conv tab_ok rfl rfl rfl (by simp only [In]; omega)) ?_ | refine WL.y rfl (Yld.quo rfl rfl (by omega) (by omega) (by simp only [In]; omega)) ?_ | refine WL.y rfl (Yld.rem rfl rfl (by omega) (by omega)) ?_ | refine WL.y rfl (Yld.shl rfl rfl (by omega)) ?_ | refine WL.y rfl (Yld.shr rfl rfl (by omega)) ?_ | refine WL.y rfl (Yld.pure tab_ok rfl) ?_)
  refine WL.alloc rfl zero217 (fun gw w4 hw4 hg4 hlw => ?_)
  repeat (first | refine WC.seq ?_ | refine WC.block ?_ | refine WC.region ?_ | refine WL.nil ?_ | refine WX.then_normal ?_ | refine WC.skip ?_ | refine WC.exit ?_ | refine WC.ret ?_ | refine WX.then_exit ?_ | refine WX.then_ret ?_ | refine WX.block_normal ?_ | refine WX.block_ret ?_ | refine WX.block_same ?_ | refine WX.block_other rfl ?_ | refine WC.label ?_ | refine WC.scope ?_ | refine WX.scope_normal ?_ | refine WX.scope_ret ?_ | refine WX.scope_exit ?_ | refine WL.y rfl (Yld.add rfl rfl (by simp only [In]; omega)) ?_ | refine WL.y rfl (Yld.sub rfl rfl (by simp only [In]; omega)) ?_ | refine WL.y rfl (Yld.mul rfl rfl (by simp only [In]; omega)) ?_ | refine WL.y rfl (Yld.convB tab_ok rfl rfl rfl rfl) ?_ | refine WL.y rfl (Yld.conv tab_ok rfl rfl rfl (by simp only [In]; omega)) ?_ | refine WL.y rfl (Yld.quo rfl rfl (by omega) (by omega) (by simp only [In]; omega)) ?_ | refine WL.y rfl (Yld.rem rfl rfl (by omega) (by omega)) ?_ | refine WL.y rfl (Yld.shl rfl rfl (by omega)) ?_ | refine WL.y rfl (Yld.shr rfl rfl (by omega)) ?_ | refine WL.y rfl (Yld.pure tab_ok rfl) ?_)
  have hz1 := hg1.size
  have hz2 := hg2.size
  have hz3 := hg3.size
  have hz4 := hg4.size
  have hk4 : Bl w4 gk 217 (ktab.map vu) := hk3.keep hg4 (by simp)
  have hkl := hk3.lt
  have hR4 : Rd vb w4 A c bs := ((hR.grown (gr_trans hg1 hg2)).keep hg3 (fun q hq e => by
    injection hq with hq
    have := hR.lt (fun e => by rw [e] at hl; simp at hl) e
    omega)).grown hg4
  have hB4 : Bl w4 g 199 (hs.map vu ++ tl) := ((hB.keep (gr_trans hg1 hg2) (by simp)).keep hg3 (fun e => by injection e with e; omega)).keep hg4 (by simp)
  have hgr4 : w.grownBy w4 none := gr_trans (gr_new (gr_trans hg1 hg2) hg3 (by omega)) hg4
  clear hk2 hk3 hg1 hg2 hg3 hg4
  refine WC.loop (S := Nat) (fun i => 64 - i) (fun i => [(17, vi i), (5, .pointer (some ⟨gw, 0, none⟩)), (4, .pointer (some ⟨gk, 0, none⟩)), (0, .pointer (some ⟨g, 0, none⟩)), (1, .slice A bs.length c)])
    (fun i w' => i ≤ 64 ∧ Bl w' gw 217 ((wsAt bs i).map vu) ∧ w4.grownBy w' (some gw)) 0 ⟨by omega, by rw [wsAt, List.map_replicate]; exact hw4, gr_refl _ _⟩ (by repeat (first | exact Sub.nil | refine Sub.cons rfl ?_)) (fun i w5 ⟨hi, hw5, hg5⟩ => ?_)
  have hlen := wsAt_len bs i
  have hR5 : Rd vb w5 A c bs := hR4.keep hg5 (fun q hq e => by
    injection hq with hq
    have := hR.lt (fun e => by rw [e] at hl; simp at hl) e
    omega)
  repeat (first | refine WC.seq ?_ | refine WC.block ?_ | refine WC.region ?_ | refine WL.nil ?_ | refine WX.then_normal ?_ | refine WC.skip ?_ | refine WC.exit ?_ | refine WC.ret ?_ | refine WX.then_exit ?_ | refine WX.then_ret ?_ | refine WX.block_normal ?_ | refine WX.block_ret ?_ | refine WX.block_same ?_ | refine WX.block_other rfl ?_ | refine WC.label ?_ | refine WC.scope ?_ | refine WX.scope_normal ?_ | refine WX.scope_ret ?_ | refine WX.scope_exit ?_ | refine WL.y rfl (Yld.add rfl rfl (by simp only [In]; omega)) ?_ | refine WL.y rfl (Yld.sub rfl rfl (by simp only [In]; omega)) ?_ | refine WL.y rfl (Yld.mul rfl rfl (by simp only [In]; omega)) ?_ | refine WL.y rfl (Yld.convB tab_ok rfl rfl rfl rfl) ?_ | refine WL.y rfl (Yld.conv tab_ok rfl rfl rfl (by simp only [In]; omega)) ?_ | refine WL.y rfl (Yld.quo rfl rfl (by omega) (by omega) (by simp only [In]; omega)) ?_ | refine WL.y rfl (Yld.rem rfl rfl (by omega) (by omega)) ?_ | refine WL.y rfl (Yld.shl rfl rfl (by omega)) ?_ | refine WL.y rfl (Yld.shr rfl rfl (by omega)) ?_ | refine WL.y rfl (Yld.pure tab_ok rfl) ?_)
  refine WC.cond rfl (fun h => ?_) (fun h => ?_)
  · simp only [decide_eq_true_eq] at h
    repeat (first | refine WC.seq ?_ | refine WC.block ?_ | refine WC.region ?_ | refine WL.nil ?_ | refine WX.then_normal ?_ | refine WC.skip ?_ | refine WC.exit ?_ | refine WC.ret ?_ | refine WX.then_exit ?_ | refine WX.then_ret ?_ | refine WX.block_normal ?_ | refine WX.block_ret ?_ | refine WX.block_same ?_ | refine WX.block_other rfl ?_ | refine WC.label ?_ | refine WC.scope ?_ | refine WX.scope_normal ?_ | refine WX.scope_ret ?_ | refine WX.scope_exit ?_ | refine WL.y rfl (Yld.add rfl rfl (by simp only [In]; omega)) ?_ | refine WL.y rfl (Yld.sub rfl rfl (by simp only [In]; omega)) ?_ | refine WL.y rfl (Yld.mul rfl rfl (by simp only [In]; omega)) ?_ | refine WL.y rfl (Yld.convB tab_ok rfl rfl rfl rfl) ?_ | refine WL.y rfl (Yld.conv tab_ok rfl rfl rfl (by simp only [In]; omega)) ?_ | refine WL.y rfl (Yld.quo rfl rfl (by omega) (by omega) (by simp only [In]; omega)) ?_ | refine WL.y rfl (Yld.rem rfl rfl (by omega) (by omega)) ?_ | refine WL.y rfl (Yld.shl rfl rfl (by omega)) ?_ | refine WL.y rfl (Yld.shr rfl rfl (by omega)) ?_ | refine WL.y rfl (Yld.pure tab_ok rfl) ?_)
    refine WC.cond rfl (fun h16 => ?_) (fun h16 => ?_)
    · simp only [decide_eq_true_eq] at h16
      repeat (first | refine WC.seq ?_ | refine WC.block ?_ | refine WC.region ?_ | refine WL.nil ?_ | refine WX.then_normal ?_ | refine WC.skip ?_ | refine WC.exit ?_ | refine WC.ret ?_ | refine WX.then_exit ?_ | refine WX.then_ret ?_ | refine WX.block_normal ?_ | refine WX.block_ret ?_ | refine WX.block_same ?_ | refine WX.block_other rfl ?_ | refine WC.label ?_ | refine WC.scope ?_ | refine WX.scope_normal ?_ | refine WX.scope_ret ?_ | refine WX.scope_exit ?_ | refine WL.y rfl (Yld.add rfl rfl (by simp only [In]; omega)) ?_ | refine WL.y rfl (Yld.sub rfl rfl (by simp only [In]; omega)) ?_ | refine WL.y rfl (Yld.mul rfl rfl (by simp only [In]; omega)) ?_ | refine WL.y rfl (Yld.convB tab_ok rfl rfl rfl rfl) ?_ | refine WL.y rfl (Yld.conv tab_ok rfl rfl rfl (by simp only [In]; omega)) ?_ | refine WL.y rfl (Yld.quo rfl rfl (by omega) (by omega) (by simp only [In]; omega)) ?_ | refine WL.y rfl (Yld.rem rfl rfl (by omega) (by omega)) ?_ | refine WL.y rfl (Yld.shl rfl rfl (by omega)) ?_ | refine WL.y rfl (Yld.shr rfl rfl (by omega)) ?_ | refine WL.y rfl (Yld.pure tab_ok rfl) ?_)
      refine WC.tail 35 mixed (by kernel_rfl) ?_
      repeat (first | refine WQ.y rfl (Yld.iaddr tab_ok hR5 rfl rfl rfl rfl (by omega) (by omega)) ?_ | refine WQ.y rfl (Yld.iload 0 tab_ok hR5 rfl rfl (by omega)) ?_ | refine WQ.y rfl (Yld.aaddr tab_ok rfl rfl rfl (by omega) (by omega)) ?_ | refine WQ.y rfl (Yld.add rfl rfl (by simp only [In]; omega)) ?_ | refine WQ.y rfl (Yld.sub rfl rfl (by simp only [In]; omega)) ?_ | refine WQ.y rfl (Yld.mul rfl rfl (by simp only [In]; omega)) ?_ | refine WQ.y rfl (Yld.convB tab_ok rfl rfl rfl rfl) ?_ | refine WQ.y rfl (Yld.conv tab_ok rfl rfl rfl (by simp only [In]; omega)) ?_ | refine WQ.y rfl (Yld.quo rfl rfl (by omega) (by omega) (by simp only [In]; omega)) ?_ | refine WQ.y rfl (Yld.rem rfl rfl (by omega) (by omega)) ?_ | refine WQ.y rfl (Yld.shl rfl rfl (by omega)) ?_ | refine WQ.y rfl (Yld.shr rfl rfl (by omega)) ?_ | refine WQ.y rfl (Yld.pure tab_ok rfl) ?_)
      refine WQ.tail ?_
      refine WL.store1 one130 rfl rfl rfl hw5 (by rw [List.length_map]; omega) (fun w6 hw6 hg6 => ?_)
      repeat (first | refine WC.seq ?_ | refine WC.block ?_ | refine WC.region ?_ | refine WL.nil ?_ | refine WX.then_normal ?_ | refine WC.skip ?_ | refine WC.exit ?_ | refine WC.ret ?_ | refine WX.then_exit ?_ | refine WX.then_ret ?_ | refine WX.block_normal ?_ | refine WX.block_ret ?_ | refine WX.block_same ?_ | refine WX.block_other rfl ?_ | refine WC.label ?_ | refine WC.scope ?_ | refine WX.scope_normal ?_ | refine WX.scope_ret ?_ | refine WX.scope_exit ?_ | refine WL.y rfl (Yld.add rfl rfl (by simp only [In]; omega)) ?_ | refine WL.y rfl (Yld.sub rfl rfl (by simp only [In]; omega)) ?_ | refine WL.y rfl (Yld.mul rfl rfl (by simp only [In]; omega)) ?_ | refine WL.y rfl (Yld.convB tab_ok rfl rfl rfl rfl) ?_ | refine WL.y rfl (Yld.conv tab_ok rfl rfl rfl (by simp only [In]; omega)) ?_ | refine WL.y rfl (Yld.quo rfl rfl (by omega) (by omega) (by simp only [In]; omega)) ?_ | refine WL.y rfl (Yld.rem rfl rfl (by omega) (by omega)) ?_ | refine WL.y rfl (Yld.shl rfl rfl (by omega)) ?_ | refine WL.y rfl (Yld.shr rfl rfl (by omega)) ?_ | refine WL.y rfl (Yld.pure tab_ok rfl) ?_)
      refine WX.round (i + 1) ⟨by omega, ?_, gr_trans hg5 hg6⟩ (by omega) (by repeat (first | exact Sub.nil | refine Sub.cons rfl ?_))
      have e0 : (4 * (i : Int)).toNat = 4 * i := by omega
      have e1 : (4 * (i : Int) + 1).toNat = 4 * i + 1 := by omega
      have e2 : (4 * (i : Int) + 2).toNat = 4 * i + 2 := by omega
      have e3 : (4 * (i : Int) + 3).toNat = 4 * i + 3 := by omega
      have ei : 0 + (i : Int).toNat * 1 = i := by omega
      rw [e0, e1, e2, e3, ei] at hw6
      rw [wsAt, List.map_set, wnext, if_pos (by omega)]
      exact hw6
    · simp only [decide_eq_false_iff_not] at h16
      repeat (first | refine WC.seq ?_ | refine WC.block ?_ | refine WC.region ?_ | refine WL.nil ?_ | refine WX.then_normal ?_ | refine WC.skip ?_ | refine WC.exit ?_ | refine WC.ret ?_ | refine WX.then_exit ?_ | refine WX.then_ret ?_ | refine WX.block_normal ?_ | refine WX.block_ret ?_ | refine WX.block_same ?_ | refine WX.block_other rfl ?_ | refine WC.label ?_ | refine WC.scope ?_ | refine WX.scope_normal ?_ | refine WX.scope_ret ?_ | refine WX.scope_exit ?_ | refine WL.y rfl (Yld.add rfl rfl (by simp only [In]; omega)) ?_ | refine WL.y rfl (Yld.sub rfl rfl (by simp only [In]; omega)) ?_ | refine WL.y rfl (Yld.mul rfl rfl (by simp only [In]; omega)) ?_ | refine WL.y rfl (Yld.convB tab_ok rfl rfl rfl rfl) ?_ | refine WL.y rfl (Yld.conv tab_ok rfl rfl rfl (by simp only [In]; omega)) ?_ | refine WL.y rfl (Yld.quo rfl rfl (by omega) (by omega) (by simp only [In]; omega)) ?_ | refine WL.y rfl (Yld.rem rfl rfl (by omega) (by omega)) ?_ | refine WL.y rfl (Yld.shl rfl rfl (by omega)) ?_ | refine WL.y rfl (Yld.shr rfl rfl (by omega)) ?_ | refine WL.y rfl (Yld.pure tab_ok rfl) ?_)
      refine WC.quiet mixed (by kernel_rfl) ?_
      repeat (first | refine WQ.y rfl (Yld.bloadm 0 tab_ok hw5 rfl rfl (by omega)) ?_ | refine WQ.y rfl (Yld.aaddr tab_ok rfl rfl rfl (by omega) (by omega)) ?_ | refine WQ.y rfl (Yld.add rfl rfl (by simp only [In]; omega)) ?_ | refine WQ.y rfl (Yld.sub rfl rfl (by simp only [In]; omega)) ?_ | refine WQ.y rfl (Yld.mul rfl rfl (by simp only [In]; omega)) ?_ | refine WQ.y rfl (Yld.convB tab_ok rfl rfl rfl rfl) ?_ | refine WQ.y rfl (Yld.conv tab_ok rfl rfl rfl (by simp only [In]; omega)) ?_ | refine WQ.y rfl (Yld.quo rfl rfl (by omega) (by omega) (by simp only [In]; omega)) ?_ | refine WQ.y rfl (Yld.rem rfl rfl (by omega) (by omega)) ?_ | refine WQ.y rfl (Yld.shl rfl rfl (by omega)) ?_ | refine WQ.y rfl (Yld.shr rfl rfl (by omega)) ?_ | refine WQ.y rfl (Yld.pure tab_ok rfl) ?_)
      refine WQ.nil ?_
      repeat (first | refine WC.seq ?_ | refine WC.block ?_ | refine WC.region ?_ | refine WL.nil ?_ | refine WX.then_normal ?_ | refine WC.skip ?_ | refine WC.exit ?_ | refine WC.ret ?_ | refine WX.then_exit ?_ | refine WX.then_ret ?_ | refine WX.block_normal ?_ | refine WX.block_ret ?_ | refine WX.block_same ?_ | refine WX.block_other rfl ?_ | refine WC.label ?_ | refine WC.scope ?_ | refine WX.scope_normal ?_ | refine WX.scope_ret ?_ | refine WX.scope_exit ?_ | refine WL.y rfl (Yld.add rfl rfl (by simp only [In]; omega)) ?_ | refine WL.y rfl (Yld.sub rfl rfl (by simp only [In]; omega)) ?_ | refine WL.y rfl (Yld.mul rfl rfl (by simp only [In]; omega)) ?_ | refine WL.y rfl (Yld.convB tab_ok rfl rfl rfl rfl) ?_ | refine WL.y rfl (Yld.conv tab_ok rfl rfl rfl (by simp only [In]; omega)) ?_ | refine WL.y rfl (Yld.quo rfl rfl (by omega) (by omega) (by simp only [In]; omega)) ?_ | refine WL.y rfl (Yld.rem rfl rfl (by omega) (by omega)) ?_ | refine WL.y rfl (Yld.shl rfl rfl (by omega)) ?_ | refine WL.y rfl (Yld.shr rfl rfl (by omega)) ?_ | refine WL.y rfl (Yld.pure tab_ok rfl) ?_)
      refine WC.tail 29 mixed (by kernel_rfl) ?_
      repeat (first | refine WQ.y rfl (Yld.bloadm 0 tab_ok hw5 rfl rfl (by omega)) ?_ | refine WQ.y rfl (Yld.aaddr tab_ok rfl rfl rfl (by omega) (by omega)) ?_ | refine WQ.call rfl rfl (right_fn _ _ _ (by omega) (by omega)) ?_ | refine WQ.y rfl (Yld.add rfl rfl (by simp only [In]; omega)) ?_ | refine WQ.y rfl (Yld.sub rfl rfl (by simp only [In]; omega)) ?_ | refine WQ.y rfl (Yld.mul rfl rfl (by simp only [In]; omega)) ?_ | refine WQ.y rfl (Yld.convB tab_ok rfl rfl rfl rfl) ?_ | refine WQ.y rfl (Yld.conv tab_ok rfl rfl rfl (by simp only [In]; omega)) ?_ | refine WQ.y rfl (Yld.quo rfl rfl (by omega) (by omega) (by simp only [In]; omega)) ?_ | refine WQ.y rfl (Yld.rem rfl rfl (by omega) (by omega)) ?_ | refine WQ.y rfl (Yld.shl rfl rfl (by omega)) ?_ | refine WQ.y rfl (Yld.shr rfl rfl (by omega)) ?_ | refine WQ.y rfl (Yld.pure tab_ok rfl) ?_)
      refine WQ.tail ?_
      refine WL.store1 one130 rfl rfl rfl hw5 (by rw [List.length_map]; omega) (fun w6 hw6 hg6 => ?_)
      repeat (first | refine WC.seq ?_ | refine WC.block ?_ | refine WC.region ?_ | refine WL.nil ?_ | refine WX.then_normal ?_ | refine WC.skip ?_ | refine WC.exit ?_ | refine WC.ret ?_ | refine WX.then_exit ?_ | refine WX.then_ret ?_ | refine WX.block_normal ?_ | refine WX.block_ret ?_ | refine WX.block_same ?_ | refine WX.block_other rfl ?_ | refine WC.label ?_ | refine WC.scope ?_ | refine WX.scope_normal ?_ | refine WX.scope_ret ?_ | refine WX.scope_exit ?_ | refine WL.y rfl (Yld.add rfl rfl (by simp only [In]; omega)) ?_ | refine WL.y rfl (Yld.sub rfl rfl (by simp only [In]; omega)) ?_ | refine WL.y rfl (Yld.mul rfl rfl (by simp only [In]; omega)) ?_ | refine WL.y rfl (Yld.convB tab_ok rfl rfl rfl rfl) ?_ | refine WL.y rfl (Yld.conv tab_ok rfl rfl rfl (by simp only [In]; omega)) ?_ | refine WL.y rfl (Yld.quo rfl rfl (by omega) (by omega) (by simp only [In]; omega)) ?_ | refine WL.y rfl (Yld.rem rfl rfl (by omega) (by omega)) ?_ | refine WL.y rfl (Yld.shl rfl rfl (by omega)) ?_ | refine WL.y rfl (Yld.shr rfl rfl (by omega)) ?_ | refine WL.y rfl (Yld.pure tab_ok rfl) ?_)
      refine WX.round (i + 1) ⟨by omega, ?_, gr_trans hg5 hg6⟩ (by omega) (by repeat (first | exact Sub.nil | refine Sub.cons rfl ?_))
      have e0 : 0 + ((i : Int) - 16).toNat * 1 = i - 16 := by omega
      have e1 : 0 + ((i : Int) - 7).toNat * 1 = i - 7 := by omega
      have e2 : 0 + ((i : Int) - 15).toNat * 1 = i - 15 := by omega
      have e3 : 0 + ((i : Int) - 2).toNat * 1 = i - 2 := by omega
      have ei : 0 + (i : Int).toNat * 1 = i := by omega
      rw [e0, e1, e2, e3, ei] at hw6
      rw [wsAt, List.map_set, wnext, if_neg (by omega)]
      exact hw6
  · simp only [decide_eq_false_iff_not] at h
    obtain rfl : i = 64 := by omega
    have hk5 : Bl w5 gk 217 (ktab.map vu) := hk4.keep hg5 (fun e => by injection e with e; omega)
    have hB5 : Bl w5 g 199 (hs.map vu ++ tl) := hB4.keep hg5 (fun e => by injection e with e; omega)
    have hgr5 : w.grownBy w5 none := gr_new hgr4 hg5 (by omega)
    have hwl := hw5.lt
    clear hg5 hw4 hk4 hB4 hR4 hR5 hgr4
    repeat (first | refine WC.seq ?_ | refine WC.block ?_ | refine WC.region ?_ | refine WL.nil ?_ | refine WX.then_normal ?_ | refine WC.skip ?_ | refine WC.exit ?_ | refine WC.ret ?_ | refine WX.then_exit ?_ | refine WX.then_ret ?_ | refine WX.block_normal ?_ | refine WX.block_ret ?_ | refine WX.block_same ?_ | refine WX.block_other rfl ?_ | refine WC.label ?_ | refine WC.scope ?_ | refine WX.scope_normal ?_ | refine WX.scope_ret ?_ | refine WX.scope_exit ?_ | refine WL.y rfl (Yld.add rfl rfl (by simp only [In]; omega)) ?_ | refine WL.y rfl (Yld.sub rfl rfl (by simp only [In]; omega)) ?_ | refine WL.y rfl (Yld.mul rfl rfl (by simp only [In]; omega)) ?_ | refine WL.y rfl (Yld.convB tab_ok rfl rfl rfl rfl) ?_ | refine WL.y rfl (Yld.conv tab_ok rfl rfl rfl (by simp only [In]; omega)) ?_ | refine WL.y rfl (Yld.quo rfl rfl (by omega) (by omega) (by simp only [In]; omega)) ?_ | refine WL.y rfl (Yld.rem rfl rfl (by omega) (by omega)) ?_ | refine WL.y rfl (Yld.shl rfl rfl (by omega)) ?_ | refine WL.y rfl (Yld.shr rfl rfl (by omega)) ?_ | refine WL.y rfl (Yld.pure tab_ok rfl) ?_)
    refine WL.y rfl (Yld.bagg (vs := hs.map vu) tab_ok hB5 rfl rfl (by simp [hh]) (by simp [hh])) ?_
    refine WL.alloc rfl zero197 (fun gh w6 hh6 hg6 hlh => ?_)
    refine WL.storeW tab_ok rfl rfl rfl (oneM One.u _) hh6 rfl (by simp [hh]) (fun w7 hh7 hg7 => ?_)
    have hz6 := hg6.size
    have hz7 := hg7.size
    have hhl := hh7.lt
    have hk7 : Bl w7 gk 217 (ktab.map vu) := (hk5.keep hg6 (by simp)).keep hg7 (fun e => by injection e with e; have := hk5.lt; omega)
    have hw7 : Bl w7 gw 217 ((wsAt bs 64).map vu) := (hw5.keep hg6 (by simp)).keep hg7 (fun e => by injection e with e; omega)
    have hB7 : Bl w7 g 199 (hs.map vu ++ tl) := (hB5.keep hg6 (by simp)).keep hg7 (fun e => by injection e with e; have := hB5.lt; omega)
    have hgr7 : w.grownBy w7 none := gr_new (gr_trans hgr5 hg6) hg7 (by have := hgr5.size; omega)
    have hkl7 := hk7.lt
    clear hh6 hg6 hg7 hk5 hw5 hB5 hgr5
    generalize hws : wsAt bs 64 = ws at *
    repeat (first | refine WC.seq ?_ | refine WC.block ?_ | refine WC.region ?_ | refine WL.nil ?_ | refine WX.then_normal ?_ | refine WC.skip ?_ | refine WC.exit ?_ | refine WC.ret ?_ | refine WX.then_exit ?_ | refine WX.then_ret ?_ | refine WX.block_normal ?_ | refine WX.block_ret ?_ | refine WX.block_same ?_ | refine WX.block_other rfl ?_ | refine WC.label ?_ | refine WC.scope ?_ | refine WX.scope_normal ?_ | refine WX.scope_ret ?_ | refine WX.scope_exit ?_ | refine WL.y rfl (Yld.add rfl rfl (by simp only [In]; omega)) ?_ | refine WL.y rfl (Yld.sub rfl rfl (by simp only [In]; omega)) ?_ | refine WL.y rfl (Yld.mul rfl rfl (by simp only [In]; omega)) ?_ | refine WL.y rfl (Yld.convB tab_ok rfl rfl rfl rfl) ?_ | refine WL.y rfl (Yld.conv tab_ok rfl rfl rfl (by simp only [In]; omega)) ?_ | refine WL.y rfl (Yld.quo rfl rfl (by omega) (by omega) (by simp only [In]; omega)) ?_ | refine WL.y rfl (Yld.rem rfl rfl (by omega) (by omega)) ?_ | refine WL.y rfl (Yld.shl rfl rfl (by omega)) ?_ | refine WL.y rfl (Yld.shr rfl rfl (by omega)) ?_ | refine WL.y rfl (Yld.pure tab_ok rfl) ?_)
    refine WC.loop (S := Nat) (fun i => 64 - i) (fun i => [(99, vi i), (9, .pointer (some ⟨gh, 0, none⟩)), (5, .pointer (some ⟨gw, 0, none⟩)), (4, .pointer (some ⟨gk, 0, none⟩)), (0, .pointer (some ⟨g, 0, none⟩))])
      (fun i w' => i ≤ 64 ∧ Bl w' gh 197 ((hAt ws hs i).map vu) ∧ w7.grownBy w' (some gh)) 0 ⟨by omega, hh7, gr_refl _ _⟩ (by repeat (first | exact Sub.nil | refine Sub.cons rfl ?_)) (fun i w8 ⟨hi, hh8, hg8⟩ => ?_)
    have hl8 := hAt_len ws hs hh i
    have hk8 : Bl w8 gk 217 (ktab.map vu) := hk7.keep hg8 (fun e => by injection e with e; omega)
    have hw8 : Bl w8 gw 217 (ws.map vu) := hw7.keep hg8 (fun e => by injection e with e; omega)
    repeat (first | refine WC.seq ?_ | refine WC.block ?_ | refine WC.region ?_ | refine WL.nil ?_ | refine WX.then_normal ?_ | refine WC.skip ?_ | refine WC.exit ?_ | refine WC.ret ?_ | refine WX.then_exit ?_ | refine WX.then_ret ?_ | refine WX.block_normal ?_ | refine WX.block_ret ?_ | refine WX.block_same ?_ | refine WX.block_other rfl ?_ | refine WC.label ?_ | refine WC.scope ?_ | refine WX.scope_normal ?_ | refine WX.scope_ret ?_ | refine WX.scope_exit ?_ | refine WL.y rfl (Yld.add rfl rfl (by simp only [In]; omega)) ?_ | refine WL.y rfl (Yld.sub rfl rfl (by simp only [In]; omega)) ?_ | refine WL.y rfl (Yld.mul rfl rfl (by simp only [In]; omega)) ?_ | refine WL.y rfl (Yld.convB tab_ok rfl rfl rfl rfl) ?_ | refine WL.y rfl (Yld.conv tab_ok rfl rfl rfl (by simp only [In]; omega)) ?_ | refine WL.y rfl (Yld.quo rfl rfl (by omega) (by omega) (by simp only [In]; omega)) ?_ | refine WL.y rfl (Yld.rem rfl rfl (by omega) (by omega)) ?_ | refine WL.y rfl (Yld.shl rfl rfl (by omega)) ?_ | refine WL.y rfl (Yld.shr rfl rfl (by omega)) ?_ | refine WL.y rfl (Yld.pure tab_ok rfl) ?_)
    have hkt : ktab.length = 64 := rfl
    refine WC.cond rfl (fun h => ?_) (fun h => ?_)
    · simp only [decide_eq_true_eq] at h
      repeat (first | refine WC.seq ?_ | refine WC.block ?_ | refine WC.region ?_ | refine WL.nil ?_ | refine WX.then_normal ?_ | refine WC.skip ?_ | refine WC.exit ?_ | refine WC.ret ?_ | refine WX.then_exit ?_ | refine WX.then_ret ?_ | refine WX.block_normal ?_ | refine WX.block_ret ?_ | refine WX.block_same ?_ | refine WX.block_other rfl ?_ | refine WC.label ?_ | refine WC.scope ?_ | refine WX.scope_normal ?_ | refine WX.scope_ret ?_ | refine WX.scope_exit ?_ | refine WL.y rfl (Yld.add rfl rfl (by simp only [In]; omega)) ?_ | refine WL.y rfl (Yld.sub rfl rfl (by simp only [In]; omega)) ?_ | refine WL.y rfl (Yld.mul rfl rfl (by simp only [In]; omega)) ?_ | refine WL.y rfl (Yld.convB tab_ok rfl rfl rfl rfl) ?_ | refine WL.y rfl (Yld.conv tab_ok rfl rfl rfl (by simp only [In]; omega)) ?_ | refine WL.y rfl (Yld.quo rfl rfl (by omega) (by omega) (by simp only [In]; omega)) ?_ | refine WL.y rfl (Yld.rem rfl rfl (by omega) (by omega)) ?_ | refine WL.y rfl (Yld.shl rfl rfl (by omega)) ?_ | refine WL.y rfl (Yld.shr rfl rfl (by omega)) ?_ | refine WL.y rfl (Yld.pure tab_ok rfl) ?_)
      refine WC.quiet mixed (by kernel_rfl) ?_
      repeat (first | refine WQ.y rfl (Yld.bloadm 0 tab_ok hh8 rfl rfl (by omega)) ?_ | refine WQ.y rfl (Yld.aaddr tab_ok rfl rfl rfl (by omega) (by omega)) ?_ | refine WQ.y rfl (Yld.add rfl rfl (by simp only [In]; omega)) ?_ | refine WQ.y rfl (Yld.sub rfl rfl (by simp only [In]; omega)) ?_ | refine WQ.y rfl (Yld.mul rfl rfl (by simp only [In]; omega)) ?_ | refine WQ.y rfl (Yld.convB tab_ok rfl rfl rfl rfl) ?_ | refine WQ.y rfl (Yld.conv tab_ok rfl rfl rfl (by simp only [In]; omega)) ?_ | refine WQ.y rfl (Yld.quo rfl rfl (by omega) (by omega) (by simp only [In]; omega)) ?_ | refine WQ.y rfl (Yld.rem rfl rfl (by omega) (by omega)) ?_ | refine WQ.y rfl (Yld.shl rfl rfl (by omega)) ?_ | refine WQ.y rfl (Yld.shr rfl rfl (by omega)) ?_ | refine WQ.y rfl (Yld.pure tab_ok rfl) ?_)
      refine WQ.nil ?_
      repeat (first | refine WC.seq ?_ | refine WC.block ?_ | refine WC.region ?_ | refine WL.nil ?_ | refine WX.then_normal ?_ | refine WC.skip ?_ | refine WC.exit ?_ | refine WC.ret ?_ | refine WX.then_exit ?_ | refine WX.then_ret ?_ | refine WX.block_normal ?_ | refine WX.block_ret ?_ | refine WX.block_same ?_ | refine WX.block_other rfl ?_ | refine WC.label ?_ | refine WC.scope ?_ | refine WX.scope_normal ?_ | refine WX.scope_ret ?_ | refine WX.scope_exit ?_ | refine WL.y rfl (Yld.add rfl rfl (by simp only [In]; omega)) ?_ | refine WL.y rfl (Yld.sub rfl rfl (by simp only [In]; omega)) ?_ | refine WL.y rfl (Yld.mul rfl rfl (by simp only [In]; omega)) ?_ | refine WL.y rfl (Yld.convB tab_ok rfl rfl rfl rfl) ?_ | refine WL.y rfl (Yld.conv tab_ok rfl rfl rfl (by simp only [In]; omega)) ?_ | refine WL.y rfl (Yld.quo rfl rfl (by omega) (by omega) (by simp only [In]; omega)) ?_ | refine WL.y rfl (Yld.rem rfl rfl (by omega) (by omega)) ?_ | refine WL.y rfl (Yld.shl rfl rfl (by omega)) ?_ | refine WL.y rfl (Yld.shr rfl rfl (by omega)) ?_ | refine WL.y rfl (Yld.pure tab_ok rfl) ?_)
      refine WC.quiet mixed (by kernel_rfl) ?_
      repeat (first | refine WQ.y rfl (Yld.bloadm 0 tab_ok hh8 rfl rfl (by omega)) ?_ | refine WQ.y rfl (Yld.bloadm 0 tab_ok hk8 rfl rfl (by omega)) ?_ | refine WQ.y rfl (Yld.bloadm 0 tab_ok hw8 rfl rfl (by omega)) ?_ | refine WQ.y rfl (Yld.aaddr tab_ok rfl rfl rfl (by omega) (by omega)) ?_ | refine WQ.call rfl rfl (right_fn _ _ _ (by omega) (by omega)) ?_ | refine WQ.y rfl (Yld.add rfl rfl (by simp only [In]; omega)) ?_ | refine WQ.y rfl (Yld.sub rfl rfl (by simp only [In]; omega)) ?_ | refine WQ.y rfl (Yld.mul rfl rfl (by simp only [In]; omega)) ?_ | refine WQ.y rfl (Yld.convB tab_ok rfl rfl rfl rfl) ?_ | refine WQ.y rfl (Yld.conv tab_ok rfl rfl rfl (by simp only [In]; omega)) ?_ | refine WQ.y rfl (Yld.quo rfl rfl (by omega) (by omega) (by simp only [In]; omega)) ?_ | refine WQ.y rfl (Yld.rem rfl rfl (by omega) (by omega)) ?_ | refine WQ.y rfl (Yld.shl rfl rfl (by omega)) ?_ | refine WQ.y rfl (Yld.shr rfl rfl (by omega)) ?_ | refine WQ.y rfl (Yld.pure tab_ok rfl) ?_)
      refine WQ.nil ?_
      have ei : 0 + (i : Int).toNat * 1 = i := by omega
      rw [ei]
      repeat (first | refine WC.seq ?_ | refine WC.block ?_ | refine WC.region ?_ | refine WL.nil ?_ | refine WX.then_normal ?_ | refine WC.skip ?_ | refine WC.exit ?_ | refine WC.ret ?_ | refine WX.then_exit ?_ | refine WX.then_ret ?_ | refine WX.block_normal ?_ | refine WX.block_ret ?_ | refine WX.block_same ?_ | refine WX.block_other rfl ?_ | refine WC.label ?_ | refine WC.scope ?_ | refine WX.scope_normal ?_ | refine WX.scope_ret ?_ | refine WX.scope_exit ?_ | refine WL.y rfl (Yld.add rfl rfl (by simp only [In]; omega)) ?_ | refine WL.y rfl (Yld.sub rfl rfl (by simp only [In]; omega)) ?_ | refine WL.y rfl (Yld.mul rfl rfl (by simp only [In]; omega)) ?_ | refine WL.y rfl (Yld.convB tab_ok rfl rfl rfl rfl) ?_ | refine WL.y rfl (Yld.conv tab_ok rfl rfl rfl (by simp only [In]; omega)) ?_ | refine WL.y rfl (Yld.quo rfl rfl (by omega) (by omega) (by simp only [In]; omega)) ?_ | refine WL.y rfl (Yld.rem rfl rfl (by omega) (by omega)) ?_ | refine WL.y rfl (Yld.shl rfl rfl (by omega)) ?_ | refine WL.y rfl (Yld.shr rfl rfl (by omega)) ?_ | refine WL.y rfl (Yld.pure tab_ok rfl) ?_)
      refine WC.quiet mixed (by kernel_rfl) ?_
      repeat (first | refine WQ.y rfl (Yld.bloadm 0 tab_ok hh8 rfl rfl (by omega)) ?_ | refine WQ.y rfl (Yld.aaddr tab_ok rfl rfl rfl (by omega) (by omega)) ?_ | refine WQ.call rfl rfl (right_fn _ _ _ (by omega) (by omega)) ?_ | refine WQ.y rfl (Yld.add rfl rfl (by simp only [In]; omega)) ?_ | refine WQ.y rfl (Yld.sub rfl rfl (by simp only [In]; omega)) ?_ | refine WQ.y rfl (Yld.mul rfl rfl (by simp only [In]; omega)) ?_ | refine WQ.y rfl (Yld.convB tab_ok rfl rfl rfl rfl) ?_ | refine WQ.y rfl (Yld.conv tab_ok rfl rfl rfl (by simp only [In]; omega)) ?_ | refine WQ.y rfl (Yld.quo rfl rfl (by omega) (by omega) (by simp only [In]; omega)) ?_ | refine WQ.y rfl (Yld.rem rfl rfl (by omega) (by omega)) ?_ | refine WQ.y rfl (Yld.shl rfl rfl (by omega)) ?_ | refine WQ.y rfl (Yld.shr rfl rfl (by omega)) ?_ | refine WQ.y rfl (Yld.pure tab_ok rfl) ?_)
      refine WQ.nil ?_
      repeat (first | refine WL.y rfl (Yld.bloadm 0 tab_ok hh8 rfl rfl (by omega)) ?_ | refine WL.y rfl (Yld.aaddr tab_ok rfl rfl rfl (by omega) (by omega)) ?_ | refine WC.seq ?_ | refine WC.block ?_ | refine WC.region ?_ | refine WL.nil ?_ | refine WX.then_normal ?_ | refine WC.skip ?_ | refine WC.exit ?_ | refine WC.ret ?_ | refine WX.then_exit ?_ | refine WX.then_ret ?_ | refine WX.block_normal ?_ | refine WX.block_ret ?_ | refine WX.block_same ?_ | refine WX.block_other rfl ?_ | refine WC.label ?_ | refine WC.scope ?_ | refine WX.scope_normal ?_ | refine WX.scope_ret ?_ | refine WX.scope_exit ?_ | refine WL.y rfl (Yld.add rfl rfl (by simp only [In]; omega)) ?_ | refine WL.y rfl (Yld.sub rfl rfl (by simp only [In]; omega)) ?_ | refine WL.y rfl (Yld.mul rfl rfl (by simp only [In]; omega)) ?_ | refine WL.y rfl (Yld.convB tab_ok rfl rfl rfl rfl) ?_ | refine WL.y rfl (Yld.conv tab_ok rfl rfl rfl (by simp only [In]; omega)) ?_ | refine WL.y rfl (Yld.quo rfl rfl (by omega) (by omega) (by simp only [In]; omega)) ?_ | refine WL.y rfl (Yld.rem rfl rfl (by omega) (by omega)) ?_ | refine WL.y rfl (Yld.shl rfl rfl (by omega)) ?_ | refine WL.y rfl (Yld.shr rfl rfl (by omega)) ?_ | refine WL.y rfl (Yld.pure tab_ok rfl) ?_)
      refine WL.y rfl (Yld.arr (us := (hnext ws (hAt ws hs i) i).map vu) tab_ok rfl zero197 rfl rfl (oneM One.u _) rfl) ?_
      refine WL.storeW tab_ok rfl rfl rfl (oneM One.u _) hh8 (by simp [hl8]) rfl (fun w9 hh9 hg9 => ?_)
      repeat (first | refine WC.seq ?_ | refine WC.block ?_ | refine WC.region ?_ | refine WL.nil ?_ | refine WX.then_normal ?_ | refine WC.skip ?_ | refine WC.exit ?_ | refine WC.ret ?_ | refine WX.then_exit ?_ | refine WX.then_ret ?_ | refine WX.block_normal ?_ | refine WX.block_ret ?_ | refine WX.block_same ?_ | refine WX.block_other rfl ?_ | refine WC.label ?_ | refine WC.scope ?_ | refine WX.scope_normal ?_ | refine WX.scope_ret ?_ | refine WX.scope_exit ?_ | refine WL.y rfl (Yld.add rfl rfl (by simp only [In]; omega)) ?_ | refine WL.y rfl (Yld.sub rfl rfl (by simp only [In]; omega)) ?_ | refine WL.y rfl (Yld.mul rfl rfl (by simp only [In]; omega)) ?_ | refine WL.y rfl (Yld.convB tab_ok rfl rfl rfl rfl) ?_ | refine WL.y rfl (Yld.conv tab_ok rfl rfl rfl (by simp only [In]; omega)) ?_ | refine WL.y rfl (Yld.quo rfl rfl (by omega) (by omega) (by simp only [In]; omega)) ?_ | refine WL.y rfl (Yld.rem rfl rfl (by omega) (by omega)) ?_ | refine WL.y rfl (Yld.shl rfl rfl (by omega)) ?_ | refine WL.y rfl (Yld.shr rfl rfl (by omega)) ?_ | refine WL.y rfl (Yld.pure tab_ok rfl) ?_)
      exact WX.round (i + 1) ⟨by omega, hh9, gr_trans hg8 hg9⟩ (by omega) (by repeat (first | exact Sub.nil | refine Sub.cons rfl ?_))
    · simp only [decide_eq_false_iff_not] at h
      obtain rfl : i = 64 := by omega
      have hB8 : Bl w8 g 199 (hs.map vu ++ tl) := hB7.keep hg8 (fun e => by injection e with e; omega)
      have hgr8 : w.grownBy w8 none := gr_new hgr7 hg8 (by have := hgr7.size; omega)
      have hhl8 := hh8.lt
      have hgl8 := hB8.lt
      have hne : g ≠ gh := by omega
      clear hg8 hh7 hk7 hw7 hB7 hgr7 hk8 hw8
      have hfin : mixS hs bs = sumAt hs (hAt ws hs 64) 8 := by rw [mixS, hws]
      generalize hAt ws hs 64 = hv at *
      repeat (first | refine WC.seq ?_ | refine WC.block ?_ | refine WC.region ?_ | refine WL.nil ?_ | refine WX.then_normal ?_ | refine WC.skip ?_ | refine WC.exit ?_ | refine WC.ret ?_ | refine WX.then_exit ?_ | refine WX.then_ret ?_ | refine WX.block_normal ?_ | refine WX.block_ret ?_ | refine WX.block_same ?_ | refine WX.block_other rfl ?_ | refine WC.label ?_ | refine WC.scope ?_ | refine WX.scope_normal ?_ | refine WX.scope_ret ?_ | refine WX.scope_exit ?_ | refine WL.y rfl (Yld.add rfl rfl (by simp only [In]; omega)) ?_ | refine WL.y rfl (Yld.sub rfl rfl (by simp only [In]; omega)) ?_ | refine WL.y rfl (Yld.mul rfl rfl (by simp only [In]; omega)) ?_ | refine WL.y rfl (Yld.convB tab_ok rfl rfl rfl rfl) ?_ | refine WL.y rfl (Yld.conv tab_ok rfl rfl rfl (by simp only [In]; omega)) ?_ | refine WL.y rfl (Yld.quo rfl rfl (by omega) (by omega) (by simp only [In]; omega)) ?_ | refine WL.y rfl (Yld.rem rfl rfl (by omega) (by omega)) ?_ | refine WL.y rfl (Yld.shl rfl rfl (by omega)) ?_ | refine WL.y rfl (Yld.shr rfl rfl (by omega)) ?_ | refine WL.y rfl (Yld.pure tab_ok rfl) ?_)
      refine WC.loop (S := Nat) (fun i => 8 - i) (fun i => [(181, vi i), (9, .pointer (some ⟨gh, 0, none⟩)), (0, .pointer (some ⟨g, 0, none⟩))])
        (fun i w' => i ≤ 8 ∧ Bl w' g 199 ((sumAt hs hv i).map vu ++ tl) ∧ w8.grownBy w' (some g)) 0 ⟨by omega, hB8, gr_refl _ _⟩ (by repeat (first | exact Sub.nil | refine Sub.cons rfl ?_)) (fun i w9 ⟨hi, hB9, hg9⟩ => ?_)
      have hsl := sumAt_len hs hv i
      have hh9 : Bl w9 gh 197 (hv.map vu) := hh8.keep hg9 (fun e => by injection e with e; omega)
      repeat (first | refine WC.seq ?_ | refine WC.block ?_ | refine WC.region ?_ | refine WL.nil ?_ | refine WX.then_normal ?_ | refine WC.skip ?_ | refine WC.exit ?_ | refine WC.ret ?_ | refine WX.then_exit ?_ | refine WX.then_ret ?_ | refine WX.block_normal ?_ | refine WX.block_ret ?_ | refine WX.block_same ?_ | refine WX.block_other rfl ?_ | refine WC.label ?_ | refine WC.scope ?_ | refine WX.scope_normal ?_ | refine WX.scope_ret ?_ | refine WX.scope_exit ?_ | refine WL.y rfl (Yld.add rfl rfl (by simp only [In]; omega)) ?_ | refine WL.y rfl (Yld.sub rfl rfl (by simp only [In]; omega)) ?_ | refine WL.y rfl (Yld.mul rfl rfl (by simp only [In]; omega)) ?_ | refine WL.y rfl (Yld.convB tab_ok rfl rfl rfl rfl) ?_ | refine WL.y rfl (Yld.conv tab_ok rfl rfl rfl (by simp only [In]; omega)) ?_ | refine WL.y rfl (Yld.quo rfl rfl (by omega) (by omega) (by simp only [In]; omega)) ?_ | refine WL.y rfl (Yld.rem rfl rfl (by omega) (by omega)) ?_ | refine WL.y rfl (Yld.shl rfl rfl (by omega)) ?_ | refine WL.y rfl (Yld.shr rfl rfl (by omega)) ?_ | refine WL.y rfl (Yld.pure tab_ok rfl) ?_)
      refine WC.cond rfl (fun h => ?_) (fun h => ?_)
      · simp only [decide_eq_true_eq] at h
        have ei : 0 + 0 + (i : Int).toNat * 1 = i := by omega
        have hv9 : ((sumAt hs hv i).map vu ++ tl)[0 + 0 + (i : Int).toNat * 1]? = some (vu ((sumAt hs hv i).getD i 0)) := by
          rw [ei, List.getElem?_append_left (by rw [List.length_map]; omega)]
          simp [List.getD, show i < (sumAt hs hv i).length by omega]
        repeat (first | refine WC.seq ?_ | refine WC.block ?_ | refine WC.region ?_ | refine WL.nil ?_ | refine WX.then_normal ?_ | refine WC.skip ?_ | refine WC.exit ?_ | refine WC.ret ?_ | refine WX.then_exit ?_ | refine WX.then_ret ?_ | refine WX.block_normal ?_ | refine WX.block_ret ?_ | refine WX.block_same ?_ | refine WX.block_other rfl ?_ | refine WC.label ?_ | refine WC.scope ?_ | refine WX.scope_normal ?_ | refine WX.scope_ret ?_ | refine WX.scope_exit ?_ | refine WL.y rfl (Yld.add rfl rfl (by simp only [In]; omega)) ?_ | refine WL.y rfl (Yld.sub rfl rfl (by simp only [In]; omega)) ?_ | refine WL.y rfl (Yld.mul rfl rfl (by simp only [In]; omega)) ?_ | refine WL.y rfl (Yld.convB tab_ok rfl rfl rfl rfl) ?_ | refine WL.y rfl (Yld.conv tab_ok rfl rfl rfl (by simp only [In]; omega)) ?_ | refine WL.y rfl (Yld.quo rfl rfl (by omega) (by omega) (by simp only [In]; omega)) ?_ | refine WL.y rfl (Yld.rem rfl rfl (by omega) (by omega)) ?_ | refine WL.y rfl (Yld.shl rfl rfl (by omega)) ?_ | refine WL.y rfl (Yld.shr rfl rfl (by omega)) ?_ | refine WL.y rfl (Yld.pure tab_ok rfl) ?_)
        refine WC.tail 13 mixed (by kernel_rfl) ?_
        repeat (first | refine WQ.y rfl (Yld.bload tab_ok hB9 rfl rfl hv9) ?_ | refine WQ.y rfl (Yld.bloadm 0 tab_ok hh9 rfl rfl (by omega)) ?_ | refine WQ.y rfl (Yld.aaddr tab_ok rfl rfl rfl (by omega) (by omega)) ?_ | refine WQ.y rfl (Yld.add rfl rfl (by simp only [In]; omega)) ?_ | refine WQ.y rfl (Yld.sub rfl rfl (by simp only [In]; omega)) ?_ | refine WQ.y rfl (Yld.mul rfl rfl (by simp only [In]; omega)) ?_ | refine WQ.y rfl (Yld.convB tab_ok rfl rfl rfl rfl) ?_ | refine WQ.y rfl (Yld.conv tab_ok rfl rfl rfl (by simp only [In]; omega)) ?_ | refine WQ.y rfl (Yld.quo rfl rfl (by omega) (by omega) (by simp only [In]; omega)) ?_ | refine WQ.y rfl (Yld.rem rfl rfl (by omega) (by omega)) ?_ | refine WQ.y rfl (Yld.shl rfl rfl (by omega)) ?_ | refine WQ.y rfl (Yld.shr rfl rfl (by omega)) ?_ | refine WQ.y rfl (Yld.pure tab_ok rfl) ?_)
        refine WQ.tail ?_
        refine WL.store1 one130 rfl rfl rfl hB9 (by simp; omega) (fun w10 hB10 hg10 => ?_)
        repeat (first | refine WC.seq ?_ | refine WC.block ?_ | refine WC.region ?_ | refine WL.nil ?_ | refine WX.then_normal ?_ | refine WC.skip ?_ | refine WC.exit ?_ | refine WC.ret ?_ | refine WX.then_exit ?_ | refine WX.then_ret ?_ | refine WX.block_normal ?_ | refine WX.block_ret ?_ | refine WX.block_same ?_ | refine WX.block_other rfl ?_ | refine WC.label ?_ | refine WC.scope ?_ | refine WX.scope_normal ?_ | refine WX.scope_ret ?_ | refine WX.scope_exit ?_ | refine WL.y rfl (Yld.add rfl rfl (by simp only [In]; omega)) ?_ | refine WL.y rfl (Yld.sub rfl rfl (by simp only [In]; omega)) ?_ | refine WL.y rfl (Yld.mul rfl rfl (by simp only [In]; omega)) ?_ | refine WL.y rfl (Yld.convB tab_ok rfl rfl rfl rfl) ?_ | refine WL.y rfl (Yld.conv tab_ok rfl rfl rfl (by simp only [In]; omega)) ?_ | refine WL.y rfl (Yld.quo rfl rfl (by omega) (by omega) (by simp only [In]; omega)) ?_ | refine WL.y rfl (Yld.rem rfl rfl (by omega) (by omega)) ?_ | refine WL.y rfl (Yld.shl rfl rfl (by omega)) ?_ | refine WL.y rfl (Yld.shr rfl rfl (by omega)) ?_ | refine WL.y rfl (Yld.pure tab_ok rfl) ?_)
        refine WX.round (i + 1) ⟨by omega, ?_, gr_trans hg9 hg10⟩ (by omega) (by repeat (first | exact Sub.nil | refine Sub.cons rfl ?_))
        rw [ei] at hB10
        rw [sumAt, List.map_set]
        rw [List.set_append_left _ _ (by rw [List.length_map]; omega)] at hB10
        exact hB10
      · simp only [decide_eq_false_iff_not] at h
        obtain rfl : i = 8 := by omega
        repeat (first | refine WC.seq ?_ | refine WC.block ?_ | refine WC.region ?_ | refine WL.nil ?_ | refine WX.then_normal ?_ | refine WC.skip ?_ | refine WC.exit ?_ | refine WC.ret ?_ | refine WX.then_exit ?_ | refine WX.then_ret ?_ | refine WX.block_normal ?_ | refine WX.block_ret ?_ | refine WX.block_same ?_ | refine WX.block_other rfl ?_ | refine WC.label ?_ | refine WC.scope ?_ | refine WX.scope_normal ?_ | refine WX.scope_ret ?_ | refine WX.scope_exit ?_ | refine WL.y rfl (Yld.add rfl rfl (by simp only [In]; omega)) ?_ | refine WL.y rfl (Yld.sub rfl rfl (by simp only [In]; omega)) ?_ | refine WL.y rfl (Yld.mul rfl rfl (by simp only [In]; omega)) ?_ | refine WL.y rfl (Yld.convB tab_ok rfl rfl rfl rfl) ?_ | refine WL.y rfl (Yld.conv tab_ok rfl rfl rfl (by simp only [In]; omega)) ?_ | refine WL.y rfl (Yld.quo rfl rfl (by omega) (by omega) (by simp only [In]; omega)) ?_ | refine WL.y rfl (Yld.rem rfl rfl (by omega) (by omega)) ?_ | refine WL.y rfl (Yld.shl rfl rfl (by omega)) ?_ | refine WL.y rfl (Yld.shr rfl rfl (by omega)) ?_ | refine WL.y rfl (Yld.pure tab_ok rfl) ?_)
        refine WX.end0 rfl ⟨rfl, ?_, ?_⟩
        · rw [hfin]; exact hB9
        · exact gr_trans (gr_some hgr8 (some g)) hg9
end Go.Proofs.YtjhipfdbionpoaaGreatDoor

 namespace Go.Proofs.YtjhipfdbionpoaaGreatDoor
open Go Go.RowKit
attribute [local irreducible] WL WC WX WQ Yld Fn

theorem grow_fn (m : Int) (w : World) (h0 : 0 ≤ m) (h1 : m ≤ 1073741824) :
    Fn Tryz.prog 172 ⟨[.slice none 0 0, vi m]⟩ w fun v w' => ∃ A c, v = .slice A 0 c ∧ Own vb w' w.heap.size 5 A c [] ∧ w.grownBy w' none ∧ (∀ g, blk A = some g → w.heap.size ≤ g) := by
  refine Fn.enter (by kernel_rfl) Tryz.func172 rfl Tryz.ntmps172 rfl ?_
  repeat (first | refine WC.seq ?_ | refine WC.block ?_ | refine WC.region ?_ | refine WL.nil ?_ | refine WX.then_normal ?_ | refine WC.skip ?_ | refine WC.exit ?_ | refine WC.ret ?_ | refine WX.then_exit ?_ | refine WX.then_ret ?_ | refine WX.block_normal ?_ | refine WX.block_ret ?_ | refine WX.block_same ?_ | refine WX.block_other rfl ?_ | refine WC.label ?_ | refine WC.scope ?_ | refine WX.scope_normal ?_ | refine WX.scope_ret ?_ | refine WX.scope_exit ?_ | refine WL.y rfl (Yld.add rfl rfl (by simp only [In]; omega)) ?_ | refine WL.y rfl (Yld.sub rfl rfl (by simp only [In]; omega)) ?_ | refine WL.y rfl (Yld.mul rfl rfl (by simp only [In]; omega)) ?_ | refine WL.y rfl (Yld.convB tab_ok rfl rfl rfl rfl) ?_ | refine WL.y rfl (Yld.conv tab_ok rfl rfl rfl (by simp only [In]; omega)) ?_ | refine WL.y rfl (Yld.quo rfl rfl (by omega) (by omega) (by simp only [In]; omega)) ?_ | refine WL.y rfl (Yld.rem rfl rfl (by omega) (by omega)) ?_ | refine WL.y rfl (Yld.shl rfl rfl (by omega)) ?_ | refine WL.y rfl (Yld.shr rfl rfl (by omega)) ?_ | refine WL.y rfl (Yld.pure tab_ok rfl) ?_)
  refine WC.cond rfl (fun h => ?_) (fun h => ?_)
  · simp only [decide_eq_true_eq] at h
    omega
  · repeat (first | refine WC.seq ?_ | refine WC.block ?_ | refine WC.region ?_ | refine WL.nil ?_ | refine WX.then_normal ?_ | refine WC.skip ?_ | refine WC.exit ?_ | refine WC.ret ?_ | refine WX.then_exit ?_ | refine WX.then_ret ?_ | refine WX.block_normal ?_ | refine WX.block_ret ?_ | refine WX.block_same ?_ | refine WX.block_other rfl ?_ | refine WC.label ?_ | refine WC.scope ?_ | refine WX.scope_normal ?_ | refine WX.scope_ret ?_ | refine WX.scope_exit ?_ | refine WL.y rfl (Yld.add rfl rfl (by simp only [In]; omega)) ?_ | refine WL.y rfl (Yld.sub rfl rfl (by simp only [In]; omega)) ?_ | refine WL.y rfl (Yld.mul rfl rfl (by simp only [In]; omega)) ?_ | refine WL.y rfl (Yld.convB tab_ok rfl rfl rfl rfl) ?_ | refine WL.y rfl (Yld.conv tab_ok rfl rfl rfl (by simp only [In]; omega)) ?_ | refine WL.y rfl (Yld.quo rfl rfl (by omega) (by omega) (by simp only [In]; omega)) ?_ | refine WL.y rfl (Yld.rem rfl rfl (by omega) (by omega)) ?_ | refine WL.y rfl (Yld.shl rfl rfl (by omega)) ?_ | refine WL.y rfl (Yld.shr rfl rfl (by omega)) ?_ | refine WL.y rfl (Yld.pure tab_ok rfl) ?_)
    have e : m - (((0 : Nat) : Int) - ((0 : Nat) : Int)) = m := by omega
    rw [e]
    refine WC.cond rfl (fun h => ?_) (fun h => ?_)
    · repeat (first | refine WC.seq ?_ | refine WC.block ?_ | refine WC.region ?_ | refine WL.nil ?_ | refine WX.then_normal ?_ | refine WC.skip ?_ | refine WC.exit ?_ | refine WC.ret ?_ | refine WX.then_exit ?_ | refine WX.then_ret ?_ | refine WX.block_normal ?_ | refine WX.block_ret ?_ | refine WX.block_same ?_ | refine WX.block_other rfl ?_ | refine WC.label ?_ | refine WC.scope ?_ | refine WX.scope_normal ?_ | refine WX.scope_ret ?_ | refine WX.scope_exit ?_ | refine WL.y rfl (Yld.add rfl rfl (by simp only [In]; omega)) ?_ | refine WL.y rfl (Yld.sub rfl rfl (by simp only [In]; omega)) ?_ | refine WL.y rfl (Yld.mul rfl rfl (by simp only [In]; omega)) ?_ | refine WL.y rfl (Yld.convB tab_ok rfl rfl rfl rfl) ?_ | refine WL.y rfl (Yld.conv tab_ok rfl rfl rfl (by simp only [In]; omega)) ?_ | refine WL.y rfl (Yld.quo rfl rfl (by omega) (by omega) (by simp only [In]; omega)) ?_ | refine WL.y rfl (Yld.rem rfl rfl (by omega) (by omega)) ?_ | refine WL.y rfl (Yld.shl rfl rfl (by omega)) ?_ | refine WL.y rfl (Yld.shr rfl rfl (by omega)) ?_ | refine WL.y rfl (Yld.pure tab_ok rfl) ?_)
      refine WL.ocut (f := vb) (lo := none) tab_ok rfl rfl (Own.nil vb w w.heap.size 5) rfl rfl rfl rfl (by omega) (by omega) (fun _ => ?_)
      repeat (first | refine WC.seq ?_ | refine WC.block ?_ | refine WC.region ?_ | refine WL.nil ?_ | refine WX.then_normal ?_ | refine WC.skip ?_ | refine WC.exit ?_ | refine WC.ret ?_ | refine WX.then_exit ?_ | refine WX.then_ret ?_ | refine WX.block_normal ?_ | refine WX.block_ret ?_ | refine WX.block_same ?_ | refine WX.block_other rfl ?_ | refine WC.label ?_ | refine WC.scope ?_ | refine WX.scope_normal ?_ | refine WX.scope_ret ?_ | refine WX.scope_exit ?_ | refine WL.y rfl (Yld.add rfl rfl (by simp only [In]; omega)) ?_ | refine WL.y rfl (Yld.sub rfl rfl (by simp only [In]; omega)) ?_ | refine WL.y rfl (Yld.mul rfl rfl (by simp only [In]; omega)) ?_ | refine WL.y rfl (Yld.convB tab_ok rfl rfl rfl rfl) ?_ | refine WL.y rfl (Yld.conv tab_ok rfl rfl rfl (by simp only [In]; omega)) ?_ | refine WL.y rfl (Yld.quo rfl rfl (by omega) (by omega) (by simp only [In]; omega)) ?_ | refine WL.y rfl (Yld.rem rfl rfl (by omega) (by omega)) ?_ | refine WL.y rfl (Yld.shl rfl rfl (by omega)) ?_ | refine WL.y rfl (Yld.shr rfl rfl (by omega)) ?_ | refine WL.y rfl (Yld.pure tab_ok rfl) ?_)
      refine WL.appendZ (f := vb) (z := 0) tab_ok rfl rfl rfl zero5 rfl rfl h0 (by omega) (by omega) (Nat.le_refl _) (fun A' c' w' hO hg hf => ?_)
      repeat (first | refine WC.seq ?_ | refine WC.block ?_ | refine WC.region ?_ | refine WL.nil ?_ | refine WX.then_normal ?_ | refine WC.skip ?_ | refine WC.exit ?_ | refine WC.ret ?_ | refine WX.then_exit ?_ | refine WX.then_ret ?_ | refine WX.block_normal ?_ | refine WX.block_ret ?_ | refine WX.block_same ?_ | refine WX.block_other rfl ?_ | refine WC.label ?_ | refine WC.scope ?_ | refine WX.scope_normal ?_ | refine WX.scope_ret ?_ | refine WX.scope_exit ?_ | refine WL.y rfl (Yld.add rfl rfl (by simp only [In]; omega)) ?_ | refine WL.y rfl (Yld.sub rfl rfl (by simp only [In]; omega)) ?_ | refine WL.y rfl (Yld.mul rfl rfl (by simp only [In]; omega)) ?_ | refine WL.y rfl (Yld.convB tab_ok rfl rfl rfl rfl) ?_ | refine WL.y rfl (Yld.conv tab_ok rfl rfl rfl (by simp only [In]; omega)) ?_ | refine WL.y rfl (Yld.quo rfl rfl (by omega) (by omega) (by simp only [In]; omega)) ?_ | refine WL.y rfl (Yld.rem rfl rfl (by omega) (by omega)) ?_ | refine WL.y rfl (Yld.shl rfl rfl (by omega)) ?_ | refine WL.y rfl (Yld.shr rfl rfl (by omega)) ?_ | refine WL.y rfl (Yld.pure tab_ok rfl) ?_)
      refine WL.ocut (lo := none) tab_ok rfl rfl hO rfl (by simp) rfl rfl (by omega) (by omega) (fun hO2 => ?_)
      repeat (first | refine WC.seq ?_ | refine WC.block ?_ | refine WC.region ?_ | refine WL.nil ?_ | refine WX.then_normal ?_ | refine WC.skip ?_ | refine WC.exit ?_ | refine WC.ret ?_ | refine WX.then_exit ?_ | refine WX.then_ret ?_ | refine WX.block_normal ?_ | refine WX.block_ret ?_ | refine WX.block_same ?_ | refine WX.block_other rfl ?_ | refine WC.label ?_ | refine WC.scope ?_ | refine WX.scope_normal ?_ | refine WX.scope_ret ?_ | refine WX.scope_exit ?_ | refine WL.y rfl (Yld.add rfl rfl (by simp only [In]; omega)) ?_ | refine WL.y rfl (Yld.sub rfl rfl (by simp only [In]; omega)) ?_ | refine WL.y rfl (Yld.mul rfl rfl (by simp only [In]; omega)) ?_ | refine WL.y rfl (Yld.convB tab_ok rfl rfl rfl rfl) ?_ | refine WL.y rfl (Yld.conv tab_ok rfl rfl rfl (by simp only [In]; omega)) ?_ | refine WL.y rfl (Yld.quo rfl rfl (by omega) (by omega) (by simp only [In]; omega)) ?_ | refine WL.y rfl (Yld.rem rfl rfl (by omega) (by omega)) ?_ | refine WL.y rfl (Yld.shl rfl rfl (by omega)) ?_ | refine WL.y rfl (Yld.shr rfl rfl (by omega)) ?_ | refine WL.y rfl (Yld.pure tab_ok rfl) ?_)
      exact WX.ret1 rfl rfl ⟨A', c', rfl, hO2, hg, hf⟩
    · repeat (first | refine WC.seq ?_ | refine WC.block ?_ | refine WC.region ?_ | refine WL.nil ?_ | refine WX.then_normal ?_ | refine WC.skip ?_ | refine WC.exit ?_ | refine WC.ret ?_ | refine WX.then_exit ?_ | refine WX.then_ret ?_ | refine WX.block_normal ?_ | refine WX.block_ret ?_ | refine WX.block_same ?_ | refine WX.block_other rfl ?_ | refine WC.label ?_ | refine WC.scope ?_ | refine WX.scope_normal ?_ | refine WX.scope_ret ?_ | refine WX.scope_exit ?_ | refine WL.y rfl (Yld.add rfl rfl (by simp only [In]; omega)) ?_ | refine WL.y rfl (Yld.sub rfl rfl (by simp only [In]; omega)) ?_ | refine WL.y rfl (Yld.mul rfl rfl (by simp only [In]; omega)) ?_ | refine WL.y rfl (Yld.convB tab_ok rfl rfl rfl rfl) ?_ | refine WL.y rfl (Yld.conv tab_ok rfl rfl rfl (by simp only [In]; omega)) ?_ | refine WL.y rfl (Yld.quo rfl rfl (by omega) (by omega) (by simp only [In]; omega)) ?_ | refine WL.y rfl (Yld.rem rfl rfl (by omega) (by omega)) ?_ | refine WL.y rfl (Yld.shl rfl rfl (by omega)) ?_ | refine WL.y rfl (Yld.shr rfl rfl (by omega)) ?_ | refine WL.y rfl (Yld.pure tab_ok rfl) ?_)
      exact WX.ret1 rfl rfl ⟨none, 0, rfl, Own.nil _ _ _ _, gr_refl _ _, fun g hg => by simp [blk] at hg⟩
theorem clone_fn (A : Option Addr) (c : Nat) (bs : List UInt8) (w : World) (hR : Rd vb w A c bs) (hl : bs.length ≤ 1073741824) :
    Fn Tryz.prog 154 ⟨[.slice A bs.length c]⟩ w fun v w' => ∃ A' c', v = .slice A' bs.length c' ∧ Own vb w' w.heap.size 5 A' c' bs ∧ w.grownBy w' none ∧ (∀ g, blk A' = some g → w.heap.size ≤ g) := by
  refine Fn.enter (by kernel_rfl) Tryz.func154 rfl Tryz.ntmps154 rfl ?_
  repeat (first | refine WC.seq ?_ | refine WC.block ?_ | refine WC.region ?_ | refine WL.nil ?_ | refine WX.then_normal ?_ | refine WC.skip ?_ | refine WC.exit ?_ | refine WC.ret ?_ | refine WX.then_exit ?_ | refine WX.then_ret ?_ | refine WX.block_normal ?_ | refine WX.block_ret ?_ | refine WX.block_same ?_ | refine WX.block_other rfl ?_ | refine WC.label ?_ | refine WC.scope ?_ | refine WX.scope_normal ?_ | refine WX.scope_ret ?_ | refine WX.scope_exit ?_ | refine WL.y rfl (Yld.add rfl rfl (by simp only [In]; omega)) ?_ | refine WL.y rfl (Yld.sub rfl rfl (by simp only [In]; omega)) ?_ | refine WL.y rfl (Yld.mul rfl rfl (by simp only [In]; omega)) ?_ | refine WL.y rfl (Yld.convB tab_ok rfl rfl rfl rfl) ?_ | refine WL.y rfl (Yld.conv tab_ok rfl rfl rfl (by simp only [In]; omega)) ?_ | refine WL.y rfl (Yld.quo rfl rfl (by omega) (by omega) (by simp only [In]; omega)) ?_ | refine WL.y rfl (Yld.rem rfl rfl (by omega) (by omega)) ?_ | refine WL.y rfl (Yld.shl rfl rfl (by omega)) ?_ | refine WL.y rfl (Yld.shr rfl rfl (by omega)) ?_ | refine WL.y rfl (Yld.pure tab_ok rfl) ?_)
  refine WL.y rfl (Yld.eqnil tab_ok rfl rfl rfl) ?_
  repeat (first | refine WC.seq ?_ | refine WC.block ?_ | refine WC.region ?_ | refine WL.nil ?_ | refine WX.then_normal ?_ | refine WC.skip ?_ | refine WC.exit ?_ | refine WC.ret ?_ | refine WX.then_exit ?_ | refine WX.then_ret ?_ | refine WX.block_normal ?_ | refine WX.block_ret ?_ | refine WX.block_same ?_ | refine WX.block_other rfl ?_ | refine WC.label ?_ | refine WC.scope ?_ | refine WX.scope_normal ?_ | refine WX.scope_ret ?_ | refine WX.scope_exit ?_ | refine WL.y rfl (Yld.add rfl rfl (by simp only [In]; omega)) ?_ | refine WL.y rfl (Yld.sub rfl rfl (by simp only [In]; omega)) ?_ | refine WL.y rfl (Yld.mul rfl rfl (by simp only [In]; omega)) ?_ | refine WL.y rfl (Yld.convB tab_ok rfl rfl rfl rfl) ?_ | refine WL.y rfl (Yld.conv tab_ok rfl rfl rfl (by simp only [In]; omega)) ?_ | refine WL.y rfl (Yld.quo rfl rfl (by omega) (by omega) (by simp only [In]; omega)) ?_ | refine WL.y rfl (Yld.rem rfl rfl (by omega) (by omega)) ?_ | refine WL.y rfl (Yld.shl rfl rfl (by omega)) ?_ | refine WL.y rfl (Yld.shr rfl rfl (by omega)) ?_ | refine WL.y rfl (Yld.pure tab_ok rfl) ?_)
  refine WC.cond rfl (fun h => ?_) (fun h => ?_)
  · have hA : A = none := by simpa using h
    subst hA
    have hb : bs = [] := by
      rcases List.eq_nil_or_concat bs with h | ⟨l, b, h⟩
      · exact h
      · obtain ⟨ad, h2, _⟩ := hR.cells (by rw [h]; simp)
        cases h2
    subst hb
    repeat (first | refine WC.seq ?_ | refine WC.block ?_ | refine WC.region ?_ | refine WL.nil ?_ | refine WX.then_normal ?_ | refine WC.skip ?_ | refine WC.exit ?_ | refine WC.ret ?_ | refine WX.then_exit ?_ | refine WX.then_ret ?_ | refine WX.block_normal ?_ | refine WX.block_ret ?_ | refine WX.block_same ?_ | refine WX.block_other rfl ?_ | refine WC.label ?_ | refine WC.scope ?_ | refine WX.scope_normal ?_ | refine WX.scope_ret ?_ | refine WX.scope_exit ?_ | refine WL.y rfl (Yld.add rfl rfl (by simp only [In]; omega)) ?_ | refine WL.y rfl (Yld.sub rfl rfl (by simp only [In]; omega)) ?_ | refine WL.y rfl (Yld.mul rfl rfl (by simp only [In]; omega)) ?_ | refine WL.y rfl (Yld.convB tab_ok rfl rfl rfl rfl) ?_ | refine WL.y rfl (Yld.conv tab_ok rfl rfl rfl (by simp only [In]; omega)) ?_ | refine WL.y rfl (Yld.quo rfl rfl (by omega) (by omega) (by simp only [In]; omega)) ?_ | refine WL.y rfl (Yld.rem rfl rfl (by omega) (by omega)) ?_ | refine WL.y rfl (Yld.shl rfl rfl (by omega)) ?_ | refine WL.y rfl (Yld.shr rfl rfl (by omega)) ?_ | refine WL.y rfl (Yld.pure tab_ok rfl) ?_)
    exact WX.ret1 rfl rfl ⟨none, 0, rfl, Own.nil _ _ _ _, gr_refl _ _, fun g hg => by simp [blk] at hg⟩
  · repeat (first | refine WC.seq ?_ | refine WC.block ?_ | refine WC.region ?_ | refine WL.nil ?_ | refine WX.then_normal ?_ | refine WC.skip ?_ | refine WC.exit ?_ | refine WC.ret ?_ | refine WX.then_exit ?_ | refine WX.then_ret ?_ | refine WX.block_normal ?_ | refine WX.block_ret ?_ | refine WX.block_same ?_ | refine WX.block_other rfl ?_ | refine WC.label ?_ | refine WC.scope ?_ | refine WX.scope_normal ?_ | refine WX.scope_ret ?_ | refine WX.scope_exit ?_ | refine WL.y rfl (Yld.add rfl rfl (by simp only [In]; omega)) ?_ | refine WL.y rfl (Yld.sub rfl rfl (by simp only [In]; omega)) ?_ | refine WL.y rfl (Yld.mul rfl rfl (by simp only [In]; omega)) ?_ | refine WL.y rfl (Yld.convB tab_ok rfl rfl rfl rfl) ?_ | refine WL.y rfl (Yld.conv tab_ok rfl rfl rfl (by simp only [In]; omega)) ?_ | refine WL.y rfl (Yld.quo rfl rfl (by omega) (by omega) (by simp only [In]; omega)) ?_ | refine WL.y rfl (Yld.rem rfl rfl (by omega) (by omega)) ?_ | refine WL.y rfl (Yld.shl rfl rfl (by omega)) ?_ | refine WL.y rfl (Yld.shr rfl rfl (by omega)) ?_ | refine WL.y rfl (Yld.pure tab_ok rfl) ?_)
    refine WL.lit (us := []) tab_ok rfl rfl rfl (by simp) rfl (by omega) (fun g w1 hB hg hlt => ?_)
    repeat (first | refine WC.seq ?_ | refine WC.block ?_ | refine WC.region ?_ | refine WL.nil ?_ | refine WX.then_normal ?_ | refine WC.skip ?_ | refine WC.exit ?_ | refine WC.ret ?_ | refine WX.then_exit ?_ | refine WX.then_ret ?_ | refine WX.block_normal ?_ | refine WX.block_ret ?_ | refine WX.block_same ?_ | refine WX.block_other rfl ?_ | refine WC.label ?_ | refine WC.scope ?_ | refine WX.scope_normal ?_ | refine WX.scope_ret ?_ | refine WX.scope_exit ?_ | refine WL.y rfl (Yld.add rfl rfl (by simp only [In]; omega)) ?_ | refine WL.y rfl (Yld.sub rfl rfl (by simp only [In]; omega)) ?_ | refine WL.y rfl (Yld.mul rfl rfl (by simp only [In]; omega)) ?_ | refine WL.y rfl (Yld.convB tab_ok rfl rfl rfl rfl) ?_ | refine WL.y rfl (Yld.conv tab_ok rfl rfl rfl (by simp only [In]; omega)) ?_ | refine WL.y rfl (Yld.quo rfl rfl (by omega) (by omega) (by simp only [In]; omega)) ?_ | refine WL.y rfl (Yld.rem rfl rfl (by omega) (by omega)) ?_ | refine WL.y rfl (Yld.shl rfl rfl (by omega)) ?_ | refine WL.y rfl (Yld.shr rfl rfl (by omega)) ?_ | refine WL.y rfl (Yld.pure tab_ok rfl) ?_)
    have hO : Own vb w1 w.heap.size 5 (some ⟨g, 0, none⟩) 0 [] := ⟨by simp, .inr ⟨g, 0, #[], rfl, hlt, hB, by simp, by simp [maxLen], rfl, rfl⟩⟩
    refine WL.append tab_ok rfl rfl One.b hO rfl rfl (hR.grown hg) rfl rfl (by simp; omega) (by simp [maxLen]; omega) hg.size (fun A' c' w' hO' hg' hf => ?_)
    repeat (first | refine WC.seq ?_ | refine WC.block ?_ | refine WC.region ?_ | refine WL.nil ?_ | refine WX.then_normal ?_ | refine WC.skip ?_ | refine WC.exit ?_ | refine WC.ret ?_ | refine WX.then_exit ?_ | refine WX.then_ret ?_ | refine WX.block_normal ?_ | refine WX.block_ret ?_ | refine WX.block_same ?_ | refine WX.block_other rfl ?_ | refine WC.label ?_ | refine WC.scope ?_ | refine WX.scope_normal ?_ | refine WX.scope_ret ?_ | refine WX.scope_exit ?_ | refine WL.y rfl (Yld.add rfl rfl (by simp only [In]; omega)) ?_ | refine WL.y rfl (Yld.sub rfl rfl (by simp only [In]; omega)) ?_ | refine WL.y rfl (Yld.mul rfl rfl (by simp only [In]; omega)) ?_ | refine WL.y rfl (Yld.convB tab_ok rfl rfl rfl rfl) ?_ | refine WL.y rfl (Yld.conv tab_ok rfl rfl rfl (by simp only [In]; omega)) ?_ | refine WL.y rfl (Yld.quo rfl rfl (by omega) (by omega) (by simp only [In]; omega)) ?_ | refine WL.y rfl (Yld.rem rfl rfl (by omega) (by omega)) ?_ | refine WL.y rfl (Yld.shl rfl rfl (by omega)) ?_ | refine WL.y rfl (Yld.shr rfl rfl (by omega)) ?_ | refine WL.y rfl (Yld.pure tab_ok rfl) ?_)
    have hs1 := hg.size
    refine WX.ret1 rfl rfl ⟨A', c', rfl, hO', gr_new hg hg' hlt, fun q hq => ?_⟩
    rcases hf q hq with h | h
    · simp only [blk, Option.map_some, Option.some.injEq] at h
      omega
    · omega
end Go.Proofs.YtjhipfdbionpoaaGreatDoor

 namespace Go.Proofs.YtjhipfdbionpoaaGreatDoor
open Go Go.RowKit
attribute [local irreducible] WL WC WX WQ Yld Fn

/-- a slice of bytes, as_ a value: where it lies, its capacity, its bytes -/
def vS (x : Option Addr × Nat × List UInt8) : Value := .slice x.1 x.2.2.length x.2.1
theorem One.S : One vS := fun _ => rfl
def catS (l : List (Option Addr × Nat × List UInt8)) : List UInt8 := l.flatMap (·.2.2)
theorem catS_take (l : List (Option Addr × Nat × List UInt8)) (k : Nat) (h : k < l.length) : catS (l.take (k + 1)) = catS (l.take k) ++ (l.getD k (none, 0, [])).2.2 := by
  unfold catS
  rw [List.take_succ_eq_append_getElem h, List.flatMap_append]
  simp [List.getD, h]
theorem catS_le (l : List (Option Addr × Nat × List UInt8)) (k : Nat) : (catS (l.take k)).length ≤ (catS l).length := by
  unfold catS
  conv => rhs; rw [← List.take_append_drop k l, List.flatMap_append, List.length_append]
  omega
theorem concat_fn (A : Option Addr) (c : Nat) (l : List (Option Addr × Nat × List UInt8)) (w : World) (hR : Rd vS w A c l) (hl : ∀ x ∈ l, Rd vb w x.1 x.2.1 x.2.2) (hs : (catS l).length ≤ 1073741824) :
    Fn Tryz.prog 152 ⟨[.slice A l.length c]⟩ w fun v w' => ∃ A' c', v = .slice A' (catS l).length c' ∧ Own vb w' w.heap.size 5 A' c' (catS l) ∧ w.grownBy w' none := by
  have hml : l.length ≤ 9223372036854775807 := by have h1 := hR.cap; have h2 := hR.max; unfold maxLen at h2; omega
  refine Fn.enter (by kernel_rfl) Tryz.func152 rfl Tryz.ntmps152 rfl ?_
  repeat (first | refine WC.seq ?_ | refine WC.block ?_ | refine WC.region ?_ | refine WL.nil ?_ | refine WX.then_normal ?_ | refine WC.skip ?_ | refine WC.exit ?_ | refine WC.ret ?_ | refine WX.then_exit ?_ | refine WX.then_ret ?_ | refine WX.block_normal ?_ | refine WX.block_ret ?_ | refine WX.block_same ?_ | refine WX.block_other rfl ?_ | refine WC.label ?_ | refine WC.scope ?_ | refine WX.scope_normal ?_ | refine WX.scope_ret ?_ | refine WX.scope_exit ?_ | refine WL.y rfl (Yld.add rfl rfl (by simp only [In]; omega)) ?_ | refine WL.y rfl (Yld.sub rfl rfl (by simp only [In]; omega)) ?_ | refine WL.y rfl (Yld.mul rfl rfl (by simp only [In]; omega)) ?_ | refine WL.y rfl (Yld.convB tab_ok rfl rfl rfl rfl) ?_ | refine WL.y rfl (Yld.conv tab_ok rfl rfl rfl (by simp only [In]; omega)) ?_ | refine WL.y rfl (Yld.quo rfl rfl (by omega) (by omega) (by simp only [In]; omega)) ?_ | refine WL.y rfl (Yld.rem rfl rfl (by omega) (by omega)) ?_ | refine WL.y rfl (Yld.shl rfl rfl (by omega)) ?_ | refine WL.y rfl (Yld.shr rfl rfl (by omega)) ?_ | refine WL.y rfl (Yld.pure tab_ok rfl) ?_)
  refine WC.loop (S := Nat) (fun i => l.length - i) (fun i => [(11, vi i), (3, vi (catS (l.take i)).length), (10, vi l.length), (9, .slice A l.length c), (0, .slice A l.length c)])
    (fun i w' => i ≤ l.length ∧ w' = w) 0 ⟨by omega, rfl⟩ (by repeat (first | exact Sub.nil | refine Sub.cons rfl ?_)) (fun i w' ⟨hi, hw⟩ => ?_)
  subst hw
  have hc1 := catS_le l i
  repeat (first | refine WC.seq ?_ | refine WC.block ?_ | refine WC.region ?_ | refine WL.nil ?_ | refine WX.then_normal ?_ | refine WC.skip ?_ | refine WC.exit ?_ | refine WC.ret ?_ | refine WX.then_exit ?_ | refine WX.then_ret ?_ | refine WX.block_normal ?_ | refine WX.block_ret ?_ | refine WX.block_same ?_ | refine WX.block_other rfl ?_ | refine WC.label ?_ | refine WC.scope ?_ | refine WX.scope_normal ?_ | refine WX.scope_ret ?_ | refine WX.scope_exit ?_ | refine WL.y rfl (Yld.add rfl rfl (by simp only [In]; omega)) ?_ | refine WL.y rfl (Yld.sub rfl rfl (by simp only [In]; omega)) ?_ | refine WL.y rfl (Yld.mul rfl rfl (by simp only [In]; omega)) ?_ | refine WL.y rfl (Yld.convB tab_ok rfl rfl rfl rfl) ?_ | refine WL.y rfl (Yld.conv tab_ok rfl rfl rfl (by simp only [In]; omega)) ?_ | refine WL.y rfl (Yld.quo rfl rfl (by omega) (by omega) (by simp only [In]; omega)) ?_ | refine WL.y rfl (Yld.rem rfl rfl (by omega) (by omega)) ?_ | refine WL.y rfl (Yld.shl rfl rfl (by omega)) ?_ | refine WL.y rfl (Yld.shr rfl rfl (by omega)) ?_ | refine WL.y rfl (Yld.pure tab_ok rfl) ?_)
  refine WC.cond rfl (fun h => ?_) (fun h => ?_)
  · simp only [decide_eq_true_eq] at h
    have hlt : i < l.length := by omega
    have hc2 := catS_le l (i + 1)
    have hc3 := catS_take l i hlt
    have hc4 : (catS (l.take (i + 1))).length = (catS (l.take i)).length + (l.getD i (none, 0, [])).2.2.length := by rw [hc3, List.length_append]
    repeat (first | refine WL.y rfl (Yld.iaddrN tab_ok hR rfl rfl rfl rfl (by omega)) ?_ | refine WL.y rfl (Yld.iload (none, 0, []) tab_ok hR rfl rfl (by omega)) ?_ | refine WC.seq ?_ | refine WC.block ?_ | refine WC.region ?_ | refine WL.nil ?_ | refine WX.then_normal ?_ | refine WC.skip ?_ | refine WC.exit ?_ | refine WC.ret ?_ | refine WX.then_exit ?_ | refine WX.then_ret ?_ | refine WX.block_normal ?_ | refine WX.block_ret ?_ | refine WX.block_same ?_ | refine WX.block_other rfl ?_ | refine WC.label ?_ | refine WC.scope ?_ | refine WX.scope_normal ?_ | refine WX.scope_ret ?_ | refine WX.scope_exit ?_ | refine WL.y rfl (Yld.add rfl rfl (by simp only [In]; omega)) ?_ | refine WL.y rfl (Yld.sub rfl rfl (by simp only [In]; omega)) ?_ | refine WL.y rfl (Yld.mul rfl rfl (by simp only [In]; omega)) ?_ | refine WL.y rfl (Yld.convB tab_ok rfl rfl rfl rfl) ?_ | refine WL.y rfl (Yld.conv tab_ok rfl rfl rfl (by simp only [In]; omega)) ?_ | refine WL.y rfl (Yld.quo rfl rfl (by omega) (by omega) (by simp only [In]; omega)) ?_ | refine WL.y rfl (Yld.rem rfl rfl (by omega) (by omega)) ?_ | refine WL.y rfl (Yld.shl rfl rfl (by omega)) ?_ | refine WL.y rfl (Yld.shr rfl rfl (by omega)) ?_ | refine WL.y rfl (Yld.pure tab_ok rfl) ?_)
    refine WC.cond rfl (fun h2 => ?_) (fun h2 => ?_)
    · simp only [decide_eq_true_eq] at h2
      omega
    · repeat (first | refine WC.seq ?_ | refine WC.block ?_ | refine WC.region ?_ | refine WL.nil ?_ | refine WX.then_normal ?_ | refine WC.skip ?_ | refine WC.exit ?_ | refine WC.ret ?_ | refine WX.then_exit ?_ | refine WX.then_ret ?_ | refine WX.block_normal ?_ | refine WX.block_ret ?_ | refine WX.block_same ?_ | refine WX.block_other rfl ?_ | refine WC.label ?_ | refine WC.scope ?_ | refine WX.scope_normal ?_ | refine WX.scope_ret ?_ | refine WX.scope_exit ?_ | refine WL.y rfl (Yld.add rfl rfl (by simp only [In]; omega)) ?_ | refine WL.y rfl (Yld.sub rfl rfl (by simp only [In]; omega)) ?_ | refine WL.y rfl (Yld.mul rfl rfl (by simp only [In]; omega)) ?_ | refine WL.y rfl (Yld.convB tab_ok rfl rfl rfl rfl) ?_ | refine WL.y rfl (Yld.conv tab_ok rfl rfl rfl (by simp only [In]; omega)) ?_ | refine WL.y rfl (Yld.quo rfl rfl (by omega) (by omega) (by simp only [In]; omega)) ?_ | refine WL.y rfl (Yld.rem rfl rfl (by omega) (by omega)) ?_ | refine WL.y rfl (Yld.shl rfl rfl (by omega)) ?_ | refine WL.y rfl (Yld.shr rfl rfl (by omega)) ?_ | refine WL.y rfl (Yld.pure tab_ok rfl) ?_)
      refine WX.round (i + 1) ⟨by omega, rfl⟩ (by omega) ?_
      refine Sub.cons rfl (Sub.cons ?_ (by repeat (first | exact Sub.nil | refine Sub.cons rfl ?_)))
      rw [hc4]
      rfl
  · simp only [decide_eq_false_iff_not] at h
    obtain rfl : i = l.length := by omega
    rw [List.take_of_length_le (Nat.le_refl _)] at *
    repeat (first | refine WC.seq ?_ | refine WC.block ?_ | refine WC.region ?_ | refine WL.nil ?_ | refine WX.then_normal ?_ | refine WC.skip ?_ | refine WC.exit ?_ | refine WC.ret ?_ | refine WX.then_exit ?_ | refine WX.then_ret ?_ | refine WX.block_normal ?_ | refine WX.block_ret ?_ | refine WX.block_same ?_ | refine WX.block_other rfl ?_ | refine WC.label ?_ | refine WC.scope ?_ | refine WX.scope_normal ?_ | refine WX.scope_ret ?_ | refine WX.scope_exit ?_ | refine WL.y rfl (Yld.add rfl rfl (by simp only [In]; omega)) ?_ | refine WL.y rfl (Yld.sub rfl rfl (by simp only [In]; omega)) ?_ | refine WL.y rfl (Yld.mul rfl rfl (by simp only [In]; omega)) ?_ | refine WL.y rfl (Yld.convB tab_ok rfl rfl rfl rfl) ?_ | refine WL.y rfl (Yld.conv tab_ok rfl rfl rfl (by simp only [In]; omega)) ?_ | refine WL.y rfl (Yld.quo rfl rfl (by omega) (by omega) (by simp only [In]; omega)) ?_ | refine WL.y rfl (Yld.rem rfl rfl (by omega) (by omega)) ?_ | refine WL.y rfl (Yld.shl rfl rfl (by omega)) ?_ | refine WL.y rfl (Yld.shr rfl rfl (by omega)) ?_ | refine WL.y rfl (Yld.pure tab_ok rfl) ?_)
    refine WL.call rfl rfl (grow_fn (catS l).length w' (by omega) (by omega)) ?_
    rintro _ w1 ⟨A1, c1, rfl, hO1, hg1, _⟩
    have hR1 := hR.grown hg1
    repeat (first | refine WC.seq ?_ | refine WC.block ?_ | refine WC.region ?_ | refine WL.nil ?_ | refine WX.then_normal ?_ | refine WC.skip ?_ | refine WC.exit ?_ | refine WC.ret ?_ | refine WX.then_exit ?_ | refine WX.then_ret ?_ | refine WX.block_normal ?_ | refine WX.block_ret ?_ | refine WX.block_same ?_ | refine WX.block_other rfl ?_ | refine WC.label ?_ | refine WC.scope ?_ | refine WX.scope_normal ?_ | refine WX.scope_ret ?_ | refine WX.scope_exit ?_ | refine WL.y rfl (Yld.add rfl rfl (by simp only [In]; omega)) ?_ | refine WL.y rfl (Yld.sub rfl rfl (by simp only [In]; omega)) ?_ | refine WL.y rfl (Yld.mul rfl rfl (by simp only [In]; omega)) ?_ | refine WL.y rfl (Yld.convB tab_ok rfl rfl rfl rfl) ?_ | refine WL.y rfl (Yld.conv tab_ok rfl rfl rfl (by simp only [In]; omega)) ?_ | refine WL.y rfl (Yld.quo rfl rfl (by omega) (by omega) (by simp only [In]; omega)) ?_ | refine WL.y rfl (Yld.rem rfl rfl (by omega) (by omega)) ?_ | refine WL.y rfl (Yld.shl rfl rfl (by omega)) ?_ | refine WL.y rfl (Yld.shr rfl rfl (by omega)) ?_ | refine WL.y rfl (Yld.pure tab_ok rfl) ?_)
    refine WC.loop (S := Nat × Option Addr × Nat) (fun s => l.length - s.1) (fun s => [(27, vi s.1), (6, .slice s.2.1 (catS (l.take s.1)).length s.2.2), (26, vi l.length), (25, .slice A l.length c)])
      (fun s w2 => s.1 ≤ l.length ∧ Own vb w2 w'.heap.size 5 s.2.1 s.2.2 (catS (l.take s.1)) ∧ w'.grownBy w2 none) (0, A1, c1) ⟨by simp, hO1, hg1⟩ (by repeat (first | exact Sub.nil | refine Sub.cons rfl ?_)) (fun ⟨i, A2, c2⟩ w2 ⟨hi, hO2, hg2⟩ => ?_)
    have hR2 := hR.grown hg2
    have hc1 := catS_le l i
    simp only at hi hO2
    repeat (first | refine WC.seq ?_ | refine WC.block ?_ | refine WC.region ?_ | refine WL.nil ?_ | refine WX.then_normal ?_ | refine WC.skip ?_ | refine WC.exit ?_ | refine WC.ret ?_ | refine WX.then_exit ?_ | refine WX.then_ret ?_ | refine WX.block_normal ?_ | refine WX.block_ret ?_ | refine WX.block_same ?_ | refine WX.block_other rfl ?_ | refine WC.label ?_ | refine WC.scope ?_ | refine WX.scope_normal ?_ | refine WX.scope_ret ?_ | refine WX.scope_exit ?_ | refine WL.y rfl (Yld.add rfl rfl (by simp only [In]; omega)) ?_ | refine WL.y rfl (Yld.sub rfl rfl (by simp only [In]; omega)) ?_ | refine WL.y rfl (Yld.mul rfl rfl (by simp only [In]; omega)) ?_ | refine WL.y rfl (Yld.convB tab_ok rfl rfl rfl rfl) ?_ | refine WL.y rfl (Yld.conv tab_ok rfl rfl rfl (by simp only [In]; omega)) ?_ | refine WL.y rfl (Yld.quo rfl rfl (by omega) (by omega) (by simp only [In]; omega)) ?_ | refine WL.y rfl (Yld.rem rfl rfl (by omega) (by omega)) ?_ | refine WL.y rfl (Yld.shl rfl rfl (by omega)) ?_ | refine WL.y rfl (Yld.shr rfl rfl (by omega)) ?_ | refine WL.y rfl (Yld.pure tab_ok rfl) ?_)
    refine WC.cond rfl (fun h => ?_) (fun h => ?_)
    · simp only [decide_eq_true_eq] at h
      have hlt : i < l.length := by omega
      have hc2 := catS_le l (i + 1)
      have hc3 := catS_take l i hlt
      have hc4 : (catS (l.take (i + 1))).length = (catS (l.take i)).length + (l.getD i (none, 0, [])).2.2.length := by rw [hc3, List.length_append]
      repeat (first | refine WL.y rfl (Yld.iaddrN tab_ok hR2 rfl rfl rfl rfl (by omega)) ?_ | refine WL.y rfl (Yld.iload (none, 0, []) tab_ok hR2 rfl rfl (by omega)) ?_ | refine WC.seq ?_ | refine WC.block ?_ | refine WC.region ?_ | refine WL.nil ?_ | refine WX.then_normal ?_ | refine WC.skip ?_ | refine WC.exit ?_ | refine WC.ret ?_ | refine WX.then_exit ?_ | refine WX.then_ret ?_ | refine WX.block_normal ?_ | refine WX.block_ret ?_ | refine WX.block_same ?_ | refine WX.block_other rfl ?_ | refine WC.label ?_ | refine WC.scope ?_ | refine WX.scope_normal ?_ | refine WX.scope_ret ?_ | refine WX.scope_exit ?_ | refine WL.y rfl (Yld.add rfl rfl (by simp only [In]; omega)) ?_ | refine WL.y rfl (Yld.sub rfl rfl (by simp only [In]; omega)) ?_ | refine WL.y rfl (Yld.mul rfl rfl (by simp only [In]; omega)) ?_ | refine WL.y rfl (Yld.convB tab_ok rfl rfl rfl rfl) ?_ | refine WL.y rfl (Yld.conv tab_ok rfl rfl rfl (by simp only [In]; omega)) ?_ | refine WL.y rfl (Yld.quo rfl rfl (by omega) (by omega) (by simp only [In]; omega)) ?_ | refine WL.y rfl (Yld.rem rfl rfl (by omega) (by omega)) ?_ | refine WL.y rfl (Yld.shl rfl rfl (by omega)) ?_ | refine WL.y rfl (Yld.shr rfl rfl (by omega)) ?_ | refine WL.y rfl (Yld.pure tab_ok rfl) ?_)
      have hx : l.getD i (none, 0, []) ∈ l := by simp [List.getD, hlt]
      have hRx := (hl _ hx).grown hg2
      have hz2 := hg2.size
      refine WL.append tab_ok rfl rfl One.b hO2 rfl rfl hRx rfl rfl (by omega) (by unfold maxLen; omega) hz2 (fun A3 c3 w3 hO3 hg3 hf3 => ?_)
      repeat (first | refine WC.seq ?_ | refine WC.block ?_ | refine WC.region ?_ | refine WL.nil ?_ | refine WX.then_normal ?_ | refine WC.skip ?_ | refine WC.exit ?_ | refine WC.ret ?_ | refine WX.then_exit ?_ | refine WX.then_ret ?_ | refine WX.block_normal ?_ | refine WX.block_ret ?_ | refine WX.block_same ?_ | refine WX.block_other rfl ?_ | refine WC.label ?_ | refine WC.scope ?_ | refine WX.scope_normal ?_ | refine WX.scope_ret ?_ | refine WX.scope_exit ?_ | refine WL.y rfl (Yld.add rfl rfl (by simp only [In]; omega)) ?_ | refine WL.y rfl (Yld.sub rfl rfl (by simp only [In]; omega)) ?_ | refine WL.y rfl (Yld.mul rfl rfl (by simp only [In]; omega)) ?_ | refine WL.y rfl (Yld.convB tab_ok rfl rfl rfl rfl) ?_ | refine WL.y rfl (Yld.conv tab_ok rfl rfl rfl (by simp only [In]; omega)) ?_ | refine WL.y rfl (Yld.quo rfl rfl (by omega) (by omega) (by simp only [In]; omega)) ?_ | refine WL.y rfl (Yld.rem rfl rfl (by omega) (by omega)) ?_ | refine WL.y rfl (Yld.shl rfl rfl (by omega)) ?_ | refine WL.y rfl (Yld.shr rfl rfl (by omega)) ?_ | refine WL.y rfl (Yld.pure tab_ok rfl) ?_)
      refine WX.round (i + 1, A3, c3) ⟨by simp; omega, ?_, ?_⟩ (by simp; omega) ?_
      · simp only [hc3]; exact hO3
      · cases hq : blk A2 with
        | none => rw [hq] at hg3; exact gr_trans hg2 hg3
        | some q => rw [hq] at hg3; exact gr_new hg2 hg3 (hO2.lt hq).1
      · refine Sub.cons rfl (Sub.cons ?_ (by repeat (first | exact Sub.nil | refine Sub.cons rfl ?_)))
        rw [hc3]
        rfl
    · simp only [decide_eq_false_iff_not] at h
      obtain rfl : i = l.length := by omega
      rw [List.take_of_length_le (Nat.le_refl _)] at hO2 ⊢
      repeat (first | refine WC.seq ?_ | refine WC.block ?_ | refine WC.region ?_ | refine WL.nil ?_ | refine WX.then_normal ?_ | refine WC.skip ?_ | refine WC.exit ?_ | refine WC.ret ?_ | refine WX.then_exit ?_ | refine WX.then_ret ?_ | refine WX.block_normal ?_ | refine WX.block_ret ?_ | refine WX.block_same ?_ | refine WX.block_other rfl ?_ | refine WC.label ?_ | refine WC.scope ?_ | refine WX.scope_normal ?_ | refine WX.scope_ret ?_ | refine WX.scope_exit ?_ | refine WL.y rfl (Yld.add rfl rfl (by simp only [In]; omega)) ?_ | refine WL.y rfl (Yld.sub rfl rfl (by simp only [In]; omega)) ?_ | refine WL.y rfl (Yld.mul rfl rfl (by simp only [In]; omega)) ?_ | refine WL.y rfl (Yld.convB tab_ok rfl rfl rfl rfl) ?_ | refine WL.y rfl (Yld.conv tab_ok rfl rfl rfl (by simp only [In]; omega)) ?_ | refine WL.y rfl (Yld.quo rfl rfl (by omega) (by omega) (by simp only [In]; omega)) ?_ | refine WL.y rfl (Yld.rem rfl rfl (by omega) (by omega)) ?_ | refine WL.y rfl (Yld.shl rfl rfl (by omega)) ?_ | refine WL.y rfl (Yld.shr rfl rfl (by omega)) ?_ | refine WL.y rfl (Yld.pure tab_ok rfl) ?_)
      exact WX.ret1 rfl rfl ⟨A2, c2, rfl, hO2, hg2⟩
end Go.Proofs.YtjhipfdbionpoaaGreatDoor

 namespace Go.Proofs.YtjhipfdbionpoaaGreatDoor
open Go Go.RowKit
attribute [local irreducible] WL WC WX WQ Yld Fn

theorem Rd.ofBl {α : Type} {f : α → Value} {w : World} {g : Nat} {e : TypeId} {xs : List α} {m : Nat} (h : Bl w g e (xs.map f)) (hm : xs.length ≤ m) (h63 : m ≤ maxLen) : Rd f w (some ⟨g, 0, none⟩) m xs :=
  ⟨hm, h63, fun _ => ⟨_, rfl, fun j x hj => by rw [Addr.add_mid, Nat.zero_add, h.cell]; simp [hj]⟩⟩
/-- all whole blocks of all are taken in; what is left -/
def absorb : Nat → List Int → List UInt8 → List Int × List UInt8
  | 0, hs, all => (hs, all)
  | m + 1, hs, all => if 64 ≤ all.length then absorb m (mixS hs (all.take 64)) (all.drop 64) else (hs, all)
/-- the state (words, bytes that are left) behind more bytes -/
def wrS (hs : List Int) (r b : List UInt8) : List Int × List UInt8 := absorb (r ++ b).length hs (r ++ b)
structure St (w : World) (g : Nat) (hs : List Int) (r : List UInt8) (n : Int) : Prop where
  len : hs.length = 8
  at_ : ∃ A c, Bl w g 199 (stc hs A c r n) ∧ Rd vb w A c r ∧ blk A ≠ some g
theorem stc_8 {hs : List Int} (hh : hs.length = 8) (A : Option Addr) (c : Nat) (r : List UInt8) (n : Int) : (stc hs A c r n)[8]? = some (.slice A r.length c) := by
  unfold stc; rw [List.getElem?_append_right (by simp [hh])]; simp [hh]
theorem stc_9 {hs : List Int} (hh : hs.length = 8) (A : Option Addr) (c : Nat) (r : List UInt8) (n : Int) : (stc hs A c r n)[9]? = some (.int .u64 n) := by
  unfold stc; rw [List.getElem?_append_right (by simp [hh])]; simp [hh]
theorem stc_set8 {hs : List Int} (hh : hs.length = 8) (A A' : Option Addr) (c c' : Nat) (r r' : List UInt8) (n : Int) : (stc hs A c r n).set 8 (.slice A' r'.length c') = stc hs A' c' r' n := by
  unfold stc; rw [List.set_append_right _ _ (by simp [hh])]; simp [hh]
theorem stc_set9 {hs : List Int} (hh : hs.length = 8) (A : Option Addr) (c : Nat) (r : List UInt8) (n n' : Int) : (stc hs A c r n).set 9 (.int .u64 n') = stc hs A c r n' := by
  unfold stc; rw [List.set_append_right _ _ (by simp [hh])]; simp [hh]
theorem stc_len {hs : List Int} (hh : hs.length = 8) (A : Option Addr) (c : Nat) (r : List UInt8) (n : Int) : (stc hs A c r n).length = 10 := by simp [stc, hh]

theorem write_fn (g : Nat) (hs : List Int) (r : List UInt8) (n : Int) (A2 : Option Addr) (c2 : Nat) (b : List UInt8) (w : World) (hS : St w g hs r n) (hR2 : Rd vb w A2 c2 b) (hA2 : b ≠ [] → blk A2 ≠ some g) (hn : 0 ≤ n) (hn2 : n ≤ 1073741824) (hr : r.length ≤ 64) (hb : b.length ≤ 1000000) :
    Fn Tryz.prog 131 ⟨[.pointer (some ⟨g, 0, none⟩), .slice A2 b.length c2]⟩ w fun v w' => v = .tuple #[] ∧ St w' g (wrS hs r b).1 (wrS hs r b).2 (n + b.length) ∧ w.grownBy w' (some g) := by
  obtain ⟨hh, A, c, hB, hR, hA⟩ := hS
  refine Fn.enter (by kernel_rfl) Tryz.func131 rfl Tryz.ntmps131 rfl ?_
  repeat (first | refine WL.y rfl (Yld.bload tab_ok hB rfl rfl (stc_9 hh A c r n)) ?_ | refine WC.seq ?_ | refine WC.block ?_ | refine WC.region ?_ | refine WL.nil ?_ | refine WX.then_normal ?_ | refine WC.skip ?_ | refine WC.exit ?_ | refine WC.ret ?_ | refine WX.then_exit ?_ | refine WX.then_ret ?_ | refine WX.block_normal ?_ | refine WX.block_ret ?_ | refine WX.block_same ?_ | refine WX.block_other rfl ?_ | refine WC.label ?_ | refine WC.scope ?_ | refine WX.scope_normal ?_ | refine WX.scope_ret ?_ | refine WX.scope_exit ?_ | refine WL.y rfl (Yld.add rfl rfl (by simp only [In]; omega)) ?_ | refine WL.y rfl (Yld.sub rfl rfl (by simp only [In]; omega)) ?_ | refine WL.y rfl (Yld.mul rfl rfl (by simp only [In]; omega)) ?_ | refine WL.y rfl (Yld.convB tab_ok rfl rfl rfl rfl) ?_ | refine WL.y rfl (Yld.conv tab_ok rfl rfl rfl (by simp only [In]; omega)) ?_ | refine WL.y rfl (Yld.quo rfl rfl (by omega) (by omega) (by simp only [In]; omega)) ?_ | refine WL.y rfl (Yld.rem rfl rfl (by omega) (by omega)) ?_ | refine WL.y rfl (Yld.shl rfl rfl (by omega)) ?_ | refine WL.y rfl (Yld.shr rfl rfl (by omega)) ?_ | refine WL.y rfl (Yld.pure tab_ok rfl) ?_)
  refine WL.store1 one131 rfl rfl rfl hB (by rw [stc_len hh]; omega) (fun w1 hB1 hg1 => ?_)
  rw [stc_set9 hh] at hB1
  have hR1 := hR.keep hg1 (fun q hq e => by injection hq with hq; exact hA (by rw [e, hq]))
  have hR21 := hR2.keep' hg1 (fun hb q hq e => by injection hq with hq; exact hA2 hb (by rw [e, hq]))
  repeat (first | refine WL.y rfl (Yld.bload tab_ok hB1 rfl rfl (stc_8 hh A c r _)) ?_ | refine WC.seq ?_ | refine WC.block ?_ | refine WC.region ?_ | refine WL.nil ?_ | refine WX.then_normal ?_ | refine WC.skip ?_ | refine WC.exit ?_ | refine WC.ret ?_ | refine WX.then_exit ?_ | refine WX.then_ret ?_ | refine WX.block_normal ?_ | refine WX.block_ret ?_ | refine WX.block_same ?_ | refine WX.block_other rfl ?_ | refine WC.label ?_ | refine WC.scope ?_ | refine WX.scope_normal ?_ | refine WX.scope_ret ?_ | refine WX.scope_exit ?_ | refine WL.y rfl (Yld.add rfl rfl (by simp only [In]; omega)) ?_ | refine WL.y rfl (Yld.sub rfl rfl (by simp only [In]; omega)) ?_ | refine WL.y rfl (Yld.mul rfl rfl (by simp only [In]; omega)) ?_ | refine WL.y rfl (Yld.convB tab_ok rfl rfl rfl rfl) ?_ | refine WL.y rfl (Yld.conv tab_ok rfl rfl rfl (by simp only [In]; omega)) ?_ | refine WL.y rfl (Yld.quo rfl rfl (by omega) (by omega) (by simp only [In]; omega)) ?_ | refine WL.y rfl (Yld.rem rfl rfl (by omega) (by omega)) ?_ | refine WL.y rfl (Yld.shl rfl rfl (by omega)) ?_ | refine WL.y rfl (Yld.shr rfl rfl (by omega)) ?_ | refine WL.y rfl (Yld.pure tab_ok rfl) ?_)
  refine WL.lit (us := [vS (A, c, r), vS (A2, c2, b)]) tab_ok rfl rfl rfl (by intro u hu; simp at hu; rcases hu with rfl | rfl <;> rfl) rfl (by omega) (fun gl w2 hL2 hg2 hl2 => ?_)
  refine WL.call rfl rfl (concat_fn (some ⟨gl, 0, none⟩) 2 [(A, c, r), (A2, c2, b)] w2 (Rd.ofBl hL2 (by simp) (by simp [maxLen])) (by intro x hx; simp at hx; rcases hx with rfl | rfl; exact hR1.grown hg2; exact hR21.grown hg2) (by simp [catS]; omega)) ?_
  rintro _ w3 ⟨A3, c3, rfl, hO3, hg3⟩
  have hcat : catS [(A, c, r), (A2, c2, b)] = r ++ b := by simp [catS]
  rw [hcat] at hO3 ⊢
  have hB3 := (hB1.keep hg2 (by simp)).keep hg3 (by simp)
  have hz1 := hg1.size
  have hz2 := hg2.size
  have hgl : g < w2.heap.size := by have := hB1.lt; omega
  have hA3 : blk A3 ≠ some g := fun e => by have := (hO3.lt e).1; omega
  have hg13 : w.grownBy w3 (some g) := gr_trans (gr_trans hg1 (gr_some hg2 _)) (gr_some hg3 _)
  have hR3 := hO3.rd
  clear hO3 hL2 hg1 hg2 hg3 hR1 hR21 hB1
  repeat (first | refine WC.seq ?_ | refine WC.block ?_ | refine WC.region ?_ | refine WL.nil ?_ | refine WX.then_normal ?_ | refine WC.skip ?_ | refine WC.exit ?_ | refine WC.ret ?_ | refine WX.then_exit ?_ | refine WX.then_ret ?_ | refine WX.block_normal ?_ | refine WX.block_ret ?_ | refine WX.block_same ?_ | refine WX.block_other rfl ?_ | refine WC.label ?_ | refine WC.scope ?_ | refine WX.scope_normal ?_ | refine WX.scope_ret ?_ | refine WX.scope_exit ?_ | refine WL.y rfl (Yld.add rfl rfl (by simp only [In]; omega)) ?_ | refine WL.y rfl (Yld.sub rfl rfl (by simp only [In]; omega)) ?_ | refine WL.y rfl (Yld.mul rfl rfl (by simp only [In]; omega)) ?_ | refine WL.y rfl (Yld.convB tab_ok rfl rfl rfl rfl) ?_ | refine WL.y rfl (Yld.conv tab_ok rfl rfl rfl (by simp only [In]; omega)) ?_ | refine WL.y rfl (Yld.quo rfl rfl (by omega) (by omega) (by simp only [In]; omega)) ?_ | refine WL.y rfl (Yld.rem rfl rfl (by omega) (by omega)) ?_ | refine WL.y rfl (Yld.shl rfl rfl (by omega)) ?_ | refine WL.y rfl (Yld.shr rfl rfl (by omega)) ?_ | refine WL.y rfl (Yld.pure tab_ok rfl) ?_)
  refine WC.loop (S := Nat × List Int × Option Addr × Nat × List UInt8) (fun s => s.2.2.2.2.length) (fun s => [(4, .slice s.2.2.1 s.2.2.2.2.length s.2.2.2.1), (0, .pointer (some ⟨g, 0, none⟩))])
    (fun s w4 => s.2.1.length = 8 ∧ Bl w4 g 199 (stc s.2.1 A c r (n + b.length)) ∧ Rd vb w4 s.2.2.1 s.2.2.2.1 s.2.2.2.2 ∧ blk s.2.2.1 ≠ some g ∧ s.2.2.2.2.length ≤ s.1 ∧ s.2.2.2.2.length ≤ 2000000 ∧ absorb s.1 s.2.1 s.2.2.2.2 = wrS hs r b ∧ w3.grownBy w4 (some g))
    ((r ++ b).length, hs, A3, c3, r ++ b) ⟨hh, hB3, hR3, hA3, Nat.le_refl _, by simp; omega, rfl, gr_refl _ _⟩ (by repeat (first | exact Sub.nil | refine Sub.cons rfl ?_)) (fun ⟨m, h4, A4, c4, al⟩ w4 ⟨hh4, hB4, hR4, hA4, hm4, hl4, ha4, hg4⟩ => ?_)
  simp only at hh4 hB4 hR4 hA4 hm4 hl4 ha4
  repeat (first | refine WC.seq ?_ | refine WC.block ?_ | refine WC.region ?_ | refine WL.nil ?_ | refine WX.then_normal ?_ | refine WC.skip ?_ | refine WC.exit ?_ | refine WC.ret ?_ | refine WX.then_exit ?_ | refine WX.then_ret ?_ | refine WX.block_normal ?_ | refine WX.block_ret ?_ | refine WX.block_same ?_ | refine WX.block_other rfl ?_ | refine WC.label ?_ | refine WC.scope ?_ | refine WX.scope_normal ?_ | refine WX.scope_ret ?_ | refine WX.scope_exit ?_ | refine WL.y rfl (Yld.add rfl rfl (by simp only [In]; omega)) ?_ | refine WL.y rfl (Yld.sub rfl rfl (by simp only [In]; omega)) ?_ | refine WL.y rfl (Yld.mul rfl rfl (by simp only [In]; omega)) ?_ | refine WL.y rfl (Yld.convB tab_ok rfl rfl rfl rfl) ?_ | refine WL.y rfl (Yld.conv tab_ok rfl rfl rfl (by simp only [In]; omega)) ?_ | refine WL.y rfl (Yld.quo rfl rfl (by omega) (by omega) (by simp only [In]; omega)) ?_ | refine WL.y rfl (Yld.rem rfl rfl (by omega) (by omega)) ?_ | refine WL.y rfl (Yld.shl rfl rfl (by omega)) ?_ | refine WL.y rfl (Yld.shr rfl rfl (by omega)) ?_ | refine WL.y rfl (Yld.pure tab_ok rfl) ?_)
  refine WC.cond rfl (fun h => ?_) (fun h => ?_)
  · simp only [decide_eq_true_eq] at h
    have h64 : 64 ≤ al.length := by omega
    repeat (first | refine WC.seq ?_ | refine WC.block ?_ | refine WC.region ?_ | refine WL.nil ?_ | refine WX.then_normal ?_ | refine WC.skip ?_ | refine WC.exit ?_ | refine WC.ret ?_ | refine WX.then_exit ?_ | refine WX.then_ret ?_ | refine WX.block_normal ?_ | refine WX.block_ret ?_ | refine WX.block_same ?_ | refine WX.block_other rfl ?_ | refine WC.label ?_ | refine WC.scope ?_ | refine WX.scope_normal ?_ | refine WX.scope_ret ?_ | refine WX.scope_exit ?_ | refine WL.y rfl (Yld.add rfl rfl (by simp only [In]; omega)) ?_ | refine WL.y rfl (Yld.sub rfl rfl (by simp only [In]; omega)) ?_ | refine WL.y rfl (Yld.mul rfl rfl (by simp only [In]; omega)) ?_ | refine WL.y rfl (Yld.convB tab_ok rfl rfl rfl rfl) ?_ | refine WL.y rfl (Yld.conv tab_ok rfl rfl rfl (by simp only [In]; omega)) ?_ | refine WL.y rfl (Yld.quo rfl rfl (by omega) (by omega) (by simp only [In]; omega)) ?_ | refine WL.y rfl (Yld.rem rfl rfl (by omega) (by omega)) ?_ | refine WL.y rfl (Yld.shl rfl rfl (by omega)) ?_ | refine WL.y rfl (Yld.shr rfl rfl (by omega)) ?_ | refine WL.y rfl (Yld.pure tab_ok rfl) ?_)
    refine WL.cut tab_ok hR4 rfl rfl rfl rfl rfl rfl (by omega) (by omega) (by omega) (fun A5 c5 hR5 hA5 => ?_)
    refine WL.call rfl rfl (mix_fn g h4 _ A5 c5 _ w4 hh4 hB4 hR5 (by simp; omega)) ?_
    rintro _ w5 ⟨rfl, hB5, hg5⟩
    have hR45 := hR4.keep hg5 (fun q hq e => by injection hq with hq; exact hA4 (by rw [e, hq]))
    repeat (first | refine WC.seq ?_ | refine WC.block ?_ | refine WC.region ?_ | refine WL.nil ?_ | refine WX.then_normal ?_ | refine WC.skip ?_ | refine WC.exit ?_ | refine WC.ret ?_ | refine WX.then_exit ?_ | refine WX.then_ret ?_ | refine WX.block_normal ?_ | refine WX.block_ret ?_ | refine WX.block_same ?_ | refine WX.block_other rfl ?_ | refine WC.label ?_ | refine WC.scope ?_ | refine WX.scope_normal ?_ | refine WX.scope_ret ?_ | refine WX.scope_exit ?_ | refine WL.y rfl (Yld.add rfl rfl (by simp only [In]; omega)) ?_ | refine WL.y rfl (Yld.sub rfl rfl (by simp only [In]; omega)) ?_ | refine WL.y rfl (Yld.mul rfl rfl (by simp only [In]; omega)) ?_ | refine WL.y rfl (Yld.convB tab_ok rfl rfl rfl rfl) ?_ | refine WL.y rfl (Yld.conv tab_ok rfl rfl rfl (by simp only [In]; omega)) ?_ | refine WL.y rfl (Yld.quo rfl rfl (by omega) (by omega) (by simp only [In]; omega)) ?_ | refine WL.y rfl (Yld.rem rfl rfl (by omega) (by omega)) ?_ | refine WL.y rfl (Yld.shl rfl rfl (by omega)) ?_ | refine WL.y rfl (Yld.shr rfl rfl (by omega)) ?_ | refine WL.y rfl (Yld.pure tab_ok rfl) ?_)
    refine WL.cut tab_ok hR45 rfl rfl rfl rfl rfl rfl (by omega) (by omega) (by omega) (fun A6 c6 hR6 hA6 => ?_)
    repeat (first | refine WC.seq ?_ | refine WC.block ?_ | refine WC.region ?_ | refine WL.nil ?_ | refine WX.then_normal ?_ | refine WC.skip ?_ | refine WC.exit ?_ | refine WC.ret ?_ | refine WX.then_exit ?_ | refine WX.then_ret ?_ | refine WX.block_normal ?_ | refine WX.block_ret ?_ | refine WX.block_same ?_ | refine WX.block_other rfl ?_ | refine WC.label ?_ | refine WC.scope ?_ | refine WX.scope_normal ?_ | refine WX.scope_ret ?_ | refine WX.scope_exit ?_ | refine WL.y rfl (Yld.add rfl rfl (by simp only [In]; omega)) ?_ | refine WL.y rfl (Yld.sub rfl rfl (by simp only [In]; omega)) ?_ | refine WL.y rfl (Yld.mul rfl rfl (by simp only [In]; omega)) ?_ | refine WL.y rfl (Yld.convB tab_ok rfl rfl rfl rfl) ?_ | refine WL.y rfl (Yld.conv tab_ok rfl rfl rfl (by simp only [In]; omega)) ?_ | refine WL.y rfl (Yld.quo rfl rfl (by omega) (by omega) (by simp only [In]; omega)) ?_ | refine WL.y rfl (Yld.rem rfl rfl (by omega) (by omega)) ?_ | refine WL.y rfl (Yld.shl rfl rfl (by omega)) ?_ | refine WL.y rfl (Yld.shr rfl rfl (by omega)) ?_ | refine WL.y rfl (Yld.pure tab_ok rfl) ?_)
    have h0 : Int.toNat 64 - Int.toNat 0 = 64 := rfl
    have hm0 : 1 ≤ m := by omega
    obtain ⟨q, rfl⟩ : ∃ q, m = q + 1 := ⟨m - 1, by omega⟩
    have hlen6 : ((al.drop (Int.toNat 64)).take ((al.length : Int).toNat - Int.toNat 64)) = al.drop 64 := by
      rw [List.take_of_length_le]
      · rfl
      · rw [List.length_drop]; omega
    rw [hlen6] at hR6 ⊢
    refine WX.round (q, mixS h4 ((al.drop (Int.toNat 0)).take (Int.toNat 64 - Int.toNat 0)), A6, c6, al.drop 64) ⟨?_, hB5, hR6, fun e => hA4 (hA6 _ e), ?_, ?_, ?_, gr_trans hg4 hg5⟩ ?_ (by repeat (first | exact Sub.nil | refine Sub.cons rfl ?_))
    · rw [mixS_len]; exact hh4
    · simp only [List.length_drop]; omega
    · simp only [List.length_drop]; omega
    · rw [← ha4, absorb, if_pos h64]
      rfl
    · simp only [List.length_drop]; omega
  · simp only [decide_eq_false_iff_not] at h
    have hfin : wrS hs r b = (h4, al) := by
      rw [← ha4]
      cases m with
      | zero => rfl
      | succ q => rw [absorb, if_neg (by omega)]
    repeat (first | refine WC.seq ?_ | refine WC.block ?_ | refine WC.region ?_ | refine WL.nil ?_ | refine WX.then_normal ?_ | refine WC.skip ?_ | refine WC.exit ?_ | refine WC.ret ?_ | refine WX.then_exit ?_ | refine WX.then_ret ?_ | refine WX.block_normal ?_ | refine WX.block_ret ?_ | refine WX.block_same ?_ | refine WX.block_other rfl ?_ | refine WC.label ?_ | refine WC.scope ?_ | refine WX.scope_normal ?_ | refine WX.scope_ret ?_ | refine WX.scope_exit ?_ | refine WL.y rfl (Yld.add rfl rfl (by simp only [In]; omega)) ?_ | refine WL.y rfl (Yld.sub rfl rfl (by simp only [In]; omega)) ?_ | refine WL.y rfl (Yld.mul rfl rfl (by simp only [In]; omega)) ?_ | refine WL.y rfl (Yld.convB tab_ok rfl rfl rfl rfl) ?_ | refine WL.y rfl (Yld.conv tab_ok rfl rfl rfl (by simp only [In]; omega)) ?_ | refine WL.y rfl (Yld.quo rfl rfl (by omega) (by omega) (by simp only [In]; omega)) ?_ | refine WL.y rfl (Yld.rem rfl rfl (by omega) (by omega)) ?_ | refine WL.y rfl (Yld.shl rfl rfl (by omega)) ?_ | refine WL.y rfl (Yld.shr rfl rfl (by omega)) ?_ | refine WL.y rfl (Yld.pure tab_ok rfl) ?_)
    refine WL.store1 one112 rfl rfl rfl hB4 (by rw [stc_len hh4]; omega) (fun w5 hB5 hg5 => ?_)
    rw [stc_set8 hh4] at hB5
    repeat (first | refine WC.seq ?_ | refine WC.block ?_ | refine WC.region ?_ | refine WL.nil ?_ | refine WX.then_normal ?_ | refine WC.skip ?_ | refine WC.exit ?_ | refine WC.ret ?_ | refine WX.then_exit ?_ | refine WX.then_ret ?_ | refine WX.block_normal ?_ | refine WX.block_ret ?_ | refine WX.block_same ?_ | refine WX.block_other rfl ?_ | refine WC.label ?_ | refine WC.scope ?_ | refine WX.scope_normal ?_ | refine WX.scope_ret ?_ | refine WX.scope_exit ?_ | refine WL.y rfl (Yld.add rfl rfl (by simp only [In]; omega)) ?_ | refine WL.y rfl (Yld.sub rfl rfl (by simp only [In]; omega)) ?_ | refine WL.y rfl (Yld.mul rfl rfl (by simp only [In]; omega)) ?_ | refine WL.y rfl (Yld.convB tab_ok rfl rfl rfl rfl) ?_ | refine WL.y rfl (Yld.conv tab_ok rfl rfl rfl (by simp only [In]; omega)) ?_ | refine WL.y rfl (Yld.quo rfl rfl (by omega) (by omega) (by simp only [In]; omega)) ?_ | refine WL.y rfl (Yld.rem rfl rfl (by omega) (by omega)) ?_ | refine WL.y rfl (Yld.shl rfl rfl (by omega)) ?_ | refine WL.y rfl (Yld.shr rfl rfl (by omega)) ?_ | refine WL.y rfl (Yld.pure tab_ok rfl) ?_)
    refine WX.end0 rfl ⟨rfl, ?_, gr_trans (gr_trans hg13 hg4) hg5⟩
    rw [hfin]
    exact ⟨hh4, A4, c4, hB5, hR4.keep hg5 (fun q hq e => by injection hq with hq; exact hA4 (by rw [e, hq])), hA4⟩
end Go.Proofs.YtjhipfdbionpoaaGreatDoor

 namespace Go.Proofs.YtjhipfdbionpoaaGreatDoor
open Go Go.RowKit
attribute [local irreducible] WL WC WX WQ Yld Fn

/-- a number as_ a byte -/
def u8v (z : Int) : UInt8 := UInt8.ofNat (IntKind.u8.wrap z).toNat
theorem vb_u8v (z : Int) : Value.int .u8 (IntKind.u8.wrap z) = vb (u8v z) := by
  unfold vb u8v
  have h : IntKind.u8.wrap z = z % 256 := IntKind.wrap_u8 z
  rw [h]
  congr 1
  rw [UInt8.toNat_ofNat']
  omega
theorem Yld.toB {P : Program} {T : Tab} {N : Nat} {L : Slots} {w : World} {dd : Option Tmp} {ty : TypeId} {pos : String} {af : Array Edge} {s d : TypeId} {k k2 : IntKind} {x : Operand} {z : Int} (hT : T.Ok P) (hs : nk T.int s = some k) (hd : nk T.int d = some .u8) (hx : opv L x = some (.int k2 z)) :
    Yld P N w ⟨dd, .convert s d x, ty, pos, af, none⟩ L (vb (u8v z)) := by
  rw [← vb_u8v]
  exact Yld.pure hT (by simp [pv, hx, o1, pvConv, hs, hd])

def padS (l : List UInt8) : List UInt8 := l ++ List.replicate ((120 - l.length % 64) % 64) 0
theorem padS_step (l : List UInt8) (h : l.length % 64 ≠ 56) : padS (l ++ [0]) = padS l := by
  unfold padS
  have : (120 - l.length % 64) % 64 = (120 - (l ++ [0]).length % 64) % 64 + 1 := by simp; omega
  rw [this, List.replicate_succ]
  simp
def lenB (n : Int) (i : Nat) : UInt8 := u8v (shrV .u64 n (8 * (7 - (i : Int))).toNat)
def lenBs (n : Int) : Nat → List UInt8
  | 0 => []
  | i + 1 => lenBs n i ++ [lenB n i]
theorem lenBs_len (n : Int) : ∀ i, (lenBs n i).length = i
  | 0 => rfl
  | i + 1 => by rw [lenBs, List.length_append, lenBs_len n i]; rfl
def endS (r : List UInt8) (n : Int) : List UInt8 := padS (r ++ [0x80]) ++ lenBs (8 * n) 8
def outAt (h : List Int) : Nat → List UInt8
  | 0 => List.replicate 32 0
  | i + 1 => (outAt h i).set i (u8v (shrV .u32 (h.getD (i / 4) 0) (24 - 8 * ((i : Int) % 4)).toNat))
theorem outAt_len (h : List Int) : ∀ i, (outAt h i).length = 32
  | 0 => rfl
  | i + 1 => by rw [outAt, List.length_set, outAt_len h i]
/-- the digest of a state -/
def sumS (hs : List Int) (r : List UInt8) (n : Int) : List UInt8 := outAt (absorb (endS r n).length hs (endS r n)).1 32
theorem sumS_len (hs : List Int) (r : List UInt8) (n : Int) : (sumS hs r n).length = 32 := outAt_len _ 32
theorem bl_one {α : Type} {f : α → Value} {w : World} {g : Nat} {e : TypeId} {x : α} (h : Bl w g e [f x]) : Rd f w (some ⟨g, 0, none⟩) 1 [x] := Rd.ofBl (xs := [x]) h (by simp) (by simp [maxLen])

set_option maxHeartbeats 1000000 in
theorem sum_fn (g : Nat) (hs : List Int) (r : List UInt8) (n : Int) (w : World) (hS : St w g hs r n) (hn : 0 ≤ n) (hn2 : n ≤ 1073741824) (hr : r.length ≤ 64) :
    Fn Tryz.prog 132 ⟨[.pointer (some ⟨g, 0, none⟩)]⟩ w fun v w' => v = .agg ⟨(sumS hs r n).map vb⟩ ∧ w.grownBy w' none := by
  obtain ⟨hh, A, c, hB, hR, hA⟩ := hS
  have hgw := hB.lt
  refine Fn.enter (by kernel_rfl) Tryz.func132 rfl Tryz.ntmps132 rfl ?_
  repeat (first | refine WC.seq ?_ | refine WC.block ?_ | refine WC.region ?_ | refine WL.nil ?_ | refine WX.then_normal ?_ | refine WC.skip ?_ | refine WC.exit ?_ | refine WC.ret ?_ | refine WX.then_exit ?_ | refine WX.then_ret ?_ | refine WX.block_normal ?_ | refine WX.block_ret ?_ | refine WX.block_same ?_ | refine WX.block_other rfl ?_ | refine WC.label ?_ | refine WC.scope ?_ | refine WX.scope_normal ?_ | refine WX.scope_ret ?_ | refine WX.scope_exit ?_ | refine WL.y rfl (Yld.add rfl rfl (by simp only [In]; omega)) ?_ | refine WL.y rfl (Yld.sub rfl rfl (by simp only [In]; omega)) ?_ | refine WL.y rfl (Yld.mul rfl rfl (by simp only [In]; omega)) ?_ | refine WL.y rfl (Yld.convB tab_ok rfl rfl rfl rfl) ?_ | refine WL.y rfl (Yld.conv tab_ok rfl rfl rfl (by simp only [In]; omega)) ?_ | refine WL.y rfl (Yld.quo rfl rfl (by omega) (by omega) (by simp only [In]; omega)) ?_ | refine WL.y rfl (Yld.rem rfl rfl (by omega) (by omega)) ?_ | refine WL.y rfl (Yld.shl rfl rfl (by omega)) ?_ | refine WL.y rfl (Yld.shr rfl rfl (by omega)) ?_ | refine WL.y rfl (Yld.pure tab_ok rfl) ?_)
  refine WL.alloc rfl zero47 (fun go w1 ho1 hg1 hlo => ?_)
  have hB1 := hB.keep hg1 (by simp)
  have hR1 := hR.grown hg1
  repeat (first | refine WL.y rfl (Yld.bagg (vs := stc hs A c r n) tab_ok hB1 rfl rfl (by rw [List.drop_zero, List.take_of_length_le]; rw [stc_len hh]; exact Nat.le_refl _) (stc_len hh _ _ _ _)) ?_ | refine WC.seq ?_ | refine WC.block ?_ | refine WC.region ?_ | refine WL.nil ?_ | refine WX.then_normal ?_ | refine WC.skip ?_ | refine WC.exit ?_ | refine WC.ret ?_ | refine WX.then_exit ?_ | refine WX.then_ret ?_ | refine WX.block_normal ?_ | refine WX.block_ret ?_ | refine WX.block_same ?_ | refine WX.block_other rfl ?_ | refine WC.label ?_ | refine WC.scope ?_ | refine WX.scope_normal ?_ | refine WX.scope_ret ?_ | refine WX.scope_exit ?_ | refine WL.y rfl (Yld.add rfl rfl (by simp only [In]; omega)) ?_ | refine WL.y rfl (Yld.sub rfl rfl (by simp only [In]; omega)) ?_ | refine WL.y rfl (Yld.mul rfl rfl (by simp only [In]; omega)) ?_ | refine WL.y rfl (Yld.convB tab_ok rfl rfl rfl rfl) ?_ | refine WL.y rfl (Yld.conv tab_ok rfl rfl rfl (by simp only [In]; omega)) ?_ | refine WL.y rfl (Yld.quo rfl rfl (by omega) (by omega) (by simp only [In]; omega)) ?_ | refine WL.y rfl (Yld.rem rfl rfl (by omega) (by omega)) ?_ | refine WL.y rfl (Yld.shl rfl rfl (by omega)) ?_ | refine WL.y rfl (Yld.shr rfl rfl (by omega)) ?_ | refine WL.y rfl (Yld.pure tab_ok rfl) ?_)
  refine WL.alloc rfl zero199 (fun gt w2 ht2 hg2 hlt => ?_)
  refine WL.storeW tab_ok rfl rfl rfl (by intro u hu; simp [stc] at hu; rcases hu with ⟨q, _, rfl⟩ | rfl | rfl <;> rfl) ht2 rfl (stc_len hh _ _ _ _) (fun w3 ht3 hg3 => ?_)
  have hz1 := hg1.size
  have hgolt := ho1.lt
  have hz2 := hg2.size
  have hz3 := hg3.size
  have hgr3 : w.grownBy w3 none := gr_new (gr_trans hg1 hg2) hg3 (by omega)
  have hB3 := (hB1.keep hg2 (by simp)).keep hg3 (fun e => by injection e with e; omega)
  have hgt3 := ht3.lt
  have ho3 := (ho1.keep hg2 (by simp)).keep hg3 (fun e => by injection e with e; have := ho1.lt; omega)
  have hR3 := hR.grown hgr3
  clear hB1 hR1 hg1 hg2 hg3 ht2 ho1
  repeat (first | refine WL.y rfl (Yld.bload tab_ok hB3 rfl rfl (stc_9 hh A c r _)) ?_ | refine WL.y rfl (Yld.bload tab_ok hB3 rfl rfl (stc_8 hh A c r _)) ?_ | refine WC.seq ?_ | refine WC.block ?_ | refine WC.region ?_ | refine WL.nil ?_ | refine WX.then_normal ?_ | refine WC.skip ?_ | refine WC.exit ?_ | refine WC.ret ?_ | refine WX.then_exit ?_ | refine WX.then_ret ?_ | refine WX.block_normal ?_ | refine WX.block_ret ?_ | refine WX.block_same ?_ | refine WX.block_other rfl ?_ | refine WC.label ?_ | refine WC.scope ?_ | refine WX.scope_normal ?_ | refine WX.scope_ret ?_ | refine WX.scope_exit ?_ | refine WL.y rfl (Yld.add rfl rfl (by simp only [In]; omega)) ?_ | refine WL.y rfl (Yld.sub rfl rfl (by simp only [In]; omega)) ?_ | refine WL.y rfl (Yld.mul rfl rfl (by simp only [In]; omega)) ?_ | refine WL.y rfl (Yld.convB tab_ok rfl rfl rfl rfl) ?_ | refine WL.y rfl (Yld.conv tab_ok rfl rfl rfl (by simp only [In]; omega)) ?_ | refine WL.y rfl (Yld.quo rfl rfl (by omega) (by omega) (by simp only [In]; omega)) ?_ | refine WL.y rfl (Yld.rem rfl rfl (by omega) (by omega)) ?_ | refine WL.y rfl (Yld.shl rfl rfl (by omega)) ?_ | refine WL.y rfl (Yld.shr rfl rfl (by omega)) ?_ | refine WL.y rfl (Yld.pure tab_ok rfl) ?_)
  refine WL.call rfl rfl (clone_fn A c r w3 hR3 (by omega)) ?_
  rintro _ w4 ⟨A4, c4, rfl, hO4, hg4, hf4⟩
  refine WL.lit (us := [vb 0x80]) tab_ok rfl rfl rfl (by intro u hu; simp at hu; rw [hu]; rfl) rfl (by omega) (fun gl w5 hL5 hg5 hl5 => ?_)
  refine WL.append tab_ok rfl rfl One.b (hO4.grown hg5) rfl rfl (bl_one (x := 0x80) hL5) rfl rfl (by simp; omega) (by simp [maxLen]; omega) (by have := hg4.size; have := hg5.size; omega) (fun A6 c6 w6 hO6 hg6 hf6 => ?_)
  have hgr6 : w3.grownBy w6 none := by
    cases hq : blk A4 with
    | none => rw [hq] at hg6; exact gr_trans (gr_trans hg4 hg5) hg6
    | some q => rw [hq] at hg6; exact gr_new (gr_trans hg4 hg5) hg6 (hO4.lt hq).1
  clear hO4 hg4 hf4 hL5 hg5 hg6 hf6
  have hp0 : padS (r ++ [0x80]) = padS (r ++ [0x80]) := rfl
  repeat (first | refine WC.seq ?_ | refine WC.block ?_ | refine WC.region ?_ | refine WL.nil ?_ | refine WX.then_normal ?_ | refine WC.skip ?_ | refine WC.exit ?_ | refine WC.ret ?_ | refine WX.then_exit ?_ | refine WX.then_ret ?_ | refine WX.block_normal ?_ | refine WX.block_ret ?_ | refine WX.block_same ?_ | refine WX.block_other rfl ?_ | refine WC.label ?_ | refine WC.scope ?_ | refine WX.scope_normal ?_ | refine WX.scope_ret ?_ | refine WX.scope_exit ?_ | refine WL.y rfl (Yld.add rfl rfl (by simp only [In]; omega)) ?_ | refine WL.y rfl (Yld.sub rfl rfl (by simp only [In]; omega)) ?_ | refine WL.y rfl (Yld.mul rfl rfl (by simp only [In]; omega)) ?_ | refine WL.y rfl (Yld.convB tab_ok rfl rfl rfl rfl) ?_ | refine WL.y rfl (Yld.conv tab_ok rfl rfl rfl (by simp only [In]; omega)) ?_ | refine WL.y rfl (Yld.quo rfl rfl (by omega) (by omega) (by simp only [In]; omega)) ?_ | refine WL.y rfl (Yld.rem rfl rfl (by omega) (by omega)) ?_ | refine WL.y rfl (Yld.shl rfl rfl (by omega)) ?_ | refine WL.y rfl (Yld.shr rfl rfl (by omega)) ?_ | refine WL.y rfl (Yld.pure tab_ok rfl) ?_)
  refine WC.loop (S := Option Addr × Nat × List UInt8) (fun s => (120 - s.2.2.length % 64) % 64) (fun s => [(5, .slice s.1 s.2.2.length s.2.1), (4, .int .u64 (8 * n)), (3, .pointer (some ⟨gt, 0, none⟩)), (2, .pointer (some ⟨go, 0, none⟩))])
    (fun s w7 => Own vb w7 w3.heap.size 5 s.1 s.2.1 s.2.2 ∧ padS s.2.2 = padS (r ++ [0x80]) ∧ s.2.2.length ≤ 128 + 64 ∧ w3.grownBy w7 none)
    (A6, c6, r ++ [0x80]) ⟨hO6, rfl, by simp; omega, hgr6⟩ (by repeat (first | exact Sub.nil | refine Sub.cons rfl ?_)) (fun ⟨A7, c7, e7⟩ w7 ⟨hO7, hp7, hl7, hg7⟩ => ?_)
  simp only at hO7 hp7 hl7
  repeat (first | refine WC.seq ?_ | refine WC.block ?_ | refine WC.region ?_ | refine WL.nil ?_ | refine WX.then_normal ?_ | refine WC.skip ?_ | refine WC.exit ?_ | refine WC.ret ?_ | refine WX.then_exit ?_ | refine WX.then_ret ?_ | refine WX.block_normal ?_ | refine WX.block_ret ?_ | refine WX.block_same ?_ | refine WX.block_other rfl ?_ | refine WC.label ?_ | refine WC.scope ?_ | refine WX.scope_normal ?_ | refine WX.scope_ret ?_ | refine WX.scope_exit ?_ | refine WL.y rfl (Yld.add rfl rfl (by simp only [In]; omega)) ?_ | refine WL.y rfl (Yld.sub rfl rfl (by simp only [In]; omega)) ?_ | refine WL.y rfl (Yld.mul rfl rfl (by simp only [In]; omega)) ?_ | refine WL.y rfl (Yld.convB tab_ok rfl rfl rfl rfl) ?_ | refine WL.y rfl (Yld.conv tab_ok rfl rfl rfl (by simp only [In]; omega)) ?_ | refine WL.y rfl (Yld.quo rfl rfl (by omega) (by omega) (by simp only [In]; omega)) ?_ | refine WL.y rfl (Yld.rem rfl rfl (by omega) (by omega)) ?_ | refine WL.y rfl (Yld.shl rfl rfl (by omega)) ?_ | refine WL.y rfl (Yld.shr rfl rfl (by omega)) ?_ | refine WL.y rfl (Yld.pure tab_ok rfl) ?_)
  refine WC.cond rfl (fun h => ?_) (fun h => ?_)
  · have h56 : e7.length % 64 ≠ 56 := by
      simp only [Bool.not_eq_true', decide_eq_false_iff_not] at h
      omega
    have hle : (padS e7).length ≤ 192 := by
      rw [hp7]; unfold padS; simp; omega
    have hl8 : e7.length + 1 ≤ 192 := by
      unfold padS at hle
      rw [List.length_append, List.length_replicate] at hle
      omega
    repeat (first | refine WC.seq ?_ | refine WC.block ?_ | refine WC.region ?_ | refine WL.nil ?_ | refine WX.then_normal ?_ | refine WC.skip ?_ | refine WC.exit ?_ | refine WC.ret ?_ | refine WX.then_exit ?_ | refine WX.then_ret ?_ | refine WX.block_normal ?_ | refine WX.block_ret ?_ | refine WX.block_same ?_ | refine WX.block_other rfl ?_ | refine WC.label ?_ | refine WC.scope ?_ | refine WX.scope_normal ?_ | refine WX.scope_ret ?_ | refine WX.scope_exit ?_ | refine WL.y rfl (Yld.add rfl rfl (by simp only [In]; omega)) ?_ | refine WL.y rfl (Yld.sub rfl rfl (by simp only [In]; omega)) ?_ | refine WL.y rfl (Yld.mul rfl rfl (by simp only [In]; omega)) ?_ | refine WL.y rfl (Yld.convB tab_ok rfl rfl rfl rfl) ?_ | refine WL.y rfl (Yld.conv tab_ok rfl rfl rfl (by simp only [In]; omega)) ?_ | refine WL.y rfl (Yld.quo rfl rfl (by omega) (by omega) (by simp only [In]; omega)) ?_ | refine WL.y rfl (Yld.rem rfl rfl (by omega) (by omega)) ?_ | refine WL.y rfl (Yld.shl rfl rfl (by omega)) ?_ | refine WL.y rfl (Yld.shr rfl rfl (by omega)) ?_ | refine WL.y rfl (Yld.pure tab_ok rfl) ?_)
    refine WL.lit (us := [vb 0]) tab_ok rfl rfl rfl (by intro u hu; simp at hu; rw [hu]; rfl) rfl (by omega) (fun gl w8 hL8 hg8 hl8 => ?_)
    refine WL.append tab_ok rfl rfl One.b (hO7.grown hg8) rfl rfl (bl_one (x := 0) hL8) rfl rfl (by simp; omega) (by simp [maxLen]; omega) (by have := hg7.size; have := hg8.size; omega) (fun A9 c9 w9 hO9 hg9 hf9 => ?_)
    repeat (first | refine WC.seq ?_ | refine WC.block ?_ | refine WC.region ?_ | refine WL.nil ?_ | refine WX.then_normal ?_ | refine WC.skip ?_ | refine WC.exit ?_ | refine WC.ret ?_ | refine WX.then_exit ?_ | refine WX.then_ret ?_ | refine WX.block_normal ?_ | refine WX.block_ret ?_ | refine WX.block_same ?_ | refine WX.block_other rfl ?_ | refine WC.label ?_ | refine WC.scope ?_ | refine WX.scope_normal ?_ | refine WX.scope_ret ?_ | refine WX.scope_exit ?_ | refine WL.y rfl (Yld.add rfl rfl (by simp only [In]; omega)) ?_ | refine WL.y rfl (Yld.sub rfl rfl (by simp only [In]; omega)) ?_ | refine WL.y rfl (Yld.mul rfl rfl (by simp only [In]; omega)) ?_ | refine WL.y rfl (Yld.convB tab_ok rfl rfl rfl rfl) ?_ | refine WL.y rfl (Yld.conv tab_ok rfl rfl rfl (by simp only [In]; omega)) ?_ | refine WL.y rfl (Yld.quo rfl rfl (by omega) (by omega) (by simp only [In]; omega)) ?_ | refine WL.y rfl (Yld.rem rfl rfl (by omega) (by omega)) ?_ | refine WL.y rfl (Yld.shl rfl rfl (by omega)) ?_ | refine WL.y rfl (Yld.shr rfl rfl (by omega)) ?_ | refine WL.y rfl (Yld.pure tab_ok rfl) ?_)
    refine WX.round (A9, c9, e7 ++ [0]) ⟨hO9, by rw [padS_step _ h56]; exact hp7, by simp; omega, ?_⟩ (by simp; omega) (by repeat (first | exact Sub.nil | refine Sub.cons rfl ?_))
    cases hq : blk A7 with
    | none => rw [hq] at hg9; exact gr_trans (gr_trans hg7 hg8) hg9
    | some q => rw [hq] at hg9; exact gr_new (gr_trans hg7 hg8) hg9 (hO7.lt hq).1
  · have h56 : e7.length % 64 = 56 := by
      simp only [Bool.not_eq_false', decide_eq_true_eq] at h
      omega
    have he7 : e7 = padS (r ++ [0x80]) := by
      rw [← hp7]; unfold padS; rw [h56]; simp
    have hpl : e7.length ≤ 184 := by rw [he7]; unfold padS; simp; omega
    repeat (first | refine WC.seq ?_ | refine WC.block ?_ | refine WC.region ?_ | refine WL.nil ?_ | refine WX.then_normal ?_ | refine WC.skip ?_ | refine WC.exit ?_ | refine WC.ret ?_ | refine WX.then_exit ?_ | refine WX.then_ret ?_ | refine WX.block_normal ?_ | refine WX.block_ret ?_ | refine WX.block_same ?_ | refine WX.block_other rfl ?_ | refine WC.label ?_ | refine WC.scope ?_ | refine WX.scope_normal ?_ | refine WX.scope_ret ?_ | refine WX.scope_exit ?_ | refine WL.y rfl (Yld.add rfl rfl (by simp only [In]; omega)) ?_ | refine WL.y rfl (Yld.sub rfl rfl (by simp only [In]; omega)) ?_ | refine WL.y rfl (Yld.mul rfl rfl (by simp only [In]; omega)) ?_ | refine WL.y rfl (Yld.convB tab_ok rfl rfl rfl rfl) ?_ | refine WL.y rfl (Yld.conv tab_ok rfl rfl rfl (by simp only [In]; omega)) ?_ | refine WL.y rfl (Yld.quo rfl rfl (by omega) (by omega) (by simp only [In]; omega)) ?_ | refine WL.y rfl (Yld.rem rfl rfl (by omega) (by omega)) ?_ | refine WL.y rfl (Yld.shl rfl rfl (by omega)) ?_ | refine WL.y rfl (Yld.shr rfl rfl (by omega)) ?_ | refine WL.y rfl (Yld.pure tab_ok rfl) ?_)
    refine WC.loop (S := Nat × Option Addr × Nat) (fun s => 8 - s.1) (fun s => [(32, vi s.1), (5, .slice s.2.1 (e7 ++ lenBs (8 * n) s.1).length s.2.2), (4, .int .u64 (8 * n)), (3, .pointer (some ⟨gt, 0, none⟩)), (2, .pointer (some ⟨go, 0, none⟩))])
      (fun s w8 => s.1 ≤ 8 ∧ Own vb w8 w3.heap.size 5 s.2.1 s.2.2 (e7 ++ lenBs (8 * n) s.1) ∧ w3.grownBy w8 none)
      (0, A7, c7) ⟨by simp, by simpa [lenBs] using hO7, hg7⟩ (by simp only [lenBs, List.append_nil]; repeat (first | exact Sub.nil | refine Sub.cons rfl ?_)) (fun ⟨i, A8, c8⟩ w8 ⟨hi, hO8, hg8⟩ => ?_)
    simp only at hi hO8
    have hlb := lenBs_len (8 * n) i
    repeat (first | refine WC.seq ?_ | refine WC.block ?_ | refine WC.region ?_ | refine WL.nil ?_ | refine WX.then_normal ?_ | refine WC.skip ?_ | refine WC.exit ?_ | refine WC.ret ?_ | refine WX.then_exit ?_ | refine WX.then_ret ?_ | refine WX.block_normal ?_ | refine WX.block_ret ?_ | refine WX.block_same ?_ | refine WX.block_other rfl ?_ | refine WC.label ?_ | refine WC.scope ?_ | refine WX.scope_normal ?_ | refine WX.scope_ret ?_ | refine WX.scope_exit ?_ | refine WL.y rfl (Yld.add rfl rfl (by simp only [In]; omega)) ?_ | refine WL.y rfl (Yld.sub rfl rfl (by simp only [In]; omega)) ?_ | refine WL.y rfl (Yld.mul rfl rfl (by simp only [In]; omega)) ?_ | refine WL.y rfl (Yld.convB tab_ok rfl rfl rfl rfl) ?_ | refine WL.y rfl (Yld.conv tab_ok rfl rfl rfl (by simp only [In]; omega)) ?_ | refine WL.y rfl (Yld.quo rfl rfl (by omega) (by omega) (by simp only [In]; omega)) ?_ | refine WL.y rfl (Yld.rem rfl rfl (by omega) (by omega)) ?_ | refine WL.y rfl (Yld.shl rfl rfl (by omega)) ?_ | refine WL.y rfl (Yld.shr rfl rfl (by omega)) ?_ | refine WL.y rfl (Yld.pure tab_ok rfl) ?_)
    refine WC.cond rfl (fun h => ?_) (fun h => ?_)
    · simp only [decide_eq_true_eq] at h
      repeat (first | refine WL.y rfl (Yld.toB tab_ok rfl rfl rfl) ?_ | refine WC.seq ?_ | refine WC.block ?_ | refine WC.region ?_ | refine WL.nil ?_ | refine WX.then_normal ?_ | refine WC.skip ?_ | refine WC.exit ?_ | refine WC.ret ?_ | refine WX.then_exit ?_ | refine WX.then_ret ?_ | refine WX.block_normal ?_ | refine WX.block_ret ?_ | refine WX.block_same ?_ | refine WX.block_other rfl ?_ | refine WC.label ?_ | refine WC.scope ?_ | refine WX.scope_normal ?_ | refine WX.scope_ret ?_ | refine WX.scope_exit ?_ | refine WL.y rfl (Yld.add rfl rfl (by simp only [In]; omega)) ?_ | refine WL.y rfl (Yld.sub rfl rfl (by simp only [In]; omega)) ?_ | refine WL.y rfl (Yld.mul rfl rfl (by simp only [In]; omega)) ?_ | refine WL.y rfl (Yld.convB tab_ok rfl rfl rfl rfl) ?_ | refine WL.y rfl (Yld.conv tab_ok rfl rfl rfl (by simp only [In]; omega)) ?_ | refine WL.y rfl (Yld.quo rfl rfl (by omega) (by omega) (by simp only [In]; omega)) ?_ | refine WL.y rfl (Yld.rem rfl rfl (by omega) (by omega)) ?_ | refine WL.y rfl (Yld.shl rfl rfl (by omega)) ?_ | refine WL.y rfl (Yld.shr rfl rfl (by omega)) ?_ | refine WL.y rfl (Yld.pure tab_ok rfl) ?_)
      refine WL.lit (us := [vb (lenB (8 * n) i)]) tab_ok rfl rfl rfl (by intro u hu; simp at hu; rw [hu]; rfl) rfl (by omega) (fun gl w9 hL9 hg9 hl9 => ?_)
      refine WL.append tab_ok rfl rfl One.b (hO8.grown hg9) rfl rfl (bl_one (x := lenB (8 * n) i) hL9) rfl rfl (by simp; omega) (by simp [maxLen]; omega) (by have := hg8.size; have := hg9.size; omega) (fun A10 c10 w10 hO10 hg10 hf10 => ?_)
      repeat (first | refine WC.seq ?_ | refine WC.block ?_ | refine WC.region ?_ | refine WL.nil ?_ | refine WX.then_normal ?_ | refine WC.skip ?_ | refine WC.exit ?_ | refine WC.ret ?_ | refine WX.then_exit ?_ | refine WX.then_ret ?_ | refine WX.block_normal ?_ | refine WX.block_ret ?_ | refine WX.block_same ?_ | refine WX.block_other rfl ?_ | refine WC.label ?_ | refine WC.scope ?_ | refine WX.scope_normal ?_ | refine WX.scope_ret ?_ | refine WX.scope_exit ?_ | refine WL.y rfl (Yld.add rfl rfl (by simp only [In]; omega)) ?_ | refine WL.y rfl (Yld.sub rfl rfl (by simp only [In]; omega)) ?_ | refine WL.y rfl (Yld.mul rfl rfl (by simp only [In]; omega)) ?_ | refine WL.y rfl (Yld.convB tab_ok rfl rfl rfl rfl) ?_ | refine WL.y rfl (Yld.conv tab_ok rfl rfl rfl (by simp only [In]; omega)) ?_ | refine WL.y rfl (Yld.quo rfl rfl (by omega) (by omega) (by simp only [In]; omega)) ?_ | refine WL.y rfl (Yld.rem rfl rfl (by omega) (by omega)) ?_ | refine WL.y rfl (Yld.shl rfl rfl (by omega)) ?_ | refine WL.y rfl (Yld.shr rfl rfl (by omega)) ?_ | refine WL.y rfl (Yld.pure tab_ok rfl) ?_)
      have hap : e7 ++ lenBs (8 * n) i ++ [lenB (8 * n) i] = e7 ++ lenBs (8 * n) (i + 1) := by rw [List.append_assoc]; rfl
      rw [hap] at hO10 ⊢
      exact WX.round (i + 1, A10, c10) ⟨by simp; omega, hO10, gr_own (gr_trans hg8 hg9) (hO8.grown hg9) hg10 (Nat.le_refl _)⟩ (by simp; omega) (by repeat (first | exact Sub.nil | refine Sub.cons rfl ?_))
    · simp only [decide_eq_false_iff_not] at h
      obtain rfl : i = 8 := by omega
      have hend : e7 ++ lenBs (8 * n) 8 = endS r n := by rw [he7]; rfl
      rw [hend] at hO8 ⊢
      have hel : (endS r n).length ≤ 192 := by rw [← hend, List.length_append, hlb]; omega
      have hem : (endS r n).length % 64 = 0 := by rw [← hend, List.length_append, hlb]; omega
      have hR8 := hO8.rd
      have hA8 : blk A8 ≠ some gt := fun e => by have := (hO8.lt e).1; omega
      have hA8o : blk A8 ≠ some go := fun e => by have := (hO8.lt e).1; have := ho3.lt; omega
      have ht8 := ht3.keep hg8 (by simp)
      have ho8 := ho3.keep hg8 (by simp)
      have hgr8 := gr_trans hgr3 hg8
      have hz8 := hg8.size
      generalize endS r n = en at *
      clear hO7 hp7 hO8 hO6 hgr6 hp0 hg8 hg7
      repeat (first | refine WC.seq ?_ | refine WC.block ?_ | refine WC.region ?_ | refine WL.nil ?_ | refine WX.then_normal ?_ | refine WC.skip ?_ | refine WC.exit ?_ | refine WC.ret ?_ | refine WX.then_exit ?_ | refine WX.then_ret ?_ | refine WX.block_normal ?_ | refine WX.block_ret ?_ | refine WX.block_same ?_ | refine WX.block_other rfl ?_ | refine WC.label ?_ | refine WC.scope ?_ | refine WX.scope_normal ?_ | refine WX.scope_ret ?_ | refine WX.scope_exit ?_ | refine WL.y rfl (Yld.add rfl rfl (by simp only [In]; omega)) ?_ | refine WL.y rfl (Yld.sub rfl rfl (by simp only [In]; omega)) ?_ | refine WL.y rfl (Yld.mul rfl rfl (by simp only [In]; omega)) ?_ | refine WL.y rfl (Yld.convB tab_ok rfl rfl rfl rfl) ?_ | refine WL.y rfl (Yld.conv tab_ok rfl rfl rfl (by simp only [In]; omega)) ?_ | refine WL.y rfl (Yld.quo rfl rfl (by omega) (by omega) (by simp only [In]; omega)) ?_ | refine WL.y rfl (Yld.rem rfl rfl (by omega) (by omega)) ?_ | refine WL.y rfl (Yld.shl rfl rfl (by omega)) ?_ | refine WL.y rfl (Yld.shr rfl rfl (by omega)) ?_ | refine WL.y rfl (Yld.pure tab_ok rfl) ?_)
      refine WC.loop (S := Nat × List Int) (fun s => en.length - 64 * s.1) (fun s => [(7, vi (64 * s.1 : Nat)), (5, .slice A8 en.length c8), (3, .pointer (some ⟨gt, 0, none⟩)), (2, .pointer (some ⟨go, 0, none⟩))])
        (fun s w9 => 64 * s.1 ≤ en.length ∧ s.2.length = 8 ∧ Bl w9 gt 199 (stc s.2 A c r n) ∧ absorb (en.length - s.1) s.2 (en.drop (64 * s.1)) = absorb en.length hs en ∧ w8.grownBy w9 (some gt))
        (0, hs) ⟨by simp, hh, ht8, by simp, gr_refl _ _⟩ (by repeat (first | exact Sub.nil | refine Sub.cons rfl ?_)) (fun ⟨i, h9⟩ w9 ⟨hi9, hh9, ht9, ha9, hg9⟩ => ?_)
      simp only at hi9 hh9 ht9 ha9
      have hR9 := hR8.keep hg9 (fun q hq e => by injection hq with hq; exact hA8 (by rw [e, hq]))
      repeat (first | refine WC.seq ?_ | refine WC.block ?_ | refine WC.region ?_ | refine WL.nil ?_ | refine WX.then_normal ?_ | refine WC.skip ?_ | refine WC.exit ?_ | refine WC.ret ?_ | refine WX.then_exit ?_ | refine WX.then_ret ?_ | refine WX.block_normal ?_ | refine WX.block_ret ?_ | refine WX.block_same ?_ | refine WX.block_other rfl ?_ | refine WC.label ?_ | refine WC.scope ?_ | refine WX.scope_normal ?_ | refine WX.scope_ret ?_ | refine WX.scope_exit ?_ | refine WL.y rfl (Yld.add rfl rfl (by simp only [In]; omega)) ?_ | refine WL.y rfl (Yld.sub rfl rfl (by simp only [In]; omega)) ?_ | refine WL.y rfl (Yld.mul rfl rfl (by simp only [In]; omega)) ?_ | refine WL.y rfl (Yld.convB tab_ok rfl rfl rfl rfl) ?_ | refine WL.y rfl (Yld.conv tab_ok rfl rfl rfl (by simp only [In]; omega)) ?_ | refine WL.y rfl (Yld.quo rfl rfl (by omega) (by omega) (by simp only [In]; omega)) ?_ | refine WL.y rfl (Yld.rem rfl rfl (by omega) (by omega)) ?_ | refine WL.y rfl (Yld.shl rfl rfl (by omega)) ?_ | refine WL.y rfl (Yld.shr rfl rfl (by omega)) ?_ | refine WL.y rfl (Yld.pure tab_ok rfl) ?_)
      refine WC.cond rfl (fun h => ?_) (fun h => ?_)
      · simp only [decide_eq_true_eq] at h
        repeat (first | refine WC.seq ?_ | refine WC.block ?_ | refine WC.region ?_ | refine WL.nil ?_ | refine WX.then_normal ?_ | refine WC.skip ?_ | refine WC.exit ?_ | refine WC.ret ?_ | refine WX.then_exit ?_ | refine WX.then_ret ?_ | refine WX.block_normal ?_ | refine WX.block_ret ?_ | refine WX.block_same ?_ | refine WX.block_other rfl ?_ | refine WC.label ?_ | refine WC.scope ?_ | refine WX.scope_normal ?_ | refine WX.scope_ret ?_ | refine WX.scope_exit ?_ | refine WL.y rfl (Yld.add rfl rfl (by simp only [In]; omega)) ?_ | refine WL.y rfl (Yld.sub rfl rfl (by simp only [In]; omega)) ?_ | refine WL.y rfl (Yld.mul rfl rfl (by simp only [In]; omega)) ?_ | refine WL.y rfl (Yld.convB tab_ok rfl rfl rfl rfl) ?_ | refine WL.y rfl (Yld.conv tab_ok rfl rfl rfl (by simp only [In]; omega)) ?_ | refine WL.y rfl (Yld.quo rfl rfl (by omega) (by omega) (by simp only [In]; omega)) ?_ | refine WL.y rfl (Yld.rem rfl rfl (by omega) (by omega)) ?_ | refine WL.y rfl (Yld.shl rfl rfl (by omega)) ?_ | refine WL.y rfl (Yld.shr rfl rfl (by omega)) ?_ | refine WL.y rfl (Yld.pure tab_ok rfl) ?_)
        refine WL.cut tab_ok hR9 rfl rfl rfl rfl rfl rfl (by omega) (by omega) (by omega) (fun A10 c10 hR10 hA10 => ?_)
        refine WL.call rfl rfl (mix_fn gt h9 _ A10 c10 _ w9 hh9 ht9 hR10 (by simp; omega)) ?_
        rintro _ w10 ⟨rfl, hB10, hg10⟩
        repeat (first | refine WC.seq ?_ | refine WC.block ?_ | refine WC.region ?_ | refine WL.nil ?_ | refine WX.then_normal ?_ | refine WC.skip ?_ | refine WC.exit ?_ | refine WC.ret ?_ | refine WX.then_exit ?_ | refine WX.then_ret ?_ | refine WX.block_normal ?_ | refine WX.block_ret ?_ | refine WX.block_same ?_ | refine WX.block_other rfl ?_ | refine WC.label ?_ | refine WC.scope ?_ | refine WX.scope_normal ?_ | refine WX.scope_ret ?_ | refine WX.scope_exit ?_ | refine WL.y rfl (Yld.add rfl rfl (by simp only [In]; omega)) ?_ | refine WL.y rfl (Yld.sub rfl rfl (by simp only [In]; omega)) ?_ | refine WL.y rfl (Yld.mul rfl rfl (by simp only [In]; omega)) ?_ | refine WL.y rfl (Yld.convB tab_ok rfl rfl rfl rfl) ?_ | refine WL.y rfl (Yld.conv tab_ok rfl rfl rfl (by simp only [In]; omega)) ?_ | refine WL.y rfl (Yld.quo rfl rfl (by omega) (by omega) (by simp only [In]; omega)) ?_ | refine WL.y rfl (Yld.rem rfl rfl (by omega) (by omega)) ?_ | refine WL.y rfl (Yld.shl rfl rfl (by omega)) ?_ | refine WL.y rfl (Yld.shr rfl rfl (by omega)) ?_ | refine WL.y rfl (Yld.pure tab_ok rfl) ?_)
        have ec1 : (((64 * i : Nat) : Int) + 64).toNat - ((64 * i : Nat) : Int).toNat = 64 := by omega
        have ec2 : ((64 * i : Nat) : Int).toNat = 64 * i := by omega
        simp only [ec1] at hB10
        simp only [ec2] at hB10
        have hd : 64 ≤ (en.drop (64 * i)).length := by rw [List.length_drop]; omega
        obtain ⟨q, hq⟩ : ∃ q, en.length - i = q + 1 := ⟨en.length - i - 1, by omega⟩
        refine WX.round (i + 1, mixS h9 ((en.drop (64 * i)).take 64)) ⟨by simp only; omega, by rw [mixS_len]; exact hh9, hB10, ?_, gr_trans hg9 hg10⟩ (by simp only; omega) ?_
        · rw [← ha9, hq, absorb, if_pos hd, List.drop_drop]
          simp only
          rw [show en.length - (i + 1) = q by omega, show 64 * i + 64 = 64 * (i + 1) by omega]
        · refine Sub.cons ?_ (by repeat (first | exact Sub.nil | refine Sub.cons rfl ?_))
          show some (vi (((64 * i : Nat) : Int) + 64)) = some (vi ((64 * (i + 1) : Nat) : Int))
          rw [show ((64 * i : Nat) : Int) + 64 = ((64 * (i + 1) : Nat) : Int) by omega]
      · simp only [decide_eq_false_iff_not] at h
        have hnil : en.drop (64 * i) = [] := List.drop_eq_nil_of_le (by omega)
        have habs : ∀ k, absorb k h9 [] = (h9, []) := fun k => by
          cases k with
          | zero => rfl
          | succ k => rw [absorb, if_neg (by simp)]
        have hfin : (absorb en.length hs en).1 = h9 := by rw [← ha9, hnil, habs]
        have hres : sumS hs r n = outAt h9 32 := by
          rw [sumS, ← hfin, ← hend, he7]
          rfl
        have ho9 := ho8.keep hg9 (fun e => by injection e with e; have := ho3.lt; omega)
        have hgr9 : w.grownBy w9 none := gr_new hgr8 hg9 (by omega)
        have hz9 := hg9.size
        clear hg9 hR9 hR8 ht8 ho8 hgr8
        repeat (first | refine WC.seq ?_ | refine WC.block ?_ | refine WC.region ?_ | refine WL.nil ?_ | refine WX.then_normal ?_ | refine WC.skip ?_ | refine WC.exit ?_ | refine WC.ret ?_ | refine WX.then_exit ?_ | refine WX.then_ret ?_ | refine WX.block_normal ?_ | refine WX.block_ret ?_ | refine WX.block_same ?_ | refine WX.block_other rfl ?_ | refine WC.label ?_ | refine WC.scope ?_ | refine WX.scope_normal ?_ | refine WX.scope_ret ?_ | refine WX.scope_exit ?_ | refine WL.y rfl (Yld.add rfl rfl (by simp only [In]; omega)) ?_ | refine WL.y rfl (Yld.sub rfl rfl (by simp only [In]; omega)) ?_ | refine WL.y rfl (Yld.mul rfl rfl (by simp only [In]; omega)) ?_ | refine WL.y rfl (Yld.convB tab_ok rfl rfl rfl rfl) ?_ | refine WL.y rfl (Yld.conv tab_ok rfl rfl rfl (by simp only [In]; omega)) ?_ | refine WL.y rfl (Yld.quo rfl rfl (by omega) (by omega) (by simp only [In]; omega)) ?_ | refine WL.y rfl (Yld.rem rfl rfl (by omega) (by omega)) ?_ | refine WL.y rfl (Yld.shl rfl rfl (by omega)) ?_ | refine WL.y rfl (Yld.shr rfl rfl (by omega)) ?_ | refine WL.y rfl (Yld.pure tab_ok rfl) ?_)
        refine WL.alloc rfl zero47 (fun gu w10 hu10 hg10 hlu => ?_)
        have ho10 := ho9.keep hg10 (by simp)
        have ht10 := ht9.keep hg10 (by simp)
        have hgr10 := gr_trans hgr9 hg10
        have htlt := ht10.lt
        have holt := ho10.lt
        have holt9 := ho9.lt
        have htlt9 := ht9.lt
        repeat (first | refine WC.seq ?_ | refine WC.block ?_ | refine WC.region ?_ | refine WL.nil ?_ | refine WX.then_normal ?_ | refine WC.skip ?_ | refine WC.exit ?_ | refine WC.ret ?_ | refine WX.then_exit ?_ | refine WX.then_ret ?_ | refine WX.block_normal ?_ | refine WX.block_ret ?_ | refine WX.block_same ?_ | refine WX.block_other rfl ?_ | refine WC.label ?_ | refine WC.scope ?_ | refine WX.scope_normal ?_ | refine WX.scope_ret ?_ | refine WX.scope_exit ?_ | refine WL.y rfl (Yld.add rfl rfl (by simp only [In]; omega)) ?_ | refine WL.y rfl (Yld.sub rfl rfl (by simp only [In]; omega)) ?_ | refine WL.y rfl (Yld.mul rfl rfl (by simp only [In]; omega)) ?_ | refine WL.y rfl (Yld.convB tab_ok rfl rfl rfl rfl) ?_ | refine WL.y rfl (Yld.conv tab_ok rfl rfl rfl (by simp only [In]; omega)) ?_ | refine WL.y rfl (Yld.quo rfl rfl (by omega) (by omega) (by simp only [In]; omega)) ?_ | refine WL.y rfl (Yld.rem rfl rfl (by omega) (by omega)) ?_ | refine WL.y rfl (Yld.shl rfl rfl (by omega)) ?_ | refine WL.y rfl (Yld.shr rfl rfl (by omega)) ?_ | refine WL.y rfl (Yld.pure tab_ok rfl) ?_)
        refine WC.loop (S := Nat) (fun i => 32 - i) (fun i => [(57, vi i), (8, .pointer (some ⟨gu, 0, none⟩)), (3, .pointer (some ⟨gt, 0, none⟩)), (2, .pointer (some ⟨go, 0, none⟩))])
          (fun i w11 => i ≤ 32 ∧ Bl w11 gu 47 ((outAt h9 i).map vb) ∧ w10.grownBy w11 (some gu)) 0 ⟨by omega, by rw [outAt, List.map_replicate]; exact hu10, gr_refl _ _⟩ (by repeat (first | exact Sub.nil | refine Sub.cons rfl ?_)) (fun i w11 ⟨hi, hu11, hg11⟩ => ?_)
        have hol := outAt_len h9 i
        have ht11 := ht10.keep hg11 (fun e => by injection e with e; omega)
        have ho11 := ho10.keep hg11 (fun e => by injection e with e; omega)
        repeat (first | refine WC.seq ?_ | refine WC.block ?_ | refine WC.region ?_ | refine WL.nil ?_ | refine WX.then_normal ?_ | refine WC.skip ?_ | refine WC.exit ?_ | refine WC.ret ?_ | refine WX.then_exit ?_ | refine WX.then_ret ?_ | refine WX.block_normal ?_ | refine WX.block_ret ?_ | refine WX.block_same ?_ | refine WX.block_other rfl ?_ | refine WC.label ?_ | refine WC.scope ?_ | refine WX.scope_normal ?_ | refine WX.scope_ret ?_ | refine WX.scope_exit ?_ | refine WL.y rfl (Yld.add rfl rfl (by simp only [In]; omega)) ?_ | refine WL.y rfl (Yld.sub rfl rfl (by simp only [In]; omega)) ?_ | refine WL.y rfl (Yld.mul rfl rfl (by simp only [In]; omega)) ?_ | refine WL.y rfl (Yld.convB tab_ok rfl rfl rfl rfl) ?_ | refine WL.y rfl (Yld.conv tab_ok rfl rfl rfl (by simp only [In]; omega)) ?_ | refine WL.y rfl (Yld.quo rfl rfl (by omega) (by omega) (by simp only [In]; omega)) ?_ | refine WL.y rfl (Yld.rem rfl rfl (by omega) (by omega)) ?_ | refine WL.y rfl (Yld.shl rfl rfl (by omega)) ?_ | refine WL.y rfl (Yld.shr rfl rfl (by omega)) ?_ | refine WL.y rfl (Yld.pure tab_ok rfl) ?_)
        refine WC.cond rfl (fun h => ?_) (fun h => ?_)
        · simp only [decide_eq_true_eq] at h
          have hv : (stc h9 A c r n)[0 + 0 + ((i : Int) / 4).toNat * 1]? = some (vu (h9.getD (i / 4) 0)) := by
            have e : 0 + 0 + ((i : Int) / 4).toNat * 1 = i / 4 := by omega
            rw [e, stc, List.getElem?_append_left (by rw [List.length_map]; omega)]
            simp [List.getD, show i / 4 < h9.length by omega]
          repeat (first | refine WL.y rfl (Yld.aaddrN tab_ok rfl rfl rfl (by omega)) ?_ | refine WL.y rfl (Yld.aaddr tab_ok rfl rfl rfl (by omega) (by omega)) ?_ | refine WL.y rfl (Yld.bload tab_ok ht11 rfl rfl hv) ?_ | refine WL.y rfl (Yld.toB tab_ok rfl rfl rfl) ?_ | refine WC.seq ?_ | refine WC.block ?_ | refine WC.region ?_ | refine WL.nil ?_ | refine WX.then_normal ?_ | refine WC.skip ?_ | refine WC.exit ?_ | refine WC.ret ?_ | refine WX.then_exit ?_ | refine WX.then_ret ?_ | refine WX.block_normal ?_ | refine WX.block_ret ?_ | refine WX.block_same ?_ | refine WX.block_other rfl ?_ | refine WC.label ?_ | refine WC.scope ?_ | refine WX.scope_normal ?_ | refine WX.scope_ret ?_ | refine WX.scope_exit ?_ | refine WL.y rfl (Yld.add rfl rfl (by simp only [In]; omega)) ?_ | refine WL.y rfl (Yld.sub rfl rfl (by simp only [In]; omega)) ?_ | refine WL.y rfl (Yld.mul rfl rfl (by simp only [In]; omega)) ?_ | refine WL.y rfl (Yld.convB tab_ok rfl rfl rfl rfl) ?_ | refine WL.y rfl (Yld.conv tab_ok rfl rfl rfl (by simp only [In]; omega)) ?_ | refine WL.y rfl (Yld.quo rfl rfl (by omega) (by omega) (by simp only [In]; omega)) ?_ | refine WL.y rfl (Yld.rem rfl rfl (by omega) (by omega)) ?_ | refine WL.y rfl (Yld.shl rfl rfl (by omega)) ?_ | refine WL.y rfl (Yld.shr rfl rfl (by omega)) ?_ | refine WL.y rfl (Yld.pure tab_ok rfl) ?_)
          refine WL.store1 one5 rfl rfl rfl hu11 (by rw [List.length_map]; omega) (fun w12 hu12 hg12 => ?_)
          repeat (first | refine WC.seq ?_ | refine WC.block ?_ | refine WC.region ?_ | refine WL.nil ?_ | refine WX.then_normal ?_ | refine WC.skip ?_ | refine WC.exit ?_ | refine WC.ret ?_ | refine WX.then_exit ?_ | refine WX.then_ret ?_ | refine WX.block_normal ?_ | refine WX.block_ret ?_ | refine WX.block_same ?_ | refine WX.block_other rfl ?_ | refine WC.label ?_ | refine WC.scope ?_ | refine WX.scope_normal ?_ | refine WX.scope_ret ?_ | refine WX.scope_exit ?_ | refine WL.y rfl (Yld.add rfl rfl (by simp only [In]; omega)) ?_ | refine WL.y rfl (Yld.sub rfl rfl (by simp only [In]; omega)) ?_ | refine WL.y rfl (Yld.mul rfl rfl (by simp only [In]; omega)) ?_ | refine WL.y rfl (Yld.convB tab_ok rfl rfl rfl rfl) ?_ | refine WL.y rfl (Yld.conv tab_ok rfl rfl rfl (by simp only [In]; omega)) ?_ | refine WL.y rfl (Yld.quo rfl rfl (by omega) (by omega) (by simp only [In]; omega)) ?_ | refine WL.y rfl (Yld.rem rfl rfl (by omega) (by omega)) ?_ | refine WL.y rfl (Yld.shl rfl rfl (by omega)) ?_ | refine WL.y rfl (Yld.shr rfl rfl (by omega)) ?_ | refine WL.y rfl (Yld.pure tab_ok rfl) ?_)
          refine WX.round (i + 1) ⟨by omega, ?_, gr_trans hg11 hg12⟩ (by omega) (by repeat (first | exact Sub.nil | refine Sub.cons rfl ?_))
          rw [show 0 + i * 1 = i by omega] at hu12
          rw [outAt, List.map_set]
          exact hu12
        · simp only [decide_eq_false_iff_not] at h
          obtain rfl : i = 32 := by omega
          repeat (first | refine WL.y rfl (Yld.bagg (vs := (outAt h9 32).map vb) tab_ok hu11 rfl rfl (by rw [List.drop_zero, List.take_of_length_le]; simp [hol]) (by simp [hol])) ?_ | refine WC.seq ?_ | refine WC.block ?_ | refine WC.region ?_ | refine WL.nil ?_ | refine WX.then_normal ?_ | refine WC.skip ?_ | refine WC.exit ?_ | refine WC.ret ?_ | refine WX.then_exit ?_ | refine WX.then_ret ?_ | refine WX.block_normal ?_ | refine WX.block_ret ?_ | refine WX.block_same ?_ | refine WX.block_other rfl ?_ | refine WC.label ?_ | refine WC.scope ?_ | refine WX.scope_normal ?_ | refine WX.scope_ret ?_ | refine WX.scope_exit ?_ | refine WL.y rfl (Yld.add rfl rfl (by simp only [In]; omega)) ?_ | refine WL.y rfl (Yld.sub rfl rfl (by simp only [In]; omega)) ?_ | refine WL.y rfl (Yld.mul rfl rfl (by simp only [In]; omega)) ?_ | refine WL.y rfl (Yld.convB tab_ok rfl rfl rfl rfl) ?_ | refine WL.y rfl (Yld.conv tab_ok rfl rfl rfl (by simp only [In]; omega)) ?_ | refine WL.y rfl (Yld.quo rfl rfl (by omega) (by omega) (by simp only [In]; omega)) ?_ | refine WL.y rfl (Yld.rem rfl rfl (by omega) (by omega)) ?_ | refine WL.y rfl (Yld.shl rfl rfl (by omega)) ?_ | refine WL.y rfl (Yld.shr rfl rfl (by omega)) ?_ | refine WL.y rfl (Yld.pure tab_ok rfl) ?_)
          refine WL.storeW tab_ok rfl rfl rfl (oneM One.b _) ho11 rfl (by simp [hol]) (fun w12 ho12 hg12 => ?_)
          repeat (first | refine WC.seq ?_ | refine WC.block ?_ | refine WC.region ?_ | refine WL.nil ?_ | refine WX.then_normal ?_ | refine WC.skip ?_ | refine WC.exit ?_ | refine WC.ret ?_ | refine WX.then_exit ?_ | refine WX.then_ret ?_ | refine WX.block_normal ?_ | refine WX.block_ret ?_ | refine WX.block_same ?_ | refine WX.block_other rfl ?_ | refine WC.label ?_ | refine WC.scope ?_ | refine WX.scope_normal ?_ | refine WX.scope_ret ?_ | refine WX.scope_exit ?_ | refine WL.y rfl (Yld.add rfl rfl (by simp only [In]; omega)) ?_ | refine WL.y rfl (Yld.sub rfl rfl (by simp only [In]; omega)) ?_ | refine WL.y rfl (Yld.mul rfl rfl (by simp only [In]; omega)) ?_ | refine WL.y rfl (Yld.convB tab_ok rfl rfl rfl rfl) ?_ | refine WL.y rfl (Yld.conv tab_ok rfl rfl rfl (by simp only [In]; omega)) ?_ | refine WL.y rfl (Yld.quo rfl rfl (by omega) (by omega) (by simp only [In]; omega)) ?_ | refine WL.y rfl (Yld.rem rfl rfl (by omega) (by omega)) ?_ | refine WL.y rfl (Yld.shl rfl rfl (by omega)) ?_ | refine WL.y rfl (Yld.shr rfl rfl (by omega)) ?_ | refine WL.y rfl (Yld.pure tab_ok rfl) ?_)
          refine WX.retc tab_ok rfl rfl rfl ho12 (by simp [hol]) ⟨by rw [hres], ?_⟩
          exact gr_new (gr_new hgr10 hg11 (by have := hgr9.size; omega)) hg12 hlo
end Go.Proofs.YtjhipfdbionpoaaGreatDoor

 namespace Go.Proofs.YtjhipfdbionpoaaGreatDoor
open Go Go.RowKit
attribute [local irreducible] WL WC WX WQ WK Yld Eff Fn

def digs : List UInt8 := [48, 49, 50, 51, 52, 53, 54, 55, 56, 57, 97, 98, 99, 100, 101, 102]
def hexB (b : UInt8) : List UInt8 := [digs.getD (shrV .u8 (b.toNat : Int) 4).toNat 0, digs.getD (bits .and .u8 (b.toNat : Int) 15).toNat 0]
def hexS (l : List UInt8) : List UInt8 := l.flatMap hexB
theorem shr_4 (b : UInt8) : 0 ≤ shrV .u8 (b.toNat : Int) 4 ∧ shrV .u8 (b.toNat : Int) 4 < 16 := by
  have := b.toNat_lt
  have e : shrV .u8 (b.toNat : Int) 4 = (b.toNat : Int) / 16 := by
    unfold shrV
    rw [Int.fdiv_eq_ediv_of_nonneg _ (by decide)]
    rfl
  rw [e]
  omega
theorem and_15 (b : UInt8) : 0 ≤ bits .and .u8 (b.toNat : Int) 15 ∧ bits .and .u8 (b.toNat : Int) 15 < 16 := by
  have := b.toNat_lt
  have e : bits .and .u8 (b.toNat : Int) 15 = (b.toNat : Int) % 16 := by
    show IntKind.u8.wrap ((BitVec.ofInt 8 (b.toNat : Int) &&& BitVec.ofInt 8 15).toNat : Int) = _
    rw [BitVec.toNat_and]
    have e : (BitVec.ofInt 8 15).toNat = 2^4 - 1 := by decide
    rw [e, Nat.and_two_pow_sub_one_eq_mod, BitVec.toNat_ofInt, IntKind.wrap_u8]
    omega
  rw [e]
  omega
theorem hexS_len (l : List UInt8) : (hexS l).length = 2 * l.length := by
  unfold hexS
  induction l with
  | nil => rfl
  | cons b l ih => rw [List.flatMap_cons, List.length_append, ih]; simp [hexB]; omega
theorem hexS_take (l : List UInt8) (k : Nat) (h : k < l.length) : hexS (l.take (k + 1)) = hexS (l.take k) ++ hexB (l.getD k 0) := by
  unfold hexS
  rw [List.take_succ_eq_append_getElem h, List.flatMap_append]
  simp [List.getD, h]
theorem text_fn (l : List UInt8) (w : World) (hl : l.length = 32) : Fn Tryz.prog 25 ⟨[.agg ⟨l.map vb⟩]⟩ w fun v w' => v = .string ⟨⟨hexS l⟩⟩ ∧ w.grownBy w' none := by
  have hml : (l.map vb).length = 32 := by rw [List.length_map]; exact hl
  refine Fn.enter (by kernel_rfl) Tryz.func25 rfl Tryz.ntmps25 rfl ?_
  repeat (first | refine WC.seq ?_ | refine WC.block ?_ | refine WC.region ?_ | refine WL.nil ?_ | refine WX.then_normal ?_ | refine WC.skip ?_ | refine WC.exit ?_ | refine WC.ret ?_ | refine WX.then_exit ?_ | refine WX.then_ret ?_ | refine WX.block_normal ?_ | refine WX.block_ret ?_ | refine WX.block_same ?_ | refine WX.block_other rfl ?_ | refine WC.label ?_ | refine WC.scope ?_ | refine WX.scope_normal ?_ | refine WX.scope_ret ?_ | refine WX.scope_exit ?_ | refine WL.y rfl (Yld.add rfl rfl (by simp only [In]; omega)) ?_ | refine WL.y rfl (Yld.sub rfl rfl (by simp only [In]; omega)) ?_ | refine WL.y rfl (Yld.mul rfl rfl (by simp only [In]; omega)) ?_ | refine WL.y rfl (Yld.convB tab_ok rfl rfl rfl rfl) ?_ | refine WL.y rfl (Yld.conv tab_ok rfl rfl rfl (by simp only [In]; omega)) ?_ | refine WL.y rfl (Yld.quo rfl rfl (by omega) (by omega) (by simp only [In]; omega)) ?_ | refine WL.y rfl (Yld.rem rfl rfl (by omega) (by omega)) ?_ | refine WL.y rfl (Yld.shl rfl rfl (by omega)) ?_ | refine WL.y rfl (Yld.shr rfl rfl (by omega)) ?_ | refine WL.y rfl (Yld.pure tab_ok rfl) ?_)
  refine WL.box rfl rfl rfl (fun g w1 hB hg hlt => ?_)
  repeat (first | refine WC.seq ?_ | refine WC.block ?_ | refine WC.region ?_ | refine WL.nil ?_ | refine WX.then_normal ?_ | refine WC.skip ?_ | refine WC.exit ?_ | refine WC.ret ?_ | refine WX.then_exit ?_ | refine WX.then_ret ?_ | refine WX.block_normal ?_ | refine WX.block_ret ?_ | refine WX.block_same ?_ | refine WX.block_other rfl ?_ | refine WC.label ?_ | refine WC.scope ?_ | refine WX.scope_normal ?_ | refine WX.scope_ret ?_ | refine WX.scope_exit ?_ | refine WL.y rfl (Yld.add rfl rfl (by simp only [In]; omega)) ?_ | refine WL.y rfl (Yld.sub rfl rfl (by simp only [In]; omega)) ?_ | refine WL.y rfl (Yld.mul rfl rfl (by simp only [In]; omega)) ?_ | refine WL.y rfl (Yld.convB tab_ok rfl rfl rfl rfl) ?_ | refine WL.y rfl (Yld.conv tab_ok rfl rfl rfl (by simp only [In]; omega)) ?_ | refine WL.y rfl (Yld.quo rfl rfl (by omega) (by omega) (by simp only [In]; omega)) ?_ | refine WL.y rfl (Yld.rem rfl rfl (by omega) (by omega)) ?_ | refine WL.y rfl (Yld.shl rfl rfl (by omega)) ?_ | refine WL.y rfl (Yld.shr rfl rfl (by omega)) ?_ | refine WL.y rfl (Yld.pure tab_ok rfl) ?_)
  refine WL.y rfl (Yld.bagg (vs := l.map vb) tab_ok hB rfl rfl (by rw [List.drop_zero]; exact List.take_of_length_le (Nat.le_of_eq hml)) hml) ?_
  repeat (first | refine WC.seq ?_ | refine WC.block ?_ | refine WC.region ?_ | refine WL.nil ?_ | refine WX.then_normal ?_ | refine WC.skip ?_ | refine WC.exit ?_ | refine WC.ret ?_ | refine WX.then_exit ?_ | refine WX.then_ret ?_ | refine WX.block_normal ?_ | refine WX.block_ret ?_ | refine WX.block_same ?_ | refine WX.block_other rfl ?_ | refine WC.label ?_ | refine WC.scope ?_ | refine WX.scope_normal ?_ | refine WX.scope_ret ?_ | refine WX.scope_exit ?_ | refine WL.y rfl (Yld.add rfl rfl (by simp only [In]; omega)) ?_ | refine WL.y rfl (Yld.sub rfl rfl (by simp only [In]; omega)) ?_ | refine WL.y rfl (Yld.mul rfl rfl (by simp only [In]; omega)) ?_ | refine WL.y rfl (Yld.convB tab_ok rfl rfl rfl rfl) ?_ | refine WL.y rfl (Yld.conv tab_ok rfl rfl rfl (by simp only [In]; omega)) ?_ | refine WL.y rfl (Yld.quo rfl rfl (by omega) (by omega) (by simp only [In]; omega)) ?_ | refine WL.y rfl (Yld.rem rfl rfl (by omega) (by omega)) ?_ | refine WL.y rfl (Yld.shl rfl rfl (by omega)) ?_ | refine WL.y rfl (Yld.shr rfl rfl (by omega)) ?_ | refine WL.y rfl (Yld.pure tab_ok rfl) ?_)
  refine WC.loop (S := Nat × Option Addr × Nat) (fun s => 32 - s.1) (fun s => [(7, vi s.1), (3, .slice s.2.1 (hexS (l.take s.1)).length s.2.2), (6, .agg ⟨l.map vb⟩)])
    (fun s w2 => s.1 ≤ 32 ∧ Own vb w2 w.heap.size 5 s.2.1 s.2.2 (hexS (l.take s.1)) ∧ w.grownBy w2 none) (0, none, 0) ⟨by simp, Own.nil _ _ _ _, hg⟩ (by repeat (first | exact Sub.nil | refine Sub.cons rfl ?_)) (fun ⟨i, A2, c2⟩ w2 ⟨hi, hO2, hg2⟩ => ?_)
  simp only at hi hO2
  repeat (first | refine WC.seq ?_ | refine WC.block ?_ | refine WC.region ?_ | refine WL.nil ?_ | refine WX.then_normal ?_ | refine WC.skip ?_ | refine WC.exit ?_ | refine WC.ret ?_ | refine WX.then_exit ?_ | refine WX.then_ret ?_ | refine WX.block_normal ?_ | refine WX.block_ret ?_ | refine WX.block_same ?_ | refine WX.block_other rfl ?_ | refine WC.label ?_ | refine WC.scope ?_ | refine WX.scope_normal ?_ | refine WX.scope_ret ?_ | refine WX.scope_exit ?_ | refine WL.y rfl (Yld.add rfl rfl (by simp only [In]; omega)) ?_ | refine WL.y rfl (Yld.sub rfl rfl (by simp only [In]; omega)) ?_ | refine WL.y rfl (Yld.mul rfl rfl (by simp only [In]; omega)) ?_ | refine WL.y rfl (Yld.convB tab_ok rfl rfl rfl rfl) ?_ | refine WL.y rfl (Yld.conv tab_ok rfl rfl rfl (by simp only [In]; omega)) ?_ | refine WL.y rfl (Yld.quo rfl rfl (by omega) (by omega) (by simp only [In]; omega)) ?_ | refine WL.y rfl (Yld.rem rfl rfl (by omega) (by omega)) ?_ | refine WL.y rfl (Yld.shl rfl rfl (by omega)) ?_ | refine WL.y rfl (Yld.shr rfl rfl (by omega)) ?_ | refine WL.y rfl (Yld.pure tab_ok rfl) ?_)
  refine WC.cond rfl (fun h => ?_) (fun h => ?_)
  · simp only [decide_eq_true_eq] at h
    have hlt : i < l.length := by omega
    have hv : (l.map vb)[i]? = some (vb (l.getD i 0)) := by simp [List.getD, hlt]
    repeat (first | refine WL.y rfl (Yld.aidxN tab_ok rfl rfl rfl rfl (by omega) hv) ?_ | refine WC.seq ?_ | refine WC.block ?_ | refine WC.region ?_ | refine WL.nil ?_ | refine WX.then_normal ?_ | refine WC.skip ?_ | refine WC.exit ?_ | refine WC.ret ?_ | refine WX.then_exit ?_ | refine WX.then_ret ?_ | refine WX.block_normal ?_ | refine WX.block_ret ?_ | refine WX.block_same ?_ | refine WX.block_other rfl ?_ | refine WC.label ?_ | refine WC.scope ?_ | refine WX.scope_normal ?_ | refine WX.scope_ret ?_ | refine WX.scope_exit ?_ | refine WL.y rfl (Yld.add rfl rfl (by simp only [In]; omega)) ?_ | refine WL.y rfl (Yld.sub rfl rfl (by simp only [In]; omega)) ?_ | refine WL.y rfl (Yld.mul rfl rfl (by simp only [In]; omega)) ?_ | refine WL.y rfl (Yld.convB tab_ok rfl rfl rfl rfl) ?_ | refine WL.y rfl (Yld.conv tab_ok rfl rfl rfl (by simp only [In]; omega)) ?_ | refine WL.y rfl (Yld.quo rfl rfl (by omega) (by omega) (by simp only [In]; omega)) ?_ | refine WL.y rfl (Yld.rem rfl rfl (by omega) (by omega)) ?_ | refine WL.y rfl (Yld.shl rfl rfl (by omega)) ?_ | refine WL.y rfl (Yld.shr rfl rfl (by omega)) ?_ | refine WL.y rfl (Yld.pure tab_ok rfl) ?_)
    have h4 := shr_4 (l.getD i 0)
    have h15 := and_15 (l.getD i 0)
    refine WC.chain (fun k => !(Nat.beq k 7 || Nat.beq k 8)) (fun _ => True) mixed (by kernel_rfl) (fun _ _ => trivial) ?_
    repeat (first | refine WK.y rfl rfl (fun _ _ => Yld.sidx tab_ok rfl rfl rfl (by first | exact h4.1 | exact h15.1) (by first | exact h4.2 | exact h15.2)) ?_ | refine WK.y rfl rfl (fun _ _ => Yld.add rfl rfl (by simp only [In]; omega)) ?_ | refine WK.y rfl rfl (fun _ _ => Yld.sub rfl rfl (by simp only [In]; omega)) ?_ | refine WK.y rfl rfl (fun _ _ => Yld.mul rfl rfl (by simp only [In]; omega)) ?_ | refine WK.y rfl rfl (fun _ _ => Yld.convB tab_ok rfl rfl rfl rfl) ?_ | refine WK.y rfl rfl (fun _ _ => Yld.conv tab_ok rfl rfl rfl (by simp only [In]; omega)) ?_ | refine WK.y rfl rfl (fun _ _ => Yld.quo rfl rfl (by omega) (by omega) (by simp only [In]; omega)) ?_ | refine WK.y rfl rfl (fun _ _ => Yld.rem rfl rfl (by omega) (by omega)) ?_ | refine WK.y rfl rfl (fun _ _ => Yld.shl rfl rfl (by omega)) ?_ | refine WK.y rfl rfl (fun _ _ => Yld.shr rfl rfl (by omega)) ?_ | refine WK.y rfl rfl (fun _ _ => Yld.pure tab_ok rfl) ?_)
    refine WK.put rfl rfl (Eff.lit (us := (hexB (l.getD i 0)).map vb) tab_ok rfl rfl (oneM One.b _) rfl (by omega)) (fun _ _ _ => trivial) ?_
    rintro _ w3 ⟨rfl, hL3, hg3⟩
    have hR3 := Rd.ofBl hL3 (m := 2) (by simp [hexB]) (by simp [maxLen])
    have hxl : (hexS (l.take i)).length ≤ 64 := by rw [hexS_len, List.length_take]; omega
    have hO3 := hO2.grown hg3
    refine WK.put rfl rfl (Eff.append tab_ok rfl One.b hO3 rfl rfl hR3 rfl rfl (by simp [hexB]; omega) (by simp [maxLen, hexB]; omega) (by have := hg2.size; have := hg3.size; omega)) (fun _ _ _ => trivial) ?_
    rintro _ w4 ⟨A4, c4, rfl, hO4, hg4, hf4⟩
    repeat (first | refine WK.y rfl rfl (fun _ _ => Yld.add rfl rfl (by simp only [In]; omega)) ?_ | refine WK.y rfl rfl (fun _ _ => Yld.sub rfl rfl (by simp only [In]; omega)) ?_ | refine WK.y rfl rfl (fun _ _ => Yld.mul rfl rfl (by simp only [In]; omega)) ?_ | refine WK.y rfl rfl (fun _ _ => Yld.convB tab_ok rfl rfl rfl rfl) ?_ | refine WK.y rfl rfl (fun _ _ => Yld.conv tab_ok rfl rfl rfl (by simp only [In]; omega)) ?_ | refine WK.y rfl rfl (fun _ _ => Yld.quo rfl rfl (by omega) (by omega) (by simp only [In]; omega)) ?_ | refine WK.y rfl rfl (fun _ _ => Yld.rem rfl rfl (by omega) (by omega)) ?_ | refine WK.y rfl rfl (fun _ _ => Yld.shl rfl rfl (by omega)) ?_ | refine WK.y rfl rfl (fun _ _ => Yld.shr rfl rfl (by omega)) ?_ | refine WK.y rfl rfl (fun _ _ => Yld.pure tab_ok rfl) ?_)
    refine WK.nil ?_
    repeat (first | refine WC.seq ?_ | refine WC.block ?_ | refine WC.region ?_ | refine WL.nil ?_ | refine WX.then_normal ?_ | refine WC.skip ?_ | refine WC.exit ?_ | refine WC.ret ?_ | refine WX.then_exit ?_ | refine WX.then_ret ?_ | refine WX.block_normal ?_ | refine WX.block_ret ?_ | refine WX.block_same ?_ | refine WX.block_other rfl ?_ | refine WC.label ?_ | refine WC.scope ?_ | refine WX.scope_normal ?_ | refine WX.scope_ret ?_ | refine WX.scope_exit ?_ | refine WL.y rfl (Yld.add rfl rfl (by simp only [In]; omega)) ?_ | refine WL.y rfl (Yld.sub rfl rfl (by simp only [In]; omega)) ?_ | refine WL.y rfl (Yld.mul rfl rfl (by simp only [In]; omega)) ?_ | refine WL.y rfl (Yld.convB tab_ok rfl rfl rfl rfl) ?_ | refine WL.y rfl (Yld.conv tab_ok rfl rfl rfl (by simp only [In]; omega)) ?_ | refine WL.y rfl (Yld.quo rfl rfl (by omega) (by omega) (by simp only [In]; omega)) ?_ | refine WL.y rfl (Yld.rem rfl rfl (by omega) (by omega)) ?_ | refine WL.y rfl (Yld.shl rfl rfl (by omega)) ?_ | refine WL.y rfl (Yld.shr rfl rfl (by omega)) ?_ | refine WL.y rfl (Yld.pure tab_ok rfl) ?_)
    rw [← hexS_take l i hlt] at hO4 ⊢
    exact WX.round (i + 1, A4, c4) ⟨by simp only; omega, hO4, gr_own (gr_trans hg2 hg3) hO3 hg4 (Nat.le_refl _)⟩ (by simp only; omega) (by repeat (first | exact Sub.nil | refine Sub.cons rfl ?_))
  · simp only [decide_eq_false_iff_not] at h
    obtain rfl : i = 32 := by omega
    rw [List.take_of_length_le (by omega)] at hO2
    repeat (first | refine WC.seq ?_ | refine WC.block ?_ | refine WC.region ?_ | refine WL.nil ?_ | refine WX.then_normal ?_ | refine WC.skip ?_ | refine WC.exit ?_ | refine WC.ret ?_ | refine WX.then_exit ?_ | refine WX.then_ret ?_ | refine WX.block_normal ?_ | refine WX.block_ret ?_ | refine WX.block_same ?_ | refine WX.block_other rfl ?_ | refine WC.label ?_ | refine WC.scope ?_ | refine WX.scope_normal ?_ | refine WX.scope_ret ?_ | refine WX.scope_exit ?_ | refine WL.y rfl (Yld.add rfl rfl (by simp only [In]; omega)) ?_ | refine WL.y rfl (Yld.sub rfl rfl (by simp only [In]; omega)) ?_ | refine WL.y rfl (Yld.mul rfl rfl (by simp only [In]; omega)) ?_ | refine WL.y rfl (Yld.convB tab_ok rfl rfl rfl rfl) ?_ | refine WL.y rfl (Yld.conv tab_ok rfl rfl rfl (by simp only [In]; omega)) ?_ | refine WL.y rfl (Yld.quo rfl rfl (by omega) (by omega) (by simp only [In]; omega)) ?_ | refine WL.y rfl (Yld.rem rfl rfl (by omega) (by omega)) ?_ | refine WL.y rfl (Yld.shl rfl rfl (by omega)) ?_ | refine WL.y rfl (Yld.shr rfl rfl (by omega)) ?_ | refine WL.y rfl (Yld.pure tab_ok rfl) ?_)
    refine WL.y rfl (Yld.b2s tab_ok hO2.rd rfl rfl rfl rfl (by rw [List.take_of_length_le]; omega)) ?_
    repeat (first | refine WC.seq ?_ | refine WC.block ?_ | refine WC.region ?_ | refine WL.nil ?_ | refine WX.then_normal ?_ | refine WC.skip ?_ | refine WC.exit ?_ | refine WC.ret ?_ | refine WX.then_exit ?_ | refine WX.then_ret ?_ | refine WX.block_normal ?_ | refine WX.block_ret ?_ | refine WX.block_same ?_ | refine WX.block_other rfl ?_ | refine WC.label ?_ | refine WC.scope ?_ | refine WX.scope_normal ?_ | refine WX.scope_ret ?_ | refine WX.scope_exit ?_ | refine WL.y rfl (Yld.add rfl rfl (by simp only [In]; omega)) ?_ | refine WL.y rfl (Yld.sub rfl rfl (by simp only [In]; omega)) ?_ | refine WL.y rfl (Yld.mul rfl rfl (by simp only [In]; omega)) ?_ | refine WL.y rfl (Yld.convB tab_ok rfl rfl rfl rfl) ?_ | refine WL.y rfl (Yld.conv tab_ok rfl rfl rfl (by simp only [In]; omega)) ?_ | refine WL.y rfl (Yld.quo rfl rfl (by omega) (by omega) (by simp only [In]; omega)) ?_ | refine WL.y rfl (Yld.rem rfl rfl (by omega) (by omega)) ?_ | refine WL.y rfl (Yld.shl rfl rfl (by omega)) ?_ | refine WL.y rfl (Yld.shr rfl rfl (by omega)) ?_ | refine WL.y rfl (Yld.pure tab_ok rfl) ?_)
    exact WX.ret1 rfl rfl ⟨rfl, hg2⟩
/-- the digest of bytes -/
def shaS (b : List UInt8) : List UInt8 := sumS (wrS h0s [] b).1 (wrS h0s [] b).2 b.length
theorem wrS_len (hs : List Int) (r b : List UInt8) : (wrS hs r b).2.length < 64 := by
  have key : ∀ (m : Nat) (hs : List Int) (al : List UInt8), al.length ≤ m → (absorb m hs al).2.length < 64 := by
    intro m
    induction m with
    | zero => intro hs al h; simp [absorb]; omega
    | succ m ih =>
      intro hs al h
      rw [absorb]
      split
      · exact ih _ _ (by rw [List.length_drop]; omega)
      · simp only; omega
  exact key _ hs (r ++ b) (Nat.le_refl _)
theorem of_fn (A : Option Addr) (c : Nat) (b : List UInt8) (w : World) (hR : Rd vb w A c b) (hb : b.length ≤ 1000000) : Fn Tryz.prog 95 ⟨[.slice A b.length c]⟩ w fun v w' => v = .agg ⟨(shaS b).map vb⟩ ∧ w.grownBy w' none := by
  refine Fn.enter (by kernel_rfl) Tryz.func95 rfl Tryz.ntmps95 rfl ?_
  repeat (first | refine WC.seq ?_ | refine WC.block ?_ | refine WC.region ?_ | refine WL.nil ?_ | refine WX.then_normal ?_ | refine WC.skip ?_ | refine WC.exit ?_ | refine WC.ret ?_ | refine WX.then_exit ?_ | refine WX.then_ret ?_ | refine WX.block_normal ?_ | refine WX.block_ret ?_ | refine WX.block_same ?_ | refine WX.block_other rfl ?_ | refine WC.label ?_ | refine WC.scope ?_ | refine WX.scope_normal ?_ | refine WX.scope_ret ?_ | refine WX.scope_exit ?_ | refine WL.y rfl (Yld.add rfl rfl (by simp only [In]; omega)) ?_ | refine WL.y rfl (Yld.sub rfl rfl (by simp only [In]; omega)) ?_ | refine WL.y rfl (Yld.mul rfl rfl (by simp only [In]; omega)) ?_ | refine WL.y rfl (Yld.convB tab_ok rfl rfl rfl rfl) ?_ | refine WL.y rfl (Yld.conv tab_ok rfl rfl rfl (by simp only [In]; omega)) ?_ | refine WL.y rfl (Yld.quo rfl rfl (by omega) (by omega) (by simp only [In]; omega)) ?_ | refine WL.y rfl (Yld.rem rfl rfl (by omega) (by omega)) ?_ | refine WL.y rfl (Yld.shl rfl rfl (by omega)) ?_ | refine WL.y rfl (Yld.shr rfl rfl (by omega)) ?_ | refine WL.y rfl (Yld.pure tab_ok rfl) ?_)
  refine WL.alloc rfl zero47 (fun go w1 ho1 hg1 hlo => ?_)
  repeat (first | refine WC.seq ?_ | refine WC.block ?_ | refine WC.region ?_ | refine WL.nil ?_ | refine WX.then_normal ?_ | refine WC.skip ?_ | refine WC.exit ?_ | refine WC.ret ?_ | refine WX.then_exit ?_ | refine WX.then_ret ?_ | refine WX.block_normal ?_ | refine WX.block_ret ?_ | refine WX.block_same ?_ | refine WX.block_other rfl ?_ | refine WC.label ?_ | refine WC.scope ?_ | refine WX.scope_normal ?_ | refine WX.scope_ret ?_ | refine WX.scope_exit ?_ | refine WL.y rfl (Yld.add rfl rfl (by simp only [In]; omega)) ?_ | refine WL.y rfl (Yld.sub rfl rfl (by simp only [In]; omega)) ?_ | refine WL.y rfl (Yld.mul rfl rfl (by simp only [In]; omega)) ?_ | refine WL.y rfl (Yld.convB tab_ok rfl rfl rfl rfl) ?_ | refine WL.y rfl (Yld.conv tab_ok rfl rfl rfl (by simp only [In]; omega)) ?_ | refine WL.y rfl (Yld.quo rfl rfl (by omega) (by omega) (by simp only [In]; omega)) ?_ | refine WL.y rfl (Yld.rem rfl rfl (by omega) (by omega)) ?_ | refine WL.y rfl (Yld.shl rfl rfl (by omega)) ?_ | refine WL.y rfl (Yld.shr rfl rfl (by omega)) ?_ | refine WL.y rfl (Yld.pure tab_ok rfl) ?_)
  refine WL.call rfl rfl (new_fn w1) ?_
  rintro _ w2 ⟨g, rfl, hB2, hg2, hlg⟩
  have hR2 := (hR.grown hg1).grown hg2
  have hz1 := hg1.size
  have hol := ho1.lt
  have hA : b ≠ [] → blk A ≠ some g := fun hb0 e => by have := hR.lt hb0 e; omega
  have hS2 : St w2 g h0s [] 0 := ⟨rfl, none, 0, hB2, Rd.nil _ _ (by simp [maxLen]), by simp [blk]⟩
  repeat (first | refine WC.seq ?_ | refine WC.block ?_ | refine WC.region ?_ | refine WL.nil ?_ | refine WX.then_normal ?_ | refine WC.skip ?_ | refine WC.exit ?_ | refine WC.ret ?_ | refine WX.then_exit ?_ | refine WX.then_ret ?_ | refine WX.block_normal ?_ | refine WX.block_ret ?_ | refine WX.block_same ?_ | refine WX.block_other rfl ?_ | refine WC.label ?_ | refine WC.scope ?_ | refine WX.scope_normal ?_ | refine WX.scope_ret ?_ | refine WX.scope_exit ?_ | refine WL.y rfl (Yld.add rfl rfl (by simp only [In]; omega)) ?_ | refine WL.y rfl (Yld.sub rfl rfl (by simp only [In]; omega)) ?_ | refine WL.y rfl (Yld.mul rfl rfl (by simp only [In]; omega)) ?_ | refine WL.y rfl (Yld.convB tab_ok rfl rfl rfl rfl) ?_ | refine WL.y rfl (Yld.conv tab_ok rfl rfl rfl (by simp only [In]; omega)) ?_ | refine WL.y rfl (Yld.quo rfl rfl (by omega) (by omega) (by simp only [In]; omega)) ?_ | refine WL.y rfl (Yld.rem rfl rfl (by omega) (by omega)) ?_ | refine WL.y rfl (Yld.shl rfl rfl (by omega)) ?_ | refine WL.y rfl (Yld.shr rfl rfl (by omega)) ?_ | refine WL.y rfl (Yld.pure tab_ok rfl) ?_)
  refine WL.call rfl rfl (write_fn g h0s [] 0 A c b w2 hS2 hR2 hA (by omega) (by omega) (by simp) hb) ?_
  rintro _ w3 ⟨rfl, hS3, hg3⟩
  repeat (first | refine WC.seq ?_ | refine WC.block ?_ | refine WC.region ?_ | refine WL.nil ?_ | refine WX.then_normal ?_ | refine WC.skip ?_ | refine WC.exit ?_ | refine WC.ret ?_ | refine WX.then_exit ?_ | refine WX.then_ret ?_ | refine WX.block_normal ?_ | refine WX.block_ret ?_ | refine WX.block_same ?_ | refine WX.block_other rfl ?_ | refine WC.label ?_ | refine WC.scope ?_ | refine WX.scope_normal ?_ | refine WX.scope_ret ?_ | refine WX.scope_exit ?_ | refine WL.y rfl (Yld.add rfl rfl (by simp only [In]; omega)) ?_ | refine WL.y rfl (Yld.sub rfl rfl (by simp only [In]; omega)) ?_ | refine WL.y rfl (Yld.mul rfl rfl (by simp only [In]; omega)) ?_ | refine WL.y rfl (Yld.convB tab_ok rfl rfl rfl rfl) ?_ | refine WL.y rfl (Yld.conv tab_ok rfl rfl rfl (by simp only [In]; omega)) ?_ | refine WL.y rfl (Yld.quo rfl rfl (by omega) (by omega) (by simp only [In]; omega)) ?_ | refine WL.y rfl (Yld.rem rfl rfl (by omega) (by omega)) ?_ | refine WL.y rfl (Yld.shl rfl rfl (by omega)) ?_ | refine WL.y rfl (Yld.shr rfl rfl (by omega)) ?_ | refine WL.y rfl (Yld.pure tab_ok rfl) ?_)
  rw [Int.zero_add] at hS3
  refine WL.call rfl rfl (sum_fn g _ _ _ w3 hS3 (by omega) (by omega) (by have := wrS_len h0s [] b; omega)) ?_
  rintro _ w4 ⟨rfl, hg4⟩
  have hgr3 : w.grownBy w3 none := gr_new (gr_trans hg1 hg2) hg3 (by omega)
  have ho4 := ((ho1.keep hg2 (by simp)).keep hg3 (fun e => by injection e with e; omega)).keep hg4 (by simp)
  have hsl := sumS_len (wrS h0s [] b).1 (wrS h0s [] b).2 b.length
  refine WL.storeW tab_ok rfl rfl rfl (oneM One.b _) ho4 rfl (by rw [List.length_map]; exact hsl) (fun w5 ho5 hg5 => ?_)
  repeat (first | refine WC.seq ?_ | refine WC.block ?_ | refine WC.region ?_ | refine WL.nil ?_ | refine WX.then_normal ?_ | refine WC.skip ?_ | refine WC.exit ?_ | refine WC.ret ?_ | refine WX.then_exit ?_ | refine WX.then_ret ?_ | refine WX.block_normal ?_ | refine WX.block_ret ?_ | refine WX.block_same ?_ | refine WX.block_other rfl ?_ | refine WC.label ?_ | refine WC.scope ?_ | refine WX.scope_normal ?_ | refine WX.scope_ret ?_ | refine WX.scope_exit ?_ | refine WL.y rfl (Yld.add rfl rfl (by simp only [In]; omega)) ?_ | refine WL.y rfl (Yld.sub rfl rfl (by simp only [In]; omega)) ?_ | refine WL.y rfl (Yld.mul rfl rfl (by simp only [In]; omega)) ?_ | refine WL.y rfl (Yld.convB tab_ok rfl rfl rfl rfl) ?_ | refine WL.y rfl (Yld.conv tab_ok rfl rfl rfl (by simp only [In]; omega)) ?_ | refine WL.y rfl (Yld.quo rfl rfl (by omega) (by omega) (by simp only [In]; omega)) ?_ | refine WL.y rfl (Yld.rem rfl rfl (by omega) (by omega)) ?_ | refine WL.y rfl (Yld.shl rfl rfl (by omega)) ?_ | refine WL.y rfl (Yld.shr rfl rfl (by omega)) ?_ | refine WL.y rfl (Yld.pure tab_ok rfl) ?_)
  exact WX.retc tab_ok rfl rfl rfl ho5 (by rw [List.length_map]; exact hsl) ⟨rfl, gr_new (gr_trans hgr3 hg4) hg5 hlo⟩
/-- the digest of several texts: what is taken in, step by step -/
def be4 (n : Nat) : List UInt8 := [u8v (shrV .i64 (n : Int) 24), u8v (shrV .i64 (n : Int) 16), u8v (shrV .i64 (n : Int) 8), u8v (n : Int)]
def stepM (s : List Int × List UInt8 × Int) (x : List UInt8) : List Int × List UInt8 × Int :=
  let a := wrS s.1 s.2.1 (be4 x.length)
  let b := wrS a.1 a.2 x
  (b.1, b.2, s.2.2 + 4 + x.length)
def manyS (l : List (List UInt8)) : List UInt8 :=
  let s := l.foldl stepM (h0s, [], 0)
  sumS s.1 s.2.1 s.2.2
theorem foldM_n (l : List (List UInt8)) (hl : ∀ x ∈ l, x.length ≤ 10000) : ∀ s : List Int × List UInt8 × Int, 0 ≤ s.2.2 → 0 ≤ (l.foldl stepM s).2.2 ∧ (l.foldl stepM s).2.2 ≤ s.2.2 + 10004 * l.length := by
  induction l with
  | nil => intro s h; simp; omega
  | cons x l ih =>
    intro s h
    have hx := hl x (by simp)
    have := ih (fun y hy => hl y (by simp [hy])) (stepM s x) (by simp [stepM]; omega)
    simp only [List.foldl_cons, List.length_cons]
    have e : (stepM s x).2.2 = s.2.2 + 4 + x.length := rfl
    rw [e] at this
    omega
theorem many_fn (A : Option Addr) (c : Nat) (l : List (List UInt8)) (w : World) (hR : Rd vs w A c l) (hl : l.length ≤ 100) (hx : ∀ x ∈ l, x.length ≤ 10000) : Fn Tryz.prog 96 ⟨[.slice A l.length c]⟩ w fun v w' => v = .agg ⟨(manyS l).map vb⟩ ∧ w.grownBy w' none := by
  refine Fn.enter (by kernel_rfl) Tryz.func96 rfl Tryz.ntmps96 rfl ?_
  repeat (first | refine WC.seq ?_ | refine WC.block ?_ | refine WC.region ?_ | refine WL.nil ?_ | refine WX.then_normal ?_ | refine WC.skip ?_ | refine WC.exit ?_ | refine WC.ret ?_ | refine WX.then_exit ?_ | refine WX.then_ret ?_ | refine WX.block_normal ?_ | refine WX.block_ret ?_ | refine WX.block_same ?_ | refine WX.block_other rfl ?_ | refine WC.label ?_ | refine WC.scope ?_ | refine WX.scope_normal ?_ | refine WX.scope_ret ?_ | refine WX.scope_exit ?_ | refine WL.y rfl (Yld.add rfl rfl (by simp only [In]; omega)) ?_ | refine WL.y rfl (Yld.sub rfl rfl (by simp only [In]; omega)) ?_ | refine WL.y rfl (Yld.mul rfl rfl (by simp only [In]; omega)) ?_ | refine WL.y rfl (Yld.convB tab_ok rfl rfl rfl rfl) ?_ | refine WL.y rfl (Yld.conv tab_ok rfl rfl rfl (by simp only [In]; omega)) ?_ | refine WL.y rfl (Yld.quo rfl rfl (by omega) (by omega) (by simp only [In]; omega)) ?_ | refine WL.y rfl (Yld.rem rfl rfl (by omega) (by omega)) ?_ | refine WL.y rfl (Yld.shl rfl rfl (by omega)) ?_ | refine WL.y rfl (Yld.shr rfl rfl (by omega)) ?_ | refine WL.y rfl (Yld.pure tab_ok rfl) ?_)
  refine WL.alloc rfl zero47 (fun go w1 ho1 hg1 hlo => ?_)
  repeat (first | refine WC.seq ?_ | refine WC.block ?_ | refine WC.region ?_ | refine WL.nil ?_ | refine WX.then_normal ?_ | refine WC.skip ?_ | refine WC.exit ?_ | refine WC.ret ?_ | refine WX.then_exit ?_ | refine WX.then_ret ?_ | refine WX.block_normal ?_ | refine WX.block_ret ?_ | refine WX.block_same ?_ | refine WX.block_other rfl ?_ | refine WC.label ?_ | refine WC.scope ?_ | refine WX.scope_normal ?_ | refine WX.scope_ret ?_ | refine WX.scope_exit ?_ | refine WL.y rfl (Yld.add rfl rfl (by simp only [In]; omega)) ?_ | refine WL.y rfl (Yld.sub rfl rfl (by simp only [In]; omega)) ?_ | refine WL.y rfl (Yld.mul rfl rfl (by simp only [In]; omega)) ?_ | refine WL.y rfl (Yld.convB tab_ok rfl rfl rfl rfl) ?_ | refine WL.y rfl (Yld.conv tab_ok rfl rfl rfl (by simp only [In]; omega)) ?_ | refine WL.y rfl (Yld.quo rfl rfl (by omega) (by omega) (by simp only [In]; omega)) ?_ | refine WL.y rfl (Yld.rem rfl rfl (by omega) (by omega)) ?_ | refine WL.y rfl (Yld.shl rfl rfl (by omega)) ?_ | refine WL.y rfl (Yld.shr rfl rfl (by omega)) ?_ | refine WL.y rfl (Yld.pure tab_ok rfl) ?_)
  refine WL.call rfl rfl (new_fn w1) ?_
  rintro _ w2 ⟨g, rfl, hB2, hg2, hlg⟩
  have hol := ho1.lt
  have hz1 := hg1.size
  have ho2 := ho1.keep hg2 (by simp)
  have hS2 : St w2 g h0s [] 0 := ⟨rfl, none, 0, hB2, Rd.nil _ _ (by simp [maxLen]), by simp [blk]⟩
  have hgr2 := gr_trans hg1 hg2
  have hgl2 := hB2.lt
  repeat (first | refine WC.seq ?_ | refine WC.block ?_ | refine WC.region ?_ | refine WL.nil ?_ | refine WX.then_normal ?_ | refine WC.skip ?_ | refine WC.exit ?_ | refine WC.ret ?_ | refine WX.then_exit ?_ | refine WX.then_ret ?_ | refine WX.block_normal ?_ | refine WX.block_ret ?_ | refine WX.block_same ?_ | refine WX.block_other rfl ?_ | refine WC.label ?_ | refine WC.scope ?_ | refine WX.scope_normal ?_ | refine WX.scope_ret ?_ | refine WX.scope_exit ?_ | refine WL.y rfl (Yld.add rfl rfl (by simp only [In]; omega)) ?_ | refine WL.y rfl (Yld.sub rfl rfl (by simp only [In]; omega)) ?_ | refine WL.y rfl (Yld.mul rfl rfl (by simp only [In]; omega)) ?_ | refine WL.y rfl (Yld.convB tab_ok rfl rfl rfl rfl) ?_ | refine WL.y rfl (Yld.conv tab_ok rfl rfl rfl (by simp only [In]; omega)) ?_ | refine WL.y rfl (Yld.quo rfl rfl (by omega) (by omega) (by simp only [In]; omega)) ?_ | refine WL.y rfl (Yld.rem rfl rfl (by omega) (by omega)) ?_ | refine WL.y rfl (Yld.shl rfl rfl (by omega)) ?_ | refine WL.y rfl (Yld.shr rfl rfl (by omega)) ?_ | refine WL.y rfl (Yld.pure tab_ok rfl) ?_)
  refine WC.loop (S := Nat) (fun i => l.length - i) (fun i => [(10, vi i), (9, vi l.length), (8, .slice A l.length c), (3, .pointer (some ⟨g, 0, none⟩)), (2, .pointer (some ⟨go, 0, none⟩))])
    (fun i w3 => i ≤ l.length ∧ St w3 g ((l.take i).foldl stepM (h0s, [], 0)).1 ((l.take i).foldl stepM (h0s, [], 0)).2.1 ((l.take i).foldl stepM (h0s, [], 0)).2.2 ∧ ((l.take i).foldl stepM (h0s, [], 0)).2.1.length < 64 ∧ w2.grownBy w3 (some g)) 0 ⟨by omega, hS2, by simp, gr_refl _ _⟩ (by repeat (first | exact Sub.nil | refine Sub.cons rfl ?_)) (fun i w3 ⟨hi, hS3, hr3, hg3⟩ => ?_)
  have hgr3 : w.grownBy w3 none := gr_new hgr2 hg3 (by omega)
  have hR3 := hR.grown hgr3
  have hz3 := hg3.size
  have hn3 := foldM_n (l.take i) (fun x hm => hx x (List.mem_of_mem_take hm)) (h0s, [], 0) (by simp)
  have htl : (l.take i).length ≤ 100 := by rw [List.length_take]; omega
  simp only at hn3
  repeat (first | refine WC.seq ?_ | refine WC.block ?_ | refine WC.region ?_ | refine WL.nil ?_ | refine WX.then_normal ?_ | refine WC.skip ?_ | refine WC.exit ?_ | refine WC.ret ?_ | refine WX.then_exit ?_ | refine WX.then_ret ?_ | refine WX.block_normal ?_ | refine WX.block_ret ?_ | refine WX.block_same ?_ | refine WX.block_other rfl ?_ | refine WC.label ?_ | refine WC.scope ?_ | refine WX.scope_normal ?_ | refine WX.scope_ret ?_ | refine WX.scope_exit ?_ | refine WL.y rfl (Yld.add rfl rfl (by simp only [In]; omega)) ?_ | refine WL.y rfl (Yld.sub rfl rfl (by simp only [In]; omega)) ?_ | refine WL.y rfl (Yld.mul rfl rfl (by simp only [In]; omega)) ?_ | refine WL.y rfl (Yld.convB tab_ok rfl rfl rfl rfl) ?_ | refine WL.y rfl (Yld.conv tab_ok rfl rfl rfl (by simp only [In]; omega)) ?_ | refine WL.y rfl (Yld.quo rfl rfl (by omega) (by omega) (by simp only [In]; omega)) ?_ | refine WL.y rfl (Yld.rem rfl rfl (by omega) (by omega)) ?_ | refine WL.y rfl (Yld.shl rfl rfl (by omega)) ?_ | refine WL.y rfl (Yld.shr rfl rfl (by omega)) ?_ | refine WL.y rfl (Yld.pure tab_ok rfl) ?_)
  refine WC.cond rfl (fun h => ?_) (fun h => ?_)
  · simp only [decide_eq_true_eq] at h
    have hlt : i < l.length := by omega
    have hxl : (l.getD i []).length ≤ 10000 := hx _ (by simp [List.getD, hlt])
    have hnext : (l.take (i + 1)).foldl stepM (h0s, [], 0) = stepM ((l.take i).foldl stepM (h0s, [], 0)) (l.getD i []) := by
      rw [List.take_succ_eq_append_getElem hlt, List.foldl_append]
      simp [List.getD, hlt]
    repeat (first | refine WL.y rfl (Yld.iaddrN tab_ok hR3 rfl rfl rfl rfl (by omega)) ?_ | refine WL.y rfl (Yld.iload [] tab_ok hR3 rfl rfl (by omega)) ?_ | refine WL.y rfl (Yld.toB tab_ok rfl rfl rfl) ?_ | refine WC.seq ?_ | refine WC.block ?_ | refine WC.region ?_ | refine WL.nil ?_ | refine WX.then_normal ?_ | refine WC.skip ?_ | refine WC.exit ?_ | refine WC.ret ?_ | refine WX.then_exit ?_ | refine WX.then_ret ?_ | refine WX.block_normal ?_ | refine WX.block_ret ?_ | refine WX.block_same ?_ | refine WX.block_other rfl ?_ | refine WC.label ?_ | refine WC.scope ?_ | refine WX.scope_normal ?_ | refine WX.scope_ret ?_ | refine WX.scope_exit ?_ | refine WL.y rfl (Yld.add rfl rfl (by simp only [In]; omega)) ?_ | refine WL.y rfl (Yld.sub rfl rfl (by simp only [In]; omega)) ?_ | refine WL.y rfl (Yld.mul rfl rfl (by simp only [In]; omega)) ?_ | refine WL.y rfl (Yld.convB tab_ok rfl rfl rfl rfl) ?_ | refine WL.y rfl (Yld.conv tab_ok rfl rfl rfl (by simp only [In]; omega)) ?_ | refine WL.y rfl (Yld.quo rfl rfl (by omega) (by omega) (by simp only [In]; omega)) ?_ | refine WL.y rfl (Yld.rem rfl rfl (by omega) (by omega)) ?_ | refine WL.y rfl (Yld.shl rfl rfl (by omega)) ?_ | refine WL.y rfl (Yld.shr rfl rfl (by omega)) ?_ | refine WL.y rfl (Yld.pure tab_ok rfl) ?_)
    generalize (l.take i).foldl stepM (h0s, [], 0) = s3 at *
    refine WL.lit (us := (be4 (l.getD i []).length).map vb) tab_ok rfl rfl rfl (oneM One.b _) rfl (by omega) (fun gl w4 hL4 hg4 hl4 => ?_)
    have hRl : Rd vb w4 (some ⟨gl, 0, none⟩) 4 (be4 (l.getD i []).length) := Rd.ofBl hL4 (by simp [be4]) (by simp [maxLen])
    have hS4 : St w4 g s3.1 s3.2.1 s3.2.2 := by
      obtain ⟨q1, A', c', q2, q3, q4⟩ := hS3
      exact ⟨q1, A', c', q2.keep hg4 (by simp), q3.grown hg4, q4⟩
    refine WL.call rfl rfl (write_fn g _ _ _ (some ⟨gl, 0, none⟩) 4 _ w4 hS4 hRl (fun _ e => by simp [blk] at e; omega) (by omega) (by omega) (by omega) (by simp [be4])) ?_
    rintro _ w5 ⟨rfl, hS5, hg5⟩
    have hr5 := wrS_len s3.1 s3.2.1 (be4 (l.getD i []).length)
    repeat (first | refine WC.seq ?_ | refine WC.block ?_ | refine WC.region ?_ | refine WL.nil ?_ | refine WX.then_normal ?_ | refine WC.skip ?_ | refine WC.exit ?_ | refine WC.ret ?_ | refine WX.then_exit ?_ | refine WX.then_ret ?_ | refine WX.block_normal ?_ | refine WX.block_ret ?_ | refine WX.block_same ?_ | refine WX.block_other rfl ?_ | refine WC.label ?_ | refine WC.scope ?_ | refine WX.scope_normal ?_ | refine WX.scope_ret ?_ | refine WX.scope_exit ?_ | refine WL.y rfl (Yld.add rfl rfl (by simp only [In]; omega)) ?_ | refine WL.y rfl (Yld.sub rfl rfl (by simp only [In]; omega)) ?_ | refine WL.y rfl (Yld.mul rfl rfl (by simp only [In]; omega)) ?_ | refine WL.y rfl (Yld.convB tab_ok rfl rfl rfl rfl) ?_ | refine WL.y rfl (Yld.conv tab_ok rfl rfl rfl (by simp only [In]; omega)) ?_ | refine WL.y rfl (Yld.quo rfl rfl (by omega) (by omega) (by simp only [In]; omega)) ?_ | refine WL.y rfl (Yld.rem rfl rfl (by omega) (by omega)) ?_ | refine WL.y rfl (Yld.shl rfl rfl (by omega)) ?_ | refine WL.y rfl (Yld.shr rfl rfl (by omega)) ?_ | refine WL.y rfl (Yld.pure tab_ok rfl) ?_)
    refine WL.s2b tab_ok rfl rfl rfl rfl rfl (by unfold maxLen; omega) (fun A6 c6 w6 hR6 hg6 hf6 => ?_)
    have hS6 : St w6 g (wrS s3.1 s3.2.1 (be4 (l.getD i []).length)).1 (wrS s3.1 s3.2.1 (be4 (l.getD i []).length)).2 (s3.2.2 + (be4 (l.getD i []).length).length) := by
      obtain ⟨q1, A', c', q2, q3, q4⟩ := hS5
      exact ⟨q1, A', c', q2.keep hg6 (by simp), q3.grown hg6, q4⟩
    have hbl : (be4 (l.getD i []).length).length = 4 := rfl
    have hz4 := hg4.size
    have hz5 := hg5.size
    refine WL.call rfl rfl (write_fn g _ _ _ A6 c6 _ w6 hS6 hR6 (fun _ e => by have := hf6 _ e; omega) (by omega) (by omega) (by omega) (by omega)) ?_
    rintro _ w7 ⟨rfl, hS7, hg7⟩
    repeat (first | refine WC.seq ?_ | refine WC.block ?_ | refine WC.region ?_ | refine WL.nil ?_ | refine WX.then_normal ?_ | refine WC.skip ?_ | refine WC.exit ?_ | refine WC.ret ?_ | refine WX.then_exit ?_ | refine WX.then_ret ?_ | refine WX.block_normal ?_ | refine WX.block_ret ?_ | refine WX.block_same ?_ | refine WX.block_other rfl ?_ | refine WC.label ?_ | refine WC.scope ?_ | refine WX.scope_normal ?_ | refine WX.scope_ret ?_ | refine WX.scope_exit ?_ | refine WL.y rfl (Yld.add rfl rfl (by simp only [In]; omega)) ?_ | refine WL.y rfl (Yld.sub rfl rfl (by simp only [In]; omega)) ?_ | refine WL.y rfl (Yld.mul rfl rfl (by simp only [In]; omega)) ?_ | refine WL.y rfl (Yld.convB tab_ok rfl rfl rfl rfl) ?_ | refine WL.y rfl (Yld.conv tab_ok rfl rfl rfl (by simp only [In]; omega)) ?_ | refine WL.y rfl (Yld.quo rfl rfl (by omega) (by omega) (by simp only [In]; omega)) ?_ | refine WL.y rfl (Yld.rem rfl rfl (by omega) (by omega)) ?_ | refine WL.y rfl (Yld.shl rfl rfl (by omega)) ?_ | refine WL.y rfl (Yld.shr rfl rfl (by omega)) ?_ | refine WL.y rfl (Yld.pure tab_ok rfl) ?_)
    refine WX.round (i + 1) ⟨by omega, ?_, ?_, ?_⟩ (by omega) (by repeat (first | exact Sub.nil | refine Sub.cons rfl ?_))
    · rw [hnext]
      rw [hbl] at hS7
      exact hS7
    · rw [hnext]; exact wrS_len _ _ _
    · exact gr_trans (gr_trans (gr_trans (gr_trans hg3 (gr_some hg4 _)) hg5) (gr_some hg6 _)) hg7
  · simp only [decide_eq_false_iff_not] at h
    obtain rfl : i = l.length := by omega
    rw [List.take_of_length_le (Nat.le_refl _)] at *
    repeat (first | refine WC.seq ?_ | refine WC.block ?_ | refine WC.region ?_ | refine WL.nil ?_ | refine WX.then_normal ?_ | refine WC.skip ?_ | refine WC.exit ?_ | refine WC.ret ?_ | refine WX.then_exit ?_ | refine WX.then_ret ?_ | refine WX.block_normal ?_ | refine WX.block_ret ?_ | refine WX.block_same ?_ | refine WX.block_other rfl ?_ | refine WC.label ?_ | refine WC.scope ?_ | refine WX.scope_normal ?_ | refine WX.scope_ret ?_ | refine WX.scope_exit ?_ | refine WL.y rfl (Yld.add rfl rfl (by simp only [In]; omega)) ?_ | refine WL.y rfl (Yld.sub rfl rfl (by simp only [In]; omega)) ?_ | refine WL.y rfl (Yld.mul rfl rfl (by simp only [In]; omega)) ?_ | refine WL.y rfl (Yld.convB tab_ok rfl rfl rfl rfl) ?_ | refine WL.y rfl (Yld.conv tab_ok rfl rfl rfl (by simp only [In]; omega)) ?_ | refine WL.y rfl (Yld.quo rfl rfl (by omega) (by omega) (by simp only [In]; omega)) ?_ | refine WL.y rfl (Yld.rem rfl rfl (by omega) (by omega)) ?_ | refine WL.y rfl (Yld.shl rfl rfl (by omega)) ?_ | refine WL.y rfl (Yld.shr rfl rfl (by omega)) ?_ | refine WL.y rfl (Yld.pure tab_ok rfl) ?_)
    refine WL.call rfl rfl (sum_fn g _ _ _ w3 hS3 (by omega) (by omega) (by omega)) ?_
    rintro _ w4 ⟨rfl, hg4⟩
    have ho4 := (ho2.keep hg3 (fun e => by injection e with e; omega)).keep hg4 (by simp)
    have hsl : (manyS l).length = 32 := sumS_len _ _ _
    refine WL.storeW (vs := (manyS l).map vb) tab_ok rfl rfl rfl (oneM One.b _) ho4 rfl (by rw [List.length_map]; exact hsl) (fun w5 ho5 hg5 => ?_)
    repeat (first | refine WC.seq ?_ | refine WC.block ?_ | refine WC.region ?_ | refine WL.nil ?_ | refine WX.then_normal ?_ | refine WC.skip ?_ | refine WC.exit ?_ | refine WC.ret ?_ | refine WX.then_exit ?_ | refine WX.then_ret ?_ | refine WX.block_normal ?_ | refine WX.block_ret ?_ | refine WX.block_same ?_ | refine WX.block_other rfl ?_ | refine WC.label ?_ | refine WC.scope ?_ | refine WX.scope_normal ?_ | refine WX.scope_ret ?_ | refine WX.scope_exit ?_ | refine WL.y rfl (Yld.add rfl rfl (by simp only [In]; omega)) ?_ | refine WL.y rfl (Yld.sub rfl rfl (by simp only [In]; omega)) ?_ | refine WL.y rfl (Yld.mul rfl rfl (by simp only [In]; omega)) ?_ | refine WL.y rfl (Yld.convB tab_ok rfl rfl rfl rfl) ?_ | refine WL.y rfl (Yld.conv tab_ok rfl rfl rfl (by simp only [In]; omega)) ?_ | refine WL.y rfl (Yld.quo rfl rfl (by omega) (by omega) (by simp only [In]; omega)) ?_ | refine WL.y rfl (Yld.rem rfl rfl (by omega) (by omega)) ?_ | refine WL.y rfl (Yld.shl rfl rfl (by omega)) ?_ | refine WL.y rfl (Yld.shr rfl rfl (by omega)) ?_ | refine WL.y rfl (Yld.pure tab_ok rfl) ?_)
    exact WX.retc tab_ok rfl rfl rfl ho5 (by rw [List.length_map]; exact hsl) ⟨rfl, gr_new (gr_trans hgr3 hg4) hg5 hlo⟩
end Go.Proofs.YtjhipfdbionpoaaGreatDoor

 namespace Go.Proofs.YtjhipfdbionpoaaGreatDoor
open Go Go.RowKit
attribute [local irreducible] WL WC WX WQ WK Yld Eff Fn

theorem shaS_len (b : List UInt8) : (shaS b).length = 32 := sumS_len _ _ _
theorem manyS_len (l : List (List UInt8)) : (manyS l).length = 32 := sumS_len _ _ _
/-! the law of streaming -/
def D (hs : List Int) (all : List UInt8) : List Int × List UInt8 := absorb all.length hs all
end Go.Proofs.YtjhipfdbionpoaaGreatDoor

 /- The program's digests and the library's Itoa in the generator's form. -/
namespace Go.Proofs.YtjhipfdbionpoaaGreatDoor
open Go Go.RowKit
def M_sha_Of (b : List UInt8) (K : List UInt8 → Prop) : Prop := b.length ≤ 1000000 ∧ K (shaS b)
theorem W_sha_Of {w : World} {b : List UInt8} {A : Option Addr} {c n : Nat} {K : List UInt8 → Prop} (hR : Rd vb w A c b) (hn : n = b.length) (H : M_sha_Of b K) : Fn Tryz.prog 95 ⟨[.slice A n c]⟩ w (fun v w' => w.grownBy w' none ∧ ∃ r : List UInt8, v = .agg ⟨a32 r⟩ ∧ K r) := by
  subst hn
  exact (of_fn A c b w hR H.1).mono fun v w' ⟨hv, hg⟩ => ⟨hg, shaS b, by rw [hv, a32_map _ (shaS_len b)], H.2⟩
def M_sha_Many (l : List (List UInt8)) (K : List UInt8 → Prop) : Prop := l.length ≤ 100 ∧ (∀ x ∈ l, x.length ≤ 10000) ∧ K (manyS l)
theorem W_sha_Many {w : World} {l : List (List UInt8)} {A : Option Addr} {c n : Nat} {K : List UInt8 → Prop} (hR : Rd vs w A c l) (hn : n = l.length) (H : M_sha_Many l K) : Fn Tryz.prog 96 ⟨[.slice A n c]⟩ w (fun v w' => w.grownBy w' none ∧ ∃ r : List UInt8, v = .agg ⟨a32 r⟩ ∧ K r) := by
  subst hn
  exact (many_fn A c l w hR H.1 H.2.1).mono fun v w' ⟨hv, hg⟩ => ⟨hg, manyS l, by rw [hv, a32_map _ (manyS_len l)], H.2.2⟩
def M_sha_Text (s : List UInt8) (K : List UInt8 → Prop) : Prop := ∀ t : List UInt8, t.length = 32 → (∀ i, i < 32 → t.getD i 0 = s.getD i 0) → K (hexS t)
theorem W_sha_Text {w : World} {s : List UInt8} {K : List UInt8 → Prop} (H : M_sha_Text s K) : Fn Tryz.prog 25 ⟨[.agg ⟨a32 s⟩]⟩ w (fun v w' => w.grownBy w' none ∧ ∃ r : List UInt8, v = vs r ∧ K r) := by
  have hl : ((List.range 32).map fun i => s.getD i 0).length = 32 := by simp
  have e : a32 s = ((List.range 32).map fun i => s.getD i 0).map vb := by rw [a32_range, List.map_map]; rfl
  rw [e]
  exact (text_fn _ w hl).mono fun v w' ⟨hv, hg⟩ => ⟨hg, _, hv, H _ hl fun i hi => by simp [List.getD, hi]⟩
def M_strconv_Itoa (n : Int) (K : List UInt8 → Prop) : Prop := In .i64 n ∧ K (Lib.itoa n)
theorem W_strconv_Itoa {S : List Nat} {w : World} {n : Int} {K : List UInt8 → Prop} (hG : GOK S w) (h101 : 101 ∈ S) (H : M_strconv_Itoa n K) : Fn Tryz.prog 114 ⟨[.int .i64 n]⟩ w (fun v w' => w.grownBy w' none ∧ ∃ r : List UInt8, v = vs r ∧ K r) := by
  have hin := H.1
  simp only [In] at hin
  refine ⟨by kernel_rfl, fun w1 e => (Tryz.strconv_Itoa n (by omega) (by omega) w1 ?_).mono fun _ w' ⟨he, k, os, hw⟩ => ⟨_, w', he, Eqv.refl _, ?_, Lib.itoa n, rfl, H.2⟩⟩
  · have := hG.p10 h101
    unfold Lib.TabIs World.var? at this ⊢
    rw [e.heap]
    exact this
  · rw [hw]
    exact eqv_gr e ⟨rfl, rfl, rfl, by show w1.heap.size ≤ (w1.heap ++ os).size; rw [Array.size_append]; omega, fun g hg _ => by show (w1.heap ++ os)[g]? = _; exact Array.getElem?_append_left hg⟩
end Go.Proofs.YtjhipfdbionpoaaGreatDoor


 