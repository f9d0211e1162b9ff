/- Texts of this claim, joined by a program: Sha2, Sha3, Sha4, Sha5, Sha6, Sha7, Sha8, KeyA, GTo. -/
import Derived.Test.YtjhipfdbionpoaaGreatDoorJ3
namespace Go.Proofs.YtjhipfdbionpoaaGreatDoor
open Go Go.RowKit
attribute [local irreducible] WL WC WX WQ Yld Fn

/-- one word more of the schedule -/
def wnext (bs : List UInt8) (ws : List Int) (i : Nat) : Int :=
  if i < 16 then bits .or .u32 (bits .or .u32 (bits .or .u32 (shlV .u32 ((bs.getD (4 * i) 0).toNat : Int) 24) (shlV .u32 ((bs.getD (4 * i + 1) 0).toNat : Int) 16)) (shlV .u32 ((bs.getD (4 * i + 2) 0).toNat : Int) 8)) ((bs.getD (4 * i + 3) 0).toNat : Int)
  else
    let x := ws.getD (i - 15) 0
    let y := ws.getD (i - 2) 0
    IntKind.u32.wrap (IntKind.u32.wrap (IntKind.u32.wrap (ws.getD (i - 16) 0 + ws.getD (i - 7) 0) + bits .xor .u32 (bits .xor .u32 (rotr x 7) (rotr x 18)) (shrV .u32 x 3)) + bits .xor .u32 (bits .xor .u32 (rotr y 17) (rotr y 19)) (shrV .u32 y 10))
def wsAt (bs : List UInt8) : Nat → List Int
  | 0 => List.replicate 64 0
  | i + 1 => (wsAt bs i).set i (wnext bs (wsAt bs i) i)
theorem wsAt_len (bs : List UInt8) : ∀ i, (wsAt bs i).length = 64
  | 0 => rfl
  | i + 1 => by rw [wsAt, List.length_set, wsAt_len bs i]

/-- one round -/
def hnext (ws : List Int) (h : List Int) (i : Nat) : List Int :=
  let e := h.getD 4 0
  let a := h.getD 0 0
  let one := IntKind.u32.wrap (IntKind.u32.wrap (IntKind.u32.wrap (IntKind.u32.wrap (h.getD 7 0 + bits .xor .u32 (bits .xor .u32 (rotr e 6) (rotr e 11)) (rotr e 25)) + bits .xor .u32 (bits .and .u32 e (h.getD 5 0)) (bits .and .u32 (bits .xor .u32 IntKind.u32.max e) (h.getD 6 0))) + ktab.getD i 0) + ws.getD i 0)
  let two := IntKind.u32.wrap (bits .xor .u32 (bits .xor .u32 (rotr a 2) (rotr a 13)) (rotr a 22) + bits .xor .u32 (bits .xor .u32 (bits .and .u32 a (h.getD 1 0)) (bits .and .u32 a (h.getD 2 0))) (bits .and .u32 (h.getD 1 0) (h.getD 2 0)))
  [IntKind.u32.wrap (one + two), h.getD 0 0, h.getD 1 0, h.getD 2 0, IntKind.u32.wrap (h.getD 3 0 + one), h.getD 4 0, h.getD 5 0, h.getD 6 0]
def hAt (ws : List Int) (h : List Int) : Nat → List Int
  | 0 => h
  | i + 1 => hnext ws (hAt ws h i) i
theorem hAt_len (ws h : List Int) (hh : h.length = 8) : ∀ i, (hAt ws h i).length = 8
  | 0 => hh
  | _ + 1 => rfl
/-- the state's words, the first i of them raised -/
def sumAt (hs h : List Int) : Nat → List Int
  | 0 => hs
  | i + 1 => (sumAt hs h i).set i (IntKind.u32.wrap ((sumAt hs h i).getD i 0 + h.getD i 0))
theorem sumAt_len (hs h : List Int) : ∀ i, (sumAt hs h i).length = hs.length
  | 0 => rfl
  | i + 1 => by rw [sumAt, List.length_set, sumAt_len hs h i]
/-- a block is taken in -/
def mixS (hs : List Int) (bs : List UInt8) : List Int := sumAt hs (hAt (wsAt bs 64) hs 64) 8
theorem mixS_len (hs : List Int) (bs : List UInt8) : (mixS hs bs).length = hs.length := sumAt_len _ _ 8

set_option maxHeartbeats 1000000 in
theorem mix_fn (g : Nat) (hs : List Int) (tl : List Value) (A : Option Addr) (c : Nat) (bs : List UInt8) (w : World) (hh : hs.length = 8) (hB : Bl w g 199 (hs.map vu ++ tl)) (hR : Rd vb w A c bs) (hl : 64 ≤ bs.length) :
    Fn Tryz.prog 153 ⟨[.pointer (some ⟨g, 0, none⟩), .slice A bs.length c]⟩ w fun v w' => v = .tuple #[] ∧ Bl w' g 199 ((mixS hs bs).map vu ++ tl) ∧ w.grownBy w' (some g) := by
  have hglt := hB.lt
  refine Fn.enter (by kernel_rfl) Tryz.func153 rfl Tryz.ntmps153 rfl ?_
  repeat (first | refine WC.seq ?_ | refine WC.block ?_ | refine WC.region ?_ | refine WL.nil ?_ | refine WX.then_normal ?_ | refine WC.skip ?_ | refine WC.exit ?_ | refine WC.ret ?_ | refine WX.then_exit ?_ | refine WX.then_ret ?_ | refine WX.block_normal ?_ | refine WX.block_ret ?_ | refine WX.block_same ?_ | refine WX.block_other rfl ?_ | refine WC.label ?_ | refine WC.scope ?_ | refine WX.scope_normal ?_ | refine WX.scope_ret ?_ | refine WX.scope_exit ?_ | refine WL.y rfl (Yld.add rfl rfl (by simp only [In]; omega)) ?_ | refine WL.y rfl (Yld.sub rfl rfl (by simp only [In]; omega)) ?_ | refine WL.y rfl (Yld.mul rfl rfl (by simp only [In]; omega)) ?_ | refine WL.y rfl (Yld.convB tab_ok rfl rfl rfl rfl) ?_ | refine WL.y rfl (Yld.conv tab_ok rfl rfl rfl (by simp only [In]; omega)) ?_ | refine WL.y rfl (Yld.quo rfl rfl (by omega) (by omega) (by simp only [In]; omega)) ?_ | refine WL.y rfl (Yld.rem rfl rfl (by omega) (by omega)) ?_ | refine WL.y rfl (Yld.shl rfl rfl (by omega)) ?_ | refine WL.y rfl (Yld.shr rfl rfl (by omega)) ?_ | refine WL.y rfl (Yld.pure tab_ok rfl) ?_)
  refine WL.call rfl rfl (table_fn w) ?_
  rintro _ w1 ⟨rfl, hg1⟩
  refine WL.alloc rfl zero217 (fun gk w2 hk2 hg2 hlk => ?_)
  refine WL.storeW tab_ok rfl rfl rfl (oneM One.u _) hk2 rfl rfl (fun w3 hk3 hg3 => ?_)
  repeat (first | refine WC.seq ?_ | refine WC.block ?_ | refine WC.region ?_ | refine WL.nil ?_ | refine WX.then_normal ?_ | refine WC.skip ?_ | refine WC.exit ?_ | refine WC.ret ?_ | refine WX.then_exit ?_ | refine WX.then_ret ?_ | refine WX.block_normal ?_ | refine WX.block_ret ?_ | refine WX.block_same ?_ | refine WX.block_other rfl ?_ | refine WC.label ?_ | refine WC.scope ?_ | refine WX.scope_normal ?_ | refine WX.scope_ret ?_ | refine WX.scope_exit ?_ | refine WL.y rfl (Yld.add rfl rfl (by simp only [In]; omega)) ?_ | refine WL.y rfl (Yld.sub rfl rfl (by simp only [In]; omega)) ?_ | refine WL.y rfl (Yld.mul rfl rfl (by simp only [In]; omega)) ?_ | refine WL.y rfl (Yld.convB tab_ok rfl rfl rfl rfl) ?_ | refine WL.y rfl (Yld.conv tab_ok rfl rfl rfl (by simp only [In]; omega)) ?_ | refine WL.y rfl (Yld.quo rfl rfl (by omega) (by omega) (by simp only [In]; omega)) ?_ | refine WL.y rfl (Yld.rem rfl rfl (by omega) (by omega)) ?_ | refine WL.y rfl (Yld.shl rfl rfl (by omega)) ?_ | refine WL.y rfl (Yld.shr rfl rfl (by omega)) ?_ | refine WL.y rfl (Yld.pure tab_ok rfl) ?_)
  refine WL.alloc rfl zero217 (fun gw w4 hw4 hg4 hlw => ?_)
  repeat (first | refine WC.seq ?_ | refine WC.block ?_ | refine WC.region ?_ | refine WL.nil ?_ | refine WX.then_normal ?_ | refine WC.skip ?_ | refine WC.exit ?_ | refine WC.ret ?_ | refine WX.then_exit ?_ | refine WX.then_ret ?_ | refine WX.block_normal ?_ | refine WX.block_ret ?_ | refine WX.block_same ?_ | refine WX.block_other rfl ?_ | refine WC.label ?_ | refine WC.scope ?_ | refine WX.scope_normal ?_ | refine WX.scope_ret ?_ | refine WX.scope_exit ?_ | refine WL.y rfl (Yld.add rfl rfl (by simp only [In]; omega)) ?_ | refine WL.y rfl (Yld.sub rfl rfl (by simp only [In]; omega)) ?_ | refine WL.y rfl (Yld.mul rfl rfl (by simp only [In]; omega)) ?_ | refine WL.y rfl (Yld.convB tab_ok rfl rfl rfl rfl) ?_ | refine WL.y rfl (Yld.conv tab_ok rfl rfl rfl (by simp only [In]; omega)) ?_ | refine WL.y rfl (Yld.quo rfl rfl (by omega) (by omega) (by simp only [In]; omega)) ?_ | refine WL.y rfl (Yld.rem rfl rfl (by omega) (by omega)) ?_ | refine WL.y rfl (Yld.shl rfl rfl (by omega)) ?_ | refine WL.y rfl (Yld.shr rfl rfl (by omega)) ?_ | refine WL.y rfl (Yld.pure tab_ok rfl) ?_)
  have hz1 := hg1.size
  have hz2 := hg2.size
  have hz3 := hg3.size
  have hz4 := hg4.size
  have hk4 : Bl w4 gk 217 (ktab.map vu) := hk3.keep hg4 (by simp)
  have hkl := hk3.lt
  have hR4 : Rd vb w4 A c bs := ((hR.grown (gr_trans hg1 hg2)).keep hg3 (fun q hq e => by
    injection hq with hq
    have := hR.lt (fun e => by rw [e] at hl; simp at hl) e
    omega)).grown hg4
  have hB4 : Bl w4 g 199 (hs.map vu ++ tl) := ((hB.keep (gr_trans hg1 hg2) (by simp)).keep hg3 (fun e => by injection e with e; omega)).keep hg4 (by simp)
  have hgr4 : w.grownBy w4 none := gr_trans (gr_new (gr_trans hg1 hg2) hg3 (by omega)) hg4
  clear hk2 hk3 hg1 hg2 hg3 hg4
  refine WC.loop (S := Nat) (fun i => 64 - i) (fun i => [(17, vi i), (5, .pointer (some ⟨gw, 0, none⟩)), (4, .pointer (some ⟨gk, 0, none⟩)), (0, .pointer (some ⟨g, 0, none⟩)), (1, .slice A bs.length c)])
    (fun i w' => i ≤ 64 ∧ Bl w' gw 217 ((wsAt bs i).map vu) ∧ w4.grownBy w' (some gw)) 0 ⟨by omega, by rw [wsAt, List.map_replicate]; exact hw4, gr_refl _ _⟩ (by repeat (first | exact Sub.nil | refine Sub.cons rfl ?_)) (fun i w5 ⟨hi, hw5, hg5⟩ => ?_)
  have hlen := wsAt_len bs i
  have hR5 : Rd vb w5 A c bs := hR4.keep hg5 (fun q hq e => by
    injection hq with hq
    have := hR.lt (fun e => by rw [e] at hl; simp at hl) e
    omega)
  repeat (first | refine WC.seq ?_ | refine WC.block ?_ | refine WC.region ?_ | refine WL.nil ?_ | refine WX.then_normal ?_ | refine WC.skip ?_ | refine WC.exit ?_ | refine WC.ret ?_ | refine WX.then_exit ?_ | refine WX.then_ret ?_ | refine WX.block_normal ?_ | refine WX.block_ret ?_ | refine WX.block_same ?_ | refine WX.block_other rfl ?_ | refine WC.label ?_ | refine WC.scope ?_ | refine WX.scope_normal ?_ | refine WX.scope_ret ?_ | refine WX.scope_exit ?_ | refine WL.y rfl (Yld.add rfl rfl (by simp only [In]; omega)) ?_ | refine WL.y rfl (Yld.sub rfl rfl (by simp only [In]; omega)) ?_ | refine WL.y rfl (Yld.mul rfl rfl (by simp only [In]; omega)) ?_ | refine WL.y rfl (Yld.convB tab_ok rfl rfl rfl rfl) ?_ | refine WL.y rfl (Yld.conv tab_ok rfl rfl rfl (by simp only [In]; omega)) ?_ | refine WL.y rfl (Yld.quo rfl rfl (by omega) (by omega) (by simp only [In]; omega)) ?_ | refine WL.y rfl (Yld.rem rfl rfl (by omega) (by omega)) ?_ | refine WL.y rfl (Yld.shl rfl rfl (by omega)) ?_ | refine WL.y rfl (Yld.shr rfl rfl (by omega)) ?_ | refine WL.y rfl (Yld.pure tab_ok rfl) ?_)
  refine WC.cond rfl (fun h => ?_) (fun h => ?_)
  · simp only [decide_eq_true_eq] at h
    repeat (first | refine WC.seq ?_ | refine WC.block ?_ | refine WC.region ?_ | refine WL.nil ?_ | refine WX.then_normal ?_ | refine WC.skip ?_ | refine WC.exit ?_ | refine WC.ret ?_ | refine WX.then_exit ?_ | refine WX.then_ret ?_ | refine WX.block_normal ?_ | refine WX.block_ret ?_ | refine WX.block_same ?_ | refine WX.block_other rfl ?_ | refine WC.label ?_ | refine WC.scope ?_ | refine WX.scope_normal ?_ | refine WX.scope_ret ?_ | refine WX.scope_exit ?_ | refine WL.y rfl (Yld.add rfl rfl (by simp only [In]; omega)) ?_ | refine WL.y rfl (Yld.sub rfl rfl (by simp only [In]; omega)) ?_ | refine WL.y rfl (Yld.mul rfl rfl (by simp only [In]; omega)) ?_ | refine WL.y rfl (Yld.convB tab_ok rfl rfl rfl rfl) ?_ | refine WL.y rfl (Yld.conv tab_ok rfl rfl rfl (by simp only [In]; omega)) ?_ | refine WL.y rfl (Yld.quo rfl rfl (by omega) (by omega) (by simp only [In]; omega)) ?_ | refine WL.y rfl (Yld.rem rfl rfl (by omega) (by omega)) ?_ | refine WL.y rfl (Yld.shl rfl rfl (by omega)) ?_ | refine WL.y rfl (Yld.shr rfl rfl (by omega)) ?_ | refine WL.y rfl (Yld.pure tab_ok rfl) ?_)
    refine WC.cond rfl (fun h16 => ?_) (fun h16 => ?_)
    · simp only [decide_eq_true_eq] at h16
      repeat (first | refine WC.seq ?_ | refine WC.block ?_ | refine WC.region ?_ | refine WL.nil ?_ | refine WX.then_normal ?_ | refine WC.skip ?_ | refine WC.exit ?_ | refine WC.ret ?_ | refine WX.then_exit ?_ | refine WX.then_ret ?_ | refine WX.block_normal ?_ | refine WX.block_ret ?_ | refine WX.block_same ?_ | refine WX.block_other rfl ?_ | refine WC.label ?_ | refine WC.scope ?_ | refine WX.scope_normal ?_ | refine WX.scope_ret ?_ | refine WX.scope_exit ?_ | refine WL.y rfl (Yld.add rfl rfl (by simp only [In]; omega)) ?_ | refine WL.y rfl (Yld.sub rfl rfl (by simp only [In]; omega)) ?_ | refine WL.y rfl (Yld.mul rfl rfl (by simp only [In]; omega)) ?_ | refine WL.y rfl (Yld.convB tab_ok rfl rfl rfl rfl) ?_ | refine WL.y rfl (Yld.conv tab_ok rfl rfl rfl (by simp only [In]; omega)) ?_ | refine WL.y rfl (Yld.quo rfl rfl (by omega) (by omega) (by simp only [In]; omega)) ?_ | refine WL.y rfl (Yld.rem rfl rfl (by omega) (by omega)) ?_ | refine WL.y rfl (Yld.shl rfl rfl (by omega)) ?_ | refine WL.y rfl (Yld.shr rfl rfl (by omega)) ?_ | refine WL.y rfl (Yld.pure tab_ok rfl) ?_)
      refine WC.tail 35 mixed (by kernel_rfl) ?_
      repeat (first | refine WQ.y rfl (Yld.iaddr tab_ok hR5 rfl rfl rfl rfl (by omega) (by omega)) ?_ | refine WQ.y rfl (Yld.iload 0 tab_ok hR5 rfl rfl (by omega)) ?_ | refine WQ.y rfl (Yld.aaddr tab_ok rfl rfl rfl (by omega) (by omega)) ?_ | refine WQ.y rfl (Yld.add rfl rfl (by simp only [In]; omega)) ?_ | refine WQ.y rfl (Yld.sub rfl rfl (by simp only [In]; omega)) ?_ | refine WQ.y rfl (Yld.mul rfl rfl (by simp only [In]; omega)) ?_ | refine WQ.y rfl (Yld.convB tab_ok rfl rfl rfl rfl) ?_ | refine WQ.y rfl (Yld.conv tab_ok rfl rfl rfl (by simp only [In]; omega)) ?_ | refine WQ.y rfl (Yld.quo rfl rfl (by omega) (by omega) (by simp only [In]; omega)) ?_ | refine WQ.y rfl (Yld.rem rfl rfl (by omega) (by omega)) ?_ | refine WQ.y rfl (Yld.shl rfl rfl (by omega)) ?_ | refine WQ.y rfl (Yld.shr rfl rfl (by omega)) ?_ | refine WQ.y rfl (Yld.pure tab_ok rfl) ?_)
      refine WQ.tail ?_
      refine WL.store1 one130 rfl rfl rfl hw5 (by rw [List.length_map]; omega) (fun w6 hw6 hg6 => ?_)
      repeat (first | refine WC.seq ?_ | refine WC.block ?_ | refine WC.region ?_ | refine WL.nil ?_ | refine WX.then_normal ?_ | refine WC.skip ?_ | refine WC.exit ?_ | refine WC.ret ?_ | refine WX.then_exit ?_ | refine WX.then_ret ?_ | refine WX.block_normal ?_ | refine WX.block_ret ?_ | refine WX.block_same ?_ | refine WX.block_other rfl ?_ | refine WC.label ?_ | refine WC.scope ?_ | refine WX.scope_normal ?_ | refine WX.scope_ret ?_ | refine WX.scope_exit ?_ | refine WL.y rfl (Yld.add rfl rfl (by simp only [In]; omega)) ?_ | refine WL.y rfl (Yld.sub rfl rfl (by simp only [In]; omega)) ?_ | refine WL.y rfl (Yld.mul rfl rfl (by simp only [In]; omega)) ?_ | refine WL.y rfl (Yld.convB tab_ok rfl rfl rfl rfl) ?_ | refine WL.y rfl (Yld.conv tab_ok rfl rfl rfl (by simp only [In]; omega)) ?_ | refine WL.y rfl (Yld.quo rfl rfl (by omega) (by omega) (by simp only [In]; omega)) ?_ | refine WL.y rfl (Yld.rem rfl rfl (by omega) (by omega)) ?_ | refine WL.y rfl (Yld.shl rfl rfl (by omega)) ?_ | refine WL.y rfl (Yld.shr rfl rfl (by omega)) ?_ | refine WL.y rfl (Yld.pure tab_ok rfl) ?_)
      refine WX.round (i + 1) ⟨by omega, ?_, gr_trans hg5 hg6⟩ (by omega) (by repeat (first | exact Sub.nil | refine Sub.cons rfl ?_))
      have e0 : (4 * (i : Int)).toNat = 4 * i := by omega
      have e1 : (4 * (i : Int) + 1).toNat = 4 * i + 1 := by omega
      have e2 : (4 * (i : Int) + 2).toNat = 4 * i + 2 := by omega
      have e3 : (4 * (i : Int) + 3).toNat = 4 * i + 3 := by omega
      have ei : 0 + (i : Int).toNat * 1 = i := by omega
      rw [e0, e1, e2, e3, ei] at hw6
      rw [wsAt, List.map_set, wnext, if_pos (by omega)]
      exact hw6
    · simp only [decide_eq_false_iff_not] at h16
      repeat (first | refine WC.seq ?_ | refine WC.block ?_ | refine WC.region ?_ | refine WL.nil ?_ | refine WX.then_normal ?_ | refine WC.skip ?_ | refine WC.exit ?_ | refine WC.ret ?_ | refine WX.then_exit ?_ | refine WX.then_ret ?_ | refine WX.block_normal ?_ | refine WX.block_ret ?_ | refine WX.block_same ?_ | refine WX.block_other rfl ?_ | refine WC.label ?_ | refine WC.scope ?_ | refine WX.scope_normal ?_ | refine WX.scope_ret ?_ | refine WX.scope_exit ?_ | refine WL.y rfl (Yld.add rfl rfl (by simp only [In]; omega)) ?_ | refine WL.y rfl (Yld.sub rfl rfl (by simp only [In]; omega)) ?_ | refine WL.y rfl (Yld.mul rfl rfl (by simp only [In]; omega)) ?_ | refine WL.y rfl (Yld.convB tab_ok rfl rfl rfl rfl) ?_ | refine WL.y rfl (Yld.conv tab_ok rfl rfl rfl (by simp only [In]; omega)) ?_ | refine WL.y rfl (Yld.quo rfl rfl (by omega) (by omega) (by simp only [In]; omega)) ?_ | refine WL.y rfl (Yld.rem rfl rfl (by omega) (by omega)) ?_ | refine WL.y rfl (Yld.shl rfl rfl (by omega)) ?_ | refine WL.y rfl (Yld.shr rfl rfl (by omega)) ?_ | refine WL.y rfl (Yld.pure tab_ok rfl) ?_)
      refine WC.quiet mixed (by kernel_rfl) ?_
      repeat (first | refine WQ.y rfl (Yld.bloadm 0 tab_ok hw5 rfl rfl (by omega)) ?_ | refine WQ.y rfl (Yld.aaddr tab_ok rfl rfl rfl (by omega) (by omega)) ?_ | refine WQ.y rfl (Yld.add rfl rfl (by simp only [In]; omega)) ?_ | refine WQ.y rfl (Yld.sub rfl rfl (by simp only [In]; omega)) ?_ | refine WQ.y rfl (Yld.mul rfl rfl (by simp only [In]; omega)) ?_ | refine WQ.y rfl (Yld.convB tab_ok rfl rfl rfl rfl) ?_ | refine WQ.y rfl (Yld.conv tab_ok rfl rfl rfl (by simp only [In]; omega)) ?_ | refine WQ.y rfl (Yld.quo rfl rfl (by omega) (by omega) (by simp only [In]; omega)) ?_ | refine WQ.y rfl (Yld.rem rfl rfl (by omega) (by omega)) ?_ | refine WQ.y rfl (Yld.shl rfl rfl (by omega)) ?_ | refine WQ.y rfl (Yld.shr rfl rfl (by omega)) ?_ | refine WQ.y rfl (Yld.pure tab_ok rfl) ?_)
      refine WQ.nil ?_
      repeat (first | refine WC.seq ?_ | refine WC.block ?_ | refine WC.region ?_ | refine WL.nil ?_ | refine WX.then_normal ?_ | refine WC.skip ?_ | refine WC.exit ?_ | refine WC.ret ?_ | refine WX.then_exit ?_ | refine WX.then_ret ?_ | refine WX.block_normal ?_ | refine WX.block_ret ?_ | refine WX.block_same ?_ | refine WX.block_other rfl ?_ | refine WC.label ?_ | refine WC.scope ?_ | refine WX.scope_normal ?_ | refine WX.scope_ret ?_ | refine WX.scope_exit ?_ | refine WL.y rfl (Yld.add rfl rfl (by simp only [In]; omega)) ?_ | refine WL.y rfl (Yld.sub rfl rfl (by simp only [In]; omega)) ?_ | refine WL.y rfl (Yld.mul rfl rfl (by simp only [In]; omega)) ?_ | refine WL.y rfl (Yld.convB tab_ok rfl rfl rfl rfl) ?_ | refine WL.y rfl (Yld.conv tab_ok rfl rfl rfl (by simp only [In]; omega)) ?_ | refine WL.y rfl (Yld.quo rfl rfl (by omega) (by omega) (by simp only [In]; omega)) ?_ | refine WL.y rfl (Yld.rem rfl rfl (by omega) (by omega)) ?_ | refine WL.y rfl (Yld.shl rfl rfl (by omega)) ?_ | refine WL.y rfl (Yld.shr rfl rfl (by omega)) ?_ | refine WL.y rfl (Yld.pure tab_ok rfl) ?_)
      refine WC.tail 29 mixed (by kernel_rfl) ?_
      repeat (first | refine WQ.y rfl (Yld.bloadm 0 tab_ok hw5 rfl rfl (by omega)) ?_ | refine WQ.y rfl (Yld.aaddr tab_ok rfl rfl rfl (by omega) (by omega)) ?_ | refine WQ.call rfl rfl (right_fn _ _ _ (by omega) (by omega)) ?_ | refine WQ.y rfl (Yld.add rfl rfl (by simp only [In]; omega)) ?_ | refine WQ.y rfl (Yld.sub rfl rfl (by simp only [In]; omega)) ?_ | refine WQ.y rfl (Yld.mul rfl rfl (by simp only [In]; omega)) ?_ | refine WQ.y rfl (Yld.convB tab_ok rfl rfl rfl rfl) ?_ | refine WQ.y rfl (Yld.conv tab_ok rfl rfl rfl (by simp only [In]; omega)) ?_ | refine WQ.y rfl (Yld.quo rfl rfl (by omega) (by omega) (by simp only [In]; omega)) ?_ | refine WQ.y rfl (Yld.rem rfl rfl (by omega) (by omega)) ?_ | refine WQ.y rfl (Yld.shl rfl rfl (by omega)) ?_ | refine WQ.y rfl (Yld.shr rfl rfl (by omega)) ?_ | refine WQ.y rfl (Yld.pure tab_ok rfl) ?_)
      refine WQ.tail ?_
      refine WL.store1 one130 rfl rfl rfl hw5 (by rw [List.length_map]; omega) (fun w6 hw6 hg6 => ?_)
      repeat (first | refine WC.seq ?_ | refine WC.block ?_ | refine WC.region ?_ | refine WL.nil ?_ | refine WX.then_normal ?_ | refine WC.skip ?_ | refine WC.exit ?_ | refine WC.ret ?_ | refine WX.then_exit ?_ | refine WX.then_ret ?_ | refine WX.block_normal ?_ | refine WX.block_ret ?_ | refine WX.block_same ?_ | refine WX.block_other rfl ?_ | refine WC.label ?_ | refine WC.scope ?_ | refine WX.scope_normal ?_ | refine WX.scope_ret ?_ | refine WX.scope_exit ?_ | refine WL.y rfl (Yld.add rfl rfl (by simp only [In]; omega)) ?_ | refine WL.y rfl (Yld.sub rfl rfl (by simp only [In]; omega)) ?_ | refine WL.y rfl (Yld.mul rfl rfl (by simp only [In]; omega)) ?_ | refine WL.y rfl (Yld.convB tab_ok rfl rfl rfl rfl) ?_ | refine WL.y rfl (Yld.conv tab_ok rfl rfl rfl (by simp only [In]; omega)) ?_ | refine WL.y rfl (Yld.quo rfl rfl (by omega) (by omega) (by simp only [In]; omega)) ?_ | refine WL.y rfl (Yld.rem rfl rfl (by omega) (by omega)) ?_ | refine WL.y rfl (Yld.shl rfl rfl (by omega)) ?_ | refine WL.y rfl (Yld.shr rfl rfl (by omega)) ?_ | refine WL.y rfl (Yld.pure tab_ok rfl) ?_)
      refine WX.round (i + 1) ⟨by omega, ?_, gr_trans hg5 hg6⟩ (by omega) (by repeat (first | exact Sub.nil | refine Sub.cons rfl ?_))
      have e0 : 0 + ((i : Int) - 16).toNat * 1 = i - 16 := by omega
      have e1 : 0 + ((i : Int) - 7).toNat * 1 = i - 7 := by omega
      have e2 : 0 + ((i : Int) - 15).toNat * 1 = i - 15 := by omega
      have e3 : 0 + ((i : Int) - 2).toNat * 1 = i - 2 := by omega
      have ei : 0 + (i : Int).toNat * 1 = i := by omega
      rw [e0, e1, e2, e3, ei] at hw6
      rw [wsAt, List.map_set, wnext, if_neg (by omega)]
      exact hw6
  · simp only [decide_eq_false_iff_not] at h
    obtain rfl : i = 64 := by omega
    have hk5 : Bl w5 gk 217 (ktab.map vu) := hk4.keep hg5 (fun e => by injection e with e; omega)
    have hB5 : Bl w5 g 199 (hs.map vu ++ tl) := hB4.keep hg5 (fun e => by injection e with e; omega)
    have hgr5 : w.grownBy w5 none := gr_new hgr4 hg5 (by omega)
    have hwl := hw5.lt
    clear hg5 hw4 hk4 hB4 hR4 hR5 hgr4
    repeat (first | refine WC.seq ?_ | refine WC.block ?_ | refine WC.region ?_ | refine WL.nil ?_ | refine WX.then_normal ?_ | refine WC.skip ?_ | refine WC.exit ?_ | refine WC.ret ?_ | refine WX.then_exit ?_ | refine WX.then_ret ?_ | refine WX.block_normal ?_ | refine WX.block_ret ?_ | refine WX.block_same ?_ | refine WX.block_other rfl ?_ | refine WC.label ?_ | refine WC.scope ?_ | refine WX.scope_normal ?_ | refine WX.scope_ret ?_ | refine WX.scope_exit ?_ | refine WL.y rfl (Yld.add rfl rfl (by simp only [In]; omega)) ?_ | refine WL.y rfl (Yld.sub rfl rfl (by simp only [In]; omega)) ?_ | refine WL.y rfl (Yld.mul rfl rfl (by simp only [In]; omega)) ?_ | refine WL.y rfl (Yld.convB tab_ok rfl rfl rfl rfl) ?_ | refine WL.y rfl (Yld.conv tab_ok rfl rfl rfl (by simp only [In]; omega)) ?_ | refine WL.y rfl (Yld.quo rfl rfl (by omega) (by omega) (by simp only [In]; omega)) ?_ | refine WL.y rfl (Yld.rem rfl rfl (by omega) (by omega)) ?_ | refine WL.y rfl (Yld.shl rfl rfl (by omega)) ?_ | refine WL.y rfl (Yld.shr rfl rfl (by omega)) ?_ | refine WL.y rfl (Yld.pure tab_ok rfl) ?_)
    refine WL.y rfl (Yld.bagg (vs := hs.map vu) tab_ok hB5 rfl rfl (by simp [hh]) (by simp [hh])) ?_
    refine WL.alloc rfl zero197 (fun gh w6 hh6 hg6 hlh => ?_)
    refine WL.storeW tab_ok rfl rfl rfl (oneM One.u _) hh6 rfl (by simp [hh]) (fun w7 hh7 hg7 => ?_)
    have hz6 := hg6.size
    have hz7 := hg7.size
    have hhl := hh7.lt
    have hk7 : Bl w7 gk 217 (ktab.map vu) := (hk5.keep hg6 (by simp)).keep hg7 (fun e => by injection e with e; have := hk5.lt; omega)
    have hw7 : Bl w7 gw 217 ((wsAt bs 64).map vu) := (hw5.keep hg6 (by simp)).keep hg7 (fun e => by injection e with e; omega)
    have hB7 : Bl w7 g 199 (hs.map vu ++ tl) := (hB5.keep hg6 (by simp)).keep hg7 (fun e => by injection e with e; have := hB5.lt; omega)
    have hgr7 : w.grownBy w7 none := gr_new (gr_trans hgr5 hg6) hg7 (by have := hgr5.size; omega)
    have hkl7 := hk7.lt
    clear hh6 hg6 hg7 hk5 hw5 hB5 hgr5
    generalize hws : wsAt bs 64 = ws at *
    repeat (first | refine WC.seq ?_ | refine WC.block ?_ | refine WC.region ?_ | refine WL.nil ?_ | refine WX.then_normal ?_ | refine WC.skip ?_ | refine WC.exit ?_ | refine WC.ret ?_ | refine WX.then_exit ?_ | refine WX.then_ret ?_ | refine WX.block_normal ?_ | refine WX.block_ret ?_ | refine WX.block_same ?_ | refine WX.block_other rfl ?_ | refine WC.label ?_ | refine WC.scope ?_ | refine WX.scope_normal ?_ | refine WX.scope_ret ?_ | refine WX.scope_exit ?_ | refine WL.y rfl (Yld.add rfl rfl (by simp only [In]; omega)) ?_ | refine WL.y rfl (Yld.sub rfl rfl (by simp only [In]; omega)) ?_ | refine WL.y rfl (Yld.mul rfl rfl (by simp only [In]; omega)) ?_ | refine WL.y rfl (Yld.convB tab_ok rfl rfl rfl rfl) ?_ | refine WL.y rfl (Yld.conv tab_ok rfl rfl rfl (by simp only [In]; omega)) ?_ | refine WL.y rfl (Yld.quo rfl rfl (by omega) (by omega) (by simp only [In]; omega)) ?_ | refine WL.y rfl (Yld.rem rfl rfl (by omega) (by omega)) ?_ | refine WL.y rfl (Yld.shl rfl rfl (by omega)) ?_ | refine WL.y rfl (Yld.shr rfl rfl (by omega)) ?_ | refine WL.y rfl (Yld.pure tab_ok rfl) ?_)
    refine WC.loop (S := Nat) (fun i => 64 - i) (fun i => [(99, vi i), (9, .pointer (some ⟨gh, 0, none⟩)), (5, .pointer (some ⟨gw, 0, none⟩)), (4, .pointer (some ⟨gk, 0, none⟩)), (0, .pointer (some ⟨g, 0, none⟩))])
      (fun i w' => i ≤ 64 ∧ Bl w' gh 197 ((hAt ws hs i).map vu) ∧ w7.grownBy w' (some gh)) 0 ⟨by omega, hh7, gr_refl _ _⟩ (by repeat (first | exact Sub.nil | refine Sub.cons rfl ?_)) (fun i w8 ⟨hi, hh8, hg8⟩ => ?_)
    have hl8 := hAt_len ws hs hh i
    have hk8 : Bl w8 gk 217 (ktab.map vu) := hk7.keep hg8 (fun e => by injection e with e; omega)
    have hw8 : Bl w8 gw 217 (ws.map vu) := hw7.keep hg8 (fun e => by injection e with e; omega)
    repeat (first | refine WC.seq ?_ | refine WC.block ?_ | refine WC.region ?_ | refine WL.nil ?_ | refine WX.then_normal ?_ | refine WC.skip ?_ | refine WC.exit ?_ | refine WC.ret ?_ | refine WX.then_exit ?_ | refine WX.then_ret ?_ | refine WX.block_normal ?_ | refine WX.block_ret ?_ | refine WX.block_same ?_ | refine WX.block_other rfl ?_ | refine WC.label ?_ | refine WC.scope ?_ | refine WX.scope_normal ?_ | refine WX.scope_ret ?_ | refine WX.scope_exit ?_ | refine WL.y rfl (Yld.add rfl rfl (by simp only [In]; omega)) ?_ | refine WL.y rfl (Yld.sub rfl rfl (by simp only [In]; omega)) ?_ | refine WL.y rfl (Yld.mul rfl rfl (by simp only [In]; omega)) ?_ | refine WL.y rfl (Yld.convB tab_ok rfl rfl rfl rfl) ?_ | refine WL.y rfl (Yld.conv tab_ok rfl rfl rfl (by simp only [In]; omega)) ?_ | refine WL.y rfl (Yld.quo rfl rfl (by omega) (by omega) (by simp only [In]; omega)) ?_ | refine WL.y rfl (Yld.rem rfl rfl (by omega) (by omega)) ?_ | refine WL.y rfl (Yld.shl rfl rfl (by omega)) ?_ | refine WL.y rfl (Yld.shr rfl rfl (by omega)) ?_ | refine WL.y rfl (Yld.pure tab_ok rfl) ?_)
    have hkt : ktab.length = 64 := rfl
    refine WC.cond rfl (fun h => ?_) (fun h => ?_)
    · simp only [decide_eq_true_eq] at h
      repeat (first | refine WC.seq ?_ | refine WC.block ?_ | refine WC.region ?_ | refine WL.nil ?_ | refine WX.then_normal ?_ | refine WC.skip ?_ | refine WC.exit ?_ | refine WC.ret ?_ | refine WX.then_exit ?_ | refine WX.then_ret ?_ | refine WX.block_normal ?_ | refine WX.block_ret ?_ | refine WX.block_same ?_ | refine WX.block_other rfl ?_ | refine WC.label ?_ | refine WC.scope ?_ | refine WX.scope_normal ?_ | refine WX.scope_ret ?_ | refine WX.scope_exit ?_ | refine WL.y rfl (Yld.add rfl rfl (by simp only [In]; omega)) ?_ | refine WL.y rfl (Yld.sub rfl rfl (by simp only [In]; omega)) ?_ | refine WL.y rfl (Yld.mul rfl rfl (by simp only [In]; omega)) ?_ | refine WL.y rfl (Yld.convB tab_ok rfl rfl rfl rfl) ?_ | refine WL.y rfl (Yld.conv tab_ok rfl rfl rfl (by simp only [In]; omega)) ?_ | refine WL.y rfl (Yld.quo rfl rfl (by omega) (by omega) (by simp only [In]; omega)) ?_ | refine WL.y rfl (Yld.rem rfl rfl (by omega) (by omega)) ?_ | refine WL.y rfl (Yld.shl rfl rfl (by omega)) ?_ | refine WL.y rfl (Yld.shr rfl rfl (by omega)) ?_ | refine WL.y rfl (Yld.pure tab_ok rfl) ?_)
      refine WC.quiet mixed (by kernel_rfl) ?_
      repeat (first | refine WQ.y rfl (Yld.bloadm 0 tab_ok hh8 rfl rfl (by omega)) ?_ | refine WQ.y rfl (Yld.aaddr tab_ok rfl rfl rfl (by omega) (by omega)) ?_ | refine WQ.y rfl (Yld.add rfl rfl (by simp only [In]; omega)) ?_ | refine WQ.y rfl (Yld.sub rfl rfl (by simp only [In]; omega)) ?_ | refine WQ.y rfl (Yld.mul rfl rfl (by simp only [In]; omega)) ?_ | refine WQ.y rfl (Yld.convB tab_ok rfl rfl rfl rfl) ?_ | refine WQ.y rfl (Yld.conv tab_ok rfl rfl rfl (by simp only [In]; omega)) ?_ | refine WQ.y rfl (Yld.quo rfl rfl (by omega) (by omega) (by simp only [In]; omega)) ?_ | refine WQ.y rfl (Yld.rem rfl rfl (by omega) (by omega)) ?_ | refine WQ.y rfl (Yld.shl rfl rfl (by omega)) ?_ | refine WQ.y rfl (Yld.shr rfl rfl (by omega)) ?_ | refine WQ.y rfl (Yld.pure tab_ok rfl) ?_)
      refine WQ.nil ?_
      repeat (first | refine WC.seq ?_ | refine WC.block ?_ | refine WC.region ?_ | refine WL.nil ?_ | refine WX.then_normal ?_ | refine WC.skip ?_ | refine WC.exit ?_ | refine WC.ret ?_ | refine WX.then_exit ?_ | refine WX.then_ret ?_ | refine WX.block_normal ?_ | refine WX.block_ret ?_ | refine WX.block_same ?_ | refine WX.block_other rfl ?_ | refine WC.label ?_ | refine WC.scope ?_ | refine WX.scope_normal ?_ | refine WX.scope_ret ?_ | refine WX.scope_exit ?_ | refine WL.y rfl (Yld.add rfl rfl (by simp only [In]; omega)) ?_ | refine WL.y rfl (Yld.sub rfl rfl (by simp only [In]; omega)) ?_ | refine WL.y rfl (Yld.mul rfl rfl (by simp only [In]; omega)) ?_ | refine WL.y rfl (Yld.convB tab_ok rfl rfl rfl rfl) ?_ | refine WL.y rfl (Yld.conv tab_ok rfl rfl rfl (by simp only [In]; omega)) ?_ | refine WL.y rfl (Yld.quo rfl rfl (by omega) (by omega) (by simp only [In]; omega)) ?_ | refine WL.y rfl (Yld.rem rfl rfl (by omega) (by omega)) ?_ | refine WL.y rfl (Yld.shl rfl rfl (by omega)) ?_ | refine WL.y rfl (Yld.shr rfl rfl (by omega)) ?_ | refine WL.y rfl (Yld.pure tab_ok rfl) ?_)
      refine WC.quiet mixed (by kernel_rfl) ?_
      repeat (first | refine WQ.y rfl (Yld.bloadm 0 tab_ok hh8 rfl rfl (by omega)) ?_ | refine WQ.y rfl (Yld.bloadm 0 tab_ok hk8 rfl rfl (by omega)) ?_ | refine WQ.y rfl (Yld.bloadm 0 tab_ok hw8 rfl rfl (by omega)) ?_ | refine WQ.y rfl (Yld.aaddr tab_ok rfl rfl rfl (by omega) (by omega)) ?_ | refine WQ.call rfl rfl (right_fn _ _ _ (by omega) (by omega)) ?_ | refine WQ.y rfl (Yld.add rfl rfl (by simp only [In]; omega)) ?_ | refine WQ.y rfl (Yld.sub rfl rfl (by simp only [In]; omega)) ?_ | refine WQ.y rfl (Yld.mul rfl rfl (by simp only [In]; omega)) ?_ | refine WQ.y rfl (Yld.convB tab_ok rfl rfl rfl rfl) ?_ | refine WQ.y rfl (Yld.conv tab_ok rfl rfl rfl (by simp only [In]; omega)) ?_ | refine WQ.y rfl (Yld.quo rfl rfl (by omega) (by omega) (by simp only [In]; omega)) ?_ | refine WQ.y rfl (Yld.rem rfl rfl (by omega) (by omega)) ?_ | refine WQ.y rfl (Yld.shl rfl rfl (by omega)) ?_ | refine WQ.y rfl (Yld.shr rfl rfl (by omega)) ?_ | refine WQ.y rfl (Yld.pure tab_ok rfl) ?_)
      refine WQ.nil ?_
      have ei : 0 + (i : Int).toNat * 1 = i := by omega
      rw [ei]
      repeat (first | refine WC.seq ?_ | refine WC.block ?_ | refine WC.region ?_ | refine WL.nil ?_ | refine WX.then_normal ?_ | refine WC.skip ?_ | refine WC.exit ?_ | refine WC.ret ?_ | refine WX.then_exit ?_ | refine WX.then_ret ?_ | refine WX.block_normal ?_ | refine WX.block_ret ?_ | refine WX.block_same ?_ | refine WX.block_other rfl ?_ | refine WC.label ?_ | refine WC.scope ?_ | refine WX.scope_normal ?_ | refine WX.scope_ret ?_ | refine WX.scope_exit ?_ | refine WL.y rfl (Yld.add rfl rfl (by simp only [In]; omega)) ?_ | refine WL.y rfl (Yld.sub rfl rfl (by simp only [In]; omega)) ?_ | refine WL.y rfl (Yld.mul rfl rfl (by simp only [In]; omega)) ?_ | refine WL.y rfl (Yld.convB tab_ok rfl rfl rfl rfl) ?_ | refine WL.y rfl (Yld.conv tab_ok rfl rfl rfl (by simp only [In]; omega)) ?_ | refine WL.y rfl (Yld.quo rfl rfl (by omega) (by omega) (by simp only [In]; omega)) ?_ | refine WL.y rfl (Yld.rem rfl rfl (by omega) (by omega)) ?_ | refine WL.y rfl (Yld.shl rfl rfl (by omega)) ?_ | refine WL.y rfl (Yld.shr rfl rfl (by omega)) ?_ | refine WL.y rfl (Yld.pure tab_ok rfl) ?_)
      refine WC.quiet mixed (by kernel_rfl) ?_
      repeat (first | refine WQ.y rfl (Yld.bloadm 0 tab_ok hh8 rfl rfl (by omega)) ?_ | refine WQ.y rfl (Yld.aaddr tab_ok rfl rfl rfl (by omega) (by omega)) ?_ | refine WQ.call rfl rfl (right_fn _ _ _ (by omega) (by omega)) ?_ | refine WQ.y rfl (Yld.add rfl rfl (by simp only [In]; omega)) ?_ | refine WQ.y rfl (Yld.sub rfl rfl (by simp only [In]; omega)) ?_ | refine WQ.y rfl (Yld.mul rfl rfl (by simp only [In]; omega)) ?_ | refine WQ.y rfl (Yld.convB tab_ok rfl rfl rfl rfl) ?_ | refine WQ.y rfl (Yld.conv tab_ok rfl rfl rfl (by simp only [In]; omega)) ?_ | refine WQ.y rfl (Yld.quo rfl rfl (by omega) (by omega) (by simp only [In]; omega)) ?_ | refine WQ.y rfl (Yld.rem rfl rfl (by omega) (by omega)) ?_ | refine WQ.y rfl (Yld.shl rfl rfl (by omega)) ?_ | refine WQ.y rfl (Yld.shr rfl rfl (by omega)) ?_ | refine WQ.y rfl (Yld.pure tab_ok rfl) ?_)
      refine WQ.nil ?_
      repeat (first | refine WL.y rfl (Yld.bloadm 0 tab_ok hh8 rfl rfl (by omega)) ?_ | refine WL.y rfl (Yld.aaddr tab_ok rfl rfl rfl (by omega) (by omega)) ?_ | refine WC.seq ?_ | refine WC.block ?_ | refine WC.region ?_ | refine WL.nil ?_ | refine WX.then_normal ?_ | refine WC.skip ?_ | refine WC.exit ?_ | refine WC.ret ?_ | refine WX.then_exit ?_ | refine WX.then_ret ?_ | refine WX.block_normal ?_ | refine WX.block_ret ?_ | refine WX.block_same ?_ | refine WX.block_other rfl ?_ | refine WC.label ?_ | refine WC.scope ?_ | refine WX.scope_normal ?_ | refine WX.scope_ret ?_ | refine WX.scope_exit ?_ | refine WL.y rfl (Yld.add rfl rfl (by simp only [In]; omega)) ?_ | refine WL.y rfl (Yld.sub rfl rfl (by simp only [In]; omega)) ?_ | refine WL.y rfl (Yld.mul rfl rfl (by simp only [In]; omega)) ?_ | refine WL.y rfl (Yld.convB tab_ok rfl rfl rfl rfl) ?_ | refine WL.y rfl (Yld.conv tab_ok rfl rfl rfl (by simp only [In]; omega)) ?_ | refine WL.y rfl (Yld.quo rfl rfl (by omega) (by omega) (by simp only [In]; omega)) ?_ | refine WL.y rfl (Yld.rem rfl rfl (by omega) (by omega)) ?_ | refine WL.y rfl (Yld.shl rfl rfl (by omega)) ?_ | refine WL.y rfl (Yld.shr rfl rfl (by omega)) ?_ | refine WL.y rfl (Yld.pure tab_ok rfl) ?_)
      refine WL.y rfl (Yld.arr (us := (hnext ws (hAt ws hs i) i).map vu) tab_ok rfl zero197 rfl rfl (oneM One.u _) rfl) ?_
      refine WL.storeW tab_ok rfl rfl rfl (oneM One.u _) hh8 (by simp [hl8]) rfl (fun w9 hh9 hg9 => ?_)
      repeat (first | refine WC.seq ?_ | refine WC.block ?_ | refine WC.region ?_ | refine WL.nil ?_ | refine WX.then_normal ?_ | refine WC.skip ?_ | refine WC.exit ?_ | refine WC.ret ?_ | refine WX.then_exit ?_ | refine WX.then_ret ?_ | refine WX.block_normal ?_ | refine WX.block_ret ?_ | refine WX.block_same ?_ | refine WX.block_other rfl ?_ | refine WC.label ?_ | refine WC.scope ?_ | refine WX.scope_normal ?_ | refine WX.scope_ret ?_ | refine WX.scope_exit ?_ | refine WL.y rfl (Yld.add rfl rfl (by simp only [In]; omega)) ?_ | refine WL.y rfl (Yld.sub rfl rfl (by simp only [In]; omega)) ?_ | refine WL.y rfl (Yld.mul rfl rfl (by simp only [In]; omega)) ?_ | refine WL.y rfl (Yld.convB tab_ok rfl rfl rfl rfl) ?_ | refine WL.y rfl (Yld.conv tab_ok rfl rfl rfl (by simp only [In]; omega)) ?_ | refine WL.y rfl (Yld.quo rfl rfl (by omega) (by omega) (by simp only [In]; omega)) ?_ | refine WL.y rfl (Yld.rem rfl rfl (by omega) (by omega)) ?_ | refine WL.y rfl (Yld.shl rfl rfl (by omega)) ?_ | refine WL.y rfl (Yld.shr rfl rfl (by omega)) ?_ | refine WL.y rfl (Yld.pure tab_ok rfl) ?_)
      exact WX.round (i + 1) ⟨by omega, hh9, gr_trans hg8 hg9⟩ (by omega) (by repeat (first | exact Sub.nil | refine Sub.cons rfl ?_))
    · simp only [decide_eq_false_iff_not] at h
      obtain rfl : i = 64 := by omega
      have hB8 : Bl w8 g 199 (hs.map vu ++ tl) := hB7.keep hg8 (fun e => by injection e with e; omega)
      have hgr8 : w.grownBy w8 none := gr_new hgr7 hg8 (by have := hgr7.size; omega)
      have hhl8 := hh8.lt
      have hgl8 := hB8.lt
      have hne : g ≠ gh := by omega
      clear hg8 hh7 hk7 hw7 hB7 hgr7 hk8 hw8
      have hfin : mixS hs bs = sumAt hs (hAt ws hs 64) 8 := by rw [mixS, hws]
      generalize hAt ws hs 64 = hv at *
      repeat (first | refine WC.seq ?_ | refine WC.block ?_ | refine WC.region ?_ | refine WL.nil ?_ | refine WX.then_normal ?_ | refine WC.skip ?_ | refine WC.exit ?_ | refine WC.ret ?_ | refine WX.then_exit ?_ | refine WX.then_ret ?_ | refine WX.block_normal ?_ | refine WX.block_ret ?_ | refine WX.block_same ?_ | refine WX.block_other rfl ?_ | refine WC.label ?_ | refine WC.scope ?_ | refine WX.scope_normal ?_ | refine WX.scope_ret ?_ | refine WX.scope_exit ?_ | refine WL.y rfl (Yld.add rfl rfl (by simp only [In]; omega)) ?_ | refine WL.y rfl (Yld.sub rfl rfl (by simp only [In]; omega)) ?_ | refine WL.y rfl (Yld.mul rfl rfl (by simp only [In]; omega)) ?_ | refine WL.y rfl (Yld.convB tab_ok rfl rfl rfl rfl) ?_ | refine WL.y rfl (Yld.conv tab_ok rfl rfl rfl (by simp only [In]; omega)) ?_ | refine WL.y rfl (Yld.quo rfl rfl (by omega) (by omega) (by simp only [In]; omega)) ?_ | refine WL.y rfl (Yld.rem rfl rfl (by omega) (by omega)) ?_ | refine WL.y rfl (Yld.shl rfl rfl (by omega)) ?_ | refine WL.y rfl (Yld.shr rfl rfl (by omega)) ?_ | refine WL.y rfl (Yld.pure tab_ok rfl) ?_)
      refine WC.loop (S := Nat) (fun i => 8 - i) (fun i => [(181, vi i), (9, .pointer (some ⟨gh, 0, none⟩)), (0, .pointer (some ⟨g, 0, none⟩))])
        (fun i w' => i ≤ 8 ∧ Bl w' g 199 ((sumAt hs hv i).map vu ++ tl) ∧ w8.grownBy w' (some g)) 0 ⟨by omega, hB8, gr_refl _ _⟩ (by repeat (first | exact Sub.nil | refine Sub.cons rfl ?_)) (fun i w9 ⟨hi, hB9, hg9⟩ => ?_)
      have hsl := sumAt_len hs hv i
      have hh9 : Bl w9 gh 197 (hv.map vu) := hh8.keep hg9 (fun e => by injection e with e; omega)
      repeat (first | refine WC.seq ?_ | refine WC.block ?_ | refine WC.region ?_ | refine WL.nil ?_ | refine WX.then_normal ?_ | refine WC.skip ?_ | refine WC.exit ?_ | refine WC.ret ?_ | refine WX.then_exit ?_ | refine WX.then_ret ?_ | refine WX.block_normal ?_ | refine WX.block_ret ?_ | refine WX.block_same ?_ | refine WX.block_other rfl ?_ | refine WC.label ?_ | refine WC.scope ?_ | refine WX.scope_normal ?_ | refine WX.scope_ret ?_ | refine WX.scope_exit ?_ | refine WL.y rfl (Yld.add rfl rfl (by simp only [In]; omega)) ?_ | refine WL.y rfl (Yld.sub rfl rfl (by simp only [In]; omega)) ?_ | refine WL.y rfl (Yld.mul rfl rfl (by simp only [In]; omega)) ?_ | refine WL.y rfl (Yld.convB tab_ok rfl rfl rfl rfl) ?_ | refine WL.y rfl (Yld.conv tab_ok rfl rfl rfl (by simp only [In]; omega)) ?_ | refine WL.y rfl (Yld.quo rfl rfl (by omega) (by omega) (by simp only [In]; omega)) ?_ | refine WL.y rfl (Yld.rem rfl rfl (by omega) (by omega)) ?_ | refine WL.y rfl (Yld.shl rfl rfl (by omega)) ?_ | refine WL.y rfl (Yld.shr rfl rfl (by omega)) ?_ | refine WL.y rfl (Yld.pure tab_ok rfl) ?_)
      refine WC.cond rfl (fun h => ?_) (fun h => ?_)
      · simp only [decide_eq_true_eq] at h
        have ei : 0 + 0 + (i : Int).toNat * 1 = i := by omega
        have hv9 : ((sumAt hs hv i).map vu ++ tl)[0 + 0 + (i : Int).toNat * 1]? = some (vu ((sumAt hs hv i).getD i 0)) := by
          rw [ei, List.getElem?_append_left (by rw [List.length_map]; omega)]
          simp [List.getD, show i < (sumAt hs hv i).length by omega]
        repeat (first | refine WC.seq ?_ | refine WC.block ?_ | refine WC.region ?_ | refine WL.nil ?_ | refine WX.then_normal ?_ | refine WC.skip ?_ | refine WC.exit ?_ | refine WC.ret ?_ | refine WX.then_exit ?_ | refine WX.then_ret ?_ | refine WX.block_normal ?_ | refine WX.block_ret ?_ | refine WX.block_same ?_ | refine WX.block_other rfl ?_ | refine WC.label ?_ | refine WC.scope ?_ | refine WX.scope_normal ?_ | refine WX.scope_ret ?_ | refine WX.scope_exit ?_ | refine WL.y rfl (Yld.add rfl rfl (by simp only [In]; omega)) ?_ | refine WL.y rfl (Yld.sub rfl rfl (by simp only [In]; omega)) ?_ | refine WL.y rfl (Yld.mul rfl rfl (by simp only [In]; omega)) ?_ | refine WL.y rfl (Yld.convB tab_ok rfl rfl rfl rfl) ?_ | refine WL.y rfl (Yld.conv tab_ok rfl rfl rfl (by simp only [In]; omega)) ?_ | refine WL.y rfl (Yld.quo rfl rfl (by omega) (by omega) (by simp only [In]; omega)) ?_ | refine WL.y rfl (Yld.rem rfl rfl (by omega) (by omega)) ?_ | refine WL.y rfl (Yld.shl rfl rfl (by omega)) ?_ | refine WL.y rfl (Yld.shr rfl rfl (by omega)) ?_ | refine WL.y rfl (Yld.pure tab_ok rfl) ?_)
        refine WC.tail 13 mixed (by kernel_rfl) ?_
        repeat (first | refine WQ.y rfl (Yld.bload tab_ok hB9 rfl rfl hv9) ?_ | refine WQ.y rfl (Yld.bloadm 0 tab_ok hh9 rfl rfl (by omega)) ?_ | refine WQ.y rfl (Yld.aaddr tab_ok rfl rfl rfl (by omega) (by omega)) ?_ | refine WQ.y rfl (Yld.add rfl rfl (by simp only [In]; omega)) ?_ | refine WQ.y rfl (Yld.sub rfl rfl (by simp only [In]; omega)) ?_ | refine WQ.y rfl (Yld.mul rfl rfl (by simp only [In]; omega)) ?_ | refine WQ.y rfl (Yld.convB tab_ok rfl rfl rfl rfl) ?_ | refine WQ.y rfl (Yld.conv tab_ok rfl rfl rfl (by simp only [In]; omega)) ?_ | refine WQ.y rfl (Yld.quo rfl rfl (by omega) (by omega) (by simp only [In]; omega)) ?_ | refine WQ.y rfl (Yld.rem rfl rfl (by omega) (by omega)) ?_ | refine WQ.y rfl (Yld.shl rfl rfl (by omega)) ?_ | refine WQ.y rfl (Yld.shr rfl rfl (by omega)) ?_ | refine WQ.y rfl (Yld.pure tab_ok rfl) ?_)
        refine WQ.tail ?_
        refine WL.store1 one130 rfl rfl rfl hB9 (by simp; omega) (fun w10 hB10 hg10 => ?_)
        repeat (first | refine WC.seq ?_ | refine WC.block ?_ | refine WC.region ?_ | refine WL.nil ?_ | refine WX.then_normal ?_ | refine WC.skip ?_ | refine WC.exit ?_ | refine WC.ret ?_ | refine WX.then_exit ?_ | refine WX.then_ret ?_ | refine WX.block_normal ?_ | refine WX.block_ret ?_ | refine WX.block_same ?_ | refine WX.block_other rfl ?_ | refine WC.label ?_ | refine WC.scope ?_ | refine WX.scope_normal ?_ | refine WX.scope_ret ?_ | refine WX.scope_exit ?_ | refine WL.y rfl (Yld.add rfl rfl (by simp only [In]; omega)) ?_ | refine WL.y rfl (Yld.sub rfl rfl (by simp only [In]; omega)) ?_ | refine WL.y rfl (Yld.mul rfl rfl (by simp only [In]; omega)) ?_ | refine WL.y rfl (Yld.convB tab_ok rfl rfl rfl rfl) ?_ | refine WL.y rfl (Yld.conv tab_ok rfl rfl rfl (by simp only [In]; omega)) ?_ | refine WL.y rfl (Yld.quo rfl rfl (by omega) (by omega) (by simp only [In]; omega)) ?_ | refine WL.y rfl (Yld.rem rfl rfl (by omega) (by omega)) ?_ | refine WL.y rfl (Yld.shl rfl rfl (by omega)) ?_ | refine WL.y rfl (Yld.shr rfl rfl (by omega)) ?_ | refine WL.y rfl (Yld.pure tab_ok rfl) ?_)
        refine WX.round (i + 1) ⟨by omega, ?_, gr_trans hg9 hg10⟩ (by omega) (by repeat (first | exact Sub.nil | refine Sub.cons rfl ?_))
        rw [ei] at hB10
        rw [sumAt, List.map_set]
        rw [List.set_append_left _ _ (by rw [List.length_map]; omega)] at hB10
        exact hB10
      · simp only [decide_eq_false_iff_not] at h
        obtain rfl : i = 8 := by omega
        repeat (first | refine WC.seq ?_ | refine WC.block ?_ | refine WC.region ?_ | refine WL.nil ?_ | refine WX.then_normal ?_ | refine WC.skip ?_ | refine WC.exit ?_ | refine WC.ret ?_ | refine WX.then_exit ?_ | refine WX.then_ret ?_ | refine WX.block_normal ?_ | refine WX.block_ret ?_ | refine WX.block_same ?_ | refine WX.block_other rfl ?_ | refine WC.label ?_ | refine WC.scope ?_ | refine WX.scope_normal ?_ | refine WX.scope_ret ?_ | refine WX.scope_exit ?_ | refine WL.y rfl (Yld.add rfl rfl (by simp only [In]; omega)) ?_ | refine WL.y rfl (Yld.sub rfl rfl (by simp only [In]; omega)) ?_ | refine WL.y rfl (Yld.mul rfl rfl (by simp only [In]; omega)) ?_ | refine WL.y rfl (Yld.convB tab_ok rfl rfl rfl rfl) ?_ | refine WL.y rfl (Yld.conv tab_ok rfl rfl rfl (by simp only [In]; omega)) ?_ | refine WL.y rfl (Yld.quo rfl rfl (by omega) (by omega) (by simp only [In]; omega)) ?_ | refine WL.y rfl (Yld.rem rfl rfl (by omega) (by omega)) ?_ | refine WL.y rfl (Yld.shl rfl rfl (by omega)) ?_ | refine WL.y rfl (Yld.shr rfl rfl (by omega)) ?_ | refine WL.y rfl (Yld.pure tab_ok rfl) ?_)
        refine WX.end0 rfl ⟨rfl, ?_, ?_⟩
        · rw [hfin]; exact hB9
        · exact gr_trans (gr_some hgr8 (some g)) hg9
end Go.Proofs.YtjhipfdbionpoaaGreatDoor

 namespace Go.Proofs.YtjhipfdbionpoaaGreatDoor
open Go Go.RowKit
attribute [local irreducible] WL WC WX WQ Yld Fn

theorem grow_fn (m : Int) (w : World) (h0 : 0 ≤ m) (h1 : m ≤ 1073741824) :
    Fn Tryz.prog 172 ⟨[.slice none 0 0, vi m]⟩ w fun v w' => ∃ A c, v = .slice A 0 c ∧ Own vb w' w.heap.size 5 A c [] ∧ w.grownBy w' none ∧ (∀ g, blk A = some g → w.heap.size ≤ g) := by
  refine Fn.enter (by kernel_rfl) Tryz.func172 rfl Tryz.ntmps172 rfl ?_
  repeat (first | refine WC.seq ?_ | refine WC.block ?_ | refine WC.region ?_ | refine WL.nil ?_ | refine WX.then_normal ?_ | refine WC.skip ?_ | refine WC.exit ?_ | refine WC.ret ?_ | refine WX.then_exit ?_ | refine WX.then_ret ?_ | refine WX.block_normal ?_ | refine WX.block_ret ?_ | refine WX.block_same ?_ | refine WX.block_other rfl ?_ | refine WC.label ?_ | refine WC.scope ?_ | refine WX.scope_normal ?_ | refine WX.scope_ret ?_ | refine WX.scope_exit ?_ | refine WL.y rfl (Yld.add rfl rfl (by simp only [In]; omega)) ?_ | refine WL.y rfl (Yld.sub rfl rfl (by simp only [In]; omega)) ?_ | refine WL.y rfl (Yld.mul rfl rfl (by simp only [In]; omega)) ?_ | refine WL.y rfl (Yld.convB tab_ok rfl rfl rfl rfl) ?_ | refine WL.y rfl (Yld.conv tab_ok rfl rfl rfl (by simp only [In]; omega)) ?_ | refine WL.y rfl (Yld.quo rfl rfl (by omega) (by omega) (by simp only [In]; omega)) ?_ | refine WL.y rfl (Yld.rem rfl rfl (by omega) (by omega)) ?_ | refine WL.y rfl (Yld.shl rfl rfl (by omega)) ?_ | refine WL.y rfl (Yld.shr rfl rfl (by omega)) ?_ | refine WL.y rfl (Yld.pure tab_ok rfl) ?_)
  refine WC.cond rfl (fun h => ?_) (fun h => ?_)
  · simp only [decide_eq_true_eq] at h
    omega
  · repeat (first | refine WC.seq ?_ | refine WC.block ?_ | refine WC.region ?_ | refine WL.nil ?_ | refine WX.then_normal ?_ | refine WC.skip ?_ | refine WC.exit ?_ | refine WC.ret ?_ | refine WX.then_exit ?_ | refine WX.then_ret ?_ | refine WX.block_normal ?_ | refine WX.block_ret ?_ | refine WX.block_same ?_ | refine WX.block_other rfl ?_ | refine WC.label ?_ | refine WC.scope ?_ | refine WX.scope_normal ?_ | refine WX.scope_ret ?_ | refine WX.scope_exit ?_ | refine WL.y rfl (Yld.add rfl rfl (by simp only [In]; omega)) ?_ | refine WL.y rfl (Yld.sub rfl rfl (by simp only [In]; omega)) ?_ | refine WL.y rfl (Yld.mul rfl rfl (by simp only [In]; omega)) ?_ | refine WL.y rfl (Yld.convB tab_ok rfl rfl rfl rfl) ?_ | refine WL.y rfl (Yld.conv tab_ok rfl rfl rfl (by simp only [In]; omega)) ?_ | refine WL.y rfl (Yld.quo rfl rfl (by omega) (by omega) (by simp only [In]; omega)) ?_ | refine WL.y rfl (Yld.rem rfl rfl (by omega) (by omega)) ?_ | refine WL.y rfl (Yld.shl rfl rfl (by omega)) ?_ | refine WL.y rfl (Yld.shr rfl rfl (by omega)) ?_ | refine WL.y rfl (Yld.pure tab_ok rfl) ?_)
    have e : m - (((0 : Nat) : Int) - ((0 : Nat) : Int)) = m := by omega
    rw [e]
    refine WC.cond rfl (fun h => ?_) (fun h => ?_)
    · repeat (first | refine WC.seq ?_ | refine WC.block ?_ | refine WC.region ?_ | refine WL.nil ?_ | refine WX.then_normal ?_ | refine WC.skip ?_ | refine WC.exit ?_ | refine WC.ret ?_ | refine WX.then_exit ?_ | refine WX.then_ret ?_ | refine WX.block_normal ?_ | refine WX.block_ret ?_ | refine WX.block_same ?_ | refine WX.block_other rfl ?_ | refine WC.label ?_ | refine WC.scope ?_ | refine WX.scope_normal ?_ | refine WX.scope_ret ?_ | refine WX.scope_exit ?_ | refine WL.y rfl (Yld.add rfl rfl (by simp only [In]; omega)) ?_ | refine WL.y rfl (Yld.sub rfl rfl (by simp only [In]; omega)) ?_ | refine WL.y rfl (Yld.mul rfl rfl (by simp only [In]; omega)) ?_ | refine WL.y rfl (Yld.convB tab_ok rfl rfl rfl rfl) ?_ | refine WL.y rfl (Yld.conv tab_ok rfl rfl rfl (by simp only [In]; omega)) ?_ | refine WL.y rfl (Yld.quo rfl rfl (by omega) (by omega) (by simp only [In]; omega)) ?_ | refine WL.y rfl (Yld.rem rfl rfl (by omega) (by omega)) ?_ | refine WL.y rfl (Yld.shl rfl rfl (by omega)) ?_ | refine WL.y rfl (Yld.shr rfl rfl (by omega)) ?_ | refine WL.y rfl (Yld.pure tab_ok rfl) ?_)
      refine WL.ocut (f := vb) (lo := none) tab_ok rfl rfl (Own.nil vb w w.heap.size 5) rfl rfl rfl rfl (by omega) (by omega) (fun _ => ?_)
      repeat (first | refine WC.seq ?_ | refine WC.block ?_ | refine WC.region ?_ | refine WL.nil ?_ | refine WX.then_normal ?_ | refine WC.skip ?_ | refine WC.exit ?_ | refine WC.ret ?_ | refine WX.then_exit ?_ | refine WX.then_ret ?_ | refine WX.block_normal ?_ | refine WX.block_ret ?_ | refine WX.block_same ?_ | refine WX.block_other rfl ?_ | refine WC.label ?_ | refine WC.scope ?_ | refine WX.scope_normal ?_ | refine WX.scope_ret ?_ | refine WX.scope_exit ?_ | refine WL.y rfl (Yld.add rfl rfl (by simp only [In]; omega)) ?_ | refine WL.y rfl (Yld.sub rfl rfl (by simp only [In]; omega)) ?_ | refine WL.y rfl (Yld.mul rfl rfl (by simp only [In]; omega)) ?_ | refine WL.y rfl (Yld.convB tab_ok rfl rfl rfl rfl) ?_ | refine WL.y rfl (Yld.conv tab_ok rfl rfl rfl (by simp only [In]; omega)) ?_ | refine WL.y rfl (Yld.quo rfl rfl (by omega) (by omega) (by simp only [In]; omega)) ?_ | refine WL.y rfl (Yld.rem rfl rfl (by omega) (by omega)) ?_ | refine WL.y rfl (Yld.shl rfl rfl (by omega)) ?_ | refine WL.y rfl (Yld.shr rfl rfl (by omega)) ?_ | refine WL.y rfl (Yld.pure tab_ok rfl) ?_)
      refine WL.appendZ (f := vb) (z := 0) tab_ok rfl rfl rfl zero5 rfl rfl h0 (by omega) (by omega) (Nat.le_refl _) (fun A' c' w' hO hg hf => ?_)
      repeat (first | refine WC.seq ?_ | refine WC.block ?_ | refine WC.region ?_ | refine WL.nil ?_ | refine WX.then_normal ?_ | refine WC.skip ?_ | refine WC.exit ?_ | refine WC.ret ?_ | refine WX.then_exit ?_ | refine WX.then_ret ?_ | refine WX.block_normal ?_ | refine WX.block_ret ?_ | refine WX.block_same ?_ | refine WX.block_other rfl ?_ | refine WC.label ?_ | refine WC.scope ?_ | refine WX.scope_normal ?_ | refine WX.scope_ret ?_ | refine WX.scope_exit ?_ | refine WL.y rfl (Yld.add rfl rfl (by simp only [In]; omega)) ?_ | refine WL.y rfl (Yld.sub rfl rfl (by simp only [In]; omega)) ?_ | refine WL.y rfl (Yld.mul rfl rfl (by simp only [In]; omega)) ?_ | refine WL.y rfl (Yld.convB tab_ok rfl rfl rfl rfl) ?_ | refine WL.y rfl (Yld.conv tab_ok rfl rfl rfl (by simp only [In]; omega)) ?_ | refine WL.y rfl (Yld.quo rfl rfl (by omega) (by omega) (by simp only [In]; omega)) ?_ | refine WL.y rfl (Yld.rem rfl rfl (by omega) (by omega)) ?_ | refine WL.y rfl (Yld.shl rfl rfl (by omega)) ?_ | refine WL.y rfl (Yld.shr rfl rfl (by omega)) ?_ | refine WL.y rfl (Yld.pure tab_ok rfl) ?_)
      refine WL.ocut (lo := none) tab_ok rfl rfl hO rfl (by simp) rfl rfl (by omega) (by omega) (fun hO2 => ?_)
      repeat (first | refine WC.seq ?_ | refine WC.block ?_ | refine WC.region ?_ | refine WL.nil ?_ | refine WX.then_normal ?_ | refine WC.skip ?_ | refine WC.exit ?_ | refine WC.ret ?_ | refine WX.then_exit ?_ | refine WX.then_ret ?_ | refine WX.block_normal ?_ | refine WX.block_ret ?_ | refine WX.block_same ?_ | refine WX.block_other rfl ?_ | refine WC.label ?_ | refine WC.scope ?_ | refine WX.scope_normal ?_ | refine WX.scope_ret ?_ | refine WX.scope_exit ?_ | refine WL.y rfl (Yld.add rfl rfl (by simp only [In]; omega)) ?_ | refine WL.y rfl (Yld.sub rfl rfl (by simp only [In]; omega)) ?_ | refine WL.y rfl (Yld.mul rfl rfl (by simp only [In]; omega)) ?_ | refine WL.y rfl (Yld.convB tab_ok rfl rfl rfl rfl) ?_ | refine WL.y rfl (Yld.conv tab_ok rfl rfl rfl (by simp only [In]; omega)) ?_ | refine WL.y rfl (Yld.quo rfl rfl (by omega) (by omega) (by simp only [In]; omega)) ?_ | refine WL.y rfl (Yld.rem rfl rfl (by omega) (by omega)) ?_ | refine WL.y rfl (Yld.shl rfl rfl (by omega)) ?_ | refine WL.y rfl (Yld.shr rfl rfl (by omega)) ?_ | refine WL.y rfl (Yld.pure tab_ok rfl) ?_)
      exact WX.ret1 rfl rfl ⟨A', c', rfl, hO2, hg, hf⟩
    · repeat (first | refine WC.seq ?_ | refine WC.block ?_ | refine WC.region ?_ | refine WL.nil ?_ | refine WX.then_normal ?_ | refine WC.skip ?_ | refine WC.exit ?_ | refine WC.ret ?_ | refine WX.then_exit ?_ | refine WX.then_ret ?_ | refine WX.block_normal ?_ | refine WX.block_ret ?_ | refine WX.block_same ?_ | refine WX.block_other rfl ?_ | refine WC.label ?_ | refine WC.scope ?_ | refine WX.scope_normal ?_ | refine WX.scope_ret ?_ | refine WX.scope_exit ?_ | refine WL.y rfl (Yld.add rfl rfl (by simp only [In]; omega)) ?_ | refine WL.y rfl (Yld.sub rfl rfl (by simp only [In]; omega)) ?_ | refine WL.y rfl (Yld.mul rfl rfl (by simp only [In]; omega)) ?_ | refine WL.y rfl (Yld.convB tab_ok rfl rfl rfl rfl) ?_ | refine WL.y rfl (Yld.conv tab_ok rfl rfl rfl (by simp only [In]; omega)) ?_ | refine WL.y rfl (Yld.quo rfl rfl (by omega) (by omega) (by simp only [In]; omega)) ?_ | refine WL.y rfl (Yld.rem rfl rfl (by omega) (by omega)) ?_ | refine WL.y rfl (Yld.shl rfl rfl (by omega)) ?_ | refine WL.y rfl (Yld.shr rfl rfl (by omega)) ?_ | refine WL.y rfl (Yld.pure tab_ok rfl) ?_)
      exact WX.ret1 rfl rfl ⟨none, 0, rfl, Own.nil _ _ _ _, gr_refl _ _, fun g hg => by simp [blk] at hg⟩
theorem clone_fn (A : Option Addr) (c : Nat) (bs : List UInt8) (w : World) (hR : Rd vb w A c bs) (hl : bs.length ≤ 1073741824) :
    Fn Tryz.prog 154 ⟨[.slice A bs.length c]⟩ w fun v w' => ∃ A' c', v = .slice A' bs.length c' ∧ Own vb w' w.heap.size 5 A' c' bs ∧ w.grownBy w' none ∧ (∀ g, blk A' = some g → w.heap.size ≤ g) := by
  refine Fn.enter (by kernel_rfl) Tryz.func154 rfl Tryz.ntmps154 rfl ?_
  repeat (first | refine WC.seq ?_ | refine WC.block ?_ | refine WC.region ?_ | refine WL.nil ?_ | refine WX.then_normal ?_ | refine WC.skip ?_ | refine WC.exit ?_ | refine WC.ret ?_ | refine WX.then_exit ?_ | refine WX.then_ret ?_ | refine WX.block_normal ?_ | refine WX.block_ret ?_ | refine WX.block_same ?_ | refine WX.block_other rfl ?_ | refine WC.label ?_ | refine WC.scope ?_ | refine WX.scope_normal ?_ | refine WX.scope_ret ?_ | refine WX.scope_exit ?_ | refine WL.y rfl (Yld.add rfl rfl (by simp only [In]; omega)) ?_ | refine WL.y rfl (Yld.sub rfl rfl (by simp only [In]; omega)) ?_ | refine WL.y rfl (Yld.mul rfl rfl (by simp only [In]; omega)) ?_ | refine WL.y rfl (Yld.convB tab_ok rfl rfl rfl rfl) ?_ | refine WL.y rfl (Yld.conv tab_ok rfl rfl rfl (by simp only [In]; omega)) ?_ | refine WL.y rfl (Yld.quo rfl rfl (by omega) (by omega) (by simp only [In]; omega)) ?_ | refine WL.y rfl (Yld.rem rfl rfl (by omega) (by omega)) ?_ | refine WL.y rfl (Yld.shl rfl rfl (by omega)) ?_ | refine WL.y rfl (Yld.shr rfl rfl (by omega)) ?_ | refine WL.y rfl (Yld.pure tab_ok rfl) ?_)
  refine WL.y rfl (Yld.eqnil tab_ok rfl rfl rfl) ?_
  repeat (first | refine WC.seq ?_ | refine WC.block ?_ | refine WC.region ?_ | refine WL.nil ?_ | refine WX.then_normal ?_ | refine WC.skip ?_ | refine WC.exit ?_ | refine WC.ret ?_ | refine WX.then_exit ?_ | refine WX.then_ret ?_ | refine WX.block_normal ?_ | refine WX.block_ret ?_ | refine WX.block_same ?_ | refine WX.block_other rfl ?_ | refine WC.label ?_ | refine WC.scope ?_ | refine WX.scope_normal ?_ | refine WX.scope_ret ?_ | refine WX.scope_exit ?_ | refine WL.y rfl (Yld.add rfl rfl (by simp only [In]; omega)) ?_ | refine WL.y rfl (Yld.sub rfl rfl (by simp only [In]; omega)) ?_ | refine WL.y rfl (Yld.mul rfl rfl (by simp only [In]; omega)) ?_ | refine WL.y rfl (Yld.convB tab_ok rfl rfl rfl rfl) ?_ | refine WL.y rfl (Yld.conv tab_ok rfl rfl rfl (by simp only [In]; omega)) ?_ | refine WL.y rfl (Yld.quo rfl rfl (by omega) (by omega) (by simp only [In]; omega)) ?_ | refine WL.y rfl (Yld.rem rfl rfl (by omega) (by omega)) ?_ | refine WL.y rfl (Yld.shl rfl rfl (by omega)) ?_ | refine WL.y rfl (Yld.shr rfl rfl (by omega)) ?_ | refine WL.y rfl (Yld.pure tab_ok rfl) ?_)
  refine WC.cond rfl (fun h => ?_) (fun h => ?_)
  · have hA : A = none := by simpa using h
    subst hA
    have hb : bs = [] := by
      rcases List.eq_nil_or_concat bs with h | ⟨l, b, h⟩
      · exact h
      · obtain ⟨ad, h2, _⟩ := hR.cells (by rw [h]; simp)
        cases h2
    subst hb
    repeat (first | refine WC.seq ?_ | refine WC.block ?_ | refine WC.region ?_ | refine WL.nil ?_ | refine WX.then_normal ?_ | refine WC.skip ?_ | refine WC.exit ?_ | refine WC.ret ?_ | refine WX.then_exit ?_ | refine WX.then_ret ?_ | refine WX.block_normal ?_ | refine WX.block_ret ?_ | refine WX.block_same ?_ | refine WX.block_other rfl ?_ | refine WC.label ?_ | refine WC.scope ?_ | refine WX.scope_normal ?_ | refine WX.scope_ret ?_ | refine WX.scope_exit ?_ | refine WL.y rfl (Yld.add rfl rfl (by simp only [In]; omega)) ?_ | refine WL.y rfl (Yld.sub rfl rfl (by simp only [In]; omega)) ?_ | refine WL.y rfl (Yld.mul rfl rfl (by simp only [In]; omega)) ?_ | refine WL.y rfl (Yld.convB tab_ok rfl rfl rfl rfl) ?_ | refine WL.y rfl (Yld.conv tab_ok rfl rfl rfl (by simp only [In]; omega)) ?_ | refine WL.y rfl (Yld.quo rfl rfl (by omega) (by omega) (by simp only [In]; omega)) ?_ | refine WL.y rfl (Yld.rem rfl rfl (by omega) (by omega)) ?_ | refine WL.y rfl (Yld.shl rfl rfl (by omega)) ?_ | refine WL.y rfl (Yld.shr rfl rfl (by omega)) ?_ | refine WL.y rfl (Yld.pure tab_ok rfl) ?_)
    exact WX.ret1 rfl rfl ⟨none, 0, rfl, Own.nil _ _ _ _, gr_refl _ _, fun g hg => by simp [blk] at hg⟩
  · repeat (first | refine WC.seq ?_ | refine WC.block ?_ | refine WC.region ?_ | refine WL.nil ?_ | refine WX.then_normal ?_ | refine WC.skip ?_ | refine WC.exit ?_ | refine WC.ret ?_ | refine WX.then_exit ?_ | refine WX.then_ret ?_ | refine WX.block_normal ?_ | refine WX.block_ret ?_ | refine WX.block_same ?_ | refine WX.block_other rfl ?_ | refine WC.label ?_ | refine WC.scope ?_ | refine WX.scope_normal ?_ | refine WX.scope_ret ?_ | refine WX.scope_exit ?_ | refine WL.y rfl (Yld.add rfl rfl (by simp only [In]; omega)) ?_ | refine WL.y rfl (Yld.sub rfl rfl (by simp only [In]; omega)) ?_ | refine WL.y rfl (Yld.mul rfl rfl (by simp only [In]; omega)) ?_ | refine WL.y rfl (Yld.convB tab_ok rfl rfl rfl rfl) ?_ | refine WL.y rfl (Yld.conv tab_ok rfl rfl rfl (by simp only [In]; omega)) ?_ | refine WL.y rfl (Yld.quo rfl rfl (by omega) (by omega) (by simp only [In]; omega)) ?_ | refine WL.y rfl (Yld.rem rfl rfl (by omega) (by omega)) ?_ | refine WL.y rfl (Yld.shl rfl rfl (by omega)) ?_ | refine WL.y rfl (Yld.shr rfl rfl (by omega)) ?_ | refine WL.y rfl (Yld.pure tab_ok rfl) ?_)
    refine WL.lit (us := []) tab_ok rfl rfl rfl (by simp) rfl (by omega) (fun g w1 hB hg hlt => ?_)
    repeat (first | refine WC.seq ?_ | refine WC.block ?_ | refine WC.region ?_ | refine WL.nil ?_ | refine WX.then_normal ?_ | refine WC.skip ?_ | refine WC.exit ?_ | refine WC.ret ?_ | refine WX.then_exit ?_ | refine WX.then_ret ?_ | refine WX.block_normal ?_ | refine WX.block_ret ?_ | refine WX.block_same ?_ | refine WX.block_other rfl ?_ | refine WC.label ?_ | refine WC.scope ?_ | refine WX.scope_normal ?_ | refine WX.scope_ret ?_ | refine WX.scope_exit ?_ | refine WL.y rfl (Yld.add rfl rfl (by simp only [In]; omega)) ?_ | refine WL.y rfl (Yld.sub rfl rfl (by simp only [In]; omega)) ?_ | refine WL.y rfl (Yld.mul rfl rfl (by simp only [In]; omega)) ?_ | refine WL.y rfl (Yld.convB tab_ok rfl rfl rfl rfl) ?_ | refine WL.y rfl (Yld.conv tab_ok rfl rfl rfl (by simp only [In]; omega)) ?_ | refine WL.y rfl (Yld.quo rfl rfl (by omega) (by omega) (by simp only [In]; omega)) ?_ | refine WL.y rfl (Yld.rem rfl rfl (by omega) (by omega)) ?_ | refine WL.y rfl (Yld.shl rfl rfl (by omega)) ?_ | refine WL.y rfl (Yld.shr rfl rfl (by omega)) ?_ | refine WL.y rfl (Yld.pure tab_ok rfl) ?_)
    have hO : Own vb w1 w.heap.size 5 (some ⟨g, 0, none⟩) 0 [] := ⟨by simp, .inr ⟨g, 0, #[], rfl, hlt, hB, by simp, by simp [maxLen], rfl, rfl⟩⟩
    refine WL.append tab_ok rfl rfl One.b hO rfl rfl (hR.grown hg) rfl rfl (by simp; omega) (by simp [maxLen]; omega) hg.size (fun A' c' w' hO' hg' hf => ?_)
    repeat (first | refine WC.seq ?_ | refine WC.block ?_ | refine WC.region ?_ | refine WL.nil ?_ | refine WX.then_normal ?_ | refine WC.skip ?_ | refine WC.exit ?_ | refine WC.ret ?_ | refine WX.then_exit ?_ | refine WX.then_ret ?_ | refine WX.block_normal ?_ | refine WX.block_ret ?_ | refine WX.block_same ?_ | refine WX.block_other rfl ?_ | refine WC.label ?_ | refine WC.scope ?_ | refine WX.scope_normal ?_ | refine WX.scope_ret ?_ | refine WX.scope_exit ?_ | refine WL.y rfl (Yld.add rfl rfl (by simp only [In]; omega)) ?_ | refine WL.y rfl (Yld.sub rfl rfl (by simp only [In]; omega)) ?_ | refine WL.y rfl (Yld.mul rfl rfl (by simp only [In]; omega)) ?_ | refine WL.y rfl (Yld.convB tab_ok rfl rfl rfl rfl) ?_ | refine WL.y rfl (Yld.conv tab_ok rfl rfl rfl (by simp only [In]; omega)) ?_ | refine WL.y rfl (Yld.quo rfl rfl (by omega) (by omega) (by simp only [In]; omega)) ?_ | refine WL.y rfl (Yld.rem rfl rfl (by omega) (by omega)) ?_ | refine WL.y rfl (Yld.shl rfl rfl (by omega)) ?_ | refine WL.y rfl (Yld.shr rfl rfl (by omega)) ?_ | refine WL.y rfl (Yld.pure tab_ok rfl) ?_)
    have hs1 := hg.size
    refine WX.ret1 rfl rfl ⟨A', c', rfl, hO', gr_new hg hg' hlt, fun q hq => ?_⟩
    rcases hf q hq with h | h
    · simp only [blk, Option.map_some, Option.some.injEq] at h
      omega
    · omega
end Go.Proofs.YtjhipfdbionpoaaGreatDoor

 namespace Go.Proofs.YtjhipfdbionpoaaGreatDoor
open Go Go.RowKit
attribute [local irreducible] WL WC WX WQ Yld Fn

/-- a slice of bytes, as_ a value: where it lies, its capacity, its bytes -/
def vS (x : Option Addr × Nat × List UInt8) : Value := .slice x.1 x.2.2.length x.2.1
theorem One.S : One vS := fun _ => rfl
def catS (l : List (Option Addr × Nat × List UInt8)) : List UInt8 := l.flatMap (·.2.2)
theorem catS_take (l : List (Option Addr × Nat × List UInt8)) (k : Nat) (h : k < l.length) : catS (l.take (k + 1)) = catS (l.take k) ++ (l.getD k (none, 0, [])).2.2 := by
  unfold catS
  rw [List.take_succ_eq_append_getElem h, List.flatMap_append]
  simp [List.getD, h]
theorem catS_le (l : List (Option Addr × Nat × List UInt8)) (k : Nat) : (catS (l.take k)).length ≤ (catS l).length := by
  unfold catS
  conv => rhs; rw [← List.take_append_drop k l, List.flatMap_append, List.length_append]
  omega
theorem concat_fn (A : Option Addr) (c : Nat) (l : List (Option Addr × Nat × List UInt8)) (w : World) (hR : Rd vS w A c l) (hl : ∀ x ∈ l, Rd vb w x.1 x.2.1 x.2.2) (hs : (catS l).length ≤ 1073741824) :
    Fn Tryz.prog 152 ⟨[.slice A l.length c]⟩ w fun v w' => ∃ A' c', v = .slice A' (catS l).length c' ∧ Own vb w' w.heap.size 5 A' c' (catS l) ∧ w.grownBy w' none := by
  have hml : l.length ≤ 9223372036854775807 := by have h1 := hR.cap; have h2 := hR.max; unfold maxLen at h2; omega
  refine Fn.enter (by kernel_rfl) Tryz.func152 rfl Tryz.ntmps152 rfl ?_
  repeat (first | refine WC.seq ?_ | refine WC.block ?_ | refine WC.region ?_ | refine WL.nil ?_ | refine WX.then_normal ?_ | refine WC.skip ?_ | refine WC.exit ?_ | refine WC.ret ?_ | refine WX.then_exit ?_ | refine WX.then_ret ?_ | refine WX.block_normal ?_ | refine WX.block_ret ?_ | refine WX.block_same ?_ | refine WX.block_other rfl ?_ | refine WC.label ?_ | refine WC.scope ?_ | refine WX.scope_normal ?_ | refine WX.scope_ret ?_ | refine WX.scope_exit ?_ | refine WL.y rfl (Yld.add rfl rfl (by simp only [In]; omega)) ?_ | refine WL.y rfl (Yld.sub rfl rfl (by simp only [In]; omega)) ?_ | refine WL.y rfl (Yld.mul rfl rfl (by simp only [In]; omega)) ?_ | refine WL.y rfl (Yld.convB tab_ok rfl rfl rfl rfl) ?_ | refine WL.y rfl (Yld.conv tab_ok rfl rfl rfl (by simp only [In]; omega)) ?_ | refine WL.y rfl (Yld.quo rfl rfl (by omega) (by omega) (by simp only [In]; omega)) ?_ | refine WL.y rfl (Yld.rem rfl rfl (by omega) (by omega)) ?_ | refine WL.y rfl (Yld.shl rfl rfl (by omega)) ?_ | refine WL.y rfl (Yld.shr rfl rfl (by omega)) ?_ | refine WL.y rfl (Yld.pure tab_ok rfl) ?_)
  refine WC.loop (S := Nat) (fun i => l.length - i) (fun i => [(11, vi i), (3, vi (catS (l.take i)).length), (10, vi l.length), (9, .slice A l.length c), (0, .slice A l.length c)])
    (fun i w' => i ≤ l.length ∧ w' = w) 0 ⟨by omega, rfl⟩ (by repeat (first | exact Sub.nil | refine Sub.cons rfl ?_)) (fun i w' ⟨hi, hw⟩ => ?_)
  subst hw
  have hc1 := catS_le l i
  repeat (first | refine WC.seq ?_ | refine WC.block ?_ | refine WC.region ?_ | refine WL.nil ?_ | refine WX.then_normal ?_ | refine WC.skip ?_ | refine WC.exit ?_ | refine WC.ret ?_ | refine WX.then_exit ?_ | refine WX.then_ret ?_ | refine WX.block_normal ?_ | refine WX.block_ret ?_ | refine WX.block_same ?_ | refine WX.block_other rfl ?_ | refine WC.label ?_ | refine WC.scope ?_ | refine WX.scope_normal ?_ | refine WX.scope_ret ?_ | refine WX.scope_exit ?_ | refine WL.y rfl (Yld.add rfl rfl (by simp only [In]; omega)) ?_ | refine WL.y rfl (Yld.sub rfl rfl (by simp only [In]; omega)) ?_ | refine WL.y rfl (Yld.mul rfl rfl (by simp only [In]; omega)) ?_ | refine WL.y rfl (Yld.convB tab_ok rfl rfl rfl rfl) ?_ | refine WL.y rfl (Yld.conv tab_ok rfl rfl rfl (by simp only [In]; omega)) ?_ | refine WL.y rfl (Yld.quo rfl rfl (by omega) (by omega) (by simp only [In]; omega)) ?_ | refine WL.y rfl (Yld.rem rfl rfl (by omega) (by omega)) ?_ | refine WL.y rfl (Yld.shl rfl rfl (by omega)) ?_ | refine WL.y rfl (Yld.shr rfl rfl (by omega)) ?_ | refine WL.y rfl (Yld.pure tab_ok rfl) ?_)
  refine WC.cond rfl (fun h => ?_) (fun h => ?_)
  · simp only [decide_eq_true_eq] at h
    have hlt : i < l.length := by omega
    have hc2 := catS_le l (i + 1)
    have hc3 := catS_take l i hlt
    have hc4 : (catS (l.take (i + 1))).length = (catS (l.take i)).length + (l.getD i (none, 0, [])).2.2.length := by rw [hc3, List.length_append]
    repeat (first | refine WL.y rfl (Yld.iaddrN tab_ok hR rfl rfl rfl rfl (by omega)) ?_ | refine WL.y rfl (Yld.iload (none, 0, []) tab_ok hR rfl rfl (by omega)) ?_ | refine WC.seq ?_ | refine WC.block ?_ | refine WC.region ?_ | refine WL.nil ?_ | refine WX.then_normal ?_ | refine WC.skip ?_ | refine WC.exit ?_ | refine WC.ret ?_ | refine WX.then_exit ?_ | refine WX.then_ret ?_ | refine WX.block_normal ?_ | refine WX.block_ret ?_ | refine WX.block_same ?_ | refine WX.block_other rfl ?_ | refine WC.label ?_ | refine WC.scope ?_ | refine WX.scope_normal ?_ | refine WX.scope_ret ?_ | refine WX.scope_exit ?_ | refine WL.y rfl (Yld.add rfl rfl (by simp only [In]; omega)) ?_ | refine WL.y rfl (Yld.sub rfl rfl (by simp only [In]; omega)) ?_ | refine WL.y rfl (Yld.mul rfl rfl (by simp only [In]; omega)) ?_ | refine WL.y rfl (Yld.convB tab_ok rfl rfl rfl rfl) ?_ | refine WL.y rfl (Yld.conv tab_ok rfl rfl rfl (by simp only [In]; omega)) ?_ | refine WL.y rfl (Yld.quo rfl rfl (by omega) (by omega) (by simp only [In]; omega)) ?_ | refine WL.y rfl (Yld.rem rfl rfl (by omega) (by omega)) ?_ | refine WL.y rfl (Yld.shl rfl rfl (by omega)) ?_ | refine WL.y rfl (Yld.shr rfl rfl (by omega)) ?_ | refine WL.y rfl (Yld.pure tab_ok rfl) ?_)
    refine WC.cond rfl (fun h2 => ?_) (fun h2 => ?_)
    · simp only [decide_eq_true_eq] at h2
      omega
    · repeat (first | refine WC.seq ?_ | refine WC.block ?_ | refine WC.region ?_ | refine WL.nil ?_ | refine WX.then_normal ?_ | refine WC.skip ?_ | refine WC.exit ?_ | refine WC.ret ?_ | refine WX.then_exit ?_ | refine WX.then_ret ?_ | refine WX.block_normal ?_ | refine WX.block_ret ?_ | refine WX.block_same ?_ | refine WX.block_other rfl ?_ | refine WC.label ?_ | refine WC.scope ?_ | refine WX.scope_normal ?_ | refine WX.scope_ret ?_ | refine WX.scope_exit ?_ | refine WL.y rfl (Yld.add rfl rfl (by simp only [In]; omega)) ?_ | refine WL.y rfl (Yld.sub rfl rfl (by simp only [In]; omega)) ?_ | refine WL.y rfl (Yld.mul rfl rfl (by simp only [In]; omega)) ?_ | refine WL.y rfl (Yld.convB tab_ok rfl rfl rfl rfl) ?_ | refine WL.y rfl (Yld.conv tab_ok rfl rfl rfl (by simp only [In]; omega)) ?_ | refine WL.y rfl (Yld.quo rfl rfl (by omega) (by omega) (by simp only [In]; omega)) ?_ | refine WL.y rfl (Yld.rem rfl rfl (by omega) (by omega)) ?_ | refine WL.y rfl (Yld.shl rfl rfl (by omega)) ?_ | refine WL.y rfl (Yld.shr rfl rfl (by omega)) ?_ | refine WL.y rfl (Yld.pure tab_ok rfl) ?_)
      refine WX.round (i + 1) ⟨by omega, rfl⟩ (by omega) ?_
      refine Sub.cons rfl (Sub.cons ?_ (by repeat (first | exact Sub.nil | refine Sub.cons rfl ?_)))
      rw [hc4]
      rfl
  · simp only [decide_eq_false_iff_not] at h
    obtain rfl : i = l.length := by omega
    rw [List.take_of_length_le (Nat.le_refl _)] at *
    repeat (first | refine WC.seq ?_ | refine WC.block ?_ | refine WC.region ?_ | refine WL.nil ?_ | refine WX.then_normal ?_ | refine WC.skip ?_ | refine WC.exit ?_ | refine WC.ret ?_ | refine WX.then_exit ?_ | refine WX.then_ret ?_ | refine WX.block_normal ?_ | refine WX.block_ret ?_ | refine WX.block_same ?_ | refine WX.block_other rfl ?_ | refine WC.label ?_ | refine WC.scope ?_ | refine WX.scope_normal ?_ | refine WX.scope_ret ?_ | refine WX.scope_exit ?_ | refine WL.y rfl (Yld.add rfl rfl (by simp only [In]; omega)) ?_ | refine WL.y rfl (Yld.sub rfl rfl (by simp only [In]; omega)) ?_ | refine WL.y rfl (Yld.mul rfl rfl (by simp only [In]; omega)) ?_ | refine WL.y rfl (Yld.convB tab_ok rfl rfl rfl rfl) ?_ | refine WL.y rfl (Yld.conv tab_ok rfl rfl rfl (by simp only [In]; omega)) ?_ | refine WL.y rfl (Yld.quo rfl rfl (by omega) (by omega) (by simp only [In]; omega)) ?_ | refine WL.y rfl (Yld.rem rfl rfl (by omega) (by omega)) ?_ | refine WL.y rfl (Yld.shl rfl rfl (by omega)) ?_ | refine WL.y rfl (Yld.shr rfl rfl (by omega)) ?_ | refine WL.y rfl (Yld.pure tab_ok rfl) ?_)
    refine WL.call rfl rfl (grow_fn (catS l).length w' (by omega) (by omega)) ?_
    rintro _ w1 ⟨A1, c1, rfl, hO1, hg1, _⟩
    have hR1 := hR.grown hg1
    repeat (first | refine WC.seq ?_ | refine WC.block ?_ | refine WC.region ?_ | refine WL.nil ?_ | refine WX.then_normal ?_ | refine WC.skip ?_ | refine WC.exit ?_ | refine WC.ret ?_ | refine WX.then_exit ?_ | refine WX.then_ret ?_ | refine WX.block_normal ?_ | refine WX.block_ret ?_ | refine WX.block_same ?_ | refine WX.block_other rfl ?_ | refine WC.label ?_ | refine WC.scope ?_ | refine WX.scope_normal ?_ | refine WX.scope_ret ?_ | refine WX.scope_exit ?_ | refine WL.y rfl (Yld.add rfl rfl (by simp only [In]; omega)) ?_ | refine WL.y rfl (Yld.sub rfl rfl (by simp only [In]; omega)) ?_ | refine WL.y rfl (Yld.mul rfl rfl (by simp only [In]; omega)) ?_ | refine WL.y rfl (Yld.convB tab_ok rfl rfl rfl rfl) ?_ | refine WL.y rfl (Yld.conv tab_ok rfl rfl rfl (by simp only [In]; omega)) ?_ | refine WL.y rfl (Yld.quo rfl rfl (by omega) (by omega) (by simp only [In]; omega)) ?_ | refine WL.y rfl (Yld.rem rfl rfl (by omega) (by omega)) ?_ | refine WL.y rfl (Yld.shl rfl rfl (by omega)) ?_ | refine WL.y rfl (Yld.shr rfl rfl (by omega)) ?_ | refine WL.y rfl (Yld.pure tab_ok rfl) ?_)
    refine WC.loop (S := Nat × Option Addr × Nat) (fun s => l.length - s.1) (fun s => [(27, vi s.1), (6, .slice s.2.1 (catS (l.take s.1)).length s.2.2), (26, vi l.length), (25, .slice A l.length c)])
      (fun s w2 => s.1 ≤ l.length ∧ Own vb w2 w'.heap.size 5 s.2.1 s.2.2 (catS (l.take s.1)) ∧ w'.grownBy w2 none) (0, A1, c1) ⟨by simp, hO1, hg1⟩ (by repeat (first | exact Sub.nil | refine Sub.cons rfl ?_)) (fun ⟨i, A2, c2⟩ w2 ⟨hi, hO2, hg2⟩ => ?_)
    have hR2 := hR.grown hg2
    have hc1 := catS_le l i
    simp only at hi hO2
    repeat (first | refine WC.seq ?_ | refine WC.block ?_ | refine WC.region ?_ | refine WL.nil ?_ | refine WX.then_normal ?_ | refine WC.skip ?_ | refine WC.exit ?_ | refine WC.ret ?_ | refine WX.then_exit ?_ | refine WX.then_ret ?_ | refine WX.block_normal ?_ | refine WX.block_ret ?_ | refine WX.block_same ?_ | refine WX.block_other rfl ?_ | refine WC.label ?_ | refine WC.scope ?_ | refine WX.scope_normal ?_ | refine WX.scope_ret ?_ | refine WX.scope_exit ?_ | refine WL.y rfl (Yld.add rfl rfl (by simp only [In]; omega)) ?_ | refine WL.y rfl (Yld.sub rfl rfl (by simp only [In]; omega)) ?_ | refine WL.y rfl (Yld.mul rfl rfl (by simp only [In]; omega)) ?_ | refine WL.y rfl (Yld.convB tab_ok rfl rfl rfl rfl) ?_ | refine WL.y rfl (Yld.conv tab_ok rfl rfl rfl (by simp only [In]; omega)) ?_ | refine WL.y rfl (Yld.quo rfl rfl (by omega) (by omega) (by simp only [In]; omega)) ?_ | refine WL.y rfl (Yld.rem rfl rfl (by omega) (by omega)) ?_ | refine WL.y rfl (Yld.shl rfl rfl (by omega)) ?_ | refine WL.y rfl (Yld.shr rfl rfl (by omega)) ?_ | refine WL.y rfl (Yld.pure tab_ok rfl) ?_)
    refine WC.cond rfl (fun h => ?_) (fun h => ?_)
    · simp only [decide_eq_true_eq] at h
      have hlt : i < l.length := by omega
      have hc2 := catS_le l (i + 1)
      have hc3 := catS_take l i hlt
      have hc4 : (catS (l.take (i + 1))).length = (catS (l.take i)).length + (l.getD i (none, 0, [])).2.2.length := by rw [hc3, List.length_append]
      repeat (first | refine WL.y rfl (Yld.iaddrN tab_ok hR2 rfl rfl rfl rfl (by omega)) ?_ | refine WL.y rfl (Yld.iload (none, 0, []) tab_ok hR2 rfl rfl (by omega)) ?_ | refine WC.seq ?_ | refine WC.block ?_ | refine WC.region ?_ | refine WL.nil ?_ | refine WX.then_normal ?_ | refine WC.skip ?_ | refine WC.exit ?_ | refine WC.ret ?_ | refine WX.then_exit ?_ | refine WX.then_ret ?_ | refine WX.block_normal ?_ | refine WX.block_ret ?_ | refine WX.block_same ?_ | refine WX.block_other rfl ?_ | refine WC.label ?_ | refine WC.scope ?_ | refine WX.scope_normal ?_ | refine WX.scope_ret ?_ | refine WX.scope_exit ?_ | refine WL.y rfl (Yld.add rfl rfl (by simp only [In]; omega)) ?_ | refine WL.y rfl (Yld.sub rfl rfl (by simp only [In]; omega)) ?_ | refine WL.y rfl (Yld.mul rfl rfl (by simp only [In]; omega)) ?_ | refine WL.y rfl (Yld.convB tab_ok rfl rfl rfl rfl) ?_ | refine WL.y rfl (Yld.conv tab_ok rfl rfl rfl (by simp only [In]; omega)) ?_ | refine WL.y rfl (Yld.quo rfl rfl (by omega) (by omega) (by simp only [In]; omega)) ?_ | refine WL.y rfl (Yld.rem rfl rfl (by omega) (by omega)) ?_ | refine WL.y rfl (Yld.shl rfl rfl (by omega)) ?_ | refine WL.y rfl (Yld.shr rfl rfl (by omega)) ?_ | refine WL.y rfl (Yld.pure tab_ok rfl) ?_)
      have hx : l.getD i (none, 0, []) ∈ l := by simp [List.getD, hlt]
      have hRx := (hl _ hx).grown hg2
      have hz2 := hg2.size
      refine WL.append tab_ok rfl rfl One.b hO2 rfl rfl hRx rfl rfl (by omega) (by unfold maxLen; omega) hz2 (fun A3 c3 w3 hO3 hg3 hf3 => ?_)
      repeat (first | refine WC.seq ?_ | refine WC.block ?_ | refine WC.region ?_ | refine WL.nil ?_ | refine WX.then_normal ?_ | refine WC.skip ?_ | refine WC.exit ?_ | refine WC.ret ?_ | refine WX.then_exit ?_ | refine WX.then_ret ?_ | refine WX.block_normal ?_ | refine WX.block_ret ?_ | refine WX.block_same ?_ | refine WX.block_other rfl ?_ | refine WC.label ?_ | refine WC.scope ?_ | refine WX.scope_normal ?_ | refine WX.scope_ret ?_ | refine WX.scope_exit ?_ | refine WL.y rfl (Yld.add rfl rfl (by simp only [In]; omega)) ?_ | refine WL.y rfl (Yld.sub rfl rfl (by simp only [In]; omega)) ?_ | refine WL.y rfl (Yld.mul rfl rfl (by simp only [In]; omega)) ?_ | refine WL.y rfl (Yld.convB tab_ok rfl rfl rfl rfl) ?_ | refine WL.y rfl (Yld.conv tab_ok rfl rfl rfl (by simp only [In]; omega)) ?_ | refine WL.y rfl (Yld.quo rfl rfl (by omega) (by omega) (by simp only [In]; omega)) ?_ | refine WL.y rfl (Yld.rem rfl rfl (by omega) (by omega)) ?_ | refine WL.y rfl (Yld.shl rfl rfl (by omega)) ?_ | refine WL.y rfl (Yld.shr rfl rfl (by omega)) ?_ | refine WL.y rfl (Yld.pure tab_ok rfl) ?_)
      refine WX.round (i + 1, A3, c3) ⟨by simp; omega, ?_, ?_⟩ (by simp; omega) ?_
      · simp only [hc3]; exact hO3
      · cases hq : blk A2 with
        | none => rw [hq] at hg3; exact gr_trans hg2 hg3
        | some q => rw [hq] at hg3; exact gr_new hg2 hg3 (hO2.lt hq).1
      · refine Sub.cons rfl (Sub.cons ?_ (by repeat (first | exact Sub.nil | refine Sub.cons rfl ?_)))
        rw [hc3]
        rfl
    · simp only [decide_eq_false_iff_not] at h
      obtain rfl : i = l.length := by omega
      rw [List.take_of_length_le (Nat.le_refl _)] at hO2 ⊢
      repeat (first | refine WC.seq ?_ | refine WC.block ?_ | refine WC.region ?_ | refine WL.nil ?_ | refine WX.then_normal ?_ | refine WC.skip ?_ | refine WC.exit ?_ | refine WC.ret ?_ | refine WX.then_exit ?_ | refine WX.then_ret ?_ | refine WX.block_normal ?_ | refine WX.block_ret ?_ | refine WX.block_same ?_ | refine WX.block_other rfl ?_ | refine WC.label ?_ | refine WC.scope ?_ | refine WX.scope_normal ?_ | refine WX.scope_ret ?_ | refine WX.scope_exit ?_ | refine WL.y rfl (Yld.add rfl rfl (by simp only [In]; omega)) ?_ | refine WL.y rfl (Yld.sub rfl rfl (by simp only [In]; omega)) ?_ | refine WL.y rfl (Yld.mul rfl rfl (by simp only [In]; omega)) ?_ | refine WL.y rfl (Yld.convB tab_ok rfl rfl rfl rfl) ?_ | refine WL.y rfl (Yld.conv tab_ok rfl rfl rfl (by simp only [In]; omega)) ?_ | refine WL.y rfl (Yld.quo rfl rfl (by omega) (by omega) (by simp only [In]; omega)) ?_ | refine WL.y rfl (Yld.rem rfl rfl (by omega) (by omega)) ?_ | refine WL.y rfl (Yld.shl rfl rfl (by omega)) ?_ | refine WL.y rfl (Yld.shr rfl rfl (by omega)) ?_ | refine WL.y rfl (Yld.pure tab_ok rfl) ?_)
      exact WX.ret1 rfl rfl ⟨A2, c2, rfl, hO2, hg2⟩
end Go.Proofs.YtjhipfdbionpoaaGreatDoor

 namespace Go.Proofs.YtjhipfdbionpoaaGreatDoor
open Go Go.RowKit
attribute [local irreducible] WL WC WX WQ Yld Fn

theorem Rd.ofBl {α : Type} {f : α → Value} {w : World} {g : Nat} {e : TypeId} {xs : List α} {m : Nat} (h : Bl w g e (xs.map f)) (hm : xs.length ≤ m) (h63 : m ≤ maxLen) : Rd f w (some ⟨g, 0, none⟩) m xs :=
  ⟨hm, h63, fun _ => ⟨_, rfl, fun j x hj => by rw [Addr.add_mid, Nat.zero_add, h.cell]; simp [hj]⟩⟩
/-- all whole blocks of all are taken in; what is left -/
def absorb : Nat → List Int → List UInt8 → List Int × List UInt8
  | 0, hs, all => (hs, all)
  | m + 1, hs, all => if 64 ≤ all.length then absorb m (mixS hs (all.take 64)) (all.drop 64) else (hs, all)
/-- the state (words, bytes that are left) behind more bytes -/
def wrS (hs : List Int) (r b : List UInt8) : List Int × List UInt8 := absorb (r ++ b).length hs (r ++ b)
structure St (w : World) (g : Nat) (hs : List Int) (r : List UInt8) (n : Int) : Prop where
  len : hs.length = 8
  at_ : ∃ A c, Bl w g 199 (stc hs A c r n) ∧ Rd vb w A c r ∧ blk A ≠ some g
theorem stc_8 {hs : List Int} (hh : hs.length = 8) (A : Option Addr) (c : Nat) (r : List UInt8) (n : Int) : (stc hs A c r n)[8]? = some (.slice A r.length c) := by
  unfold stc; rw [List.getElem?_append_right (by simp [hh])]; simp [hh]
theorem stc_9 {hs : List Int} (hh : hs.length = 8) (A : Option Addr) (c : Nat) (r : List UInt8) (n : Int) : (stc hs A c r n)[9]? = some (.int .u64 n) := by
  unfold stc; rw [List.getElem?_append_right (by simp [hh])]; simp [hh]
theorem stc_set8 {hs : List Int} (hh : hs.length = 8) (A A' : Option Addr) (c c' : Nat) (r r' : List UInt8) (n : Int) : (stc hs A c r n).set 8 (.slice A' r'.length c') = stc hs A' c' r' n := by
  unfold stc; rw [List.set_append_right _ _ (by simp [hh])]; simp [hh]
theorem stc_set9 {hs : List Int} (hh : hs.length = 8) (A : Option Addr) (c : Nat) (r : List UInt8) (n n' : Int) : (stc hs A c r n).set 9 (.int .u64 n') = stc hs A c r n' := by
  unfold stc; rw [List.set_append_right _ _ (by simp [hh])]; simp [hh]
theorem stc_len {hs : List Int} (hh : hs.length = 8) (A : Option Addr) (c : Nat) (r : List UInt8) (n : Int) : (stc hs A c r n).length = 10 := by simp [stc, hh]

theorem write_fn (g : Nat) (hs : List Int) (r : List UInt8) (n : Int) (A2 : Option Addr) (c2 : Nat) (b : List UInt8) (w : World) (hS : St w g hs r n) (hR2 : Rd vb w A2 c2 b) (hA2 : b ≠ [] → blk A2 ≠ some g) (hn : 0 ≤ n) (hn2 : n ≤ 1073741824) (hr : r.length ≤ 64) (hb : b.length ≤ 1000000) :
    Fn Tryz.prog 131 ⟨[.pointer (some ⟨g, 0, none⟩), .slice A2 b.length c2]⟩ w fun v w' => v = .tuple #[] ∧ St w' g (wrS hs r b).1 (wrS hs r b).2 (n + b.length) ∧ w.grownBy w' (some g) := by
  obtain ⟨hh, A, c, hB, hR, hA⟩ := hS
  refine Fn.enter (by kernel_rfl) Tryz.func131 rfl Tryz.ntmps131 rfl ?_
  repeat (first | refine WL.y rfl (Yld.bload tab_ok hB rfl rfl (stc_9 hh A c r n)) ?_ | refine WC.seq ?_ | refine WC.block ?_ | refine WC.region ?_ | refine WL.nil ?_ | refine WX.then_normal ?_ | refine WC.skip ?_ | refine WC.exit ?_ | refine WC.ret ?_ | refine WX.then_exit ?_ | refine WX.then_ret ?_ | refine WX.block_normal ?_ | refine WX.block_ret ?_ | refine WX.block_same ?_ | refine WX.block_other rfl ?_ | refine WC.label ?_ | refine WC.scope ?_ | refine WX.scope_normal ?_ | refine WX.scope_ret ?_ | refine WX.scope_exit ?_ | refine WL.y rfl (Yld.add rfl rfl (by simp only [In]; omega)) ?_ | refine WL.y rfl (Yld.sub rfl rfl (by simp only [In]; omega)) ?_ | refine WL.y rfl (Yld.mul rfl rfl (by simp only [In]; omega)) ?_ | refine WL.y rfl (Yld.convB tab_ok rfl rfl rfl rfl) ?_ | refine WL.y rfl (Yld.conv tab_ok rfl rfl rfl (by simp only [In]; omega)) ?_ | refine WL.y rfl (Yld.quo rfl rfl (by omega) (by omega) (by simp only [In]; omega)) ?_ | refine WL.y rfl (Yld.rem rfl rfl (by omega) (by omega)) ?_ | refine WL.y rfl (Yld.shl rfl rfl (by omega)) ?_ | refine WL.y rfl (Yld.shr rfl rfl (by omega)) ?_ | refine WL.y rfl (Yld.pure tab_ok rfl) ?_)
  refine WL.store1 one131 rfl rfl rfl hB (by rw [stc_len hh]; omega) (fun w1 hB1 hg1 => ?_)
  rw [stc_set9 hh] at hB1
  have hR1 := hR.keep hg1 (fun q hq e => by injection hq with hq; exact hA (by rw [e, hq]))
  have hR21 := hR2.keep' hg1 (fun hb q hq e => by injection hq with hq; exact hA2 hb (by rw [e, hq]))
  repeat (first | refine WL.y rfl (Yld.bload tab_ok hB1 rfl rfl (stc_8 hh A c r _)) ?_ | refine WC.seq ?_ | refine WC.block ?_ | refine WC.region ?_ | refine WL.nil ?_ | refine WX.then_normal ?_ | refine WC.skip ?_ | refine WC.exit ?_ | refine WC.ret ?_ | refine WX.then_exit ?_ | refine WX.then_ret ?_ | refine WX.block_normal ?_ | refine WX.block_ret ?_ | refine WX.block_same ?_ | refine WX.block_other rfl ?_ | refine WC.label ?_ | refine WC.scope ?_ | refine WX.scope_normal ?_ | refine WX.scope_ret ?_ | refine WX.scope_exit ?_ | refine WL.y rfl (Yld.add rfl rfl (by simp only [In]; omega)) ?_ | refine WL.y rfl (Yld.sub rfl rfl (by simp only [In]; omega)) ?_ | refine WL.y rfl (Yld.mul rfl rfl (by simp only [In]; omega)) ?_ | refine WL.y rfl (Yld.convB tab_ok rfl rfl rfl rfl) ?_ | refine WL.y rfl (Yld.conv tab_ok rfl rfl rfl (by simp only [In]; omega)) ?_ | refine WL.y rfl (Yld.quo rfl rfl (by omega) (by omega) (by simp only [In]; omega)) ?_ | refine WL.y rfl (Yld.rem rfl rfl (by omega) (by omega)) ?_ | refine WL.y rfl (Yld.shl rfl rfl (by omega)) ?_ | refine WL.y rfl (Yld.shr rfl rfl (by omega)) ?_ | refine WL.y rfl (Yld.pure tab_ok rfl) ?_)
  refine WL.lit (us := [vS (A, c, r), vS (A2, c2, b)]) tab_ok rfl rfl rfl (by intro u hu; simp at hu; rcases hu with rfl | rfl <;> rfl) rfl (by omega) (fun gl w2 hL2 hg2 hl2 => ?_)
  refine WL.call rfl rfl (concat_fn (some ⟨gl, 0, none⟩) 2 [(A, c, r), (A2, c2, b)] w2 (Rd.ofBl hL2 (by simp) (by simp [maxLen])) (by intro x hx; simp at hx; rcases hx with rfl | rfl; exact hR1.grown hg2; exact hR21.grown hg2) (by simp [catS]; omega)) ?_
  rintro _ w3 ⟨A3, c3, rfl, hO3, hg3⟩
  have hcat : catS [(A, c, r), (A2, c2, b)] = r ++ b := by simp [catS]
  rw [hcat] at hO3 ⊢
  have hB3 := (hB1.keep hg2 (by simp)).keep hg3 (by simp)
  have hz1 := hg1.size
  have hz2 := hg2.size
  have hgl : g < w2.heap.size := by have := hB1.lt; omega
  have hA3 : blk A3 ≠ some g := fun e => by have := (hO3.lt e).1; omega
  have hg13 : w.grownBy w3 (some g) := gr_trans (gr_trans hg1 (gr_some hg2 _)) (gr_some hg3 _)
  have hR3 := hO3.rd
  clear hO3 hL2 hg1 hg2 hg3 hR1 hR21 hB1
  repeat (first | refine WC.seq ?_ | refine WC.block ?_ | refine WC.region ?_ | refine WL.nil ?_ | refine WX.then_normal ?_ | refine WC.skip ?_ | refine WC.exit ?_ | refine WC.ret ?_ | refine WX.then_exit ?_ | refine WX.then_ret ?_ | refine WX.block_normal ?_ | refine WX.block_ret ?_ | refine WX.block_same ?_ | refine WX.block_other rfl ?_ | refine WC.label ?_ | refine WC.scope ?_ | refine WX.scope_normal ?_ | refine WX.scope_ret ?_ | refine WX.scope_exit ?_ | refine WL.y rfl (Yld.add rfl rfl (by simp only [In]; omega)) ?_ | refine WL.y rfl (Yld.sub rfl rfl (by simp only [In]; omega)) ?_ | refine WL.y rfl (Yld.mul rfl rfl (by simp only [In]; omega)) ?_ | refine WL.y rfl (Yld.convB tab_ok rfl rfl rfl rfl) ?_ | refine WL.y rfl (Yld.conv tab_ok rfl rfl rfl (by simp only [In]; omega)) ?_ | refine WL.y rfl (Yld.quo rfl rfl (by omega) (by omega) (by simp only [In]; omega)) ?_ | refine WL.y rfl (Yld.rem rfl rfl (by omega) (by omega)) ?_ | refine WL.y rfl (Yld.shl rfl rfl (by omega)) ?_ | refine WL.y rfl (Yld.shr rfl rfl (by omega)) ?_ | refine WL.y rfl (Yld.pure tab_ok rfl) ?_)
  refine WC.loop (S := Nat × List Int × Option Addr × Nat × List UInt8) (fun s => s.2.2.2.2.length) (fun s => [(4, .slice s.2.2.1 s.2.2.2.2.length s.2.2.2.1), (0, .pointer (some ⟨g, 0, none⟩))])
    (fun s w4 => s.2.1.length = 8 ∧ Bl w4 g 199 (stc s.2.1 A c r (n + b.length)) ∧ Rd vb w4 s.2.2.1 s.2.2.2.1 s.2.2.2.2 ∧ blk s.2.2.1 ≠ some g ∧ s.2.2.2.2.length ≤ s.1 ∧ s.2.2.2.2.length ≤ 2000000 ∧ absorb s.1 s.2.1 s.2.2.2.2 = wrS hs r b ∧ w3.grownBy w4 (some g))
    ((r ++ b).length, hs, A3, c3, r ++ b) ⟨hh, hB3, hR3, hA3, Nat.le_refl _, by simp; omega, rfl, gr_refl _ _⟩ (by repeat (first | exact Sub.nil | refine Sub.cons rfl ?_)) (fun ⟨m, h4, A4, c4, al⟩ w4 ⟨hh4, hB4, hR4, hA4, hm4, hl4, ha4, hg4⟩ => ?_)
  simp only at hh4 hB4 hR4 hA4 hm4 hl4 ha4
  repeat (first | refine WC.seq ?_ | refine WC.block ?_ | refine WC.region ?_ | refine WL.nil ?_ | refine WX.then_normal ?_ | refine WC.skip ?_ | refine WC.exit ?_ | refine WC.ret ?_ | refine WX.then_exit ?_ | refine WX.then_ret ?_ | refine WX.block_normal ?_ | refine WX.block_ret ?_ | refine WX.block_same ?_ | refine WX.block_other rfl ?_ | refine WC.label ?_ | refine WC.scope ?_ | refine WX.scope_normal ?_ | refine WX.scope_ret ?_ | refine WX.scope_exit ?_ | refine WL.y rfl (Yld.add rfl rfl (by simp only [In]; omega)) ?_ | refine WL.y rfl (Yld.sub rfl rfl (by simp only [In]; omega)) ?_ | refine WL.y rfl (Yld.mul rfl rfl (by simp only [In]; omega)) ?_ | refine WL.y rfl (Yld.convB tab_ok rfl rfl rfl rfl) ?_ | refine WL.y rfl (Yld.conv tab_ok rfl rfl rfl (by simp only [In]; omega)) ?_ | refine WL.y rfl (Yld.quo rfl rfl (by omega) (by omega) (by simp only [In]; omega)) ?_ | refine WL.y rfl (Yld.rem rfl rfl (by omega) (by omega)) ?_ | refine WL.y rfl (Yld.shl rfl rfl (by omega)) ?_ | refine WL.y rfl (Yld.shr rfl rfl (by omega)) ?_ | refine WL.y rfl (Yld.pure tab_ok rfl) ?_)
  refine WC.cond rfl (fun h => ?_) (fun h => ?_)
  · simp only [decide_eq_true_eq] at h
    have h64 : 64 ≤ al.length := by omega
    repeat (first | refine WC.seq ?_ | refine WC.block ?_ | refine WC.region ?_ | refine WL.nil ?_ | refine WX.then_normal ?_ | refine WC.skip ?_ | refine WC.exit ?_ | refine WC.ret ?_ | refine WX.then_exit ?_ | refine WX.then_ret ?_ | refine WX.block_normal ?_ | refine WX.block_ret ?_ | refine WX.block_same ?_ | refine WX.block_other rfl ?_ | refine WC.label ?_ | refine WC.scope ?_ | refine WX.scope_normal ?_ | refine WX.scope_ret ?_ | refine WX.scope_exit ?_ | refine WL.y rfl (Yld.add rfl rfl (by simp only [In]; omega)) ?_ | refine WL.y rfl (Yld.sub rfl rfl (by simp only [In]; omega)) ?_ | refine WL.y rfl (Yld.mul rfl rfl (by simp only [In]; omega)) ?_ | refine WL.y rfl (Yld.convB tab_ok rfl rfl rfl rfl) ?_ | refine WL.y rfl (Yld.conv tab_ok rfl rfl rfl (by simp only [In]; omega)) ?_ | refine WL.y rfl (Yld.quo rfl rfl (by omega) (by omega) (by simp only [In]; omega)) ?_ | refine WL.y rfl (Yld.rem rfl rfl (by omega) (by omega)) ?_ | refine WL.y rfl (Yld.shl rfl rfl (by omega)) ?_ | refine WL.y rfl (Yld.shr rfl rfl (by omega)) ?_ | refine WL.y rfl (Yld.pure tab_ok rfl) ?_)
    refine WL.cut tab_ok hR4 rfl rfl rfl rfl rfl rfl (by omega) (by omega) (by omega) (fun A5 c5 hR5 hA5 => ?_)
    refine WL.call rfl rfl (mix_fn g h4 _ A5 c5 _ w4 hh4 hB4 hR5 (by simp; omega)) ?_
    rintro _ w5 ⟨rfl, hB5, hg5⟩
    have hR45 := hR4.keep hg5 (fun q hq e => by injection hq with hq; exact hA4 (by rw [e, hq]))
    repeat (first | refine WC.seq ?_ | refine WC.block ?_ | refine WC.region ?_ | refine WL.nil ?_ | refine WX.then_normal ?_ | refine WC.skip ?_ | refine WC.exit ?_ | refine WC.ret ?_ | refine WX.then_exit ?_ | refine WX.then_ret ?_ | refine WX.block_normal ?_ | refine WX.block_ret ?_ | refine WX.block_same ?_ | refine WX.block_other rfl ?_ | refine WC.label ?_ | refine WC.scope ?_ | refine WX.scope_normal ?_ | refine WX.scope_ret ?_ | refine WX.scope_exit ?_ | refine WL.y rfl (Yld.add rfl rfl (by simp only [In]; omega)) ?_ | refine WL.y rfl (Yld.sub rfl rfl (by simp only [In]; omega)) ?_ | refine WL.y rfl (Yld.mul rfl rfl (by simp only [In]; omega)) ?_ | refine WL.y rfl (Yld.convB tab_ok rfl rfl rfl rfl) ?_ | refine WL.y rfl (Yld.conv tab_ok rfl rfl rfl (by simp only [In]; omega)) ?_ | refine WL.y rfl (Yld.quo rfl rfl (by omega) (by omega) (by simp only [In]; omega)) ?_ | refine WL.y rfl (Yld.rem rfl rfl (by omega) (by omega)) ?_ | refine WL.y rfl (Yld.shl rfl rfl (by omega)) ?_ | refine WL.y rfl (Yld.shr rfl rfl (by omega)) ?_ | refine WL.y rfl (Yld.pure tab_ok rfl) ?_)
    refine WL.cut tab_ok hR45 rfl rfl rfl rfl rfl rfl (by omega) (by omega) (by omega) (fun A6 c6 hR6 hA6 => ?_)
    repeat (first | refine WC.seq ?_ | refine WC.block ?_ | refine WC.region ?_ | refine WL.nil ?_ | refine WX.then_normal ?_ | refine WC.skip ?_ | refine WC.exit ?_ | refine WC.ret ?_ | refine WX.then_exit ?_ | refine WX.then_ret ?_ | refine WX.block_normal ?_ | refine WX.block_ret ?_ | refine WX.block_same ?_ | refine WX.block_other rfl ?_ | refine WC.label ?_ | refine WC.scope ?_ | refine WX.scope_normal ?_ | refine WX.scope_ret ?_ | refine WX.scope_exit ?_ | refine WL.y rfl (Yld.add rfl rfl (by simp only [In]; omega)) ?_ | refine WL.y rfl (Yld.sub rfl rfl (by simp only [In]; omega)) ?_ | refine WL.y rfl (Yld.mul rfl rfl (by simp only [In]; omega)) ?_ | refine WL.y rfl (Yld.convB tab_ok rfl rfl rfl rfl) ?_ | refine WL.y rfl (Yld.conv tab_ok rfl rfl rfl (by simp only [In]; omega)) ?_ | refine WL.y rfl (Yld.quo rfl rfl (by omega) (by omega) (by simp only [In]; omega)) ?_ | refine WL.y rfl (Yld.rem rfl rfl (by omega) (by omega)) ?_ | refine WL.y rfl (Yld.shl rfl rfl (by omega)) ?_ | refine WL.y rfl (Yld.shr rfl rfl (by omega)) ?_ | refine WL.y rfl (Yld.pure tab_ok rfl) ?_)
    have h0 : Int.toNat 64 - Int.toNat 0 = 64 := rfl
    have hm0 : 1 ≤ m := by omega
    obtain ⟨q, rfl⟩ : ∃ q, m = q + 1 := ⟨m - 1, by omega⟩
    have hlen6 : ((al.drop (Int.toNat 64)).take ((al.length : Int).toNat - Int.toNat 64)) = al.drop 64 := by
      rw [List.take_of_length_le]
      · rfl
      · rw [List.length_drop]; omega
    rw [hlen6] at hR6 ⊢
    refine WX.round (q, mixS h4 ((al.drop (Int.toNat 0)).take (Int.toNat 64 - Int.toNat 0)), A6, c6, al.drop 64) ⟨?_, hB5, hR6, fun e => hA4 (hA6 _ e), ?_, ?_, ?_, gr_trans hg4 hg5⟩ ?_ (by repeat (first | exact Sub.nil | refine Sub.cons rfl ?_))
    · rw [mixS_len]; exact hh4
    · simp only [List.length_drop]; omega
    · simp only [List.length_drop]; omega
    · rw [← ha4, absorb, if_pos h64]
      rfl
    · simp only [List.length_drop]; omega
  · simp only [decide_eq_false_iff_not] at h
    have hfin : wrS hs r b = (h4, al) := by
      rw [← ha4]
      cases m with
      | zero => rfl
      | succ q => rw [absorb, if_neg (by omega)]
    repeat (first | refine WC.seq ?_ | refine WC.block ?_ | refine WC.region ?_ | refine WL.nil ?_ | refine WX.then_normal ?_ | refine WC.skip ?_ | refine WC.exit ?_ | refine WC.ret ?_ | refine WX.then_exit ?_ | refine WX.then_ret ?_ | refine WX.block_normal ?_ | refine WX.block_ret ?_ | refine WX.block_same ?_ | refine WX.block_other rfl ?_ | refine WC.label ?_ | refine WC.scope ?_ | refine WX.scope_normal ?_ | refine WX.scope_ret ?_ | refine WX.scope_exit ?_ | refine WL.y rfl (Yld.add rfl rfl (by simp only [In]; omega)) ?_ | refine WL.y rfl (Yld.sub rfl rfl (by simp only [In]; omega)) ?_ | refine WL.y rfl (Yld.mul rfl rfl (by simp only [In]; omega)) ?_ | refine WL.y rfl (Yld.convB tab_ok rfl rfl rfl rfl) ?_ | refine WL.y rfl (Yld.conv tab_ok rfl rfl rfl (by simp only [In]; omega)) ?_ | refine WL.y rfl (Yld.quo rfl rfl (by omega) (by omega) (by simp only [In]; omega)) ?_ | refine WL.y rfl (Yld.rem rfl rfl (by omega) (by omega)) ?_ | refine WL.y rfl (Yld.shl rfl rfl (by omega)) ?_ | refine WL.y rfl (Yld.shr rfl rfl (by omega)) ?_ | refine WL.y rfl (Yld.pure tab_ok rfl) ?_)
    refine WL.store1 one112 rfl rfl rfl hB4 (by rw [stc_len hh4]; omega) (fun w5 hB5 hg5 => ?_)
    rw [stc_set8 hh4] at hB5
    repeat (first | refine WC.seq ?_ | refine WC.block ?_ | refine WC.region ?_ | refine WL.nil ?_ | refine WX.then_normal ?_ | refine WC.skip ?_ | refine WC.exit ?_ | refine WC.ret ?_ | refine WX.then_exit ?_ | refine WX.then_ret ?_ | refine WX.block_normal ?_ | refine WX.block_ret ?_ | refine WX.block_same ?_ | refine WX.block_other rfl ?_ | refine WC.label ?_ | refine WC.scope ?_ | refine WX.scope_normal ?_ | refine WX.scope_ret ?_ | refine WX.scope_exit ?_ | refine WL.y rfl (Yld.add rfl rfl (by simp only [In]; omega)) ?_ | refine WL.y rfl (Yld.sub rfl rfl (by simp only [In]; omega)) ?_ | refine WL.y rfl (Yld.mul rfl rfl (by simp only [In]; omega)) ?_ | refine WL.y rfl (Yld.convB tab_ok rfl rfl rfl rfl) ?_ | refine WL.y rfl (Yld.conv tab_ok rfl rfl rfl (by simp only [In]; omega)) ?_ | refine WL.y rfl (Yld.quo rfl rfl (by omega) (by omega) (by simp only [In]; omega)) ?_ | refine WL.y rfl (Yld.rem rfl rfl (by omega) (by omega)) ?_ | refine WL.y rfl (Yld.shl rfl rfl (by omega)) ?_ | refine WL.y rfl (Yld.shr rfl rfl (by omega)) ?_ | refine WL.y rfl (Yld.pure tab_ok rfl) ?_)
    refine WX.end0 rfl ⟨rfl, ?_, gr_trans (gr_trans hg13 hg4) hg5⟩
    rw [hfin]
    exact ⟨hh4, A4, c4, hB5, hR4.keep hg5 (fun q hq e => by injection hq with hq; exact hA4 (by rw [e, hq])), hA4⟩
end Go.Proofs.YtjhipfdbionpoaaGreatDoor

 namespace Go.Proofs.YtjhipfdbionpoaaGreatDoor
open Go Go.RowKit
attribute [local irreducible] WL WC WX WQ Yld Fn

/-- a number as_ a byte -/
def u8v (z : Int) : UInt8 := UInt8.ofNat (IntKind.u8.wrap z).toNat
theorem vb_u8v (z : Int) : Value.int .u8 (IntKind.u8.wrap z) = vb (u8v z) := by
  unfold vb u8v
  have h : IntKind.u8.wrap z = z % 256 := IntKind.wrap_u8 z
  rw [h]
  congr 1
  rw [UInt8.toNat_ofNat']
  omega
theorem Yld.toB {P : Program} {T : Tab} {N : Nat} {L : Slots} {w : World} {dd : Option Tmp} {ty : TypeId} {pos : String} {af : Array Edge} {s d : TypeId} {k k2 : IntKind} {x : Operand} {z : Int} (hT : T.Ok P) (hs : nk T.int s = some k) (hd : nk T.int d = some .u8) (hx : opv L x = some (.int k2 z)) :
    Yld P N w ⟨dd, .convert s d x, ty, pos, af, none⟩ L (vb (u8v z)) := by
  rw [← vb_u8v]
  exact Yld.pure hT (by simp [pv, hx, o1, pvConv, hs, hd])

def padS (l : List UInt8) : List UInt8 := l ++ List.replicate ((120 - l.length % 64) % 64) 0
theorem padS_step (l : List UInt8) (h : l.length % 64 ≠ 56) : padS (l ++ [0]) = padS l := by
  unfold padS
  have : (120 - l.length % 64) % 64 = (120 - (l ++ [0]).length % 64) % 64 + 1 := by simp; omega
  rw [this, List.replicate_succ]
  simp
def lenB (n : Int) (i : Nat) : UInt8 := u8v (shrV .u64 n (8 * (7 - (i : Int))).toNat)
def lenBs (n : Int) : Nat → List UInt8
  | 0 => []
  | i + 1 => lenBs n i ++ [lenB n i]
theorem lenBs_len (n : Int) : ∀ i, (lenBs n i).length = i
  | 0 => rfl
  | i + 1 => by rw [lenBs, List.length_append, lenBs_len n i]; rfl
def endS (r : List UInt8) (n : Int) : List UInt8 := padS (r ++ [0x80]) ++ lenBs (8 * n) 8
def outAt (h : List Int) : Nat → List UInt8
  | 0 => List.replicate 32 0
  | i + 1 => (outAt h i).set i (u8v (shrV .u32 (h.getD (i / 4) 0) (24 - 8 * ((i : Int) % 4)).toNat))
theorem outAt_len (h : List Int) : ∀ i, (outAt h i).length = 32
  | 0 => rfl
  | i + 1 => by rw [outAt, List.length_set, outAt_len h i]
/-- the digest of a state -/
def sumS (hs : List Int) (r : List UInt8) (n : Int) : List UInt8 := outAt (absorb (endS r n).length hs (endS r n)).1 32
theorem sumS_len (hs : List Int) (r : List UInt8) (n : Int) : (sumS hs r n).length = 32 := outAt_len _ 32
theorem bl_one {α : Type} {f : α → Value} {w : World} {g : Nat} {e : TypeId} {x : α} (h : Bl w g e [f x]) : Rd f w (some ⟨g, 0, none⟩) 1 [x] := Rd.ofBl (xs := [x]) h (by simp) (by simp [maxLen])

set_option maxHeartbeats 1000000 in
theorem sum_fn (g : Nat) (hs : List Int) (r : List UInt8) (n : Int) (w : World) (hS : St w g hs r n) (hn : 0 ≤ n) (hn2 : n ≤ 1073741824) (hr : r.length ≤ 64) :
    Fn Tryz.prog 132 ⟨[.pointer (some ⟨g, 0, none⟩)]⟩ w fun v w' => v = .agg ⟨(sumS hs r n).map vb⟩ ∧ w.grownBy w' none := by
  obtain ⟨hh, A, c, hB, hR, hA⟩ := hS
  have hgw := hB.lt
  refine Fn.enter (by kernel_rfl) Tryz.func132 rfl Tryz.ntmps132 rfl ?_
  repeat (first | refine WC.seq ?_ | refine WC.block ?_ | refine WC.region ?_ | refine WL.nil ?_ | refine WX.then_normal ?_ | refine WC.skip ?_ | refine WC.exit ?_ | refine WC.ret ?_ | refine WX.then_exit ?_ | refine WX.then_ret ?_ | refine WX.block_normal ?_ | refine WX.block_ret ?_ | refine WX.block_same ?_ | refine WX.block_other rfl ?_ | refine WC.label ?_ | refine WC.scope ?_ | refine WX.scope_normal ?_ | refine WX.scope_ret ?_ | refine WX.scope_exit ?_ | refine WL.y rfl (Yld.add rfl rfl (by simp only [In]; omega)) ?_ | refine WL.y rfl (Yld.sub rfl rfl (by simp only [In]; omega)) ?_ | refine WL.y rfl (Yld.mul rfl rfl (by simp only [In]; omega)) ?_ | refine WL.y rfl (Yld.convB tab_ok rfl rfl rfl rfl) ?_ | refine WL.y rfl (Yld.conv tab_ok rfl rfl rfl (by simp only [In]; omega)) ?_ | refine WL.y rfl (Yld.quo rfl rfl (by omega) (by omega) (by simp only [In]; omega)) ?_ | refine WL.y rfl (Yld.rem rfl rfl (by omega) (by omega)) ?_ | refine WL.y rfl (Yld.shl rfl rfl (by omega)) ?_ | refine WL.y rfl (Yld.shr rfl rfl (by omega)) ?_ | refine WL.y rfl (Yld.pure tab_ok rfl) ?_)
  refine WL.alloc rfl zero47 (fun go w1 ho1 hg1 hlo => ?_)
  have hB1 := hB.keep hg1 (by simp)
  have hR1 := hR.grown hg1
  repeat (first | refine WL.y rfl (Yld.bagg (vs := stc hs A c r n) tab_ok hB1 rfl rfl (by rw [List.drop_zero, List.take_of_length_le]; rw [stc_len hh]; exact Nat.le_refl _) (stc_len hh _ _ _ _)) ?_ | refine WC.seq ?_ | refine WC.block ?_ | refine WC.region ?_ | refine WL.nil ?_ | refine WX.then_normal ?_ | refine WC.skip ?_ | refine WC.exit ?_ | refine WC.ret ?_ | refine WX.then_exit ?_ | refine WX.then_ret ?_ | refine WX.block_normal ?_ | refine WX.block_ret ?_ | refine WX.block_same ?_ | refine WX.block_other rfl ?_ | refine WC.label ?_ | refine WC.scope ?_ | refine WX.scope_normal ?_ | refine WX.scope_ret ?_ | refine WX.scope_exit ?_ | refine WL.y rfl (Yld.add rfl rfl (by simp only [In]; omega)) ?_ | refine WL.y rfl (Yld.sub rfl rfl (by simp only [In]; omega)) ?_ | refine WL.y rfl (Yld.mul rfl rfl (by simp only [In]; omega)) ?_ | refine WL.y rfl (Yld.convB tab_ok rfl rfl rfl rfl) ?_ | refine WL.y rfl (Yld.conv tab_ok rfl rfl rfl (by simp only [In]; omega)) ?_ | refine WL.y rfl (Yld.quo rfl rfl (by omega) (by omega) (by simp only [In]; omega)) ?_ | refine WL.y rfl (Yld.rem rfl rfl (by omega) (by omega)) ?_ | refine WL.y rfl (Yld.shl rfl rfl (by omega)) ?_ | refine WL.y rfl (Yld.shr rfl rfl (by omega)) ?_ | refine WL.y rfl (Yld.pure tab_ok rfl) ?_)
  refine WL.alloc rfl zero199 (fun gt w2 ht2 hg2 hlt => ?_)
  refine WL.storeW tab_ok rfl rfl rfl (by intro u hu; simp [stc] at hu; rcases hu with ⟨q, _, rfl⟩ | rfl | rfl <;> rfl) ht2 rfl (stc_len hh _ _ _ _) (fun w3 ht3 hg3 => ?_)
  have hz1 := hg1.size
  have hgolt := ho1.lt
  have hz2 := hg2.size
  have hz3 := hg3.size
  have hgr3 : w.grownBy w3 none := gr_new (gr_trans hg1 hg2) hg3 (by omega)
  have hB3 := (hB1.keep hg2 (by simp)).keep hg3 (fun e => by injection e with e; omega)
  have hgt3 := ht3.lt
  have ho3 := (ho1.keep hg2 (by simp)).keep hg3 (fun e => by injection e with e; have := ho1.lt; omega)
  have hR3 := hR.grown hgr3
  clear hB1 hR1 hg1 hg2 hg3 ht2 ho1
  repeat (first | refine WL.y rfl (Yld.bload tab_ok hB3 rfl rfl (stc_9 hh A c r _)) ?_ | refine WL.y rfl (Yld.bload tab_ok hB3 rfl rfl (stc_8 hh A c r _)) ?_ | refine WC.seq ?_ | refine WC.block ?_ | refine WC.region ?_ | refine WL.nil ?_ | refine WX.then_normal ?_ | refine WC.skip ?_ | refine WC.exit ?_ | refine WC.ret ?_ | refine WX.then_exit ?_ | refine WX.then_ret ?_ | refine WX.block_normal ?_ | refine WX.block_ret ?_ | refine WX.block_same ?_ | refine WX.block_other rfl ?_ | refine WC.label ?_ | refine WC.scope ?_ | refine WX.scope_normal ?_ | refine WX.scope_ret ?_ | refine WX.scope_exit ?_ | refine WL.y rfl (Yld.add rfl rfl (by simp only [In]; omega)) ?_ | refine WL.y rfl (Yld.sub rfl rfl (by simp only [In]; omega)) ?_ | refine WL.y rfl (Yld.mul rfl rfl (by simp only [In]; omega)) ?_ | refine WL.y rfl (Yld.convB tab_ok rfl rfl rfl rfl) ?_ | refine WL.y rfl (Yld.conv tab_ok rfl rfl rfl (by simp only [In]; omega)) ?_ | refine WL.y rfl (Yld.quo rfl rfl (by omega) (by omega) (by simp only [In]; omega)) ?_ | refine WL.y rfl (Yld.rem rfl rfl (by omega) (by omega)) ?_ | refine WL.y rfl (Yld.shl rfl rfl (by omega)) ?_ | refine WL.y rfl (Yld.shr rfl rfl (by omega)) ?_ | refine WL.y rfl (Yld.pure tab_ok rfl) ?_)
  refine WL.call rfl rfl (clone_fn A c r w3 hR3 (by omega)) ?_
  rintro _ w4 ⟨A4, c4, rfl, hO4, hg4, hf4⟩
  refine WL.lit (us := [vb 0x80]) tab_ok rfl rfl rfl (by intro u hu; simp at hu; rw [hu]; rfl) rfl (by omega) (fun gl w5 hL5 hg5 hl5 => ?_)
  refine WL.append tab_ok rfl rfl One.b (hO4.grown hg5) rfl rfl (bl_one (x := 0x80) hL5) rfl rfl (by simp; omega) (by simp [maxLen]; omega) (by have := hg4.size; have := hg5.size; omega) (fun A6 c6 w6 hO6 hg6 hf6 => ?_)
  have hgr6 : w3.grownBy w6 none := by
    cases hq : blk A4 with
    | none => rw [hq] at hg6; exact gr_trans (gr_trans hg4 hg5) hg6
    | some q => rw [hq] at hg6; exact gr_new (gr_trans hg4 hg5) hg6 (hO4.lt hq).1
  clear hO4 hg4 hf4 hL5 hg5 hg6 hf6
  have hp0 : padS (r ++ [0x80]) = padS (r ++ [0x80]) := rfl
  repeat (first | refine WC.seq ?_ | refine WC.block ?_ | refine WC.region ?_ | refine WL.nil ?_ | refine WX.then_normal ?_ | refine WC.skip ?_ | refine WC.exit ?_ | refine WC.ret ?_ | refine WX.then_exit ?_ | refine WX.then_ret ?_ | refine WX.block_normal ?_ | refine WX.block_ret ?_ | refine WX.block_same ?_ | refine WX.block_other rfl ?_ | refine WC.label ?_ | refine WC.scope ?_ | refine WX.scope_normal ?_ | refine WX.scope_ret ?_ | refine WX.scope_exit ?_ | refine WL.y rfl (Yld.add rfl rfl (by simp only [In]; omega)) ?_ | refine WL.y rfl (Yld.sub rfl rfl (by simp only [In]; omega)) ?_ | refine WL.y rfl (Yld.mul rfl rfl (by simp only [In]; omega)) ?_ | refine WL.y rfl (Yld.convB tab_ok rfl rfl rfl rfl) ?_ | refine WL.y rfl (Yld.conv tab_ok rfl rfl rfl (by simp only [In]; omega)) ?_ | refine WL.y rfl (Yld.quo rfl rfl (by omega) (by omega) (by simp only [In]; omega)) ?_ | refine WL.y rfl (Yld.rem rfl rfl (by omega) (by omega)) ?_ | refine WL.y rfl (Yld.shl rfl rfl (by omega)) ?_ | refine WL.y rfl (Yld.shr rfl rfl (by omega)) ?_ | refine WL.y rfl (Yld.pure tab_ok rfl) ?_)
  refine WC.loop (S := Option Addr × Nat × List UInt8) (fun s => (120 - s.2.2.length % 64) % 64) (fun s => [(5, .slice s.1 s.2.2.length s.2.1), (4, .int .u64 (8 * n)), (3, .pointer (some ⟨gt, 0, none⟩)), (2, .pointer (some ⟨go, 0, none⟩))])
    (fun s w7 => Own vb w7 w3.heap.size 5 s.1 s.2.1 s.2.2 ∧ padS s.2.2 = padS (r ++ [0x80]) ∧ s.2.2.length ≤ 128 + 64 ∧ w3.grownBy w7 none)
    (A6, c6, r ++ [0x80]) ⟨hO6, rfl, by simp; omega, hgr6⟩ (by repeat (first | exact Sub.nil | refine Sub.cons rfl ?_)) (fun ⟨A7, c7, e7⟩ w7 ⟨hO7, hp7, hl7, hg7⟩ => ?_)
  simp only at hO7 hp7 hl7
  repeat (first | refine WC.seq ?_ | refine WC.block ?_ | refine WC.region ?_ | refine WL.nil ?_ | refine WX.then_normal ?_ | refine WC.skip ?_ | refine WC.exit ?_ | refine WC.ret ?_ | refine WX.then_exit ?_ | refine WX.then_ret ?_ | refine WX.block_normal ?_ | refine WX.block_ret ?_ | refine WX.block_same ?_ | refine WX.block_other rfl ?_ | refine WC.label ?_ | refine WC.scope ?_ | refine WX.scope_normal ?_ | refine WX.scope_ret ?_ | refine WX.scope_exit ?_ | refine WL.y rfl (Yld.add rfl rfl (by simp only [In]; omega)) ?_ | refine WL.y rfl (Yld.sub rfl rfl (by simp only [In]; omega)) ?_ | refine WL.y rfl (Yld.mul rfl rfl (by simp only [In]; omega)) ?_ | refine WL.y rfl (Yld.convB tab_ok rfl rfl rfl rfl) ?_ | refine WL.y rfl (Yld.conv tab_ok rfl rfl rfl (by simp only [In]; omega)) ?_ | refine WL.y rfl (Yld.quo rfl rfl (by omega) (by omega) (by simp only [In]; omega)) ?_ | refine WL.y rfl (Yld.rem rfl rfl (by omega) (by omega)) ?_ | refine WL.y rfl (Yld.shl rfl rfl (by omega)) ?_ | refine WL.y rfl (Yld.shr rfl rfl (by omega)) ?_ | refine WL.y rfl (Yld.pure tab_ok rfl) ?_)
  refine WC.cond rfl (fun h => ?_) (fun h => ?_)
  · have h56 : e7.length % 64 ≠ 56 := by
      simp only [Bool.not_eq_true', decide_eq_false_iff_not] at h
      omega
    have hle : (padS e7).length ≤ 192 := by
      rw [hp7]; unfold padS; simp; omega
    have hl8 : e7.length + 1 ≤ 192 := by
      unfold padS at hle
      rw [List.length_append, List.length_replicate] at hle
      omega
    repeat (first | refine WC.seq ?_ | refine WC.block ?_ | refine WC.region ?_ | refine WL.nil ?_ | refine WX.then_normal ?_ | refine WC.skip ?_ | refine WC.exit ?_ | refine WC.ret ?_ | refine WX.then_exit ?_ | refine WX.then_ret ?_ | refine WX.block_normal ?_ | refine WX.block_ret ?_ | refine WX.block_same ?_ | refine WX.block_other rfl ?_ | refine WC.label ?_ | refine WC.scope ?_ | refine WX.scope_normal ?_ | refine WX.scope_ret ?_ | refine WX.scope_exit ?_ | refine WL.y rfl (Yld.add rfl rfl (by simp only [In]; omega)) ?_ | refine WL.y rfl (Yld.sub rfl rfl (by simp only [In]; omega)) ?_ | refine WL.y rfl (Yld.mul rfl rfl (by simp only [In]; omega)) ?_ | refine WL.y rfl (Yld.convB tab_ok rfl rfl rfl rfl) ?_ | refine WL.y rfl (Yld.conv tab_ok rfl rfl rfl (by simp only [In]; omega)) ?_ | refine WL.y rfl (Yld.quo rfl rfl (by omega) (by omega) (by simp only [In]; omega)) ?_ | refine WL.y rfl (Yld.rem rfl rfl (by omega) (by omega)) ?_ | refine WL.y rfl (Yld.shl rfl rfl (by omega)) ?_ | refine WL.y rfl (Yld.shr rfl rfl (by omega)) ?_ | refine WL.y rfl (Yld.pure tab_ok rfl) ?_)
    refine WL.lit (us := [vb 0]) tab_ok rfl rfl rfl (by intro u hu; simp at hu; rw [hu]; rfl) rfl (by omega) (fun gl w8 hL8 hg8 hl8 => ?_)
    refine WL.append tab_ok rfl rfl One.b (hO7.grown hg8) rfl rfl (bl_one (x := 0) hL8) rfl rfl (by simp; omega) (by simp [maxLen]; omega) (by have := hg7.size; have := hg8.size; omega) (fun A9 c9 w9 hO9 hg9 hf9 => ?_)
    repeat (first | refine WC.seq ?_ | refine WC.block ?_ | refine WC.region ?_ | refine WL.nil ?_ | refine WX.then_normal ?_ | refine WC.skip ?_ | refine WC.exit ?_ | refine WC.ret ?_ | refine WX.then_exit ?_ | refine WX.then_ret ?_ | refine WX.block_normal ?_ | refine WX.block_ret ?_ | refine WX.block_same ?_ | refine WX.block_other rfl ?_ | refine WC.label ?_ | refine WC.scope ?_ | refine WX.scope_normal ?_ | refine WX.scope_ret ?_ | refine WX.scope_exit ?_ | refine WL.y rfl (Yld.add rfl rfl (by simp only [In]; omega)) ?_ | refine WL.y rfl (Yld.sub rfl rfl (by simp only [In]; omega)) ?_ | refine WL.y rfl (Yld.mul rfl rfl (by simp only [In]; omega)) ?_ | refine WL.y rfl (Yld.convB tab_ok rfl rfl rfl rfl) ?_ | refine WL.y rfl (Yld.conv tab_ok rfl rfl rfl (by simp only [In]; omega)) ?_ | refine WL.y rfl (Yld.quo rfl rfl (by omega) (by omega) (by simp only [In]; omega)) ?_ | refine WL.y rfl (Yld.rem rfl rfl (by omega) (by omega)) ?_ | refine WL.y rfl (Yld.shl rfl rfl (by omega)) ?_ | refine WL.y rfl (Yld.shr rfl rfl (by omega)) ?_ | refine WL.y rfl (Yld.pure tab_ok rfl) ?_)
    refine WX.round (A9, c9, e7 ++ [0]) ⟨hO9, by rw [padS_step _ h56]; exact hp7, by simp; omega, ?_⟩ (by simp; omega) (by repeat (first | exact Sub.nil | refine Sub.cons rfl ?_))
    cases hq : blk A7 with
    | none => rw [hq] at hg9; exact gr_trans (gr_trans hg7 hg8) hg9
    | some q => rw [hq] at hg9; exact gr_new (gr_trans hg7 hg8) hg9 (hO7.lt hq).1
  · have h56 : e7.length % 64 = 56 := by
      simp only [Bool.not_eq_false', decide_eq_true_eq] at h
      omega
    have he7 : e7 = padS (r ++ [0x80]) := by
      rw [← hp7]; unfold padS; rw [h56]; simp
    have hpl : e7.length ≤ 184 := by rw [he7]; unfold padS; simp; omega
    repeat (first | refine WC.seq ?_ | refine WC.block ?_ | refine WC.region ?_ | refine WL.nil ?_ | refine WX.then_normal ?_ | refine WC.skip ?_ | refine WC.exit ?_ | refine WC.ret ?_ | refine WX.then_exit ?_ | refine WX.then_ret ?_ | refine WX.block_normal ?_ | refine WX.block_ret ?_ | refine WX.block_same ?_ | refine WX.block_other rfl ?_ | refine WC.label ?_ | refine WC.scope ?_ | refine WX.scope_normal ?_ | refine WX.scope_ret ?_ | refine WX.scope_exit ?_ | refine WL.y rfl (Yld.add rfl rfl (by simp only [In]; omega)) ?_ | refine WL.y rfl (Yld.sub rfl rfl (by simp only [In]; omega)) ?_ | refine WL.y rfl (Yld.mul rfl rfl (by simp only [In]; omega)) ?_ | refine WL.y rfl (Yld.convB tab_ok rfl rfl rfl rfl) ?_ | refine WL.y rfl (Yld.conv tab_ok rfl rfl rfl (by simp only [In]; omega)) ?_ | refine WL.y rfl (Yld.quo rfl rfl (by omega) (by omega) (by simp only [In]; omega)) ?_ | refine WL.y rfl (Yld.rem rfl rfl (by omega) (by omega)) ?_ | refine WL.y rfl (Yld.shl rfl rfl (by omega)) ?_ | refine WL.y rfl (Yld.shr rfl rfl (by omega)) ?_ | refine WL.y rfl (Yld.pure tab_ok rfl) ?_)
    refine WC.loop (S := Nat × Option Addr × Nat) (fun s => 8 - s.1) (fun s => [(32, vi s.1), (5, .slice s.2.1 (e7 ++ lenBs (8 * n) s.1).length s.2.2), (4, .int .u64 (8 * n)), (3, .pointer (some ⟨gt, 0, none⟩)), (2, .pointer (some ⟨go, 0, none⟩))])
      (fun s w8 => s.1 ≤ 8 ∧ Own vb w8 w3.heap.size 5 s.2.1 s.2.2 (e7 ++ lenBs (8 * n) s.1) ∧ w3.grownBy w8 none)
      (0, A7, c7) ⟨by simp, by simpa [lenBs] using hO7, hg7⟩ (by simp only [lenBs, List.append_nil]; repeat (first | exact Sub.nil | refine Sub.cons rfl ?_)) (fun ⟨i, A8, c8⟩ w8 ⟨hi, hO8, hg8⟩ => ?_)
    simp only at hi hO8
    have hlb := lenBs_len (8 * n) i
    repeat (first | refine WC.seq ?_ | refine WC.block ?_ | refine WC.region ?_ | refine WL.nil ?_ | refine WX.then_normal ?_ | refine WC.skip ?_ | refine WC.exit ?_ | refine WC.ret ?_ | refine WX.then_exit ?_ | refine WX.then_ret ?_ | refine WX.block_normal ?_ | refine WX.block_ret ?_ | refine WX.block_same ?_ | refine WX.block_other rfl ?_ | refine WC.label ?_ | refine WC.scope ?_ | refine WX.scope_normal ?_ | refine WX.scope_ret ?_ | refine WX.scope_exit ?_ | refine WL.y rfl (Yld.add rfl rfl (by simp only [In]; omega)) ?_ | refine WL.y rfl (Yld.sub rfl rfl (by simp only [In]; omega)) ?_ | refine WL.y rfl (Yld.mul rfl rfl (by simp only [In]; omega)) ?_ | refine WL.y rfl (Yld.convB tab_ok rfl rfl rfl rfl) ?_ | refine WL.y rfl (Yld.conv tab_ok rfl rfl rfl (by simp only [In]; omega)) ?_ | refine WL.y rfl (Yld.quo rfl rfl (by omega) (by omega) (by simp only [In]; omega)) ?_ | refine WL.y rfl (Yld.rem rfl rfl (by omega) (by omega)) ?_ | refine WL.y rfl (Yld.shl rfl rfl (by omega)) ?_ | refine WL.y rfl (Yld.shr rfl rfl (by omega)) ?_ | refine WL.y rfl (Yld.pure tab_ok rfl) ?_)
    refine WC.cond rfl (fun h => ?_) (fun h => ?_)
    · simp only [decide_eq_true_eq] at h
      repeat (first | refine WL.y rfl (Yld.toB tab_ok rfl rfl rfl) ?_ | refine WC.seq ?_ | refine WC.block ?_ | refine WC.region ?_ | refine WL.nil ?_ | refine WX.then_normal ?_ | refine WC.skip ?_ | refine WC.exit ?_ | refine WC.ret ?_ | refine WX.then_exit ?_ | refine WX.then_ret ?_ | refine WX.block_normal ?_ | refine WX.block_ret ?_ | refine WX.block_same ?_ | refine WX.block_other rfl ?_ | refine WC.label ?_ | refine WC.scope ?_ | refine WX.scope_normal ?_ | refine WX.scope_ret ?_ | refine WX.scope_exit ?_ | refine WL.y rfl (Yld.add rfl rfl (by simp only [In]; omega)) ?_ | refine WL.y rfl (Yld.sub rfl rfl (by simp only [In]; omega)) ?_ | refine WL.y rfl (Yld.mul rfl rfl (by simp only [In]; omega)) ?_ | refine WL.y rfl (Yld.convB tab_ok rfl rfl rfl rfl) ?_ | refine WL.y rfl (Yld.conv tab_ok rfl rfl rfl (by simp only [In]; omega)) ?_ | refine WL.y rfl (Yld.quo rfl rfl (by omega) (by omega) (by simp only [In]; omega)) ?_ | refine WL.y rfl (Yld.rem rfl rfl (by omega) (by omega)) ?_ | refine WL.y rfl (Yld.shl rfl rfl (by omega)) ?_ | refine WL.y rfl (Yld.shr rfl rfl (by omega)) ?_ | refine WL.y rfl (Yld.pure tab_ok rfl) ?_)
      refine WL.lit (us := [vb (lenB (8 * n) i)]) tab_ok rfl rfl rfl (by intro u hu; simp at hu; rw [hu]; rfl) rfl (by omega) (fun gl w9 hL9 hg9 hl9 => ?_)
      refine WL.append tab_ok rfl rfl One.b (hO8.grown hg9) rfl rfl (bl_one (x := lenB (8 * n) i) hL9) rfl rfl (by simp; omega) (by simp [maxLen]; omega) (by have := hg8.size; have := hg9.size; omega) (fun A10 c10 w10 hO10 hg10 hf10 => ?_)
      repeat (first | refine WC.seq ?_ | refine WC.block ?_ | refine WC.region ?_ | refine WL.nil ?_ | refine WX.then_normal ?_ | refine WC.skip ?_ | refine WC.exit ?_ | refine WC.ret ?_ | refine WX.then_exit ?_ | refine WX.then_ret ?_ | refine WX.block_normal ?_ | refine WX.block_ret ?_ | refine WX.block_same ?_ | refine WX.block_other rfl ?_ | refine WC.label ?_ | refine WC.scope ?_ | refine WX.scope_normal ?_ | refine WX.scope_ret ?_ | refine WX.scope_exit ?_ | refine WL.y rfl (Yld.add rfl rfl (by simp only [In]; omega)) ?_ | refine WL.y rfl (Yld.sub rfl rfl (by simp only [In]; omega)) ?_ | refine WL.y rfl (Yld.mul rfl rfl (by simp only [In]; omega)) ?_ | refine WL.y rfl (Yld.convB tab_ok rfl rfl rfl rfl) ?_ | refine WL.y rfl (Yld.conv tab_ok rfl rfl rfl (by simp only [In]; omega)) ?_ | refine WL.y rfl (Yld.quo rfl rfl (by omega) (by omega) (by simp only [In]; omega)) ?_ | refine WL.y rfl (Yld.rem rfl rfl (by omega) (by omega)) ?_ | refine WL.y rfl (Yld.shl rfl rfl (by omega)) ?_ | refine WL.y rfl (Yld.shr rfl rfl (by omega)) ?_ | refine WL.y rfl (Yld.pure tab_ok rfl) ?_)
      have hap : e7 ++ lenBs (8 * n) i ++ [lenB (8 * n) i] = e7 ++ lenBs (8 * n) (i + 1) := by rw [List.append_assoc]; rfl
      rw [hap] at hO10 ⊢
      exact WX.round (i + 1, A10, c10) ⟨by simp; omega, hO10, gr_own (gr_trans hg8 hg9) (hO8.grown hg9) hg10 (Nat.le_refl _)⟩ (by simp; omega) (by repeat (first | exact Sub.nil | refine Sub.cons rfl ?_))
    · simp only [decide_eq_false_iff_not] at h
      obtain rfl : i = 8 := by omega
      have hend : e7 ++ lenBs (8 * n) 8 = endS r n := by rw [he7]; rfl
      rw [hend] at hO8 ⊢
      have hel : (endS r n).length ≤ 192 := by rw [← hend, List.length_append, hlb]; omega
      have hem : (endS r n).length % 64 = 0 := by rw [← hend, List.length_append, hlb]; omega
      have hR8 := hO8.rd
      have hA8 : blk A8 ≠ some gt := fun e => by have := (hO8.lt e).1; omega
      have hA8o : blk A8 ≠ some go := fun e => by have := (hO8.lt e).1; have := ho3.lt; omega
      have ht8 := ht3.keep hg8 (by simp)
      have ho8 := ho3.keep hg8 (by simp)
      have hgr8 := gr_trans hgr3 hg8
      have hz8 := hg8.size
      generalize endS r n = en at *
      clear hO7 hp7 hO8 hO6 hgr6 hp0 hg8 hg7
      repeat (first | refine WC.seq ?_ | refine WC.block ?_ | refine WC.region ?_ | refine WL.nil ?_ | refine WX.then_normal ?_ | refine WC.skip ?_ | refine WC.exit ?_ | refine WC.ret ?_ | refine WX.then_exit ?_ | refine WX.then_ret ?_ | refine WX.block_normal ?_ | refine WX.block_ret ?_ | refine WX.block_same ?_ | refine WX.block_other rfl ?_ | refine WC.label ?_ | refine WC.scope ?_ | refine WX.scope_normal ?_ | refine WX.scope_ret ?_ | refine WX.scope_exit ?_ | refine WL.y rfl (Yld.add rfl rfl (by simp only [In]; omega)) ?_ | refine WL.y rfl (Yld.sub rfl rfl (by simp only [In]; omega)) ?_ | refine WL.y rfl (Yld.mul rfl rfl (by simp only [In]; omega)) ?_ | refine WL.y rfl (Yld.convB tab_ok rfl rfl rfl rfl) ?_ | refine WL.y rfl (Yld.conv tab_ok rfl rfl rfl (by simp only [In]; omega)) ?_ | refine WL.y rfl (Yld.quo rfl rfl (by omega) (by omega) (by simp only [In]; omega)) ?_ | refine WL.y rfl (Yld.rem rfl rfl (by omega) (by omega)) ?_ | refine WL.y rfl (Yld.shl rfl rfl (by omega)) ?_ | refine WL.y rfl (Yld.shr rfl rfl (by omega)) ?_ | refine WL.y rfl (Yld.pure tab_ok rfl) ?_)
      refine WC.loop (S := Nat × List Int) (fun s => en.length - 64 * s.1) (fun s => [(7, vi (64 * s.1 : Nat)), (5, .slice A8 en.length c8), (3, .pointer (some ⟨gt, 0, none⟩)), (2, .pointer (some ⟨go, 0, none⟩))])
        (fun s w9 => 64 * s.1 ≤ en.length ∧ s.2.length = 8 ∧ Bl w9 gt 199 (stc s.2 A c r n) ∧ absorb (en.length - s.1) s.2 (en.drop (64 * s.1)) = absorb en.length hs en ∧ w8.grownBy w9 (some gt))
        (0, hs) ⟨by simp, hh, ht8, by simp, gr_refl _ _⟩ (by repeat (first | exact Sub.nil | refine Sub.cons rfl ?_)) (fun ⟨i, h9⟩ w9 ⟨hi9, hh9, ht9, ha9, hg9⟩ => ?_)
      simp only at hi9 hh9 ht9 ha9
      have hR9 := hR8.keep hg9 (fun q hq e => by injection hq with hq; exact hA8 (by rw [e, hq]))
      repeat (first | refine WC.seq ?_ | refine WC.block ?_ | refine WC.region ?_ | refine WL.nil ?_ | refine WX.then_normal ?_ | refine WC.skip ?_ | refine WC.exit ?_ | refine WC.ret ?_ | refine WX.then_exit ?_ | refine WX.then_ret ?_ | refine WX.block_normal ?_ | refine WX.block_ret ?_ | refine WX.block_same ?_ | refine WX.block_other rfl ?_ | refine WC.label ?_ | refine WC.scope ?_ | refine WX.scope_normal ?_ | refine WX.scope_ret ?_ | refine WX.scope_exit ?_ | refine WL.y rfl (Yld.add rfl rfl (by simp only [In]; omega)) ?_ | refine WL.y rfl (Yld.sub rfl rfl (by simp only [In]; omega)) ?_ | refine WL.y rfl (Yld.mul rfl rfl (by simp only [In]; omega)) ?_ | refine WL.y rfl (Yld.convB tab_ok rfl rfl rfl rfl) ?_ | refine WL.y rfl (Yld.conv tab_ok rfl rfl rfl (by simp only [In]; omega)) ?_ | refine WL.y rfl (Yld.quo rfl rfl (by omega) (by omega) (by simp only [In]; omega)) ?_ | refine WL.y rfl (Yld.rem rfl rfl (by omega) (by omega)) ?_ | refine WL.y rfl (Yld.shl rfl rfl (by omega)) ?_ | refine WL.y rfl (Yld.shr rfl rfl (by omega)) ?_ | refine WL.y rfl (Yld.pure tab_ok rfl) ?_)
      refine WC.cond rfl (fun h => ?_) (fun h => ?_)
      · simp only [decide_eq_true_eq] at h
        repeat (first | refine WC.seq ?_ | refine WC.block ?_ | refine WC.region ?_ | refine WL.nil ?_ | refine WX.then_normal ?_ | refine WC.skip ?_ | refine WC.exit ?_ | refine WC.ret ?_ | refine WX.then_exit ?_ | refine WX.then_ret ?_ | refine WX.block_normal ?_ | refine WX.block_ret ?_ | refine WX.block_same ?_ | refine WX.block_other rfl ?_ | refine WC.label ?_ | refine WC.scope ?_ | refine WX.scope_normal ?_ | refine WX.scope_ret ?_ | refine WX.scope_exit ?_ | refine WL.y rfl (Yld.add rfl rfl (by simp only [In]; omega)) ?_ | refine WL.y rfl (Yld.sub rfl rfl (by simp only [In]; omega)) ?_ | refine WL.y rfl (Yld.mul rfl rfl (by simp only [In]; omega)) ?_ | refine WL.y rfl (Yld.convB tab_ok rfl rfl rfl rfl) ?_ | refine WL.y rfl (Yld.conv tab_ok rfl rfl rfl (by simp only [In]; omega)) ?_ | refine WL.y rfl (Yld.quo rfl rfl (by omega) (by omega) (by simp only [In]; omega)) ?_ | refine WL.y rfl (Yld.rem rfl rfl (by omega) (by omega)) ?_ | refine WL.y rfl (Yld.shl rfl rfl (by omega)) ?_ | refine WL.y rfl (Yld.shr rfl rfl (by omega)) ?_ | refine WL.y rfl (Yld.pure tab_ok rfl) ?_)
        refine WL.cut tab_ok hR9 rfl rfl rfl rfl rfl rfl (by omega) (by omega) (by omega) (fun A10 c10 hR10 hA10 => ?_)
        refine WL.call rfl rfl (mix_fn gt h9 _ A10 c10 _ w9 hh9 ht9 hR10 (by simp; omega)) ?_
        rintro _ w10 ⟨rfl, hB10, hg10⟩
        repeat (first | refine WC.seq ?_ | refine WC.block ?_ | refine WC.region ?_ | refine WL.nil ?_ | refine WX.then_normal ?_ | refine WC.skip ?_ | refine WC.exit ?_ | refine WC.ret ?_ | refine WX.then_exit ?_ | refine WX.then_ret ?_ | refine WX.block_normal ?_ | refine WX.block_ret ?_ | refine WX.block_same ?_ | refine WX.block_other rfl ?_ | refine WC.label ?_ | refine WC.scope ?_ | refine WX.scope_normal ?_ | refine WX.scope_ret ?_ | refine WX.scope_exit ?_ | refine WL.y rfl (Yld.add rfl rfl (by simp only [In]; omega)) ?_ | refine WL.y rfl (Yld.sub rfl rfl (by simp only [In]; omega)) ?_ | refine WL.y rfl (Yld.mul rfl rfl (by simp only [In]; omega)) ?_ | refine WL.y rfl (Yld.convB tab_ok rfl rfl rfl rfl) ?_ | refine WL.y rfl (Yld.conv tab_ok rfl rfl rfl (by simp only [In]; omega)) ?_ | refine WL.y rfl (Yld.quo rfl rfl (by omega) (by omega) (by simp only [In]; omega)) ?_ | refine WL.y rfl (Yld.rem rfl rfl (by omega) (by omega)) ?_ | refine WL.y rfl (Yld.shl rfl rfl (by omega)) ?_ | refine WL.y rfl (Yld.shr rfl rfl (by omega)) ?_ | refine WL.y rfl (Yld.pure tab_ok rfl) ?_)
        have ec1 : (((64 * i : Nat) : Int) + 64).toNat - ((64 * i : Nat) : Int).toNat = 64 := by omega
        have ec2 : ((64 * i : Nat) : Int).toNat = 64 * i := by omega
        simp only [ec1] at hB10
        simp only [ec2] at hB10
        have hd : 64 ≤ (en.drop (64 * i)).length := by rw [List.length_drop]; omega
        obtain ⟨q, hq⟩ : ∃ q, en.length - i = q + 1 := ⟨en.length - i - 1, by omega⟩
        refine WX.round (i + 1, mixS h9 ((en.drop (64 * i)).take 64)) ⟨by simp only; omega, by rw [mixS_len]; exact hh9, hB10, ?_, gr_trans hg9 hg10⟩ (by simp only; omega) ?_
        · rw [← ha9, hq, absorb, if_pos hd, List.drop_drop]
          simp only
          rw [show en.length - (i + 1) = q by omega, show 64 * i + 64 = 64 * (i + 1) by omega]
        · refine Sub.cons ?_ (by repeat (first | exact Sub.nil | refine Sub.cons rfl ?_))
          show some (vi (((64 * i : Nat) : Int) + 64)) = some (vi ((64 * (i + 1) : Nat) : Int))
          rw [show ((64 * i : Nat) : Int) + 64 = ((64 * (i + 1) : Nat) : Int) by omega]
      · simp only [decide_eq_false_iff_not] at h
        have hnil : en.drop (64 * i) = [] := List.drop_eq_nil_of_le (by omega)
        have habs : ∀ k, absorb k h9 [] = (h9, []) := fun k => by
          cases k with
          | zero => rfl
          | succ k => rw [absorb, if_neg (by simp)]
        have hfin : (absorb en.length hs en).1 = h9 := by rw [← ha9, hnil, habs]
        have hres : sumS hs r n = outAt h9 32 := by
          rw [sumS, ← hfin, ← hend, he7]
          rfl
        have ho9 := ho8.keep hg9 (fun e => by injection e with e; have := ho3.lt; omega)
        have hgr9 : w.grownBy w9 none := gr_new hgr8 hg9 (by omega)
        have hz9 := hg9.size
        clear hg9 hR9 hR8 ht8 ho8 hgr8
        repeat (first | refine WC.seq ?_ | refine WC.block ?_ | refine WC.region ?_ | refine WL.nil ?_ | refine WX.then_normal ?_ | refine WC.skip ?_ | refine WC.exit ?_ | refine WC.ret ?_ | refine WX.then_exit ?_ | refine WX.then_ret ?_ | refine WX.block_normal ?_ | refine WX.block_ret ?_ | refine WX.block_same ?_ | refine WX.block_other rfl ?_ | refine WC.label ?_ | refine WC.scope ?_ | refine WX.scope_normal ?_ | refine WX.scope_ret ?_ | refine WX.scope_exit ?_ | refine WL.y rfl (Yld.add rfl rfl (by simp only [In]; omega)) ?_ | refine WL.y rfl (Yld.sub rfl rfl (by simp only [In]; omega)) ?_ | refine WL.y rfl (Yld.mul rfl rfl (by simp only [In]; omega)) ?_ | refine WL.y rfl (Yld.convB tab_ok rfl rfl rfl rfl) ?_ | refine WL.y rfl (Yld.conv tab_ok rfl rfl rfl (by simp only [In]; omega)) ?_ | refine WL.y rfl (Yld.quo rfl rfl (by omega) (by omega) (by simp only [In]; omega)) ?_ | refine WL.y rfl (Yld.rem rfl rfl (by omega) (by omega)) ?_ | refine WL.y rfl (Yld.shl rfl rfl (by omega)) ?_ | refine WL.y rfl (Yld.shr rfl rfl (by omega)) ?_ | refine WL.y rfl (Yld.pure tab_ok rfl) ?_)
        refine WL.alloc rfl zero47 (fun gu w10 hu10 hg10 hlu => ?_)
        have ho10 := ho9.keep hg10 (by simp)
        have ht10 := ht9.keep hg10 (by simp)
        have hgr10 := gr_trans hgr9 hg10
        have htlt := ht10.lt
        have holt := ho10.lt
        have holt9 := ho9.lt
        have htlt9 := ht9.lt
        repeat (first | refine WC.seq ?_ | refine WC.block ?_ | refine WC.region ?_ | refine WL.nil ?_ | refine WX.then_normal ?_ | refine WC.skip ?_ | refine WC.exit ?_ | refine WC.ret ?_ | refine WX.then_exit ?_ | refine WX.then_ret ?_ | refine WX.block_normal ?_ | refine WX.block_ret ?_ | refine WX.block_same ?_ | refine WX.block_other rfl ?_ | refine WC.label ?_ | refine WC.scope ?_ | refine WX.scope_normal ?_ | refine WX.scope_ret ?_ | refine WX.scope_exit ?_ | refine WL.y rfl (Yld.add rfl rfl (by simp only [In]; omega)) ?_ | refine WL.y rfl (Yld.sub rfl rfl (by simp only [In]; omega)) ?_ | refine WL.y rfl (Yld.mul rfl rfl (by simp only [In]; omega)) ?_ | refine WL.y rfl (Yld.convB tab_ok rfl rfl rfl rfl) ?_ | refine WL.y rfl (Yld.conv tab_ok rfl rfl rfl (by simp only [In]; omega)) ?_ | refine WL.y rfl (Yld.quo rfl rfl (by omega) (by omega) (by simp only [In]; omega)) ?_ | refine WL.y rfl (Yld.rem rfl rfl (by omega) (by omega)) ?_ | refine WL.y rfl (Yld.shl rfl rfl (by omega)) ?_ | refine WL.y rfl (Yld.shr rfl rfl (by omega)) ?_ | refine WL.y rfl (Yld.pure tab_ok rfl) ?_)
        refine WC.loop (S := Nat) (fun i => 32 - i) (fun i => [(57, vi i), (8, .pointer (some ⟨gu, 0, none⟩)), (3, .pointer (some ⟨gt, 0, none⟩)), (2, .pointer (some ⟨go, 0, none⟩))])
          (fun i w11 => i ≤ 32 ∧ Bl w11 gu 47 ((outAt h9 i).map vb) ∧ w10.grownBy w11 (some gu)) 0 ⟨by omega, by rw [outAt, List.map_replicate]; exact hu10, gr_refl _ _⟩ (by repeat (first | exact Sub.nil | refine Sub.cons rfl ?_)) (fun i w11 ⟨hi, hu11, hg11⟩ => ?_)
        have hol := outAt_len h9 i
        have ht11 := ht10.keep hg11 (fun e => by injection e with e; omega)
        have ho11 := ho10.keep hg11 (fun e => by injection e with e; omega)
        repeat (first | refine WC.seq ?_ | refine WC.block ?_ | refine WC.region ?_ | refine WL.nil ?_ | refine WX.then_normal ?_ | refine WC.skip ?_ | refine WC.exit ?_ | refine WC.ret ?_ | refine WX.then_exit ?_ | refine WX.then_ret ?_ | refine WX.block_normal ?_ | refine WX.block_ret ?_ | refine WX.block_same ?_ | refine WX.block_other rfl ?_ | refine WC.label ?_ | refine WC.scope ?_ | refine WX.scope_normal ?_ | refine WX.scope_ret ?_ | refine WX.scope_exit ?_ | refine WL.y rfl (Yld.add rfl rfl (by simp only [In]; omega)) ?_ | refine WL.y rfl (Yld.sub rfl rfl (by simp only [In]; omega)) ?_ | refine WL.y rfl (Yld.mul rfl rfl (by simp only [In]; omega)) ?_ | refine WL.y rfl (Yld.convB tab_ok rfl rfl rfl rfl) ?_ | refine WL.y rfl (Yld.conv tab_ok rfl rfl rfl (by simp only [In]; omega)) ?_ | refine WL.y rfl (Yld.quo rfl rfl (by omega) (by omega) (by simp only [In]; omega)) ?_ | refine WL.y rfl (Yld.rem rfl rfl (by omega) (by omega)) ?_ | refine WL.y rfl (Yld.shl rfl rfl (by omega)) ?_ | refine WL.y rfl (Yld.shr rfl rfl (by omega)) ?_ | refine WL.y rfl (Yld.pure tab_ok rfl) ?_)
        refine WC.cond rfl (fun h => ?_) (fun h => ?_)
        · simp only [decide_eq_true_eq] at h
          have hv : (stc h9 A c r n)[0 + 0 + ((i : Int) / 4).toNat * 1]? = some (vu (h9.getD (i / 4) 0)) := by
            have e : 0 + 0 + ((i : Int) / 4).toNat * 1 = i / 4 := by omega
            rw [e, stc, List.getElem?_append_left (by rw [List.length_map]; omega)]
            simp [List.getD, show i / 4 < h9.length by omega]
          repeat (first | refine WL.y rfl (Yld.aaddrN tab_ok rfl rfl rfl (by omega)) ?_ | refine WL.y rfl (Yld.aaddr tab_ok rfl rfl rfl (by omega) (by omega)) ?_ | refine WL.y rfl (Yld.bload tab_ok ht11 rfl rfl hv) ?_ | refine WL.y rfl (Yld.toB tab_ok rfl rfl rfl) ?_ | refine WC.seq ?_ | refine WC.block ?_ | refine WC.region ?_ | refine WL.nil ?_ | refine WX.then_normal ?_ | refine WC.skip ?_ | refine WC.exit ?_ | refine WC.ret ?_ | refine WX.then_exit ?_ | refine WX.then_ret ?_ | refine WX.block_normal ?_ | refine WX.block_ret ?_ | refine WX.block_same ?_ | refine WX.block_other rfl ?_ | refine WC.label ?_ | refine WC.scope ?_ | refine WX.scope_normal ?_ | refine WX.scope_ret ?_ | refine WX.scope_exit ?_ | refine WL.y rfl (Yld.add rfl rfl (by simp only [In]; omega)) ?_ | refine WL.y rfl (Yld.sub rfl rfl (by simp only [In]; omega)) ?_ | refine WL.y rfl (Yld.mul rfl rfl (by simp only [In]; omega)) ?_ | refine WL.y rfl (Yld.convB tab_ok rfl rfl rfl rfl) ?_ | refine WL.y rfl (Yld.conv tab_ok rfl rfl rfl (by simp only [In]; omega)) ?_ | refine WL.y rfl (Yld.quo rfl rfl (by omega) (by omega) (by simp only [In]; omega)) ?_ | refine WL.y rfl (Yld.rem rfl rfl (by omega) (by omega)) ?_ | refine WL.y rfl (Yld.shl rfl rfl (by omega)) ?_ | refine WL.y rfl (Yld.shr rfl rfl (by omega)) ?_ | refine WL.y rfl (Yld.pure tab_ok rfl) ?_)
          refine WL.store1 one5 rfl rfl rfl hu11 (by rw [List.length_map]; omega) (fun w12 hu12 hg12 => ?_)
          repeat (first | refine WC.seq ?_ | refine WC.block ?_ | refine WC.region ?_ | refine WL.nil ?_ | refine WX.then_normal ?_ | refine WC.skip ?_ | refine WC.exit ?_ | refine WC.ret ?_ | refine WX.then_exit ?_ | refine WX.then_ret ?_ | refine WX.block_normal ?_ | refine WX.block_ret ?_ | refine WX.block_same ?_ | refine WX.block_other rfl ?_ | refine WC.label ?_ | refine WC.scope ?_ | refine WX.scope_normal ?_ | refine WX.scope_ret ?_ | refine WX.scope_exit ?_ | refine WL.y rfl (Yld.add rfl rfl (by simp only [In]; omega)) ?_ | refine WL.y rfl (Yld.sub rfl rfl (by simp only [In]; omega)) ?_ | refine WL.y rfl (Yld.mul rfl rfl (by simp only [In]; omega)) ?_ | refine WL.y rfl (Yld.convB tab_ok rfl rfl rfl rfl) ?_ | refine WL.y rfl (Yld.conv tab_ok rfl rfl rfl (by simp only [In]; omega)) ?_ | refine WL.y rfl (Yld.quo rfl rfl (by omega) (by omega) (by simp only [In]; omega)) ?_ | refine WL.y rfl (Yld.rem rfl rfl (by omega) (by omega)) ?_ | refine WL.y rfl (Yld.shl rfl rfl (by omega)) ?_ | refine WL.y rfl (Yld.shr rfl rfl (by omega)) ?_ | refine WL.y rfl (Yld.pure tab_ok rfl) ?_)
          refine WX.round (i + 1) ⟨by omega, ?_, gr_trans hg11 hg12⟩ (by omega) (by repeat (first | exact Sub.nil | refine Sub.cons rfl ?_))
          rw [show 0 + i * 1 = i by omega] at hu12
          rw [outAt, List.map_set]
          exact hu12
        · simp only [decide_eq_false_iff_not] at h
          obtain rfl : i = 32 := by omega
          repeat (first | refine WL.y rfl (Yld.bagg (vs := (outAt h9 32).map vb) tab_ok hu11 rfl rfl (by rw [List.drop_zero, List.take_of_length_le]; simp [hol]) (by simp [hol])) ?_ | refine WC.seq ?_ | refine WC.block ?_ | refine WC.region ?_ | refine WL.nil ?_ | refine WX.then_normal ?_ | refine WC.skip ?_ | refine WC.exit ?_ | refine WC.ret ?_ | refine WX.then_exit ?_ | refine WX.then_ret ?_ | refine WX.block_normal ?_ | refine WX.block_ret ?_ | refine WX.block_same ?_ | refine WX.block_other rfl ?_ | refine WC.label ?_ | refine WC.scope ?_ | refine WX.scope_normal ?_ | refine WX.scope_ret ?_ | refine WX.scope_exit ?_ | refine WL.y rfl (Yld.add rfl rfl (by simp only [In]; omega)) ?_ | refine WL.y rfl (Yld.sub rfl rfl (by simp only [In]; omega)) ?_ | refine WL.y rfl (Yld.mul rfl rfl (by simp only [In]; omega)) ?_ | refine WL.y rfl (Yld.convB tab_ok rfl rfl rfl rfl) ?_ | refine WL.y rfl (Yld.conv tab_ok rfl rfl rfl (by simp only [In]; omega)) ?_ | refine WL.y rfl (Yld.quo rfl rfl (by omega) (by omega) (by simp only [In]; omega)) ?_ | refine WL.y rfl (Yld.rem rfl rfl (by omega) (by omega)) ?_ | refine WL.y rfl (Yld.shl rfl rfl (by omega)) ?_ | refine WL.y rfl (Yld.shr rfl rfl (by omega)) ?_ | refine WL.y rfl (Yld.pure tab_ok rfl) ?_)
          refine WL.storeW tab_ok rfl rfl rfl (oneM One.b _) ho11 rfl (by simp [hol]) (fun w12 ho12 hg12 => ?_)
          repeat (first | refine WC.seq ?_ | refine WC.block ?_ | refine WC.region ?_ | refine WL.nil ?_ | refine WX.then_normal ?_ | refine WC.skip ?_ | refine WC.exit ?_ | refine WC.ret ?_ | refine WX.then_exit ?_ | refine WX.then_ret ?_ | refine WX.block_normal ?_ | refine WX.block_ret ?_ | refine WX.block_same ?_ | refine WX.block_other rfl ?_ | refine WC.label ?_ | refine WC.scope ?_ | refine WX.scope_normal ?_ | refine WX.scope_ret ?_ | refine WX.scope_exit ?_ | refine WL.y rfl (Yld.add rfl rfl (by simp only [In]; omega)) ?_ | refine WL.y rfl (Yld.sub rfl rfl (by simp only [In]; omega)) ?_ | refine WL.y rfl (Yld.mul rfl rfl (by simp only [In]; omega)) ?_ | refine WL.y rfl (Yld.convB tab_ok rfl rfl rfl rfl) ?_ | refine WL.y rfl (Yld.conv tab_ok rfl rfl rfl (by simp only [In]; omega)) ?_ | refine WL.y rfl (Yld.quo rfl rfl (by omega) (by omega) (by simp only [In]; omega)) ?_ | refine WL.y rfl (Yld.rem rfl rfl (by omega) (by omega)) ?_ | refine WL.y rfl (Yld.shl rfl rfl (by omega)) ?_ | refine WL.y rfl (Yld.shr rfl rfl (by omega)) ?_ | refine WL.y rfl (Yld.pure tab_ok rfl) ?_)
          refine WX.retc tab_ok rfl rfl rfl ho12 (by simp [hol]) ⟨by rw [hres], ?_⟩
          exact gr_new (gr_new hgr10 hg11 (by have := hgr9.size; omega)) hg12 hlo
end Go.Proofs.YtjhipfdbionpoaaGreatDoor

 namespace Go.Proofs.YtjhipfdbionpoaaGreatDoor
open Go Go.RowKit
attribute [local irreducible] WL WC WX WQ WK Yld Eff Fn

def digs : List UInt8 := [48, 49, 50, 51, 52, 53, 54, 55, 56, 57, 97, 98, 99, 100, 101, 102]
def hexB (b : UInt8) : List UInt8 := [digs.getD (shrV .u8 (b.toNat : Int) 4).toNat 0, digs.getD (bits .and .u8 (b.toNat : Int) 15).toNat 0]
def hexS (l : List UInt8) : List UInt8 := l.flatMap hexB
theorem shr_4 (b : UInt8) : 0 ≤ shrV .u8 (b.toNat : Int) 4 ∧ shrV .u8 (b.toNat : Int) 4 < 16 := by
  have := b.toNat_lt
  have e : shrV .u8 (b.toNat : Int) 4 = (b.toNat : Int) / 16 := by
    unfold shrV
    rw [Int.fdiv_eq_ediv_of_nonneg _ (by decide)]
    rfl
  rw [e]
  omega
theorem and_15 (b : UInt8) : 0 ≤ bits .and .u8 (b.toNat : Int) 15 ∧ bits .and .u8 (b.toNat : Int) 15 < 16 := by
  have := b.toNat_lt
  have e : bits .and .u8 (b.toNat : Int) 15 = (b.toNat : Int) % 16 := by
    show IntKind.u8.wrap ((BitVec.ofInt 8 (b.toNat : Int) &&& BitVec.ofInt 8 15).toNat : Int) = _
    rw [BitVec.toNat_and]
    have e : (BitVec.ofInt 8 15).toNat = 2^4 - 1 := by decide
    rw [e, Nat.and_two_pow_sub_one_eq_mod, BitVec.toNat_ofInt, IntKind.wrap_u8]
    omega
  rw [e]
  omega
theorem hexS_len (l : List UInt8) : (hexS l).length = 2 * l.length := by
  unfold hexS
  induction l with
  | nil => rfl
  | cons b l ih => rw [List.flatMap_cons, List.length_append, ih]; simp [hexB]; omega
theorem hexS_take (l : List UInt8) (k : Nat) (h : k < l.length) : hexS (l.take (k + 1)) = hexS (l.take k) ++ hexB (l.getD k 0) := by
  unfold hexS
  rw [List.take_succ_eq_append_getElem h, List.flatMap_append]
  simp [List.getD, h]
theorem text_fn (l : List UInt8) (w : World) (hl : l.length = 32) : Fn Tryz.prog 25 ⟨[.agg ⟨l.map vb⟩]⟩ w fun v w' => v = .string ⟨⟨hexS l⟩⟩ ∧ w.grownBy w' none := by
  have hml : (l.map vb).length = 32 := by rw [List.length_map]; exact hl
  refine Fn.enter (by kernel_rfl) Tryz.func25 rfl Tryz.ntmps25 rfl ?_
  repeat (first | refine WC.seq ?_ | refine WC.block ?_ | refine WC.region ?_ | refine WL.nil ?_ | refine WX.then_normal ?_ | refine WC.skip ?_ | refine WC.exit ?_ | refine WC.ret ?_ | refine WX.then_exit ?_ | refine WX.then_ret ?_ | refine WX.block_normal ?_ | refine WX.block_ret ?_ | refine WX.block_same ?_ | refine WX.block_other rfl ?_ | refine WC.label ?_ | refine WC.scope ?_ | refine WX.scope_normal ?_ | refine WX.scope_ret ?_ | refine WX.scope_exit ?_ | refine WL.y rfl (Yld.add rfl rfl (by simp only [In]; omega)) ?_ | refine WL.y rfl (Yld.sub rfl rfl (by simp only [In]; omega)) ?_ | refine WL.y rfl (Yld.mul rfl rfl (by simp only [In]; omega)) ?_ | refine WL.y rfl (Yld.convB tab_ok rfl rfl rfl rfl) ?_ | refine WL.y rfl (Yld.conv tab_ok rfl rfl rfl (by simp only [In]; omega)) ?_ | refine WL.y rfl (Yld.quo rfl rfl (by omega) (by omega) (by simp only [In]; omega)) ?_ | refine WL.y rfl (Yld.rem rfl rfl (by omega) (by omega)) ?_ | refine WL.y rfl (Yld.shl rfl rfl (by omega)) ?_ | refine WL.y rfl (Yld.shr rfl rfl (by omega)) ?_ | refine WL.y rfl (Yld.pure tab_ok rfl) ?_)
  refine WL.box rfl rfl rfl (fun g w1 hB hg hlt => ?_)
  repeat (first | refine WC.seq ?_ | refine WC.block ?_ | refine WC.region ?_ | refine WL.nil ?_ | refine WX.then_normal ?_ | refine WC.skip ?_ | refine WC.exit ?_ | refine WC.ret ?_ | refine WX.then_exit ?_ | refine WX.then_ret ?_ | refine WX.block_normal ?_ | refine WX.block_ret ?_ | refine WX.block_same ?_ | refine WX.block_other rfl ?_ | refine WC.label ?_ | refine WC.scope ?_ | refine WX.scope_normal ?_ | refine WX.scope_ret ?_ | refine WX.scope_exit ?_ | refine WL.y rfl (Yld.add rfl rfl (by simp only [In]; omega)) ?_ | refine WL.y rfl (Yld.sub rfl rfl (by simp only [In]; omega)) ?_ | refine WL.y rfl (Yld.mul rfl rfl (by simp only [In]; omega)) ?_ | refine WL.y rfl (Yld.convB tab_ok rfl rfl rfl rfl) ?_ | refine WL.y rfl (Yld.conv tab_ok rfl rfl rfl (by simp only [In]; omega)) ?_ | refine WL.y rfl (Yld.quo rfl rfl (by omega) (by omega) (by simp only [In]; omega)) ?_ | refine WL.y rfl (Yld.rem rfl rfl (by omega) (by omega)) ?_ | refine WL.y rfl (Yld.shl rfl rfl (by omega)) ?_ | refine WL.y rfl (Yld.shr rfl rfl (by omega)) ?_ | refine WL.y rfl (Yld.pure tab_ok rfl) ?_)
  refine WL.y rfl (Yld.bagg (vs := l.map vb) tab_ok hB rfl rfl (by rw [List.drop_zero]; exact List.take_of_length_le (Nat.le_of_eq hml)) hml) ?_
  repeat (first | refine WC.seq ?_ | refine WC.block ?_ | refine WC.region ?_ | refine WL.nil ?_ | refine WX.then_normal ?_ | refine WC.skip ?_ | refine WC.exit ?_ | refine WC.ret ?_ | refine WX.then_exit ?_ | refine WX.then_ret ?_ | refine WX.block_normal ?_ | refine WX.block_ret ?_ | refine WX.block_same ?_ | refine WX.block_other rfl ?_ | refine WC.label ?_ | refine WC.scope ?_ | refine WX.scope_normal ?_ | refine WX.scope_ret ?_ | refine WX.scope_exit ?_ | refine WL.y rfl (Yld.add rfl rfl (by simp only [In]; omega)) ?_ | refine WL.y rfl (Yld.sub rfl rfl (by simp only [In]; omega)) ?_ | refine WL.y rfl (Yld.mul rfl rfl (by simp only [In]; omega)) ?_ | refine WL.y rfl (Yld.convB tab_ok rfl rfl rfl rfl) ?_ | refine WL.y rfl (Yld.conv tab_ok rfl rfl rfl (by simp only [In]; omega)) ?_ | refine WL.y rfl (Yld.quo rfl rfl (by omega) (by omega) (by simp only [In]; omega)) ?_ | refine WL.y rfl (Yld.rem rfl rfl (by omega) (by omega)) ?_ | refine WL.y rfl (Yld.shl rfl rfl (by omega)) ?_ | refine WL.y rfl (Yld.shr rfl rfl (by omega)) ?_ | refine WL.y rfl (Yld.pure tab_ok rfl) ?_)
  refine WC.loop (S := Nat × Option Addr × Nat) (fun s => 32 - s.1) (fun s => [(7, vi s.1), (3, .slice s.2.1 (hexS (l.take s.1)).length s.2.2), (6, .agg ⟨l.map vb⟩)])
    (fun s w2 => s.1 ≤ 32 ∧ Own vb w2 w.heap.size 5 s.2.1 s.2.2 (hexS (l.take s.1)) ∧ w.grownBy w2 none) (0, none, 0) ⟨by simp, Own.nil _ _ _ _, hg⟩ (by repeat (first | exact Sub.nil | refine Sub.cons rfl ?_)) (fun ⟨i, A2, c2⟩ w2 ⟨hi, hO2, hg2⟩ => ?_)
  simp only at hi hO2
  repeat (first | refine WC.seq ?_ | refine WC.block ?_ | refine WC.region ?_ | refine WL.nil ?_ | refine WX.then_normal ?_ | refine WC.skip ?_ | refine WC.exit ?_ | refine WC.ret ?_ | refine WX.then_exit ?_ | refine WX.then_ret ?_ | refine WX.block_normal ?_ | refine WX.block_ret ?_ | refine WX.block_same ?_ | refine WX.block_other rfl ?_ | refine WC.label ?_ | refine WC.scope ?_ | refine WX.scope_normal ?_ | refine WX.scope_ret ?_ | refine WX.scope_exit ?_ | refine WL.y rfl (Yld.add rfl rfl (by simp only [In]; omega)) ?_ | refine WL.y rfl (Yld.sub rfl rfl (by simp only [In]; omega)) ?_ | refine WL.y rfl (Yld.mul rfl rfl (by simp only [In]; omega)) ?_ | refine WL.y rfl (Yld.convB tab_ok rfl rfl rfl rfl) ?_ | refine WL.y rfl (Yld.conv tab_ok rfl rfl rfl (by simp only [In]; omega)) ?_ | refine WL.y rfl (Yld.quo rfl rfl (by omega) (by omega) (by simp only [In]; omega)) ?_ | refine WL.y rfl (Yld.rem rfl rfl (by omega) (by omega)) ?_ | refine WL.y rfl (Yld.shl rfl rfl (by omega)) ?_ | refine WL.y rfl (Yld.shr rfl rfl (by omega)) ?_ | refine WL.y rfl (Yld.pure tab_ok rfl) ?_)
  refine WC.cond rfl (fun h => ?_) (fun h => ?_)
  · simp only [decide_eq_true_eq] at h
    have hlt : i < l.length := by omega
    have hv : (l.map vb)[i]? = some (vb (l.getD i 0)) := by simp [List.getD, hlt]
    repeat (first | refine WL.y rfl (Yld.aidxN tab_ok rfl rfl rfl rfl (by omega) hv) ?_ | refine WC.seq ?_ | refine WC.block ?_ | refine WC.region ?_ | refine WL.nil ?_ | refine WX.then_normal ?_ | refine WC.skip ?_ | refine WC.exit ?_ | refine WC.ret ?_ | refine WX.then_exit ?_ | refine WX.then_ret ?_ | refine WX.block_normal ?_ | refine WX.block_ret ?_ | refine WX.block_same ?_ | refine WX.block_other rfl ?_ | refine WC.label ?_ | refine WC.scope ?_ | refine WX.scope_normal ?_ | refine WX.scope_ret ?_ | refine WX.scope_exit ?_ | refine WL.y rfl (Yld.add rfl rfl (by simp only [In]; omega)) ?_ | refine WL.y rfl (Yld.sub rfl rfl (by simp only [In]; omega)) ?_ | refine WL.y rfl (Yld.mul rfl rfl (by simp only [In]; omega)) ?_ | refine WL.y rfl (Yld.convB tab_ok rfl rfl rfl rfl) ?_ | refine WL.y rfl (Yld.conv tab_ok rfl rfl rfl (by simp only [In]; omega)) ?_ | refine WL.y rfl (Yld.quo rfl rfl (by omega) (by omega) (by simp only [In]; omega)) ?_ | refine WL.y rfl (Yld.rem rfl rfl (by omega) (by omega)) ?_ | refine WL.y rfl (Yld.shl rfl rfl (by omega)) ?_ | refine WL.y rfl (Yld.shr rfl rfl (by omega)) ?_ | refine WL.y rfl (Yld.pure tab_ok rfl) ?_)
    have h4 := shr_4 (l.getD i 0)
    have h15 := and_15 (l.getD i 0)
    refine WC.chain (fun k => !(Nat.beq k 7 || Nat.beq k 8)) (fun _ => True) mixed (by kernel_rfl) (fun _ _ => trivial) ?_
    repeat (first | refine WK.y rfl rfl (fun _ _ => Yld.sidx tab_ok rfl rfl rfl (by first | exact h4.1 | exact h15.1) (by first | exact h4.2 | exact h15.2)) ?_ | refine WK.y rfl rfl (fun _ _ => Yld.add rfl rfl (by simp only [In]; omega)) ?_ | refine WK.y rfl rfl (fun _ _ => Yld.sub rfl rfl (by simp only [In]; omega)) ?_ | refine WK.y rfl rfl (fun _ _ => Yld.mul rfl rfl (by simp only [In]; omega)) ?_ | refine WK.y rfl rfl (fun _ _ => Yld.convB tab_ok rfl rfl rfl rfl) ?_ | refine WK.y rfl rfl (fun _ _ => Yld.conv tab_ok rfl rfl rfl (by simp only [In]; omega)) ?_ | refine WK.y rfl rfl (fun _ _ => Yld.quo rfl rfl (by omega) (by omega) (by simp only [In]; omega)) ?_ | refine WK.y rfl rfl (fun _ _ => Yld.rem rfl rfl (by omega) (by omega)) ?_ | refine WK.y rfl rfl (fun _ _ => Yld.shl rfl rfl (by omega)) ?_ | refine WK.y rfl rfl (fun _ _ => Yld.shr rfl rfl (by omega)) ?_ | refine WK.y rfl rfl (fun _ _ => Yld.pure tab_ok rfl) ?_)
    refine WK.put rfl rfl (Eff.lit (us := (hexB (l.getD i 0)).map vb) tab_ok rfl rfl (oneM One.b _) rfl (by omega)) (fun _ _ _ => trivial) ?_
    rintro _ w3 ⟨rfl, hL3, hg3⟩
    have hR3 := Rd.ofBl hL3 (m := 2) (by simp [hexB]) (by simp [maxLen])
    have hxl : (hexS (l.take i)).length ≤ 64 := by rw [hexS_len, List.length_take]; omega
    have hO3 := hO2.grown hg3
    refine WK.put rfl rfl (Eff.append tab_ok rfl One.b hO3 rfl rfl hR3 rfl rfl (by simp [hexB]; omega) (by simp [maxLen, hexB]; omega) (by have := hg2.size; have := hg3.size; omega)) (fun _ _ _ => trivial) ?_
    rintro _ w4 ⟨A4, c4, rfl, hO4, hg4, hf4⟩
    repeat (first | refine WK.y rfl rfl (fun _ _ => Yld.add rfl rfl (by simp only [In]; omega)) ?_ | refine WK.y rfl rfl (fun _ _ => Yld.sub rfl rfl (by simp only [In]; omega)) ?_ | refine WK.y rfl rfl (fun _ _ => Yld.mul rfl rfl (by simp only [In]; omega)) ?_ | refine WK.y rfl rfl (fun _ _ => Yld.convB tab_ok rfl rfl rfl rfl) ?_ | refine WK.y rfl rfl (fun _ _ => Yld.conv tab_ok rfl rfl rfl (by simp only [In]; omega)) ?_ | refine WK.y rfl rfl (fun _ _ => Yld.quo rfl rfl (by omega) (by omega) (by simp only [In]; omega)) ?_ | refine WK.y rfl rfl (fun _ _ => Yld.rem rfl rfl (by omega) (by omega)) ?_ | refine WK.y rfl rfl (fun _ _ => Yld.shl rfl rfl (by omega)) ?_ | refine WK.y rfl rfl (fun _ _ => Yld.shr rfl rfl (by omega)) ?_ | refine WK.y rfl rfl (fun _ _ => Yld.pure tab_ok rfl) ?_)
    refine WK.nil ?_
    repeat (first | refine WC.seq ?_ | refine WC.block ?_ | refine WC.region ?_ | refine WL.nil ?_ | refine WX.then_normal ?_ | refine WC.skip ?_ | refine WC.exit ?_ | refine WC.ret ?_ | refine WX.then_exit ?_ | refine WX.then_ret ?_ | refine WX.block_normal ?_ | refine WX.block_ret ?_ | refine WX.block_same ?_ | refine WX.block_other rfl ?_ | refine WC.label ?_ | refine WC.scope ?_ | refine WX.scope_normal ?_ | refine WX.scope_ret ?_ | refine WX.scope_exit ?_ | refine WL.y rfl (Yld.add rfl rfl (by simp only [In]; omega)) ?_ | refine WL.y rfl (Yld.sub rfl rfl (by simp only [In]; omega)) ?_ | refine WL.y rfl (Yld.mul rfl rfl (by simp only [In]; omega)) ?_ | refine WL.y rfl (Yld.convB tab_ok rfl rfl rfl rfl) ?_ | refine WL.y rfl (Yld.conv tab_ok rfl rfl rfl (by simp only [In]; omega)) ?_ | refine WL.y rfl (Yld.quo rfl rfl (by omega) (by omega) (by simp only [In]; omega)) ?_ | refine WL.y rfl (Yld.rem rfl rfl (by omega) (by omega)) ?_ | refine WL.y rfl (Yld.shl rfl rfl (by omega)) ?_ | refine WL.y rfl (Yld.shr rfl rfl (by omega)) ?_ | refine WL.y rfl (Yld.pure tab_ok rfl) ?_)
    rw [← hexS_take l i hlt] at hO4 ⊢
    exact WX.round (i + 1, A4, c4) ⟨by simp only; omega, hO4, gr_own (gr_trans hg2 hg3) hO3 hg4 (Nat.le_refl _)⟩ (by simp only; omega) (by repeat (first | exact Sub.nil | refine Sub.cons rfl ?_))
  · simp only [decide_eq_false_iff_not] at h
    obtain rfl : i = 32 := by omega
    rw [List.take_of_length_le (by omega)] at hO2
    repeat (first | refine WC.seq ?_ | refine WC.block ?_ | refine WC.region ?_ | refine WL.nil ?_ | refine WX.then_normal ?_ | refine WC.skip ?_ | refine WC.exit ?_ | refine WC.ret ?_ | refine WX.then_exit ?_ | refine WX.then_ret ?_ | refine WX.block_normal ?_ | refine WX.block_ret ?_ | refine WX.block_same ?_ | refine WX.block_other rfl ?_ | refine WC.label ?_ | refine WC.scope ?_ | refine WX.scope_normal ?_ | refine WX.scope_ret ?_ | refine WX.scope_exit ?_ | refine WL.y rfl (Yld.add rfl rfl (by simp only [In]; omega)) ?_ | refine WL.y rfl (Yld.sub rfl rfl (by simp only [In]; omega)) ?_ | refine WL.y rfl (Yld.mul rfl rfl (by simp only [In]; omega)) ?_ | refine WL.y rfl (Yld.convB tab_ok rfl rfl rfl rfl) ?_ | refine WL.y rfl (Yld.conv tab_ok rfl rfl rfl (by simp only [In]; omega)) ?_ | refine WL.y rfl (Yld.quo rfl rfl (by omega) (by omega) (by simp only [In]; omega)) ?_ | refine WL.y rfl (Yld.rem rfl rfl (by omega) (by omega)) ?_ | refine WL.y rfl (Yld.shl rfl rfl (by omega)) ?_ | refine WL.y rfl (Yld.shr rfl rfl (by omega)) ?_ | refine WL.y rfl (Yld.pure tab_ok rfl) ?_)
    refine WL.y rfl (Yld.b2s tab_ok hO2.rd rfl rfl rfl rfl (by rw [List.take_of_length_le]; omega)) ?_
    repeat (first | refine WC.seq ?_ | refine WC.block ?_ | refine WC.region ?_ | refine WL.nil ?_ | refine WX.then_normal ?_ | refine WC.skip ?_ | refine WC.exit ?_ | refine WC.ret ?_ | refine WX.then_exit ?_ | refine WX.then_ret ?_ | refine WX.block_normal ?_ | refine WX.block_ret ?_ | refine WX.block_same ?_ | refine WX.block_other rfl ?_ | refine WC.label ?_ | refine WC.scope ?_ | refine WX.scope_normal ?_ | refine WX.scope_ret ?_ | refine WX.scope_exit ?_ | refine WL.y rfl (Yld.add rfl rfl (by simp only [In]; omega)) ?_ | refine WL.y rfl (Yld.sub rfl rfl (by simp only [In]; omega)) ?_ | refine WL.y rfl (Yld.mul rfl rfl (by simp only [In]; omega)) ?_ | refine WL.y rfl (Yld.convB tab_ok rfl rfl rfl rfl) ?_ | refine WL.y rfl (Yld.conv tab_ok rfl rfl rfl (by simp only [In]; omega)) ?_ | refine WL.y rfl (Yld.quo rfl rfl (by omega) (by omega) (by simp only [In]; omega)) ?_ | refine WL.y rfl (Yld.rem rfl rfl (by omega) (by omega)) ?_ | refine WL.y rfl (Yld.shl rfl rfl (by omega)) ?_ | refine WL.y rfl (Yld.shr rfl rfl (by omega)) ?_ | refine WL.y rfl (Yld.pure tab_ok rfl) ?_)
    exact WX.ret1 rfl rfl ⟨rfl, hg2⟩
/-- the digest of bytes -/
def shaS (b : List UInt8) : List UInt8 := sumS (wrS h0s [] b).1 (wrS h0s [] b).2 b.length
theorem wrS_len (hs : List Int) (r b : List UInt8) : (wrS hs r b).2.length < 64 := by
  have key : ∀ (m : Nat) (hs : List Int) (al : List UInt8), al.length ≤ m → (absorb m hs al).2.length < 64 := by
    intro m
    induction m with
    | zero => intro hs al h; simp [absorb]; omega
    | succ m ih =>
      intro hs al h
      rw [absorb]
      split
      · exact ih _ _ (by rw [List.length_drop]; omega)
      · simp only; omega
  exact key _ hs (r ++ b) (Nat.le_refl _)
theorem of_fn (A : Option Addr) (c : Nat) (b : List UInt8) (w : World) (hR : Rd vb w A c b) (hb : b.length ≤ 1000000) : Fn Tryz.prog 95 ⟨[.slice A b.length c]⟩ w fun v w' => v = .agg ⟨(shaS b).map vb⟩ ∧ w.grownBy w' none := by
  refine Fn.enter (by kernel_rfl) Tryz.func95 rfl Tryz.ntmps95 rfl ?_
  repeat (first | refine WC.seq ?_ | refine WC.block ?_ | refine WC.region ?_ | refine WL.nil ?_ | refine WX.then_normal ?_ | refine WC.skip ?_ | refine WC.exit ?_ | refine WC.ret ?_ | refine WX.then_exit ?_ | refine WX.then_ret ?_ | refine WX.block_normal ?_ | refine WX.block_ret ?_ | refine WX.block_same ?_ | refine WX.block_other rfl ?_ | refine WC.label ?_ | refine WC.scope ?_ | refine WX.scope_normal ?_ | refine WX.scope_ret ?_ | refine WX.scope_exit ?_ | refine WL.y rfl (Yld.add rfl rfl (by simp only [In]; omega)) ?_ | refine WL.y rfl (Yld.sub rfl rfl (by simp only [In]; omega)) ?_ | refine WL.y rfl (Yld.mul rfl rfl (by simp only [In]; omega)) ?_ | refine WL.y rfl (Yld.convB tab_ok rfl rfl rfl rfl) ?_ | refine WL.y rfl (Yld.conv tab_ok rfl rfl rfl (by simp only [In]; omega)) ?_ | refine WL.y rfl (Yld.quo rfl rfl (by omega) (by omega) (by simp only [In]; omega)) ?_ | refine WL.y rfl (Yld.rem rfl rfl (by omega) (by omega)) ?_ | refine WL.y rfl (Yld.shl rfl rfl (by omega)) ?_ | refine WL.y rfl (Yld.shr rfl rfl (by omega)) ?_ | refine WL.y rfl (Yld.pure tab_ok rfl) ?_)
  refine WL.alloc rfl zero47 (fun go w1 ho1 hg1 hlo => ?_)
  repeat (first | refine WC.seq ?_ | refine WC.block ?_ | refine WC.region ?_ | refine WL.nil ?_ | refine WX.then_normal ?_ | refine WC.skip ?_ | refine WC.exit ?_ | refine WC.ret ?_ | refine WX.then_exit ?_ | refine WX.then_ret ?_ | refine WX.block_normal ?_ | refine WX.block_ret ?_ | refine WX.block_same ?_ | refine WX.block_other rfl ?_ | refine WC.label ?_ | refine WC.scope ?_ | refine WX.scope_normal ?_ | refine WX.scope_ret ?_ | refine WX.scope_exit ?_ | refine WL.y rfl (Yld.add rfl rfl (by simp only [In]; omega)) ?_ | refine WL.y rfl (Yld.sub rfl rfl (by simp only [In]; omega)) ?_ | refine WL.y rfl (Yld.mul rfl rfl (by simp only [In]; omega)) ?_ | refine WL.y rfl (Yld.convB tab_ok rfl rfl rfl rfl) ?_ | refine WL.y rfl (Yld.conv tab_ok rfl rfl rfl (by simp only [In]; omega)) ?_ | refine WL.y rfl (Yld.quo rfl rfl (by omega) (by omega) (by simp only [In]; omega)) ?_ | refine WL.y rfl (Yld.rem rfl rfl (by omega) (by omega)) ?_ | refine WL.y rfl (Yld.shl rfl rfl (by omega)) ?_ | refine WL.y rfl (Yld.shr rfl rfl (by omega)) ?_ | refine WL.y rfl (Yld.pure tab_ok rfl) ?_)
  refine WL.call rfl rfl (new_fn w1) ?_
  rintro _ w2 ⟨g, rfl, hB2, hg2, hlg⟩
  have hR2 := (hR.grown hg1).grown hg2
  have hz1 := hg1.size
  have hol := ho1.lt
  have hA : b ≠ [] → blk A ≠ some g := fun hb0 e => by have := hR.lt hb0 e; omega
  have hS2 : St w2 g h0s [] 0 := ⟨rfl, none, 0, hB2, Rd.nil _ _ (by simp [maxLen]), by simp [blk]⟩
  repeat (first | refine WC.seq ?_ | refine WC.block ?_ | refine WC.region ?_ | refine WL.nil ?_ | refine WX.then_normal ?_ | refine WC.skip ?_ | refine WC.exit ?_ | refine WC.ret ?_ | refine WX.then_exit ?_ | refine WX.then_ret ?_ | refine WX.block_normal ?_ | refine WX.block_ret ?_ | refine WX.block_same ?_ | refine WX.block_other rfl ?_ | refine WC.label ?_ | refine WC.scope ?_ | refine WX.scope_normal ?_ | refine WX.scope_ret ?_ | refine WX.scope_exit ?_ | refine WL.y rfl (Yld.add rfl rfl (by simp only [In]; omega)) ?_ | refine WL.y rfl (Yld.sub rfl rfl (by simp only [In]; omega)) ?_ | refine WL.y rfl (Yld.mul rfl rfl (by simp only [In]; omega)) ?_ | refine WL.y rfl (Yld.convB tab_ok rfl rfl rfl rfl) ?_ | refine WL.y rfl (Yld.conv tab_ok rfl rfl rfl (by simp only [In]; omega)) ?_ | refine WL.y rfl (Yld.quo rfl rfl (by omega) (by omega) (by simp only [In]; omega)) ?_ | refine WL.y rfl (Yld.rem rfl rfl (by omega) (by omega)) ?_ | refine WL.y rfl (Yld.shl rfl rfl (by omega)) ?_ | refine WL.y rfl (Yld.shr rfl rfl (by omega)) ?_ | refine WL.y rfl (Yld.pure tab_ok rfl) ?_)
  refine WL.call rfl rfl (write_fn g h0s [] 0 A c b w2 hS2 hR2 hA (by omega) (by omega) (by simp) hb) ?_
  rintro _ w3 ⟨rfl, hS3, hg3⟩
  repeat (first | refine WC.seq ?_ | refine WC.block ?_ | refine WC.region ?_ | refine WL.nil ?_ | refine WX.then_normal ?_ | refine WC.skip ?_ | refine WC.exit ?_ | refine WC.ret ?_ | refine WX.then_exit ?_ | refine WX.then_ret ?_ | refine WX.block_normal ?_ | refine WX.block_ret ?_ | refine WX.block_same ?_ | refine WX.block_other rfl ?_ | refine WC.label ?_ | refine WC.scope ?_ | refine WX.scope_normal ?_ | refine WX.scope_ret ?_ | refine WX.scope_exit ?_ | refine WL.y rfl (Yld.add rfl rfl (by simp only [In]; omega)) ?_ | refine WL.y rfl (Yld.sub rfl rfl (by simp only [In]; omega)) ?_ | refine WL.y rfl (Yld.mul rfl rfl (by simp only [In]; omega)) ?_ | refine WL.y rfl (Yld.convB tab_ok rfl rfl rfl rfl) ?_ | refine WL.y rfl (Yld.conv tab_ok rfl rfl rfl (by simp only [In]; omega)) ?_ | refine WL.y rfl (Yld.quo rfl rfl (by omega) (by omega) (by simp only [In]; omega)) ?_ | refine WL.y rfl (Yld.rem rfl rfl (by omega) (by omega)) ?_ | refine WL.y rfl (Yld.shl rfl rfl (by omega)) ?_ | refine WL.y rfl (Yld.shr rfl rfl (by omega)) ?_ | refine WL.y rfl (Yld.pure tab_ok rfl) ?_)
  rw [Int.zero_add] at hS3
  refine WL.call rfl rfl (sum_fn g _ _ _ w3 hS3 (by omega) (by omega) (by have := wrS_len h0s [] b; omega)) ?_
  rintro _ w4 ⟨rfl, hg4⟩
  have hgr3 : w.grownBy w3 none := gr_new (gr_trans hg1 hg2) hg3 (by omega)
  have ho4 := ((ho1.keep hg2 (by simp)).keep hg3 (fun e => by injection e with e; omega)).keep hg4 (by simp)
  have hsl := sumS_len (wrS h0s [] b).1 (wrS h0s [] b).2 b.length
  refine WL.storeW tab_ok rfl rfl rfl (oneM One.b _) ho4 rfl (by rw [List.length_map]; exact hsl) (fun w5 ho5 hg5 => ?_)
  repeat (first | refine WC.seq ?_ | refine WC.block ?_ | refine WC.region ?_ | refine WL.nil ?_ | refine WX.then_normal ?_ | refine WC.skip ?_ | refine WC.exit ?_ | refine WC.ret ?_ | refine WX.then_exit ?_ | refine WX.then_ret ?_ | refine WX.block_normal ?_ | refine WX.block_ret ?_ | refine WX.block_same ?_ | refine WX.block_other rfl ?_ | refine WC.label ?_ | refine WC.scope ?_ | refine WX.scope_normal ?_ | refine WX.scope_ret ?_ | refine WX.scope_exit ?_ | refine WL.y rfl (Yld.add rfl rfl (by simp only [In]; omega)) ?_ | refine WL.y rfl (Yld.sub rfl rfl (by simp only [In]; omega)) ?_ | refine WL.y rfl (Yld.mul rfl rfl (by simp only [In]; omega)) ?_ | refine WL.y rfl (Yld.convB tab_ok rfl rfl rfl rfl) ?_ | refine WL.y rfl (Yld.conv tab_ok rfl rfl rfl (by simp only [In]; omega)) ?_ | refine WL.y rfl (Yld.quo rfl rfl (by omega) (by omega) (by simp only [In]; omega)) ?_ | refine WL.y rfl (Yld.rem rfl rfl (by omega) (by omega)) ?_ | refine WL.y rfl (Yld.shl rfl rfl (by omega)) ?_ | refine WL.y rfl (Yld.shr rfl rfl (by omega)) ?_ | refine WL.y rfl (Yld.pure tab_ok rfl) ?_)
  exact WX.retc tab_ok rfl rfl rfl ho5 (by rw [List.length_map]; exact hsl) ⟨rfl, gr_new (gr_trans hgr3 hg4) hg5 hlo⟩
/-- the digest of several texts: what is taken in, step by step -/
def be4 (n : Nat) : List UInt8 := [u8v (shrV .i64 (n : Int) 24), u8v (shrV .i64 (n : Int) 16), u8v (shrV .i64 (n : Int) 8), u8v (n : Int)]
def stepM (s : List Int × List UInt8 × Int) (x : List UInt8) : List Int × List UInt8 × Int :=
  let a := wrS s.1 s.2.1 (be4 x.length)
  let b := wrS a.1 a.2 x
  (b.1, b.2, s.2.2 + 4 + x.length)
def manyS (l : List (List UInt8)) : List UInt8 :=
  let s := l.foldl stepM (h0s, [], 0)
  sumS s.1 s.2.1 s.2.2
theorem foldM_n (l : List (List UInt8)) (hl : ∀ x ∈ l, x.length ≤ 10000) : ∀ s : List Int × List UInt8 × Int, 0 ≤ s.2.2 → 0 ≤ (l.foldl stepM s).2.2 ∧ (l.foldl stepM s).2.2 ≤ s.2.2 + 10004 * l.length := by
  induction l with
  | nil => intro s h; simp; omega
  | cons x l ih =>
    intro s h
    have hx := hl x (by simp)
    have := ih (fun y hy => hl y (by simp [hy])) (stepM s x) (by simp [stepM]; omega)
    simp only [List.foldl_cons, List.length_cons]
    have e : (stepM s x).2.2 = s.2.2 + 4 + x.length := rfl
    rw [e] at this
    omega
theorem many_fn (A : Option Addr) (c : Nat) (l : List (List UInt8)) (w : World) (hR : Rd vs w A c l) (hl : l.length ≤ 100) (hx : ∀ x ∈ l, x.length ≤ 10000) : Fn Tryz.prog 96 ⟨[.slice A l.length c]⟩ w fun v w' => v = .agg ⟨(manyS l).map vb⟩ ∧ w.grownBy w' none := by
  refine Fn.enter (by kernel_rfl) Tryz.func96 rfl Tryz.ntmps96 rfl ?_
  repeat (first | refine WC.seq ?_ | refine WC.block ?_ | refine WC.region ?_ | refine WL.nil ?_ | refine WX.then_normal ?_ | refine WC.skip ?_ | refine WC.exit ?_ | refine WC.ret ?_ | refine WX.then_exit ?_ | refine WX.then_ret ?_ | refine WX.block_normal ?_ | refine WX.block_ret ?_ | refine WX.block_same ?_ | refine WX.block_other rfl ?_ | refine WC.label ?_ | refine WC.scope ?_ | refine WX.scope_normal ?_ | refine WX.scope_ret ?_ | refine WX.scope_exit ?_ | refine WL.y rfl (Yld.add rfl rfl (by simp only [In]; omega)) ?_ | refine WL.y rfl (Yld.sub rfl rfl (by simp only [In]; omega)) ?_ | refine WL.y rfl (Yld.mul rfl rfl (by simp only [In]; omega)) ?_ | refine WL.y rfl (Yld.convB tab_ok rfl rfl rfl rfl) ?_ | refine WL.y rfl (Yld.conv tab_ok rfl rfl rfl (by simp only [In]; omega)) ?_ | refine WL.y rfl (Yld.quo rfl rfl (by omega) (by omega) (by simp only [In]; omega)) ?_ | refine WL.y rfl (Yld.rem rfl rfl (by omega) (by omega)) ?_ | refine WL.y rfl (Yld.shl rfl rfl (by omega)) ?_ | refine WL.y rfl (Yld.shr rfl rfl (by omega)) ?_ | refine WL.y rfl (Yld.pure tab_ok rfl) ?_)
  refine WL.alloc rfl zero47 (fun go w1 ho1 hg1 hlo => ?_)
  repeat (first | refine WC.seq ?_ | refine WC.block ?_ | refine WC.region ?_ | refine WL.nil ?_ | refine WX.then_normal ?_ | refine WC.skip ?_ | refine WC.exit ?_ | refine WC.ret ?_ | refine WX.then_exit ?_ | refine WX.then_ret ?_ | refine WX.block_normal ?_ | refine WX.block_ret ?_ | refine WX.block_same ?_ | refine WX.block_other rfl ?_ | refine WC.label ?_ | refine WC.scope ?_ | refine WX.scope_normal ?_ | refine WX.scope_ret ?_ | refine WX.scope_exit ?_ | refine WL.y rfl (Yld.add rfl rfl (by simp only [In]; omega)) ?_ | refine WL.y rfl (Yld.sub rfl rfl (by simp only [In]; omega)) ?_ | refine WL.y rfl (Yld.mul rfl rfl (by simp only [In]; omega)) ?_ | refine WL.y rfl (Yld.convB tab_ok rfl rfl rfl rfl) ?_ | refine WL.y rfl (Yld.conv tab_ok rfl rfl rfl (by simp only [In]; omega)) ?_ | refine WL.y rfl (Yld.quo rfl rfl (by omega) (by omega) (by simp only [In]; omega)) ?_ | refine WL.y rfl (Yld.rem rfl rfl (by omega) (by omega)) ?_ | refine WL.y rfl (Yld.shl rfl rfl (by omega)) ?_ | refine WL.y rfl (Yld.shr rfl rfl (by omega)) ?_ | refine WL.y rfl (Yld.pure tab_ok rfl) ?_)
  refine WL.call rfl rfl (new_fn w1) ?_
  rintro _ w2 ⟨g, rfl, hB2, hg2, hlg⟩
  have hol := ho1.lt
  have hz1 := hg1.size
  have ho2 := ho1.keep hg2 (by simp)
  have hS2 : St w2 g h0s [] 0 := ⟨rfl, none, 0, hB2, Rd.nil _ _ (by simp [maxLen]), by simp [blk]⟩
  have hgr2 := gr_trans hg1 hg2
  have hgl2 := hB2.lt
  repeat (first | refine WC.seq ?_ | refine WC.block ?_ | refine WC.region ?_ | refine WL.nil ?_ | refine WX.then_normal ?_ | refine WC.skip ?_ | refine WC.exit ?_ | refine WC.ret ?_ | refine WX.then_exit ?_ | refine WX.then_ret ?_ | refine WX.block_normal ?_ | refine WX.block_ret ?_ | refine WX.block_same ?_ | refine WX.block_other rfl ?_ | refine WC.label ?_ | refine WC.scope ?_ | refine WX.scope_normal ?_ | refine WX.scope_ret ?_ | refine WX.scope_exit ?_ | refine WL.y rfl (Yld.add rfl rfl (by simp only [In]; omega)) ?_ | refine WL.y rfl (Yld.sub rfl rfl (by simp only [In]; omega)) ?_ | refine WL.y rfl (Yld.mul rfl rfl (by simp only [In]; omega)) ?_ | refine WL.y rfl (Yld.convB tab_ok rfl rfl rfl rfl) ?_ | refine WL.y rfl (Yld.conv tab_ok rfl rfl rfl (by simp only [In]; omega)) ?_ | refine WL.y rfl (Yld.quo rfl rfl (by omega) (by omega) (by simp only [In]; omega)) ?_ | refine WL.y rfl (Yld.rem rfl rfl (by omega) (by omega)) ?_ | refine WL.y rfl (Yld.shl rfl rfl (by omega)) ?_ | refine WL.y rfl (Yld.shr rfl rfl (by omega)) ?_ | refine WL.y rfl (Yld.pure tab_ok rfl) ?_)
  refine WC.loop (S := Nat) (fun i => l.length - i) (fun i => [(10, vi i), (9, vi l.length), (8, .slice A l.length c), (3, .pointer (some ⟨g, 0, none⟩)), (2, .pointer (some ⟨go, 0, none⟩))])
    (fun i w3 => i ≤ l.length ∧ St w3 g ((l.take i).foldl stepM (h0s, [], 0)).1 ((l.take i).foldl stepM (h0s, [], 0)).2.1 ((l.take i).foldl stepM (h0s, [], 0)).2.2 ∧ ((l.take i).foldl stepM (h0s, [], 0)).2.1.length < 64 ∧ w2.grownBy w3 (some g)) 0 ⟨by omega, hS2, by simp, gr_refl _ _⟩ (by repeat (first | exact Sub.nil | refine Sub.cons rfl ?_)) (fun i w3 ⟨hi, hS3, hr3, hg3⟩ => ?_)
  have hgr3 : w.grownBy w3 none := gr_new hgr2 hg3 (by omega)
  have hR3 := hR.grown hgr3
  have hz3 := hg3.size
  have hn3 := foldM_n (l.take i) (fun x hm => hx x (List.mem_of_mem_take hm)) (h0s, [], 0) (by simp)
  have htl : (l.take i).length ≤ 100 := by rw [List.length_take]; omega
  simp only at hn3
  repeat (first | refine WC.seq ?_ | refine WC.block ?_ | refine WC.region ?_ | refine WL.nil ?_ | refine WX.then_normal ?_ | refine WC.skip ?_ | refine WC.exit ?_ | refine WC.ret ?_ | refine WX.then_exit ?_ | refine WX.then_ret ?_ | refine WX.block_normal ?_ | refine WX.block_ret ?_ | refine WX.block_same ?_ | refine WX.block_other rfl ?_ | refine WC.label ?_ | refine WC.scope ?_ | refine WX.scope_normal ?_ | refine WX.scope_ret ?_ | refine WX.scope_exit ?_ | refine WL.y rfl (Yld.add rfl rfl (by simp only [In]; omega)) ?_ | refine WL.y rfl (Yld.sub rfl rfl (by simp only [In]; omega)) ?_ | refine WL.y rfl (Yld.mul rfl rfl (by simp only [In]; omega)) ?_ | refine WL.y rfl (Yld.convB tab_ok rfl rfl rfl rfl) ?_ | refine WL.y rfl (Yld.conv tab_ok rfl rfl rfl (by simp only [In]; omega)) ?_ | refine WL.y rfl (Yld.quo rfl rfl (by omega) (by omega) (by simp only [In]; omega)) ?_ | refine WL.y rfl (Yld.rem rfl rfl (by omega) (by omega)) ?_ | refine WL.y rfl (Yld.shl rfl rfl (by omega)) ?_ | refine WL.y rfl (Yld.shr rfl rfl (by omega)) ?_ | refine WL.y rfl (Yld.pure tab_ok rfl) ?_)
  refine WC.cond rfl (fun h => ?_) (fun h => ?_)
  · simp only [decide_eq_true_eq] at h
    have hlt : i < l.length := by omega
    have hxl : (l.getD i []).length ≤ 10000 := hx _ (by simp [List.getD, hlt])
    have hnext : (l.take (i + 1)).foldl stepM (h0s, [], 0) = stepM ((l.take i).foldl stepM (h0s, [], 0)) (l.getD i []) := by
      rw [List.take_succ_eq_append_getElem hlt, List.foldl_append]
      simp [List.getD, hlt]
    repeat (first | refine WL.y rfl (Yld.iaddrN tab_ok hR3 rfl rfl rfl rfl (by omega)) ?_ | refine WL.y rfl (Yld.iload [] tab_ok hR3 rfl rfl (by omega)) ?_ | refine WL.y rfl (Yld.toB tab_ok rfl rfl rfl) ?_ | refine WC.seq ?_ | refine WC.block ?_ | refine WC.region ?_ | refine WL.nil ?_ | refine WX.then_normal ?_ | refine WC.skip ?_ | refine WC.exit ?_ | refine WC.ret ?_ | refine WX.then_exit ?_ | refine WX.then_ret ?_ | refine WX.block_normal ?_ | refine WX.block_ret ?_ | refine WX.block_same ?_ | refine WX.block_other rfl ?_ | refine WC.label ?_ | refine WC.scope ?_ | refine WX.scope_normal ?_ | refine WX.scope_ret ?_ | refine WX.scope_exit ?_ | refine WL.y rfl (Yld.add rfl rfl (by simp only [In]; omega)) ?_ | refine WL.y rfl (Yld.sub rfl rfl (by simp only [In]; omega)) ?_ | refine WL.y rfl (Yld.mul rfl rfl (by simp only [In]; omega)) ?_ | refine WL.y rfl (Yld.convB tab_ok rfl rfl rfl rfl) ?_ | refine WL.y rfl (Yld.conv tab_ok rfl rfl rfl (by simp only [In]; omega)) ?_ | refine WL.y rfl (Yld.quo rfl rfl (by omega) (by omega) (by simp only [In]; omega)) ?_ | refine WL.y rfl (Yld.rem rfl rfl (by omega) (by omega)) ?_ | refine WL.y rfl (Yld.shl rfl rfl (by omega)) ?_ | refine WL.y rfl (Yld.shr rfl rfl (by omega)) ?_ | refine WL.y rfl (Yld.pure tab_ok rfl) ?_)
    generalize (l.take i).foldl stepM (h0s, [], 0) = s3 at *
    refine WL.lit (us := (be4 (l.getD i []).length).map vb) tab_ok rfl rfl rfl (oneM One.b _) rfl (by omega) (fun gl w4 hL4 hg4 hl4 => ?_)
    have hRl : Rd vb w4 (some ⟨gl, 0, none⟩) 4 (be4 (l.getD i []).length) := Rd.ofBl hL4 (by simp [be4]) (by simp [maxLen])
    have hS4 : St w4 g s3.1 s3.2.1 s3.2.2 := by
      obtain ⟨q1, A', c', q2, q3, q4⟩ := hS3
      exact ⟨q1, A', c', q2.keep hg4 (by simp), q3.grown hg4, q4⟩
    refine WL.call rfl rfl (write_fn g _ _ _ (some ⟨gl, 0, none⟩) 4 _ w4 hS4 hRl (fun _ e => by simp [blk] at e; omega) (by omega) (by omega) (by omega) (by simp [be4])) ?_
    rintro _ w5 ⟨rfl, hS5, hg5⟩
    have hr5 := wrS_len s3.1 s3.2.1 (be4 (l.getD i []).length)
    repeat (first | refine WC.seq ?_ | refine WC.block ?_ | refine WC.region ?_ | refine WL.nil ?_ | refine WX.then_normal ?_ | refine WC.skip ?_ | refine WC.exit ?_ | refine WC.ret ?_ | refine WX.then_exit ?_ | refine WX.then_ret ?_ | refine WX.block_normal ?_ | refine WX.block_ret ?_ | refine WX.block_same ?_ | refine WX.block_other rfl ?_ | refine WC.label ?_ | refine WC.scope ?_ | refine WX.scope_normal ?_ | refine WX.scope_ret ?_ | refine WX.scope_exit ?_ | refine WL.y rfl (Yld.add rfl rfl (by simp only [In]; omega)) ?_ | refine WL.y rfl (Yld.sub rfl rfl (by simp only [In]; omega)) ?_ | refine WL.y rfl (Yld.mul rfl rfl (by simp only [In]; omega)) ?_ | refine WL.y rfl (Yld.convB tab_ok rfl rfl rfl rfl) ?_ | refine WL.y rfl (Yld.conv tab_ok rfl rfl rfl (by simp only [In]; omega)) ?_ | refine WL.y rfl (Yld.quo rfl rfl (by omega) (by omega) (by simp only [In]; omega)) ?_ | refine WL.y rfl (Yld.rem rfl rfl (by omega) (by omega)) ?_ | refine WL.y rfl (Yld.shl rfl rfl (by omega)) ?_ | refine WL.y rfl (Yld.shr rfl rfl (by omega)) ?_ | refine WL.y rfl (Yld.pure tab_ok rfl) ?_)
    refine WL.s2b tab_ok rfl rfl rfl rfl rfl (by unfold maxLen; omega) (fun A6 c6 w6 hR6 hg6 hf6 => ?_)
    have hS6 : St w6 g (wrS s3.1 s3.2.1 (be4 (l.getD i []).length)).1 (wrS s3.1 s3.2.1 (be4 (l.getD i []).length)).2 (s3.2.2 + (be4 (l.getD i []).length).length) := by
      obtain ⟨q1, A', c', q2, q3, q4⟩ := hS5
      exact ⟨q1, A', c', q2.keep hg6 (by simp), q3.grown hg6, q4⟩
    have hbl : (be4 (l.getD i []).length).length = 4 := rfl
    have hz4 := hg4.size
    have hz5 := hg5.size
    refine WL.call rfl rfl (write_fn g _ _ _ A6 c6 _ w6 hS6 hR6 (fun _ e => by have := hf6 _ e; omega) (by omega) (by omega) (by omega) (by omega)) ?_
    rintro _ w7 ⟨rfl, hS7, hg7⟩
    repeat (first | refine WC.seq ?_ | refine WC.block ?_ | refine WC.region ?_ | refine WL.nil ?_ | refine WX.then_normal ?_ | refine WC.skip ?_ | refine WC.exit ?_ | refine WC.ret ?_ | refine WX.then_exit ?_ | refine WX.then_ret ?_ | refine WX.block_normal ?_ | refine WX.block_ret ?_ | refine WX.block_same ?_ | refine WX.block_other rfl ?_ | refine WC.label ?_ | refine WC.scope ?_ | refine WX.scope_normal ?_ | refine WX.scope_ret ?_ | refine WX.scope_exit ?_ | refine WL.y rfl (Yld.add rfl rfl (by simp only [In]; omega)) ?_ | refine WL.y rfl (Yld.sub rfl rfl (by simp only [In]; omega)) ?_ | refine WL.y rfl (Yld.mul rfl rfl (by simp only [In]; omega)) ?_ | refine WL.y rfl (Yld.convB tab_ok rfl rfl rfl rfl) ?_ | refine WL.y rfl (Yld.conv tab_ok rfl rfl rfl (by simp only [In]; omega)) ?_ | refine WL.y rfl (Yld.quo rfl rfl (by omega) (by omega) (by simp only [In]; omega)) ?_ | refine WL.y rfl (Yld.rem rfl rfl (by omega) (by omega)) ?_ | refine WL.y rfl (Yld.shl rfl rfl (by omega)) ?_ | refine WL.y rfl (Yld.shr rfl rfl (by omega)) ?_ | refine WL.y rfl (Yld.pure tab_ok rfl) ?_)
    refine WX.round (i + 1) ⟨by omega, ?_, ?_, ?_⟩ (by omega) (by repeat (first | exact Sub.nil | refine Sub.cons rfl ?_))
    · rw [hnext]
      rw [hbl] at hS7
      exact hS7
    · rw [hnext]; exact wrS_len _ _ _
    · exact gr_trans (gr_trans (gr_trans (gr_trans hg3 (gr_some hg4 _)) hg5) (gr_some hg6 _)) hg7
  · simp only [decide_eq_false_iff_not] at h
    obtain rfl : i = l.length := by omega
    rw [List.take_of_length_le (Nat.le_refl _)] at *
    repeat (first | refine WC.seq ?_ | refine WC.block ?_ | refine WC.region ?_ | refine WL.nil ?_ | refine WX.then_normal ?_ | refine WC.skip ?_ | refine WC.exit ?_ | refine WC.ret ?_ | refine WX.then_exit ?_ | refine WX.then_ret ?_ | refine WX.block_normal ?_ | refine WX.block_ret ?_ | refine WX.block_same ?_ | refine WX.block_other rfl ?_ | refine WC.label ?_ | refine WC.scope ?_ | refine WX.scope_normal ?_ | refine WX.scope_ret ?_ | refine WX.scope_exit ?_ | refine WL.y rfl (Yld.add rfl rfl (by simp only [In]; omega)) ?_ | refine WL.y rfl (Yld.sub rfl rfl (by simp only [In]; omega)) ?_ | refine WL.y rfl (Yld.mul rfl rfl (by simp only [In]; omega)) ?_ | refine WL.y rfl (Yld.convB tab_ok rfl rfl rfl rfl) ?_ | refine WL.y rfl (Yld.conv tab_ok rfl rfl rfl (by simp only [In]; omega)) ?_ | refine WL.y rfl (Yld.quo rfl rfl (by omega) (by omega) (by simp only [In]; omega)) ?_ | refine WL.y rfl (Yld.rem rfl rfl (by omega) (by omega)) ?_ | refine WL.y rfl (Yld.shl rfl rfl (by omega)) ?_ | refine WL.y rfl (Yld.shr rfl rfl (by omega)) ?_ | refine WL.y rfl (Yld.pure tab_ok rfl) ?_)
    refine WL.call rfl rfl (sum_fn g _ _ _ w3 hS3 (by omega) (by omega) (by omega)) ?_
    rintro _ w4 ⟨rfl, hg4⟩
    have ho4 := (ho2.keep hg3 (fun e => by injection e with e; omega)).keep hg4 (by simp)
    have hsl : (manyS l).length = 32 := sumS_len _ _ _
    refine WL.storeW (vs := (manyS l).map vb) tab_ok rfl rfl rfl (oneM One.b _) ho4 rfl (by rw [List.length_map]; exact hsl) (fun w5 ho5 hg5 => ?_)
    repeat (first | refine WC.seq ?_ | refine WC.block ?_ | refine WC.region ?_ | refine WL.nil ?_ | refine WX.then_normal ?_ | refine WC.skip ?_ | refine WC.exit ?_ | refine WC.ret ?_ | refine WX.then_exit ?_ | refine WX.then_ret ?_ | refine WX.block_normal ?_ | refine WX.block_ret ?_ | refine WX.block_same ?_ | refine WX.block_other rfl ?_ | refine WC.label ?_ | refine WC.scope ?_ | refine WX.scope_normal ?_ | refine WX.scope_ret ?_ | refine WX.scope_exit ?_ | refine WL.y rfl (Yld.add rfl rfl (by simp only [In]; omega)) ?_ | refine WL.y rfl (Yld.sub rfl rfl (by simp only [In]; omega)) ?_ | refine WL.y rfl (Yld.mul rfl rfl (by simp only [In]; omega)) ?_ | refine WL.y rfl (Yld.convB tab_ok rfl rfl rfl rfl) ?_ | refine WL.y rfl (Yld.conv tab_ok rfl rfl rfl (by simp only [In]; omega)) ?_ | refine WL.y rfl (Yld.quo rfl rfl (by omega) (by omega) (by simp only [In]; omega)) ?_ | refine WL.y rfl (Yld.rem rfl rfl (by omega) (by omega)) ?_ | refine WL.y rfl (Yld.shl rfl rfl (by omega)) ?_ | refine WL.y rfl (Yld.shr rfl rfl (by omega)) ?_ | refine WL.y rfl (Yld.pure tab_ok rfl) ?_)
    exact WX.retc tab_ok rfl rfl rfl ho5 (by rw [List.length_map]; exact hsl) ⟨rfl, gr_new (gr_trans hgr3 hg4) hg5 hlo⟩
end Go.Proofs.YtjhipfdbionpoaaGreatDoor

 namespace Go.Proofs.YtjhipfdbionpoaaGreatDoor
open Go Go.RowKit
attribute [local irreducible] WL WC WX WQ WK Yld Eff Fn

theorem shaS_len (b : List UInt8) : (shaS b).length = 32 := sumS_len _ _ _
theorem manyS_len (l : List (List UInt8)) : (manyS l).length = 32 := sumS_len _ _ _
/-! the law of streaming -/
def D (hs : List Int) (all : List UInt8) : List Int × List UInt8 := absorb all.length hs all
end Go.Proofs.YtjhipfdbionpoaaGreatDoor

 /- The program's digests and the library's Itoa in the generator's form. -/
namespace Go.Proofs.YtjhipfdbionpoaaGreatDoor
open Go Go.RowKit
def M_sha_Of (b : List UInt8) (K : List UInt8 → Prop) : Prop := b.length ≤ 1000000 ∧ K (shaS b)
theorem W_sha_Of {w : World} {b : List UInt8} {A : Option Addr} {c n : Nat} {K : List UInt8 → Prop} (hR : Rd vb w A c b) (hn : n = b.length) (H : M_sha_Of b K) : Fn Tryz.prog 95 ⟨[.slice A n c]⟩ w (fun v w' => w.grownBy w' none ∧ ∃ r : List UInt8, v = .agg ⟨a32 r⟩ ∧ K r) := by
  subst hn
  exact (of_fn A c b w hR H.1).mono fun v w' ⟨hv, hg⟩ => ⟨hg, shaS b, by rw [hv, a32_map _ (shaS_len b)], H.2⟩
def M_sha_Many (l : List (List UInt8)) (K : List UInt8 → Prop) : Prop := l.length ≤ 100 ∧ (∀ x ∈ l, x.length ≤ 10000) ∧ K (manyS l)
theorem W_sha_Many {w : World} {l : List (List UInt8)} {A : Option Addr} {c n : Nat} {K : List UInt8 → Prop} (hR : Rd vs w A c l) (hn : n = l.length) (H : M_sha_Many l K) : Fn Tryz.prog 96 ⟨[.slice A n c]⟩ w (fun v w' => w.grownBy w' none ∧ ∃ r : List UInt8, v = .agg ⟨a32 r⟩ ∧ K r) := by
  subst hn
  exact (many_fn A c l w hR H.1 H.2.1).mono fun v w' ⟨hv, hg⟩ => ⟨hg, manyS l, by rw [hv, a32_map _ (manyS_len l)], H.2.2⟩
def M_sha_Text (s : List UInt8) (K : List UInt8 → Prop) : Prop := ∀ t : List UInt8, t.length = 32 → (∀ i, i < 32 → t.getD i 0 = s.getD i 0) → K (hexS t)
theorem W_sha_Text {w : World} {s : List UInt8} {K : List UInt8 → Prop} (H : M_sha_Text s K) : Fn Tryz.prog 25 ⟨[.agg ⟨a32 s⟩]⟩ w (fun v w' => w.grownBy w' none ∧ ∃ r : List UInt8, v = vs r ∧ K r) := by
  have hl : ((List.range 32).map fun i => s.getD i 0).length = 32 := by simp
  have e : a32 s = ((List.range 32).map fun i => s.getD i 0).map vb := by rw [a32_range, List.map_map]; rfl
  rw [e]
  exact (text_fn _ w hl).mono fun v w' ⟨hv, hg⟩ => ⟨hg, _, hv, H _ hl fun i hi => by simp [List.getD, hi]⟩
def M_strconv_Itoa (n : Int) (K : List UInt8 → Prop) : Prop := In .i64 n ∧ K (Lib.itoa n)
theorem W_strconv_Itoa {S : List Nat} {w : World} {n : Int} {K : List UInt8 → Prop} (hG : GOK S w) (h101 : 101 ∈ S) (H : M_strconv_Itoa n K) : Fn Tryz.prog 114 ⟨[.int .i64 n]⟩ w (fun v w' => w.grownBy w' none ∧ ∃ r : List UInt8, v = vs r ∧ K r) := by
  have hin := H.1
  simp only [In] at hin
  refine ⟨by kernel_rfl, fun w1 e => (Tryz.strconv_Itoa n (by omega) (by omega) w1 ?_).mono fun _ w' ⟨he, k, os, hw⟩ => ⟨_, w', he, Eqv.refl _, ?_, Lib.itoa n, rfl, H.2⟩⟩
  · have := hG.p10 h101
    unfold Lib.TabIs World.var? at this ⊢
    rw [e.heap]
    exact this
  · rw [hw]
    exact eqv_gr e ⟨rfl, rfl, rfl, by show w1.heap.size ≤ (w1.heap ++ os).size; rw [Array.size_append]; omega, fun g hg _ => by show (w1.heap ++ os)[g]? = _; exact Array.getElem?_append_left hg⟩
end Go.Proofs.YtjhipfdbionpoaaGreatDoor


 /- Printed by a program (wip/vg): what the functions mean, plainly, and their walks. -/
namespace Go.Proofs.YtjhipfdbionpoaaGreatDoor
open Go Go.RowKit
attribute [local irreducible] WL WC WX WQ WK WJ Yld Eff Ef0 Fn
def M_internal_stringslite_HasSuffix (s : List UInt8) (suffix : List UInt8) (K : Bool → Prop) : Prop :=
 ((decide ((suffix.length : Int) ≤ (s.length : Int))) = true → (In .i64 ((s.length : Int) - (suffix.length : Int)))) ∧
 ((decide ((suffix.length : Int) ≤ (s.length : Int))) = true → (0 ≤ (s.length : Int) - (suffix.length : Int) ∧ (s.length : Int) - (suffix.length : Int) ≤ s.length)) ∧
 K ((decide ((suffix.length : Int) ≤ (s.length : Int))) && (decide ((s.drop ((s.length : Int) - (suffix.length : Int)).toNat) = suffix)))

def M_internal_stringslite_TrimSuffix (s : List UInt8) (suffix : List UInt8) (K : (List UInt8) → Prop) : Prop :=
 M_internal_stringslite_HasSuffix s suffix (fun (t7 : Bool) =>
 ((t7 = true → (In .i64 ((s.length : Int) - (suffix.length : Int))) ∧
 (0 ≤ (s.length : Int) - (suffix.length : Int) ∧ (s.length : Int) - (suffix.length : Int) ≤ s.length) ∧
 K (s.take ((s.length : Int) - (suffix.length : Int)).toNat)) ∧
 (t7 = false → K s)))

def M_strings_TrimSuffix (s : List UInt8) (suffix : List UInt8) (K : (List UInt8) → Prop) : Prop :=
 M_internal_stringslite_TrimSuffix s suffix (fun (t4 : List UInt8) =>
 K t4)

def M_slices_Index_string_string (s : List (List UInt8)) (v : List UInt8) (K : Int → Prop) : Prop :=
 (s.length ≤ maxLen →
 Lp1 (fun (t8 : Int) kont1 => ((t8 < (s.length : Int) → (0 ≤ t8 ∧ t8 < (s.length : Nat)) ∧
 ((v = (s.getD t8.toNat []) → K t8) ∧
 (¬ (v = (s.getD t8.toNat [])) → (In .i64 (t8 + (1 : Int))) ∧
 kont1 (t8 + (1 : Int))))) ∧
 (¬ (t8 < (s.length : Int)) → K (-1 : Int)))) (0 : Int))

def M_slices_Contains_string_string (s : List (List UInt8)) (v : List UInt8) (K : Bool → Prop) : Prop :=
 (s.length ≤ maxLen →
 M_slices_Index_string_string s v (fun (t7 : Int) =>
 K (decide ((0 : Int) ≤ t7))))

def M_tool_Lines (s : List UInt8) (K : (List (List UInt8)) → Prop) : Prop :=
 ((s = ([] : List UInt8) → K []) ∧
 (¬ (s = ([] : List UInt8)) → M_strings_TrimSuffix s ([10] : List UInt8) (fun (t6 : List UInt8) =>
 M_strings_Split t6 ([10] : List UInt8) (fun (t2 : List (List UInt8)) =>
 K t2))))

def M_tool_lines (inputs : List (List UInt8)) (K : (List (List UInt8)) → Prop) : Prop :=
 (inputs.length ≤ maxLen →
 Lp2 (fun (l : List (List UInt8)) (t8 : Int) kont1 => ((t8 < (inputs.length : Int) → (0 ≤ t8 ∧ t8 < (inputs.length : Nat)) ∧
 M_tool_Lines (inputs.getD t8.toNat []) (fun (t14 : List (List UInt8)) =>
 ((l.length + t14.length) * 16 ≤ 140737488355328) ∧
 (In .i64 (t8 + (1 : Int))) ∧
 kont1 (l ++ t14) (t8 + (1 : Int)))) ∧
 (¬ (t8 < (inputs.length : Int)) → K l))) [] (0 : Int))

def M_tool_filter (args : List (List UInt8)) (l : List (List UInt8)) (K : (List (List UInt8)) → Bool → Prop) : Prop :=
 (args.length ≤ maxLen →
 (l.length ≤ maxLen →
 (((decide ((args.length : Int) < (1 : Int))) || (decide ((2 : Int) < (args.length : Int)))) = false → (decide ((args.length : Int) = (2 : Int))) = true → (0 ≤ (1 : Int) ∧ (1 : Int) < (args.length : Nat))) ∧
 (((((decide ((args.length : Int) < (1 : Int))) || (decide ((2 : Int) < (args.length : Int)))) || ((decide ((args.length : Int) = (2 : Int))) && (!decide ((args.getD 1 []) = ([110, 111, 116] : List UInt8))))) = true → K [] false) ∧
 ((((decide ((args.length : Int) < (1 : Int))) || (decide ((2 : Int) < (args.length : Int)))) || ((decide ((args.length : Int) = (2 : Int))) && (!decide ((args.getD 1 []) = ([110, 111, 116] : List UInt8))))) = false → Lp2 (fun (out : List (List UInt8)) (t30 : Int) kont1 => ((t30 < (l.length : Int) → ∃ J1 : (List (List UInt8)) → Prop, ((0 ≤ t30 ∧ t30 < (l.length : Nat)) ∧
 (0 ≤ (0 : Int) ∧ (0 : Int) < (args.length : Nat)) ∧
 M_strings_Contains (l.getD t30.toNat []) (args.getD 0 []) (fun (t38 : Bool) =>
 (((t38 == (decide ((args.length : Int) = (1 : Int)))) = true → ((out.length + (([l.getD t30.toNat []] : List (List UInt8))).length) * 16 ≤ 140737488355328) ∧
 J1 (out ++ ([l.getD t30.toNat []] : List (List UInt8)))) ∧
 ((t38 == (decide ((args.length : Int) = (1 : Int)))) = false → J1 out)))) ∧
 (∀ out2 : List (List UInt8), J1 out2 → (In .i64 (t30 + (1 : Int))) ∧
 kont1 out2 (t30 + (1 : Int)))) ∧
 (¬ (t30 < (l.length : Int)) → K out true))) [] (0 : Int)))))

def M_tool_sorted (args : List (List UInt8)) (l : List (List UInt8)) (K : (List (List UInt8)) → Bool → Prop) : Prop :=
 (args.length ≤ maxLen →
 (l.length ≤ maxLen →
 M_slices_Contains_string_string args ([114, 101, 118, 101, 114, 115, 101] : List UInt8) (fun (reverse : Bool) =>
 M_slices_Contains_string_string args ([117, 110, 105, 113, 117, 101] : List UInt8) (fun (unique : Bool) =>
 ∃ J1 : Int → Prop, (((reverse = true → (In .i64 ((0 : Int) + (1 : Int))) ∧
 J1 ((0 : Int) + (1 : Int))) ∧
 (reverse = false → J1 (0 : Int)))) ∧
 (∀ n : Int, J1 n → ∃ J2 : Int → Prop, (((unique = true → (In .i64 (n + (1 : Int))) ∧
 J2 (n + (1 : Int))) ∧
 (unique = false → J2 n))) ∧
 (∀ n2 : Int, J2 n2 → ((¬ (n2 = (args.length : Int)) → K [] false) ∧
 (n2 = (args.length : Int) → M_slices_Sorted_string_slices_Values_string_string_1 l (fun (out : List (List UInt8)) =>
 ∃ J3 : (List (List UInt8)) → Prop, (((unique = true → M_slices_Compact_string_string out (fun (out4 : List (List UInt8)) =>
 J3 out4)) ∧
 (unique = false → J3 out))) ∧
 (∀ out2 : List (List UInt8), J3 out2 → ∃ J4 : (List (List UInt8)) → Prop, (((reverse = true → M_slices_Reverse_string_string out2 (fun (ys : List (List UInt8)) =>
 J4 ys)) ∧
 (reverse = false → J4 out2))) ∧
 (∀ out3 : List (List UInt8), J4 out3 → K out3 true)))))))))))

def M_tool_listed (tool : Int) (args : List (List UInt8)) (inputs : List (List UInt8)) (K : (List (List UInt8)) → Bool → Prop) : Prop :=
 (args.length ≤ maxLen →
 (inputs.length ≤ maxLen →
 ((tool = (2 : Int) → M_tool_lines inputs (fun (t16 : List (List UInt8)) =>
 M_tool_filter args t16 (fun (t170 : List (List UInt8)) (t171 : Bool) =>
 K t170 t171))) ∧
 (¬ (tool = (2 : Int)) → ((tool = (4 : Int) → M_tool_lines inputs (fun (t24 : List (List UInt8)) =>
 M_tool_sorted args t24 (fun (t250 : List (List UInt8)) (t251 : Bool) =>
 K t250 t251))) ∧
 (¬ (tool = (4 : Int)) → Lp2 (fun (l : List (List UInt8)) (t30 : Int) kont1 => ((t30 < (inputs.length : Int) → (0 ≤ t30 ∧ t30 < (inputs.length : Nat)) ∧
 ((inputs.getD t30.toNat []).length ≤ maxLen) ∧
 M_sha_Of (inputs.getD t30.toNat []) (fun (t37 : List UInt8) =>
 M_sha_Text t37 (fun (t38 : List UInt8) =>
 ((l.length + (([t38] : List (List UInt8))).length) * 16 ≤ 140737488355328) ∧
 (In .i64 (t30 + (1 : Int))) ∧
 kont1 (l ++ ([t38] : List (List UInt8))) (t30 + (1 : Int))))) ∧
 (¬ (t30 < (inputs.length : Int)) → K l (decide ((args.length : Int) = (0 : Int)))))) [] (0 : Int)))))))

def M_tool_substitute (args : List (List UInt8)) (inputs : List (List UInt8)) (K : (List UInt8) → Er → Prop) : Prop :=
 (args.length ≤ maxLen →
 (inputs.length ≤ maxLen →
 (0 ≤ (args.length : Int) ∧ 0 < (2 : Int)) ∧
 ((¬ (((args.length : Int) % (2 : Int)) = (0 : Int)) → K ([] : List UInt8) (Er.e 16)) ∧
 (((args.length : Int) % (2 : Int)) = (0 : Int) → M_tool_joined inputs ([] : List UInt8) ([] : List UInt8) (fun (t180 : List UInt8) (t181 : Er) =>
 ((¬ (t181 = Er.ok) → K ([] : List UInt8) t181) ∧
 (t181 = Er.ok → Lp2 (fun (s : List UInt8) (i : Int) kont1 => ((i < (args.length : Int) → (0 ≤ i ∧ i < (args.length : Nat)) ∧
 (((args.getD i.toNat []) = ([] : List UInt8) → K ([] : List UInt8) (Er.e 16)) ∧
 (¬ ((args.getD i.toNat []) = ([] : List UInt8)) → (0 ≤ i ∧ i < (args.length : Nat)) ∧
 M_strings_Count s (args.getD i.toNat []) (fun (n : Int) =>
 (In .i64 (i + (1 : Int))) ∧
 (0 ≤ i + (1 : Int) ∧ i + (1 : Int) < (args.length : Nat)) ∧
 (0 ≤ i ∧ i < (args.length : Nat)) ∧
 (In .i64 (((args.getD ((i + (1 : Int)).toNat) []).length : Int) - ((args.getD i.toNat []).length : Int))) ∧
 ((decide ((0 : Int) < (((args.getD ((i + (1 : Int)).toNat) []).length : Int) - ((args.getD i.toNat []).length : Int)))) = true → (In .i64 ((65536 : Int) - (s.length : Int)))) ∧
 ((decide ((0 : Int) < (((args.getD ((i + (1 : Int)).toNat) []).length : Int) - ((args.getD i.toNat []).length : Int)))) = true → (0 ≤ (65536 : Int) - (s.length : Int) ∧ 0 < ((args.getD ((i + (1 : Int)).toNat) []).length : Int) - ((args.getD i.toNat []).length : Int) ∧ In .i64 ((65536 : Int) - (s.length : Int)))) ∧
 ((((decide ((0 : Int) < (((args.getD ((i + (1 : Int)).toNat) []).length : Int) - ((args.getD i.toNat []).length : Int)))) && (decide ((((65536 : Int) - (s.length : Int)) / (((args.getD ((i + (1 : Int)).toNat) []).length : Int) - ((args.getD i.toNat []).length : Int))) < n))) = true → K ([] : List UInt8) (Er.e 16)) ∧
 (((decide ((0 : Int) < (((args.getD ((i + (1 : Int)).toNat) []).length : Int) - ((args.getD i.toNat []).length : Int)))) && (decide ((((65536 : Int) - (s.length : Int)) / (((args.getD ((i + (1 : Int)).toNat) []).length : Int) - ((args.getD i.toNat []).length : Int))) < n))) = false → (0 ≤ i ∧ i < (args.length : Nat)) ∧
 (In .i64 (i + (1 : Int))) ∧
 (0 ≤ i + (1 : Int) ∧ i + (1 : Int) < (args.length : Nat)) ∧
 M_strings_ReplaceAll s (args.getD i.toNat []) (args.getD ((i + (1 : Int)).toNat) []) (fun (s2 : List UInt8) =>
 (In .i64 (i + (2 : Int))) ∧
 kont1 s2 (i + (2 : Int))))))))) ∧
 (¬ (i < (args.length : Int)) → K s Er.ok))) t180 (0 : Int))))))))

def M_tool_Do (tool : Int) (args : List (List UInt8)) (inputs : List (List UInt8)) (K : (List UInt8) → Er → Prop) : Prop :=
 (args.length ≤ maxLen →
 (inputs.length ≤ maxLen →
 ∃ J1 : (List (List UInt8)) → (List (List UInt8)) → (List UInt8) → Bool → Prop, (((tool = (3 : Int) → M_tool_substitute args inputs (fun (t220 : List UInt8) (t221 : Er) =>
 K t220 t221)) ∧
 (¬ (tool = (3 : Int)) → ∃ J3 : Bool → Prop, (((tool = (2 : Int) → J3 (decide (tool = (2 : Int)))) ∧
 (¬ (tool = (2 : Int)) → ((tool = (4 : Int) → J3 (decide (tool = (4 : Int)))) ∧
 (¬ (tool = (4 : Int)) → J3 (decide (tool = (5 : Int)))))))) ∧
 (∀ t14 : Bool, J3 t14 → ((t14 = true → M_tool_listed tool args inputs (fun (t290 : List (List UInt8)) (t291 : Bool) =>
 J1 [] t290 ([10] : List UInt8) t291)) ∧
 (t14 = false → ((tool = (1 : Int) → J1 args inputs ([] : List UInt8) true) ∧
 (¬ (tool = (1 : Int)) → K ([] : List UInt8) (Er.e 10))))))))) ∧
 (∀ args2 : List (List UInt8), ∀ inputs2 : List (List UInt8), ∀ end_ : List UInt8, ∀ is : Bool, J1 args2 inputs2 end_ is → ((((!is) || (decide ((1 : Int) < (args2.length : Int)))) = true → K ([] : List UInt8) (Er.e 16)) ∧
 (((!is) || (decide ((1 : Int) < (args2.length : Int)))) = false → ∃ J2 : (List UInt8) → Prop, ((((args2.length : Int) = (1 : Int) → (0 ≤ (0 : Int) ∧ (0 : Int) < (args2.length : Nat)) ∧
 J2 (args2.getD 0 [])) ∧
 (¬ ((args2.length : Int) = (1 : Int)) → J2 ([] : List UInt8)))) ∧
 (∀ by_ : List UInt8, J2 by_ → M_tool_joined inputs2 by_ end_ (fun (t490 : List UInt8) (t491 : Er) =>
 K t490 t491)))))))

def M_key_Parts (tool : Int) (args : List (List UInt8)) (inputs : List (List UInt8)) (K : (List (List UInt8)) → Prop) : Prop :=
 (args.length ≤ maxLen →
 (inputs.length ≤ maxLen →
 M_strconv_Itoa tool (fun (t11 : List UInt8) =>
 M_strconv_Itoa (args.length : Int) (fun (t14 : List UInt8) =>
 (((([([115, 109, 105, 116, 104, 121] : List UInt8), t11, t14] : List (List UInt8))).length + args.length) * 16 ≤ 140737488355328) ∧
 Lp2 (fun (l : List (List UInt8)) (t21 : Int) kont1 => ((t21 < (inputs.length : Int) → (0 ≤ t21 ∧ t21 < (inputs.length : Nat)) ∧
 M_sha_Text (inputs.getD t21.toNat []) (fun (t27 : List UInt8) =>
 ((l.length + (([t27] : List (List UInt8))).length) * 16 ≤ 140737488355328) ∧
 (In .i64 (t21 + (1 : Int))) ∧
 kont1 (l ++ ([t27] : List (List UInt8))) (t21 + (1 : Int)))) ∧
 (¬ (t21 < (inputs.length : Int)) → K l))) (([([115, 109, 105, 116, 104, 121] : List UInt8), t11, t14] : List (List UInt8)) ++ args) (0 : Int)))))

def M_key_Source (text : List UInt8) (K : (List UInt8) → Prop) : Prop :=
 (text.length ≤ maxLen) ∧
 M_sha_Of text (fun (t5 : List UInt8) =>
 K t5)

def M_key_Of (tool : Int) (args : List (List UInt8)) (inputs : List (List UInt8)) (K : (List UInt8) → Prop) : Prop :=
 (args.length ≤ maxLen →
 (inputs.length ≤ maxLen →
 M_key_Parts tool args inputs (fun (t10 : List (List UInt8)) =>
 M_sha_Many t10 (fun (t11 : List UInt8) =>
 K t11))))

set_option maxHeartbeats 8000000 in
theorem W_internal_stringslite_HasSuffix {w : World} {s : List UInt8} {suffix : List UInt8} {K : Bool → Prop} (H : M_internal_stringslite_HasSuffix s suffix K) : Fn Tryz.prog 202 ⟨[vs s, vs suffix]⟩ w (fun v w' => w = w' ∧ ∃ (r : Bool), v = .bool r ∧ K r) := by
  unfold M_internal_stringslite_HasSuffix at H
  refine Fn.enter (by kernel_rfl) Tryz.func202 rfl Tryz.ntmps202 rfl ?_
  refine WC.seq ?_
  refine WC.region ?_
  refine WL.y rfl (Yld.pure tab_ok rfl) ?_
  refine WL.nil (WX.then_normal ?_)
  refine WC.seq ?_
  refine WC.region ?_
  refine WL.y rfl (Yld.pure tab_ok rfl) ?_
  refine WL.y rfl (Yld.pure tab_ok rfl) ?_
  refine WL.y rfl (Yld.pure tab_ok rfl) ?_
  refine WL.y rfl (Yld.pure tab_ok rfl) ?_
  refine WL.y rfl (Yld.pure tab_ok rfl) ?_
  refine WL.y rfl (Yld.pure tab_ok rfl) ?_
  obtain ⟨h1, H⟩ := H
  obtain ⟨h2, H⟩ := H
  refine WL.midF 10 (fun L' w' => ∃ q1 : Bool, L' = [(20, .bool q1)] ∧ ((decide ((suffix.length : Int) ≤ (s.length : Int))) && (decide ((s.drop ((s.length : Int) - (suffix.length : Int)).toNat) = suffix))) = q1 ∧ w = w') ?_ (fun hQ => ?_)
  · rintro _ _ ⟨q1, rfl, rfl, rfl⟩
    refine WL.y rfl (Yld.pure tab_ok rfl) ?_
    refine WL.nil (WX.then_normal ?_)
    refine WC.ret ?_
    exact WX.ret1 rfl rfl ⟨rfl, (decide ((suffix.length : Int) ≤ (s.length : Int))) && (decide ((s.drop ((s.length : Int) - (suffix.length : Int)).toNat) = suffix)), rfl, H⟩
  · clear H
    rcases Bool.eq_false_or_eq_true (decide ((suffix.length : Int) ≤ (s.length : Int))) with b1 | b1
    · refine WL.gyes rfl rfl (okb b1) rfl (Yld.pure tab_ok rfl) ?_
      refine WL.gyes rfl rfl (okb b1) rfl (Yld.pure tab_ok rfl) ?_
      refine WL.gyes rfl rfl (okb b1) rfl (Yld.pure tab_ok rfl) ?_
      refine WL.gyes rfl rfl (okb b1) rfl (Yld.pure tab_ok rfl) ?_
      refine WL.gyes rfl rfl (okb b1) rfl (Yld.pure tab_ok rfl) ?_
      refine WL.gyes rfl rfl (okb b1) rfl (Yld.sub rfl rfl (h1 b1)) ?_
      refine WL.gyes rfl rfl (okb b1) rfl (Yld.scutF tab_ok rfl rfl rfl (h2 b1).1 (h2 b1).2) ?_
      refine WL.gyes rfl rfl (okb b1) rfl (Yld.pure tab_ok rfl) ?_
      refine WL.gyes rfl rfl (okb b1) rfl (Yld.pure tab_ok rfl) ?_
      refine WL.y rfl (Yld.pickT (okb b1) rfl) ?_
      exact WL.weaken (by repeat (first | exact Sub.nil | refine Sub.cons rfl ?_)) (hQ _ _ ⟨decide ((s.drop ((s.length : Int) - (suffix.length : Int)).toNat) = suffix), rfl, by rw [b1] <;> rfl, rfl⟩)
    · refine WL.gno rfl rfl (okb b1) rfl ?_
      refine WL.gno rfl rfl (okb b1) rfl ?_
      refine WL.gno rfl rfl (okb b1) rfl ?_
      refine WL.gno rfl rfl (okb b1) rfl ?_
      refine WL.gno rfl rfl (okb b1) rfl ?_
      refine WL.gno rfl rfl (okb b1) rfl ?_
      refine WL.gno rfl rfl (okb b1) rfl ?_
      refine WL.gno rfl rfl (okb b1) rfl ?_
      refine WL.gno rfl rfl (okb b1) rfl ?_
      refine WL.y rfl (Yld.pickF (okb b1) rfl) ?_
      exact WL.weaken (by repeat (first | exact Sub.nil | refine Sub.cons rfl ?_)) (hQ _ _ ⟨false, rfl, by rw [b1] <;> rfl, rfl⟩)

set_option maxHeartbeats 8000000 in
theorem W_internal_stringslite_TrimSuffix {w : World} {s : List UInt8} {suffix : List UInt8} {K : (List UInt8) → Prop} (H : M_internal_stringslite_TrimSuffix s suffix K) : Fn Tryz.prog 193 ⟨[vs s, vs suffix]⟩ w (fun v w' => w = w' ∧ ∃ (r : List UInt8), v = vs r ∧ K r) := by
  unfold M_internal_stringslite_TrimSuffix at H
  refine Fn.enter (by kernel_rfl) Tryz.func193 rfl Tryz.ntmps193 rfl ?_
  refine WC.seq ?_
  refine WC.region ?_
  refine WL.y rfl (Yld.pure tab_ok rfl) ?_
  refine WL.nil (WX.then_normal ?_)
  refine WC.seq ?_
  refine WC.seq ?_
  refine WC.region ?_
  refine WL.y rfl (Yld.pure tab_ok rfl) ?_
  refine WL.y rfl (Yld.pure tab_ok rfl) ?_
  refine WL.call rfl rfl (W_internal_stringslite_HasSuffix H) ?_
  rintro _ _ ⟨rfl, t7, rfl, H⟩
  refine WL.nil (WX.then_normal ?_)
  refine WC.cond rfl (fun b1 => ?_) (fun b1 => ?_)
  · replace H := H.1 (b1)
    refine WC.seq ?_
    refine WC.region ?_
    refine WL.y rfl (Yld.pure tab_ok rfl) ?_
    refine WL.y rfl (Yld.pure tab_ok rfl) ?_
    refine WL.y rfl (Yld.pure tab_ok rfl) ?_
    refine WL.y rfl (Yld.pure tab_ok rfl) ?_
    refine WL.y rfl (Yld.pure tab_ok rfl) ?_
    obtain ⟨h1, H⟩ := H
    refine WL.y rfl (Yld.sub rfl rfl h1) ?_
    obtain ⟨h2, H⟩ := H
    refine WL.y rfl (Yld.scut tab_ok rfl rfl rfl rfl (Int.le_refl 0) h2.1 h2.2) ?_
    refine WL.y rfl (Yld.pure tab_ok rfl) ?_
    refine WL.nil (WX.then_normal ?_)
    refine WC.ret (WX.then_ret ?_)
    exact WX.ret1 rfl rfl ⟨rfl, s.take ((s.length : Int) - (suffix.length : Int)).toNat, rfl, H⟩
  · replace H := H.2 (b1)
    refine WC.skip (WX.then_normal ?_)
    refine WC.seq ?_
    refine WC.region ?_
    refine WL.y rfl (Yld.pure tab_ok rfl) ?_
    refine WL.y rfl (Yld.pure tab_ok rfl) ?_
    refine WL.nil (WX.then_normal ?_)
    refine WC.ret ?_
    exact WX.ret1 rfl rfl ⟨rfl, s, rfl, H⟩

set_option maxHeartbeats 8000000 in
theorem W_strings_TrimSuffix {w : World} {s : List UInt8} {suffix : List UInt8} {K : (List UInt8) → Prop} (H : M_strings_TrimSuffix s suffix K) : Fn Tryz.prog 176 ⟨[vs s, vs suffix]⟩ w (fun v w' => w = w' ∧ ∃ (r : List UInt8), v = vs r ∧ K r) := by
  unfold M_strings_TrimSuffix at H
  refine Fn.enter (by kernel_rfl) Tryz.func176 rfl Tryz.ntmps176 rfl ?_
  refine WC.seq ?_
  refine WC.region ?_
  refine WL.y rfl (Yld.pure tab_ok rfl) ?_
  refine WL.nil (WX.then_normal ?_)
  refine WC.seq ?_
  refine WC.region ?_
  refine WL.y rfl (Yld.pure tab_ok rfl) ?_
  refine WL.y rfl (Yld.pure tab_ok rfl) ?_
  refine WL.call rfl rfl (W_internal_stringslite_TrimSuffix H) ?_
  rintro _ _ ⟨rfl, t4, rfl, H⟩
  refine WL.y rfl (Yld.pure tab_ok rfl) ?_
  refine WL.nil (WX.then_normal ?_)
  refine WC.ret ?_
  exact WX.ret1 rfl rfl ⟨rfl, t4, rfl, H⟩

set_option maxHeartbeats 8000000 in
theorem W_slices_Index_string_string {w : World} {s : List (List UInt8)} {A_s : Option Addr} {c_s : Nat} {v : List UInt8} {n_s : Nat} {K : Int → Prop} (hs : Rd vs w A_s c_s s) (hn_s : n_s = s.length) (H : M_slices_Index_string_string s v K) : Fn Tryz.prog 177 ⟨[.slice A_s n_s c_s, vs v]⟩ w (fun v w' => w = w' ∧ ∃ (r : Int), v = .int .i64 r ∧ K r) := by
  subst hn_s
  unfold M_slices_Index_string_string at H
  refine Fn.enter (by kernel_rfl) Tryz.func177 rfl Tryz.ntmps177 rfl ?_
  replace H := H (Nat.le_trans hs.cap hs.max)
  refine WC.seq ?_
  refine WC.region ?_
  refine WL.y rfl (Yld.pure tab_ok rfl) ?_
  refine WL.nil (WX.then_normal ?_)
  refine WC.seq ?_
  refine WC.seq ?_
  refine WC.region ?_
  refine WL.y rfl (Yld.pure tab_ok rfl) ?_
  refine WL.y rfl (Yld.pure tab_ok rfl) ?_
  refine WL.y rfl (Yld.pure tab_ok rfl) ?_
  refine WL.nil (WX.then_normal ?_)
  refine WC.block ?_
  obtain ⟨I1, mu1, h0_1, HR1⟩ := H
  refine WC.loopF (fun n' L' w' => ∃ (t8 : Int), n' = mu1 t8 ∧ L' = [(0, .slice A_s s.length c_s), (1, vs v), (7, .int .i64 (s.length : Int)), (8, .int .i64 t8)] ∧ I1 t8 ∧ w = w') _ _ ⟨(0 : Int), rfl, rfl, h0_1, rfl⟩ (by repeat (first | exact Sub.nil | refine Sub.cons rfl ?_)) ?_
  clear h0_1
  rintro _ _ _ ⟨t8, rfl, rfl, hI1, rfl⟩
  have H := HR1 t8 hI1
  refine WC.seq ?_
  refine WC.region ?_
  refine WL.y rfl (Yld.pure tab_ok rfl) ?_
  refine WL.nil (WX.then_normal ?_)
  refine WC.seq ?_
  refine WC.cond rfl (fun b1 => ?_) (fun b1 => ?_)
  · replace H := H.1 (of_decide_eq_true b1)
    refine WC.skip (WX.then_normal ?_)
    refine WC.seq ?_
    refine WC.block ?_
    refine WC.seq ?_
    refine WC.region ?_
    refine WL.y rfl (Yld.pure tab_ok rfl) ?_
    refine WL.y rfl (Yld.pure tab_ok rfl) ?_
    refine WL.nil (WX.then_normal ?_)
    refine WC.seq ?_
    refine WC.region ?_
    refine WL.y rfl (Yld.pure tab_ok rfl) ?_
    refine WL.y rfl (Yld.pure tab_ok rfl) ?_
    refine WL.y rfl (Yld.pure tab_ok rfl) ?_
    obtain ⟨h1, H⟩ := H
    refine WL.y rfl (Yld.iaddrW tab_ok hs rfl rfl rfl rfl h1.1 h1.2) ?_
    refine WL.y rfl (Yld.iload [] tab_ok hs rfl rfl (iltN h1 rfl)) ?_
    refine WL.y rfl (Yld.pure tab_ok rfl) ?_
    refine WL.nil (WX.then_normal ?_)
    refine WC.cond rfl (fun b2 => ?_) (fun b2 => ?_)
    · replace H := H.1 (of_decide_eq_true b2)
      refine WC.seq ?_
      refine WC.region ?_
      refine WL.y rfl (Yld.pure tab_ok rfl) ?_
      refine WL.y rfl (Yld.pure tab_ok rfl) ?_
      refine WL.nil (WX.then_normal ?_)
      refine WC.ret (WX.block_ret (WX.then_ret (WX.then_ret (WX.block_ret (WX.then_ret ?_)))))
      exact WX.ret1 rfl rfl ⟨rfl, t8, rfl, H⟩
    · replace H := H.2 (of_decide_eq_false b2)
      refine WC.skip (WX.block_normal (WX.then_normal ?_))
      refine WC.region ?_
      obtain ⟨h2, H⟩ := H
      refine WL.y rfl (Yld.add rfl rfl h2) ?_
      refine WL.y rfl (Yld.pure tab_ok rfl) ?_
      refine WL.nil ?_
      exact WX.roundF _ ⟨t8 + (1 : Int), rfl, rfl, H.1, rfl⟩ (by repeat (first | exact Sub.nil | refine Sub.cons rfl ?_)) H.2
  · replace H := H.2 (of_decide_eq_false b1)
    refine WC.exit (WX.then_exit (WX.then_exit (WX.block_same (WX.then_normal ?_))))
    refine WC.seq ?_
    refine WC.region ?_
    refine WL.y rfl (Yld.pure tab_ok rfl) ?_
    refine WL.nil (WX.then_normal ?_)
    refine WC.ret ?_
    exact WX.ret1 rfl rfl ⟨rfl, (-1 : Int), rfl, H⟩

set_option maxHeartbeats 8000000 in
theorem W_slices_Contains_string_string {w : World} {s : List (List UInt8)} {A_s : Option Addr} {c_s : Nat} {v : List UInt8} {n_s : Nat} {K : Bool → Prop} (hs : Rd vs w A_s c_s s) (hn_s : n_s = s.length) (H : M_slices_Contains_string_string s v K) : Fn Tryz.prog 160 ⟨[.slice A_s n_s c_s, vs v]⟩ w (fun v w' => w = w' ∧ ∃ (r : Bool), v = .bool r ∧ K r) := by
  subst hn_s
  unfold M_slices_Contains_string_string at H
  refine Fn.enter (by kernel_rfl) Tryz.func160 rfl Tryz.ntmps160 rfl ?_
  replace H := H (Nat.le_trans hs.cap hs.max)
  refine WC.seq ?_
  refine WC.region ?_
  refine WL.y rfl (Yld.pure tab_ok rfl) ?_
  refine WL.nil (WX.then_normal ?_)
  refine WC.seq ?_
  refine WC.region ?_
  refine WL.y rfl (Yld.pure tab_ok rfl) ?_
  refine WL.y rfl (Yld.pure tab_ok rfl) ?_
  refine WL.call rfl rfl (W_slices_Index_string_string hs rfl H) ?_
  rintro _ _ ⟨rfl, t7, rfl, H⟩
  refine WL.y rfl (Yld.pure tab_ok rfl) ?_
  refine WL.y rfl (Yld.pure tab_ok rfl) ?_
  refine WL.nil (WX.then_normal ?_)
  refine WC.ret ?_
  exact WX.ret1 rfl rfl ⟨rfl, decide ((0 : Int) ≤ t7), rfl, H⟩

set_option maxHeartbeats 8000000 in
theorem W_tool_Lines {S : List Nat} {w : World} {s : List UInt8} {K : (List (List UInt8)) → Prop} (hG : GOK S w) (hS100 : 100 ∈ S) (H : M_tool_Lines s K) : Fn Tryz.prog 159 ⟨[vs s]⟩ w (fun v w' => w.grownBy w' none ∧ ∃ (r : List (List UInt8)), ∃ (A_r : Option Addr), ∃ (c_r : Nat), v = .slice A_r r.length c_r ∧ Own vs w' w.heap.size 9 A_r c_r r ∧ K r) := by
  unfold M_tool_Lines at H
  refine Fn.enter (by kernel_rfl) Tryz.func159 rfl Tryz.ntmps159 rfl ?_
  refine WC.seq ?_
  refine WC.region ?_
  refine WL.y rfl (Yld.pure tab_ok rfl) ?_
  refine WL.nil (WX.then_normal ?_)
  refine WC.seq ?_
  refine WC.seq ?_
  refine WC.region ?_
  refine WL.y rfl (Yld.pure tab_ok rfl) ?_
  refine WL.y rfl (Yld.pure tab_ok rfl) ?_
  refine WL.nil (WX.then_normal ?_)
  refine WC.cond rfl (fun b1 => ?_) (fun b1 => ?_)
  · replace H := H.1 (of_decide_eq_true b1)
    refine WC.seq ?_
    refine WC.region ?_
    refine WL.y rfl (Yld.pure tab_ok rfl) ?_
    refine WL.nil (WX.then_normal ?_)
    refine WC.ret (WX.then_ret ?_)
    exact WX.ret1 rfl rfl ⟨(gr_refl _ _), [], none, 0, rfl, (Own.nil vs w w.heap.size 9), H⟩
  · replace H := H.2 (of_decide_eq_false b1)
    refine WC.skip (WX.then_normal ?_)
    refine WC.seq ?_
    refine WC.region ?_
    refine WL.y rfl (Yld.pure tab_ok rfl) ?_
    refine WL.call rfl rfl (W_strings_TrimSuffix H) ?_
    rintro _ _ ⟨rfl, t6, rfl, H⟩
    refine WL.call rfl rfl (W_strings_Split hG hS100 H) ?_
    rintro _ w1 ⟨hg1, t2, A_t2, c_t2, rfl, ht2, H⟩
    have hb1 := ht2.ge'
    have k1 := ht2.base (fun g hg => Nat.le_trans (Nat.le_refl _) (hb1 g hg))
    have gr1 := hg1
    refine WL.y rfl (Yld.pure tab_ok rfl) ?_
    refine WL.nil (WX.then_normal ?_)
    refine WC.ret ?_
    exact WX.ret1 rfl rfl ⟨gr1, t2, A_t2, c_t2, rfl, k1, H⟩

set_option maxHeartbeats 8000000 in
theorem W_tool_lines {S : List Nat} {w : World} {inputs : List (List UInt8)} {A_inputs : Option Addr} {c_inputs : Nat} {n_inputs : Nat} {K : (List (List UInt8)) → Prop} (hG : GOK S w) (hS100 : 100 ∈ S) (hinputs : Rd vs w A_inputs c_inputs inputs) (hn_inputs : n_inputs = inputs.length) (H : M_tool_lines inputs K) : Fn Tryz.prog 136 ⟨[.slice A_inputs n_inputs c_inputs]⟩ w (fun v w' => w.grownBy w' none ∧ ∃ (r : List (List UInt8)), ∃ (A_r : Option Addr), ∃ (c_r : Nat), v = .slice A_r r.length c_r ∧ Own vs w' w.heap.size 9 A_r c_r r ∧ K r) := by
  subst hn_inputs
  unfold M_tool_lines at H
  refine Fn.enter (by kernel_rfl) Tryz.func136 rfl Tryz.ntmps136 rfl ?_
  replace H := H (Nat.le_trans hinputs.cap hinputs.max)
  refine WC.seq ?_
  refine WC.region ?_
  refine WL.y rfl (Yld.pure tab_ok rfl) ?_
  refine WL.nil (WX.then_normal ?_)
  refine WC.seq ?_
  refine WC.region ?_
  refine WL.y rfl (Yld.pure tab_ok rfl) ?_
  refine WL.nil (WX.then_normal ?_)
  refine WC.seq ?_
  refine WC.seq ?_
  refine WC.region ?_
  refine WL.y rfl (Yld.pure tab_ok rfl) ?_
  refine WL.y rfl (Yld.pure tab_ok rfl) ?_
  refine WL.y rfl (Yld.pure tab_ok rfl) ?_
  refine WL.nil (WX.then_normal ?_)
  refine WC.block ?_
  obtain ⟨I1, mu1, h0_1, HR1⟩ := H
  refine WC.loopF (fun n' L' w' => ∃ (l : List (List UInt8)), ∃ (A_l : Option Addr), ∃ (c_l : Nat), ∃ (n_l : Nat), ∃ (t8 : Int), n' = mu1 l t8 ∧ L' = [(3, .slice A_l n_l c_l), (6, .slice A_inputs inputs.length c_inputs), (7, .int .i64 (inputs.length : Int)), (8, .int .i64 t8)] ∧ I1 l t8 ∧ n_l = l.length ∧ w.grownBy w' none ∧ Own vs w' w.heap.size 9 A_l c_l l) _ _ ⟨[], none, 0, 0, (0 : Int), rfl, rfl, h0_1, rfl, (gr_refl _ _), (Own.nil vs w w.heap.size 9)⟩ (by repeat (first | exact Sub.nil | refine Sub.cons rfl ?_)) ?_
  clear h0_1
  rintro _ _ w1 ⟨l, A_l, c_l, n_l, t8, rfl, rfl, hI1, rfl, gr1, k1⟩
  have H := HR1 l t8 hI1
  refine WC.seq ?_
  refine WC.region ?_
  refine WL.y rfl (Yld.pure tab_ok rfl) ?_
  refine WL.nil (WX.then_normal ?_)
  refine WC.seq ?_
  refine WC.cond rfl (fun b1 => ?_) (fun b1 => ?_)
  · replace H := H.1 (of_decide_eq_true b1)
    refine WC.skip (WX.then_normal ?_)
    refine WC.seq ?_
    refine WC.block ?_
    refine WC.seq ?_
    refine WC.region ?_
    obtain ⟨h1, H⟩ := H
    refine WL.y rfl (Yld.iaddrW tab_ok (hinputs.grown gr1) rfl rfl rfl rfl h1.1 h1.2) ?_
    refine WL.y rfl (Yld.iload [] tab_ok (hinputs.grown gr1) rfl rfl (iltN h1 rfl)) ?_
    refine WL.y rfl (Yld.pure tab_ok rfl) ?_
    refine WL.nil (WX.then_normal ?_)
    refine WC.region ?_
    refine WL.y rfl (Yld.pure tab_ok rfl) ?_
    refine WL.y rfl (Yld.pure tab_ok rfl) ?_
    refine WL.call rfl rfl (W_tool_Lines (hG.grown gr1) hS100 H) ?_
    rintro _ w2 ⟨hg1, t14, A_t14, c_t14, rfl, ht14, H⟩
    have hb1 := ht14.ge'
    have k2 := ht14.base (fun g hg => Nat.le_trans (size_le gr1) (hb1 g hg))
    have gr2 := gr_trans gr1 hg1
    have k3 := k1.grown hg1
    obtain ⟨h2, H⟩ := H
    refine WL.append tab_ok rfl rfl One.s k3 rfl rfl k2.rd rfl rfl h2 (applen h2) (size_le gr2) (fun A_l2 c_l2 w3 hO1 hg2 hk1 => ?_)
    have gr3 := gr_mod gr2 hg2 k3.ge'
    refine WL.y rfl (Yld.pure tab_ok rfl) ?_
    refine WL.nil (WX.block_normal (WX.then_normal ?_))
    refine WC.region ?_
    obtain ⟨h3, H⟩ := H
    refine WL.y rfl (Yld.add rfl rfl h3) ?_
    refine WL.y rfl (Yld.pure tab_ok rfl) ?_
    refine WL.nil ?_
    exact WX.roundF _ ⟨l ++ t14, A_l2, c_l2, (l ++ t14).length, t8 + (1 : Int), rfl, rfl, H.1, rfl, gr3, hO1⟩ (by repeat (first | exact Sub.nil | refine Sub.cons rfl ?_)) H.2
  · replace H := H.2 (of_decide_eq_false b1)
    refine WC.exit (WX.then_exit (WX.then_exit (WX.block_same (WX.then_normal ?_))))
    refine WC.seq ?_
    refine WC.region ?_
    refine WL.y rfl (Yld.pure tab_ok rfl) ?_
    refine WL.y rfl (Yld.pure tab_ok rfl) ?_
    refine WL.nil (WX.then_normal ?_)
    refine WC.ret ?_
    exact WX.ret1 rfl rfl ⟨gr1, l, A_l, c_l, rfl, k1, H⟩

set_option maxHeartbeats 8000000 in
theorem W_tool_filter {S : List Nat} {w : World} {args : List (List UInt8)} {A_args : Option Addr} {c_args : Nat} {l : List (List UInt8)} {A_l : Option Addr} {c_l : Nat} {n_args : Nat} {n_l : Nat} {K : (List (List UInt8)) → Bool → Prop} (hG : GOK S w) (hS100 : 100 ∈ S) (hargs : Rd vs w A_args c_args args) (hn_args : n_args = args.length) (hl : Rd vs w A_l c_l l) (hn_l : n_l = l.length) (H : M_tool_filter args l K) : Fn Tryz.prog 135 ⟨[.slice A_args n_args c_args, .slice A_l n_l c_l]⟩ w (fun v w' => w.grownBy w' none ∧ ∃ (r0 : List (List UInt8)), ∃ (A_r0 : Option Addr), ∃ (c_r0 : Nat), ∃ (r1 : Bool), v = .tuple #[.slice A_r0 r0.length c_r0, .bool r1] ∧ Own vs w' w.heap.size 9 A_r0 c_r0 r0 ∧ K r0 r1) := by
  subst hn_args
  subst hn_l
  unfold M_tool_filter at H
  refine Fn.enter (by kernel_rfl) Tryz.func135 rfl Tryz.ntmps135 rfl ?_
  replace H := H (Nat.le_trans hargs.cap hargs.max)
  replace H := H (Nat.le_trans hl.cap hl.max)
  refine WC.seq ?_
  refine WC.region ?_
  refine WL.y rfl (Yld.pure tab_ok rfl) ?_
  refine WL.y rfl (Yld.pure tab_ok rfl) ?_
  refine WL.nil (WX.then_normal ?_)
  refine WC.seq ?_
  refine WC.seq ?_
  refine WC.region ?_
  refine WL.y rfl (Yld.pure tab_ok rfl) ?_
  refine WL.y rfl (Yld.pure tab_ok rfl) ?_
  refine WL.y rfl (Yld.pure tab_ok rfl) ?_
  refine WL.y rfl (Yld.pure tab_ok rfl) ?_
  refine WL.midF 4 (fun L' w' => ∃ q1 : Bool, L' = [(16, .bool q1), (0, .slice A_args args.length c_args), (1, .slice A_l l.length c_l)] ∧ ((decide ((args.length : Int) < (1 : Int))) || (decide ((2 : Int) < (args.length : Int)))) = q1 ∧ w = w') ?_ (fun hQ => ?_)
  · rintro _ _ ⟨q1, rfl, rfl, rfl⟩
    refine WL.y rfl (Yld.pure tab_ok rfl) ?_
    obtain ⟨h1, H⟩ := H
    refine WL.midF 10 (fun L' w' => ∃ q2 : Bool, L' = [(27, .bool q2), (0, .slice A_args args.length c_args), (1, .slice A_l l.length c_l)] ∧ (((decide ((args.length : Int) < (1 : Int))) || (decide ((2 : Int) < (args.length : Int)))) || ((decide ((args.length : Int) = (2 : Int))) && (!decide ((args.getD 1 []) = ([110, 111, 116] : List UInt8))))) = q2 ∧ w = w') ?_ (fun hQ => ?_)
    · rintro _ _ ⟨q2, rfl, rfl, rfl⟩
      refine WL.nil (WX.then_normal ?_)
      refine WC.cond rfl (fun b1 => ?_) (fun b1 => ?_)
      · replace H := H.1 (b1)
        refine WC.seq ?_
        refine WC.region ?_
        refine WL.y rfl (Yld.pure tab_ok rfl) ?_
        refine WL.y rfl (Yld.pure tab_ok rfl) ?_
        refine WL.nil (WX.then_normal ?_)
        refine WC.ret (WX.then_ret ?_)
        exact WX.ret2 rfl rfl rfl ⟨(gr_refl _ _), [], none, 0, false, rfl, (Own.nil vs w w.heap.size 9), H⟩
      · replace H := H.2 (b1)
        refine WC.skip (WX.then_normal ?_)
        refine WC.seq ?_
        refine WC.region ?_
        refine WL.y rfl (Yld.pure tab_ok rfl) ?_
        refine WL.nil (WX.then_normal ?_)
        refine WC.seq ?_
        refine WC.seq ?_
        refine WC.region ?_
        refine WL.y rfl (Yld.pure tab_ok rfl) ?_
        refine WL.y rfl (Yld.pure tab_ok rfl) ?_
        refine WL.y rfl (Yld.pure tab_ok rfl) ?_
        refine WL.nil (WX.then_normal ?_)
        refine WC.block ?_
        obtain ⟨I1, mu1, h0_1, HR1⟩ := H
        refine WC.loopF (fun n' L' w' => ∃ (out : List (List UInt8)), ∃ (A_out : Option Addr), ∃ (c_out : Nat), ∃ (n_out : Nat), ∃ (t30 : Int), n' = mu1 out t30 ∧ L' = [(0, .slice A_args args.length c_args), (6, .slice A_out n_out c_out), (28, .slice A_l l.length c_l), (29, .int .i64 (l.length : Int)), (30, .int .i64 t30)] ∧ I1 out t30 ∧ n_out = out.length ∧ w.grownBy w' none ∧ Own vs w' w.heap.size 9 A_out c_out out) _ _ ⟨[], none, 0, 0, (0 : Int), rfl, rfl, h0_1, rfl, (gr_refl _ _), (Own.nil vs w w.heap.size 9)⟩ (by repeat (first | exact Sub.nil | refine Sub.cons rfl ?_)) ?_
        clear h0_1
        rintro _ _ w1 ⟨out, A_out, c_out, n_out, t30, rfl, rfl, hI1, rfl, gr1, k1⟩
        have H := HR1 out t30 hI1
        refine WC.seq ?_
        refine WC.region ?_
        refine WL.y rfl (Yld.pure tab_ok rfl) ?_
        refine WL.nil (WX.then_normal ?_)
        refine WC.seq ?_
        refine WC.cond rfl (fun b2 => ?_) (fun b2 => ?_)
        · replace H := H.1 (of_decide_eq_true b2)
          refine WC.skip (WX.then_normal ?_)
          refine WC.seq ?_
          obtain ⟨J1, H, hJ1⟩ := H
          refine WC.midF (fun L' w' => ∃ (out2 : List (List UInt8)), ∃ (A_out2 : Option Addr), ∃ (c_out2 : Nat), ∃ (n_out2 : Nat), L' = [(0, .slice A_args args.length c_args), (6, .slice A_out2 n_out2 c_out2), (28, .slice A_l l.length c_l), (29, .int .i64 (l.length : Int)), (30, .int .i64 t30)] ∧ J1 out2 ∧ n_out2 = out2.length ∧ w.grownBy w' none ∧ Own vs w' w.heap.size 9 A_out2 c_out2 out2) ?_ (fun hQ => ?_)
          · clear H
            rintro _ w2 ⟨out2, A_out2, c_out2, n_out2, rfl, H, rfl, gr2, k2⟩
            replace H := hJ1 out2 H
            refine WX.then_normal ?_
            refine WC.region ?_
            obtain ⟨h2, H⟩ := H
            refine WL.y rfl (Yld.add rfl rfl h2) ?_
            refine WL.y rfl (Yld.pure tab_ok rfl) ?_
            refine WL.nil ?_
            exact WX.roundF _ ⟨out2, A_out2, c_out2, out2.length, t30 + (1 : Int), rfl, rfl, H.1, rfl, gr2, k2⟩ (by repeat (first | exact Sub.nil | refine Sub.cons rfl ?_)) H.2
          · clear hJ1
            refine WC.block ?_
            refine WC.seq ?_
            refine WC.region ?_
            obtain ⟨h3, H⟩ := H
            refine WL.y rfl (Yld.iaddrW tab_ok (hl.grown gr1) rfl rfl rfl rfl h3.1 h3.2) ?_
            refine WL.y rfl (Yld.iload [] tab_ok (hl.grown gr1) rfl rfl (iltN h3 rfl)) ?_
            refine WL.y rfl (Yld.pure tab_ok rfl) ?_
            refine WL.nil (WX.then_normal ?_)
            refine WC.seq ?_
            refine WC.region ?_
            refine WL.y rfl (Yld.pure tab_ok rfl) ?_
            refine WL.y rfl (Yld.pure tab_ok rfl) ?_
            obtain ⟨h4, H⟩ := H
            refine WL.y rfl (Yld.iaddrW tab_ok (hargs.grown gr1) rfl rfl rfl rfl h4.1 h4.2) ?_
            refine WL.y rfl (Yld.iload [] tab_ok (hargs.grown gr1) rfl rfl (iltN h4 rfl)) ?_
            refine WL.call rfl rfl (W_strings_Contains (hG.grown gr1) hS100 H) ?_
            rintro _ _ ⟨rfl, t38, rfl, H⟩
            refine WL.y rfl (Yld.pure tab_ok rfl) ?_
            refine WL.y rfl (Yld.pure tab_ok rfl) ?_
            refine WL.y rfl (Yld.pure tab_ok rfl) ?_
            refine WL.y rfl (Yld.beql Tryz.underlying4 rfl rfl) ?_
            refine WL.nil (WX.then_normal ?_)
            refine WC.cond rfl (fun b3 => ?_) (fun b3 => ?_)
            · replace H := H.1 (b3)
              refine WC.region ?_
              refine WL.y rfl (Yld.pure tab_ok rfl) ?_
              refine WL.y rfl (Yld.pure tab_ok rfl) ?_
              refine WL.lit tab_ok rfl rfl rfl (all1c rfl all1n) rfl (by omega) (fun g1 w3 hB1 hg1 hl1 => ?_)
              have hO1 : Own vs w3 w.heap.size 9 (some ⟨g1, 0, none⟩) 1 ([l.getD t30.toNat []] : List (List UInt8)) := Own.ofBl hB1 (Nat.le_trans (size_le gr1) hl1) (by simp [maxLen]) rfl
              have gr3 := gr_trans gr1 hg1
              have k3 := k1.grown hg1
              obtain ⟨h5, H⟩ := H
              refine WL.append tab_ok rfl rfl One.s k3 rfl rfl hO1.rd rfl rfl h5 (applen h5) (size_le gr3) (fun A_out3 c_out3 w4 hO2 hg2 hk1 => ?_)
              have gr4 := gr_mod gr3 hg2 k3.ge'
              refine WL.y rfl (Yld.pure tab_ok rfl) ?_
              refine WL.nil (WX.block_normal ?_)
              exact WX.weaken (by repeat (first | exact Sub.nil | refine Sub.cons rfl ?_)) (hQ _ _ ⟨out ++ ([l.getD t30.toNat []] : List (List UInt8)), A_out3, c_out3, (out ++ ([l.getD t30.toNat []] : List (List UInt8))).length, rfl, H, rfl, gr4, hO2⟩)
            · replace H := H.2 (b3)
              refine WC.skip (WX.block_normal ?_)
              exact WX.weaken (by repeat (first | exact Sub.nil | refine Sub.cons rfl ?_)) (hQ _ _ ⟨out, A_out, c_out, out.length, rfl, H, rfl, gr1, k1⟩)
        · replace H := H.2 (of_decide_eq_false b2)
          refine WC.exit (WX.then_exit (WX.then_exit (WX.block_same (WX.then_normal ?_))))
          refine WC.seq ?_
          refine WC.region ?_
          refine WL.y rfl (Yld.pure tab_ok rfl) ?_
          refine WL.y rfl (Yld.pure tab_ok rfl) ?_
          refine WL.y rfl (Yld.pure tab_ok rfl) ?_
          refine WL.nil (WX.then_normal ?_)
          refine WC.ret ?_
          exact WX.ret2 rfl rfl rfl ⟨gr1, out, A_out, c_out, true, rfl, k1, H⟩
    · clear H
      rcases Bool.eq_false_or_eq_true ((decide ((args.length : Int) < (1 : Int))) || (decide ((2 : Int) < (args.length : Int)))) with b4 | b4
      · refine WL.gno rfl rfl (okb b4) rfl ?_
        refine WL.gno rfl rfl (okb b4) rfl ?_
        refine WL.gno rfl rfl (okb b4) rfl ?_
        refine WL.gno rfl rfl (okb b4) rfl ?_
        refine WL.gun rfl rfl rfl rfl ?_
        refine WL.gun rfl rfl rfl rfl ?_
        refine WL.gun rfl rfl rfl rfl ?_
        refine WL.gun rfl rfl rfl rfl ?_
        refine WL.gno rfl rfl (okb b4) rfl ?_
        refine WL.y rfl (Yld.pickT (okb b4) rfl) ?_
        exact WL.weaken (by repeat (first | exact Sub.nil | refine Sub.cons rfl ?_)) (hQ _ _ ⟨true, rfl, by rw [b4] <;> rfl, rfl⟩)
      · refine WL.gyes rfl rfl (okb b4) rfl (Yld.pure tab_ok rfl) ?_
        refine WL.gyes rfl rfl (okb b4) rfl (Yld.pure tab_ok rfl) ?_
        refine WL.gyes rfl rfl (okb b4) rfl (Yld.pure tab_ok rfl) ?_
        refine WL.gyes rfl rfl (okb b4) rfl (Yld.pure tab_ok rfl) ?_
        rcases Bool.eq_false_or_eq_true (decide ((args.length : Int) = (2 : Int))) with b5 | b5
        · refine WL.gyes rfl rfl (okb b5) rfl (Yld.pure tab_ok rfl) ?_
          refine WL.gyes rfl rfl (okb b5) rfl (Yld.iaddrW tab_ok hargs rfl rfl rfl rfl (h1 b4 b5).1 (h1 b4 b5).2) ?_
          refine WL.gyes rfl rfl (okb b5) rfl (Yld.iload [] tab_ok hargs rfl rfl (iltN (h1 b4 b5) rfl)) ?_
          refine WL.gyes rfl rfl (okb b5) rfl (Yld.pure tab_ok rfl) ?_
          refine WL.gyes rfl rfl (okb b4) rfl (Yld.pickT (okb b5) rfl) ?_
          refine WL.y rfl (Yld.pickF (okb b4) rfl) ?_
          exact WL.weaken (by repeat (first | exact Sub.nil | refine Sub.cons rfl ?_)) (hQ _ _ ⟨!decide ((args.getD 1 []) = ([110, 111, 116] : List UInt8)), rfl, by rw [b4, b5] <;> rfl, rfl⟩)
        · refine WL.gno rfl rfl (okb b5) rfl ?_
          refine WL.gno rfl rfl (okb b5) rfl ?_
          refine WL.gno rfl rfl (okb b5) rfl ?_
          refine WL.gno rfl rfl (okb b5) rfl ?_
          refine WL.gyes rfl rfl (okb b4) rfl (Yld.pickF (okb b5) rfl) ?_
          refine WL.y rfl (Yld.pickF (okb b4) rfl) ?_
          exact WL.weaken (by repeat (first | exact Sub.nil | refine Sub.cons rfl ?_)) (hQ _ _ ⟨false, rfl, by rw [b4, b5] <;> rfl, rfl⟩)
  · clear H
    rcases Bool.eq_false_or_eq_true (decide ((args.length : Int) < (1 : Int))) with b6 | b6
    · refine WL.gno rfl rfl (okb b6) rfl ?_
      refine WL.gno rfl rfl (okb b6) rfl ?_
      refine WL.gno rfl rfl (okb b6) rfl ?_
      refine WL.y rfl (Yld.pickT (okb b6) rfl) ?_
      exact WL.weaken (by repeat (first | exact Sub.nil | refine Sub.cons rfl ?_)) (hQ _ _ ⟨true, rfl, by rw [b6] <;> rfl, rfl⟩)
    · refine WL.gyes rfl rfl (okb b6) rfl (Yld.pure tab_ok rfl) ?_
      refine WL.gyes rfl rfl (okb b6) rfl (Yld.pure tab_ok rfl) ?_
      refine WL.gyes rfl rfl (okb b6) rfl (Yld.pure tab_ok rfl) ?_
      refine WL.y rfl (Yld.pickF (okb b6) rfl) ?_
      exact WL.weaken (by repeat (first | exact Sub.nil | refine Sub.cons rfl ?_)) (hQ _ _ ⟨decide ((2 : Int) < (args.length : Int)), rfl, by rw [b6] <;> rfl, rfl⟩)

set_option maxHeartbeats 8000000 in
theorem W_tool_sorted {w : World} {args : List (List UInt8)} {A_args : Option Addr} {c_args : Nat} {l : List (List UInt8)} {A_l : Option Addr} {c_l : Nat} {n_args : Nat} {n_l : Nat} {K : (List (List UInt8)) → Bool → Prop} (hargs : Rd vs w A_args c_args args) (hn_args : n_args = args.length) (hl : Rd vs w A_l c_l l) (hn_l : n_l = l.length) (H : M_tool_sorted args l K) : Fn Tryz.prog 137 ⟨[.slice A_args n_args c_args, .slice A_l n_l c_l]⟩ w (fun v w' => w.grownBy w' none ∧ ∃ (r0 : List (List UInt8)), ∃ (A_r0 : Option Addr), ∃ (c_r0 : Nat), ∃ (r1 : Bool), v = .tuple #[.slice A_r0 r0.length c_r0, .bool r1] ∧ Own vs w' w.heap.size 9 A_r0 c_r0 r0 ∧ K r0 r1) := by
  subst hn_args
  subst hn_l
  unfold M_tool_sorted at H
  refine Fn.enter (by kernel_rfl) Tryz.func137 rfl Tryz.ntmps137 rfl ?_
  replace H := H (Nat.le_trans hargs.cap hargs.max)
  replace H := H (Nat.le_trans hl.cap hl.max)
  refine WC.seq ?_
  refine WC.region ?_
  refine WL.y rfl (Yld.pure tab_ok rfl) ?_
  refine WL.y rfl (Yld.pure tab_ok rfl) ?_
  refine WL.nil (WX.then_normal ?_)
  refine WC.seq ?_
  refine WC.region ?_
  refine WL.y rfl (Yld.pure tab_ok rfl) ?_
  refine WL.call rfl rfl (W_slices_Contains_string_string hargs rfl H) ?_
  rintro _ _ ⟨rfl, reverse, rfl, H⟩
  refine WL.y rfl (Yld.pure tab_ok rfl) ?_
  refine WL.call rfl rfl (W_slices_Contains_string_string hargs rfl H) ?_
  rintro _ _ ⟨rfl, unique, rfl, H⟩
  refine WL.y rfl (Yld.pure tab_ok rfl) ?_
  refine WL.y rfl (Yld.pure tab_ok rfl) ?_
  refine WL.nil (WX.then_normal ?_)
  refine WC.seq ?_
  refine WC.region ?_
  refine WL.y rfl (Yld.pure tab_ok rfl) ?_
  refine WL.nil (WX.then_normal ?_)
  refine WC.seq ?_
  obtain ⟨J1, H, hJ1⟩ := H
  refine WC.midF (fun L' w' => ∃ (n : Int), L' = [(0, .slice A_args args.length c_args), (1, .slice A_l l.length c_l), (6, .bool reverse), (7, .bool unique), (8, .int .i64 n)] ∧ J1 n ∧ w = w') ?_ (fun hQ => ?_)
  · clear H
    rintro _ _ ⟨n, rfl, H, rfl⟩
    replace H := hJ1 n H
    refine WX.then_normal ?_
    refine WC.seq ?_
    obtain ⟨J2, H, hJ2⟩ := H
    refine WC.midF (fun L' w' => ∃ (n2 : Int), L' = [(0, .slice A_args args.length c_args), (1, .slice A_l l.length c_l), (6, .bool reverse), (7, .bool unique), (8, .int .i64 n2)] ∧ J2 n2 ∧ w = w') ?_ (fun hQ => ?_)
    · clear H
      rintro _ _ ⟨n2, rfl, H, rfl⟩
      replace H := hJ2 n2 H
      refine WX.then_normal ?_
      refine WC.seq ?_
      refine WC.seq ?_
      refine WC.region ?_
      refine WL.y rfl (Yld.pure tab_ok rfl) ?_
      refine WL.y rfl (Yld.pure tab_ok rfl) ?_
      refine WL.y rfl (Yld.pure tab_ok rfl) ?_
      refine WL.y rfl (Yld.pure tab_ok rfl) ?_
      refine WL.nil (WX.then_normal ?_)
      refine WC.cond rfl (fun b1 => ?_) (fun b1 => ?_)
      · replace H := H.1 (nd_true b1)
        refine WC.seq ?_
        refine WC.region ?_
        refine WL.y rfl (Yld.pure tab_ok rfl) ?_
        refine WL.y rfl (Yld.pure tab_ok rfl) ?_
        refine WL.nil (WX.then_normal ?_)
        refine WC.ret (WX.then_ret ?_)
        exact WX.ret2 rfl rfl rfl ⟨(gr_refl _ _), [], none, 0, false, rfl, (Own.nil vs w w.heap.size 9), H⟩
      · replace H := H.2 (nd_false b1)
        refine WC.skip (WX.then_normal ?_)
        refine WC.seq ?_
        refine WC.region ?_
        refine WL.y rfl (Yld.pure tab_ok rfl) ?_
        refine WL.call rfl rfl valuesBox_fn ?_
        rintro _ w1 ⟨g1, rfl, hB1, hg1, hl1⟩
        have gr1 := hg1
        refine WL.call rfl rfl (W_slices_Sorted_string_slices_Values_string_string_1 (hl.grown gr1) rfl hB1 H) ?_
        rintro _ w2 ⟨hg2, out, A_out, c_out, rfl, hout, H⟩
        have hb1 := hout.ge'
        have k1 := hout.base (fun g hg => Nat.le_trans (size_le gr1) (hb1 g hg))
        have gr2 := gr_trans gr1 hg2
        refine WL.y rfl (Yld.pure tab_ok rfl) ?_
        refine WL.nil (WX.then_normal ?_)
        refine WC.seq ?_
        obtain ⟨J3, H, hJ3⟩ := H
        refine WC.midF (fun L' w' => ∃ (out2 : List (List UInt8)), ∃ (A_out2 : Option Addr), ∃ (c_out2 : Nat), ∃ (n_out : Nat), L' = [(6, .bool reverse), (9, .slice A_out2 n_out c_out2)] ∧ J3 out2 ∧ n_out = out2.length ∧ w.grownBy w' none ∧ Own vs w' w.heap.size 9 A_out2 c_out2 out2) ?_ (fun hQ => ?_)
        · clear H
          rintro _ w3 ⟨out2, A_out2, c_out2, n_out, rfl, H, rfl, gr3, k2⟩
          replace H := hJ3 out2 H
          refine WX.then_normal ?_
          refine WC.seq ?_
          obtain ⟨J4, H, hJ4⟩ := H
          refine WC.midF (fun L' w' => ∃ (out3 : List (List UInt8)), ∃ (A_out3 : Option Addr), ∃ (c_out3 : Nat), ∃ (n_out2 : Nat), L' = [(9, .slice A_out3 n_out2 c_out3)] ∧ J4 out3 ∧ n_out2 = out3.length ∧ w.grownBy w' none ∧ Own vs w' w.heap.size 9 A_out3 c_out3 out3) ?_ (fun hQ => ?_)
          · clear H
            rintro _ w4 ⟨out3, A_out3, c_out3, n_out2, rfl, H, rfl, gr4, k3⟩
            replace H := hJ4 out3 H
            refine WX.then_normal ?_
            refine WC.seq ?_
            refine WC.region ?_
            refine WL.y rfl (Yld.pure tab_ok rfl) ?_
            refine WL.y rfl (Yld.pure tab_ok rfl) ?_
            refine WL.y rfl (Yld.pure tab_ok rfl) ?_
            refine WL.nil (WX.then_normal ?_)
            refine WC.ret ?_
            exact WX.ret2 rfl rfl rfl ⟨gr4, out3, A_out3, c_out3, true, rfl, k3, H⟩
          · clear hJ4
            refine WC.seq ?_
            refine WC.region ?_
            refine WL.y rfl (Yld.pure tab_ok rfl) ?_
            refine WL.nil (WX.then_normal ?_)
            refine WC.cond rfl (fun b2 => ?_) (fun b2 => ?_)
            · replace H := H.1 (b2)
              refine WC.region ?_
              refine WL.y rfl (Yld.pure tab_ok rfl) ?_
              refine WL.call rfl rfl (W_slices_Reverse_string_string k2 rfl H) ?_
              rintro _ w5 ⟨ys, rfl, hO1, hg3, hl2, H⟩
              have gr5 := gr_mod gr3 hg3 k2.ge'
              refine WL.nil ?_
              exact WX.weaken (by repeat (first | exact Sub.nil | refine Sub.cons rfl ?_)) (hQ _ _ ⟨ys, A_out2, c_out2, out2.length, rfl, H, ((rfl : out2.length = out2.length).trans hl2.symm), gr5, hO1⟩)
            · replace H := H.2 (b2)
              refine WC.skip ?_
              exact WX.weaken (by repeat (first | exact Sub.nil | refine Sub.cons rfl ?_)) (hQ _ _ ⟨out2, A_out2, c_out2, out2.length, rfl, H, rfl, gr3, k2⟩)
        · clear hJ3
          refine WC.seq ?_
          refine WC.region ?_
          refine WL.y rfl (Yld.pure tab_ok rfl) ?_
          refine WL.nil (WX.then_normal ?_)
          refine WC.cond rfl (fun b3 => ?_) (fun b3 => ?_)
          · replace H := H.1 (b3)
            refine WC.region ?_
            refine WL.y rfl (Yld.pure tab_ok rfl) ?_
            refine WL.call rfl rfl (W_slices_Compact_string_string k1 rfl H) ?_
            rintro _ w6 ⟨out4, rfl, hO2, hg4, H⟩
            have gr6 := gr_mod gr2 hg4 k1.ge'
            refine WL.y rfl (Yld.pure tab_ok rfl) ?_
            refine WL.nil ?_
            exact WX.weaken (by repeat (first | exact Sub.nil | refine Sub.cons rfl ?_)) (hQ _ _ ⟨out4, A_out, c_out, out4.length, rfl, H, rfl, gr6, hO2⟩)
          · replace H := H.2 (b3)
            refine WC.skip ?_
            exact WX.weaken (by repeat (first | exact Sub.nil | refine Sub.cons rfl ?_)) (hQ _ _ ⟨out, A_out, c_out, out.length, rfl, H, rfl, gr2, k1⟩)
    · clear hJ2
      refine WC.seq ?_
      refine WC.region ?_
      refine WL.y rfl (Yld.pure tab_ok rfl) ?_
      refine WL.nil (WX.then_normal ?_)
      refine WC.cond rfl (fun b4 => ?_) (fun b4 => ?_)
      · replace H := H.1 (b4)
        refine WC.region ?_
        refine WL.y rfl (Yld.pure tab_ok rfl) ?_
        obtain ⟨h1, H⟩ := H
        refine WL.y rfl (Yld.add rfl rfl h1) ?_
        refine WL.y rfl (Yld.pure tab_ok rfl) ?_
        refine WL.nil ?_
        exact WX.weaken (by repeat (first | exact Sub.nil | refine Sub.cons rfl ?_)) (hQ _ _ ⟨n + (1 : Int), rfl, H, rfl⟩)
      · replace H := H.2 (b4)
        refine WC.skip ?_
        exact WX.weaken (by repeat (first | exact Sub.nil | refine Sub.cons rfl ?_)) (hQ _ _ ⟨n, rfl, H, rfl⟩)
  · clear hJ1
    refine WC.seq ?_
    refine WC.region ?_
    refine WL.y rfl (Yld.pure tab_ok rfl) ?_
    refine WL.nil (WX.then_normal ?_)
    refine WC.cond rfl (fun b5 => ?_) (fun b5 => ?_)
    · replace H := H.1 (b5)
      refine WC.region ?_
      refine WL.y rfl (Yld.pure tab_ok rfl) ?_
      obtain ⟨h2, H⟩ := H
      refine WL.y rfl (Yld.add rfl rfl h2) ?_
      refine WL.y rfl (Yld.pure tab_ok rfl) ?_
      refine WL.nil ?_
      exact WX.weaken (by repeat (first | exact Sub.nil | refine Sub.cons rfl ?_)) (hQ _ _ ⟨(0 : Int) + (1 : Int), rfl, H, rfl⟩)
    · replace H := H.2 (b5)
      refine WC.skip ?_
      exact WX.weaken (by repeat (first | exact Sub.nil | refine Sub.cons rfl ?_)) (hQ _ _ ⟨(0 : Int), rfl, H, rfl⟩)

set_option maxHeartbeats 8000000 in
theorem W_tool_listed {S : List Nat} {w : World} {tool : Int} {args : List (List UInt8)} {A_args : Option Addr} {c_args : Nat} {inputs : List (List UInt8)} {A_inputs : Option Addr} {c_inputs : Nat} {n_args : Nat} {n_inputs : Nat} {K : (List (List UInt8)) → Bool → Prop} (hG : GOK S w) (hS100 : 100 ∈ S) (hargs : Rd vs w A_args c_args args) (hn_args : n_args = args.length) (hinputs : Rd vs w A_inputs c_inputs inputs) (hn_inputs : n_inputs = inputs.length) (H : M_tool_listed tool args inputs K) : Fn Tryz.prog 99 ⟨[.int .i64 tool, .slice A_args n_args c_args, .slice A_inputs n_inputs c_inputs]⟩ w (fun v w' => w.grownBy w' none ∧ ∃ (r0 : List (List UInt8)), ∃ (A_r0 : Option Addr), ∃ (c_r0 : Nat), ∃ (r1 : Bool), v = .tuple #[.slice A_r0 r0.length c_r0, .bool r1] ∧ Own vs w' w.heap.size 9 A_r0 c_r0 r0 ∧ K r0 r1) := by
  subst hn_args
  subst hn_inputs
  unfold M_tool_listed at H
  refine Fn.enter (by kernel_rfl) Tryz.func99 rfl Tryz.ntmps99 rfl ?_
  replace H := H (Nat.le_trans hargs.cap hargs.max)
  replace H := H (Nat.le_trans hinputs.cap hinputs.max)
  refine WC.seq ?_
  refine WC.region ?_
  refine WL.y rfl (Yld.pure tab_ok rfl) ?_
  refine WL.y rfl (Yld.pure tab_ok rfl) ?_
  refine WL.nil (WX.then_normal ?_)
  refine WC.seq ?_
  refine WC.seq ?_
  refine WC.region ?_
  refine WL.y rfl (Yld.pure tab_ok rfl) ?_
  refine WL.nil (WX.then_normal ?_)
  refine WC.block ?_
  refine WC.seq ?_
  refine WC.region ?_
  refine WL.y rfl (Yld.pure tab_ok rfl) ?_
  refine WL.y rfl (Yld.pure tab_ok rfl) ?_
  refine WL.nil (WX.then_normal ?_)
  refine WC.cond rfl (fun b1 => ?_) (fun b1 => ?_)
  · replace H := H.1 (of_decide_eq_true b1)
    refine WC.seq ?_
    refine WC.region ?_
    refine WL.y rfl (Yld.pure tab_ok rfl) ?_
    refine WL.y rfl (Yld.pure tab_ok rfl) ?_
    refine WL.call rfl rfl (W_tool_lines hG hS100 hinputs rfl H) ?_
    rintro _ w1 ⟨hg1, t16, A_t16, c_t16, rfl, ht16, H⟩
    have hb1 := ht16.ge'
    have k1 := ht16.base (fun g hg => Nat.le_trans (Nat.le_refl _) (hb1 g hg))
    have gr1 := hg1
    refine WL.call rfl rfl (W_tool_filter (hG.grown gr1) hS100 (hargs.grown gr1) rfl k1.rd rfl H) ?_
    rintro _ w2 ⟨hg2, t170, A_t170, c_t170, t171, rfl, ht170, H⟩
    have hb2 := ht170.ge'
    have k2 := ht170.base (fun g hg => Nat.le_trans (size_le gr1) (hb2 g hg))
    have gr2 := gr_trans gr1 hg2
    refine WL.y rfl (Yld.pure tab_ok rfl) ?_
    refine WL.y rfl (Yld.pure tab_ok rfl) ?_
    refine WL.y rfl (Yld.pure tab_ok rfl) ?_
    refine WL.y rfl (Yld.pure tab_ok rfl) ?_
    refine WL.nil (WX.then_normal ?_)
    refine WC.ret (WX.block_ret (WX.then_ret ?_))
    exact WX.ret2 rfl rfl rfl ⟨gr2, t170, A_t170, c_t170, t171, rfl, k2, H⟩
  · replace H := H.2 (of_decide_eq_false b1)
    refine WC.seq ?_
    refine WC.region ?_
    refine WL.y rfl (Yld.pure tab_ok rfl) ?_
    refine WL.y rfl (Yld.pure tab_ok rfl) ?_
    refine WL.nil (WX.then_normal ?_)
    refine WC.cond rfl (fun b2 => ?_) (fun b2 => ?_)
    · replace H := H.1 (of_decide_eq_true b2)
      refine WC.seq ?_
      refine WC.region ?_
      refine WL.y rfl (Yld.pure tab_ok rfl) ?_
      refine WL.y rfl (Yld.pure tab_ok rfl) ?_
      refine WL.call rfl rfl (W_tool_lines hG hS100 hinputs rfl H) ?_
      rintro _ w3 ⟨hg3, t24, A_t24, c_t24, rfl, ht24, H⟩
      have hb3 := ht24.ge'
      have k3 := ht24.base (fun g hg => Nat.le_trans (Nat.le_refl _) (hb3 g hg))
      have gr3 := hg3
      refine WL.call rfl rfl (W_tool_sorted (hargs.grown gr3) rfl k3.rd rfl H) ?_
      rintro _ w4 ⟨hg4, t250, A_t250, c_t250, t251, rfl, ht250, H⟩
      have hb4 := ht250.ge'
      have k4 := ht250.base (fun g hg => Nat.le_trans (size_le gr3) (hb4 g hg))
      have gr4 := gr_trans gr3 hg4
      refine WL.y rfl (Yld.pure tab_ok rfl) ?_
      refine WL.y rfl (Yld.pure tab_ok rfl) ?_
      refine WL.y rfl (Yld.pure tab_ok rfl) ?_
      refine WL.y rfl (Yld.pure tab_ok rfl) ?_
      refine WL.nil (WX.then_normal ?_)
      refine WC.ret (WX.block_ret (WX.then_ret ?_))
      exact WX.ret2 rfl rfl rfl ⟨gr4, t250, A_t250, c_t250, t251, rfl, k4, H⟩
    · replace H := H.2 (of_decide_eq_false b2)
      refine WC.skip (WX.block_normal (WX.then_normal ?_))
      refine WC.seq ?_
      refine WC.region ?_
      refine WL.y rfl (Yld.pure tab_ok rfl) ?_
      refine WL.nil (WX.then_normal ?_)
      refine WC.seq ?_
      refine WC.seq ?_
      refine WC.region ?_
      refine WL.y rfl (Yld.pure tab_ok rfl) ?_
      refine WL.y rfl (Yld.pure tab_ok rfl) ?_
      refine WL.y rfl (Yld.pure tab_ok rfl) ?_
      refine WL.nil (WX.then_normal ?_)
      refine WC.block ?_
      obtain ⟨I1, mu1, h0_1, HR1⟩ := H
      refine WC.loopF (fun n' L' w' => ∃ (l : List (List UInt8)), ∃ (A_l : Option Addr), ∃ (c_l : Nat), ∃ (n_l : Nat), ∃ (t30 : Int), n' = mu1 l t30 ∧ L' = [(1, .slice A_args args.length c_args), (8, .slice A_l n_l c_l), (28, .slice A_inputs inputs.length c_inputs), (29, .int .i64 (inputs.length : Int)), (30, .int .i64 t30)] ∧ I1 l t30 ∧ n_l = l.length ∧ w.grownBy w' none ∧ Own vs w' w.heap.size 9 A_l c_l l) _ _ ⟨[], none, 0, 0, (0 : Int), rfl, rfl, h0_1, rfl, (gr_refl _ _), (Own.nil vs w w.heap.size 9)⟩ (by repeat (first | exact Sub.nil | refine Sub.cons rfl ?_)) ?_
      clear h0_1
      rintro _ _ w5 ⟨l, A_l, c_l, n_l, t30, rfl, rfl, hI1, rfl, gr5, k5⟩
      have H := HR1 l t30 hI1
      refine WC.seq ?_
      refine WC.region ?_
      refine WL.y rfl (Yld.pure tab_ok rfl) ?_
      refine WL.nil (WX.then_normal ?_)
      refine WC.seq ?_
      refine WC.cond rfl (fun b3 => ?_) (fun b3 => ?_)
      · replace H := H.1 (of_decide_eq_true b3)
        refine WC.skip (WX.then_normal ?_)
        refine WC.seq ?_
        refine WC.block ?_
        refine WC.seq ?_
        refine WC.region ?_
        obtain ⟨h1, H⟩ := H
        refine WL.y rfl (Yld.iaddrW tab_ok (hinputs.grown gr5) rfl rfl rfl rfl h1.1 h1.2) ?_
        refine WL.y rfl (Yld.iload [] tab_ok (hinputs.grown gr5) rfl rfl (iltN h1 rfl)) ?_
        refine WL.y rfl (Yld.pure tab_ok rfl) ?_
        refine WL.nil (WX.then_normal ?_)
        refine WC.region ?_
        refine WL.y rfl (Yld.pure tab_ok rfl) ?_
        refine WL.y rfl (Yld.pure tab_ok rfl) ?_
        obtain ⟨h2, H⟩ := H
        refine WL.s2b tab_ok rfl rfl rfl rfl rfl h2 (fun A_t36 c_t36 w6 hR1 hg5 hge1 => ?_)
        have gr6 := gr_trans gr5 hg5
        have k6 := k5.grown hg5
        refine WL.call rfl rfl (W_sha_Of hR1 rfl H) ?_
        rintro _ w7 ⟨hg6, t37, rfl, H⟩
        have gr7 := gr_trans gr6 hg6
        have k7 := k6.grown hg6
        refine WL.call rfl rfl (W_sha_Text H) ?_
        rintro _ w8 ⟨hg7, t38, rfl, H⟩
        have gr8 := gr_trans gr7 hg7
        have k8 := k7.grown hg7
        refine WL.lit tab_ok rfl rfl rfl (all1c rfl all1n) rfl (by omega) (fun g1 w9 hB1 hg8 hl1 => ?_)
        have hO1 : Own vs w9 w.heap.size 9 (some ⟨g1, 0, none⟩) 1 ([t38] : List (List UInt8)) := Own.ofBl hB1 (Nat.le_trans (size_le gr8) hl1) (by simp [maxLen]) rfl
        have gr9 := gr_trans gr8 hg8
        have k9 := k8.grown hg8
        obtain ⟨h3, H⟩ := H
        refine WL.append tab_ok rfl rfl One.s k9 rfl rfl hO1.rd rfl rfl h3 (applen h3) (size_le gr9) (fun A_l2 c_l2 w10 hO2 hg9 hk1 => ?_)
        have gr10 := gr_mod gr9 hg9 k9.ge'
        refine WL.y rfl (Yld.pure tab_ok rfl) ?_
        refine WL.nil (WX.block_normal (WX.then_normal ?_))
        refine WC.region ?_
        obtain ⟨h4, H⟩ := H
        refine WL.y rfl (Yld.add rfl rfl h4) ?_
        refine WL.y rfl (Yld.pure tab_ok rfl) ?_
        refine WL.nil ?_
        exact WX.roundF _ ⟨l ++ ([t38] : List (List UInt8)), A_l2, c_l2, (l ++ ([t38] : List (List UInt8))).length, t30 + (1 : Int), rfl, rfl, H.1, rfl, gr10, hO2⟩ (by repeat (first | exact Sub.nil | refine Sub.cons rfl ?_)) H.2
      · replace H := H.2 (of_decide_eq_false b3)
        refine WC.exit (WX.then_exit (WX.then_exit (WX.block_same (WX.then_normal ?_))))
        refine WC.seq ?_
        refine WC.region ?_
        refine WL.y rfl (Yld.pure tab_ok rfl) ?_
        refine WL.y rfl (Yld.pure tab_ok rfl) ?_
        refine WL.y rfl (Yld.pure tab_ok rfl) ?_
        refine WL.y rfl (Yld.pure tab_ok rfl) ?_
        refine WL.y rfl (Yld.pure tab_ok rfl) ?_
        refine WL.y rfl (Yld.pure tab_ok rfl) ?_
        refine WL.nil (WX.then_normal ?_)
        refine WC.ret ?_
        exact WX.ret2 rfl rfl rfl ⟨gr5, l, A_l, c_l, decide ((args.length : Int) = (0 : Int)), rfl, k5, H⟩

set_option maxHeartbeats 8000000 in
theorem W_tool_substitute {S : List Nat} {w : World} {args : List (List UInt8)} {A_args : Option Addr} {c_args : Nat} {inputs : List (List UInt8)} {A_inputs : Option Addr} {c_inputs : Nat} {n_args : Nat} {n_inputs : Nat} {K : (List UInt8) → Er → Prop} (hG : GOK S w) (hS16 : 16 ∈ S) (hS100 : 100 ∈ S) (hargs : Rd vs w A_args c_args args) (hn_args : n_args = args.length) (hinputs : Rd vs w A_inputs c_inputs inputs) (hn_inputs : n_inputs = inputs.length) (H : M_tool_substitute args inputs K) : Fn Tryz.prog 98 ⟨[.slice A_args n_args c_args, .slice A_inputs n_inputs c_inputs]⟩ w (fun v w' => w.grownBy w' none ∧ ∃ (r0 : List UInt8), ∃ (v_r1 : Value), ∃ (r1 : Er), v = .tuple #[vs r0, v_r1] ∧ ErrR S w' v_r1 r1 ∧ K r0 r1) := by
  subst hn_args
  subst hn_inputs
  unfold M_tool_substitute at H
  refine Fn.enter (by kernel_rfl) Tryz.func98 rfl Tryz.ntmps98 rfl ?_
  replace H := H (Nat.le_trans hargs.cap hargs.max)
  replace H := H (Nat.le_trans hinputs.cap hinputs.max)
  refine WC.seq ?_
  refine WC.region ?_
  refine WL.y rfl (Yld.pure tab_ok rfl) ?_
  refine WL.y rfl (Yld.pure tab_ok rfl) ?_
  refine WL.nil (WX.then_normal ?_)
  refine WC.seq ?_
  refine WC.seq ?_
  refine WC.region ?_
  refine WL.y rfl (Yld.pure tab_ok rfl) ?_
  refine WL.y rfl (Yld.pure tab_ok rfl) ?_
  obtain ⟨h1, H⟩ := H
  refine WL.y rfl (Yld.rem rfl rfl h1.1 h1.2) ?_
  refine WL.y rfl (Yld.pure tab_ok rfl) ?_
  refine WL.nil (WX.then_normal ?_)
  refine WC.cond rfl (fun b1 => ?_) (fun b1 => ?_)
  · replace H := H.1 (nd_true b1)
    refine WC.seq ?_
    refine WC.quiet mixed (by kernel_rfl) ?_
    obtain ⟨vE1, _, hE1⟩ := GOK.get hG 16 5 hS16 rfl rfl
    refine WQ.y rfl (Yld.cell tab_ok (ErrR.cell hE1 rfl) rfl rfl) ?_
    refine WQ.y rfl (Yld.pure tab_ok rfl) ?_
    refine WQ.y rfl (Yld.pure tab_ok rfl) ?_
    refine WQ.nil (WX.then_normal ?_)
    refine WC.ret (WX.then_ret ?_)
    exact WX.ret2 rfl rfl rfl ⟨(gr_refl _ _), ([] : List UInt8), vE1, (Er.e 16), rfl, hE1, H⟩
  · replace H := H.2 (nd_false b1)
    refine WC.skip (WX.then_normal ?_)
    refine WC.seq ?_
    refine WC.region ?_
    refine WL.y rfl (Yld.pure tab_ok rfl) ?_
    refine WL.call rfl rfl (W_tool_joined hG hS16 hinputs rfl H) ?_
    rintro _ w1 ⟨hg1, t180, v_t181, t181, rfl, ht181, H⟩
    have gr1 := hg1
    refine WL.y rfl (Yld.pure tab_ok rfl) ?_
    refine WL.y rfl (Yld.pure tab_ok rfl) ?_
    refine WL.y rfl (Yld.pure tab_ok rfl) ?_
    refine WL.y rfl (Yld.pure tab_ok rfl) ?_
    refine WL.y rfl (Yld.pure tab_ok rfl) ?_
    refine WL.nil (WX.then_normal ?_)
    refine WC.seq ?_
    refine WC.seq ?_
    refine WC.region ?_
    refine WL.y rfl (Yld.pure tab_ok rfl) ?_
    refine WL.y rfl (Yld.errneq Tryz.underlying29 ht181 rfl) ?_
    refine WL.nil (WX.then_normal ?_)
    refine WC.cond rfl (fun b2 => ?_) (fun b2 => ?_)
    · replace H := H.1 (nd_true b2)
      refine WC.seq ?_
      refine WC.region ?_
      refine WL.y rfl (Yld.pure tab_ok rfl) ?_
      refine WL.y rfl (Yld.pure tab_ok rfl) ?_
      refine WL.y rfl (Yld.pure tab_ok rfl) ?_
      refine WL.nil (WX.then_normal ?_)
      refine WC.ret (WX.then_ret ?_)
      exact WX.ret2 rfl rfl rfl ⟨gr1, ([] : List UInt8), v_t181, t181, rfl, ht181, H⟩
    · replace H := H.2 (nd_false b2)
      refine WC.skip (WX.then_normal ?_)
      refine WC.seq ?_
      refine WC.seq ?_
      refine WC.region ?_
      refine WL.y rfl (Yld.pure tab_ok rfl) ?_
      refine WL.nil (WX.then_normal ?_)
      refine WC.block ?_
      obtain ⟨I1, mu1, h0_1, HR1⟩ := H
      refine WC.loopF (fun n' L' w' => ∃ (s : List UInt8), ∃ (i : Int), n' = mu1 s i ∧ L' = [(0, .slice A_args args.length c_args), (6, vs s), (8, .int .i64 i)] ∧ I1 s i ∧ w.grownBy w' none) _ _ ⟨t180, (0 : Int), rfl, rfl, h0_1, gr1⟩ (by repeat (first | exact Sub.nil | refine Sub.cons rfl ?_)) ?_
      clear h0_1
      rintro _ _ w2 ⟨s, i, rfl, rfl, hI1, gr2⟩
      have H := HR1 s i hI1
      refine WC.seq ?_
      refine WC.seq ?_
      refine WC.region ?_
      refine WL.y rfl (Yld.pure tab_ok rfl) ?_
      refine WL.y rfl (Yld.pure tab_ok rfl) ?_
      refine WL.y rfl (Yld.pure tab_ok rfl) ?_
      refine WL.y rfl (Yld.pure tab_ok rfl) ?_
      refine WL.nil (WX.then_normal ?_)
      refine WC.cond rfl (fun b3 => ?_) (fun b3 => ?_)
      · replace H := H.1 (of_decide_eq_true b3)
        refine WC.skip (WX.then_normal ?_)
        refine WC.seq ?_
        refine WC.block ?_
        refine WC.seq ?_
        refine WC.seq ?_
        refine WC.region ?_
        refine WL.y rfl (Yld.pure tab_ok rfl) ?_
        refine WL.y rfl (Yld.pure tab_ok rfl) ?_
        obtain ⟨h2, H⟩ := H
        refine WL.y rfl (Yld.iaddrW tab_ok (hargs.grown gr2) rfl rfl rfl rfl h2.1 h2.2) ?_
        refine WL.y rfl (Yld.iload [] tab_ok (hargs.grown gr2) rfl rfl (iltN h2 rfl)) ?_
        refine WL.y rfl (Yld.pure tab_ok rfl) ?_
        refine WL.nil (WX.then_normal ?_)
        refine WC.cond rfl (fun b4 => ?_) (fun b4 => ?_)
        · replace H := H.1 (of_decide_eq_true b4)
          refine WC.seq ?_
          refine WC.quiet mixed (by kernel_rfl) ?_
          obtain ⟨vE2, _, hE2⟩ := GOK.get (hG.grown gr2) 16 5 hS16 rfl rfl
          refine WQ.y rfl (Yld.cell tab_ok (ErrR.cell hE2 rfl) rfl rfl) ?_
          refine WQ.y rfl (Yld.pure tab_ok rfl) ?_
          refine WQ.y rfl (Yld.pure tab_ok rfl) ?_
          refine WQ.nil (WX.then_normal ?_)
          refine WC.ret (WX.then_ret (WX.block_ret (WX.then_ret (WX.then_ret (WX.block_ret (WX.then_ret ?_))))))
          exact WX.ret2 rfl rfl rfl ⟨gr2, ([] : List UInt8), vE2, (Er.e 16), rfl, hE2, H⟩
        · replace H := H.2 (of_decide_eq_false b4)
          refine WC.skip (WX.then_normal ?_)
          refine WC.seq ?_
          refine WC.region ?_
          refine WL.y rfl (Yld.pure tab_ok rfl) ?_
          refine WL.y rfl (Yld.pure tab_ok rfl) ?_
          refine WL.y rfl (Yld.pure tab_ok rfl) ?_
          obtain ⟨h3, H⟩ := H
          refine WL.y rfl (Yld.iaddrW tab_ok (hargs.grown gr2) rfl rfl rfl rfl h3.1 h3.2) ?_
          refine WL.y rfl (Yld.iload [] tab_ok (hargs.grown gr2) rfl rfl (iltN h3 rfl)) ?_
          refine WL.call rfl rfl (W_strings_Count (hG.grown gr2) hS100 H) ?_
          rintro _ _ ⟨rfl, n, rfl, H⟩
          refine WL.y rfl (Yld.pure tab_ok rfl) ?_
          refine WL.nil (WX.then_normal ?_)
          refine WC.seq ?_
          refine WC.seq ?_
          refine WC.quiet mixed (by kernel_rfl) ?_
          refine WQ.y rfl (Yld.pure tab_ok rfl) ?_
          refine WQ.y rfl (Yld.pure tab_ok rfl) ?_
          obtain ⟨h4, H⟩ := H
          refine WQ.y rfl (Yld.add rfl rfl h4) ?_
          obtain ⟨h5, H⟩ := H
          refine WQ.y rfl (Yld.iaddrW tab_ok (hargs.grown gr2) rfl rfl rfl rfl h5.1 h5.2) ?_
          refine WQ.y rfl (Yld.iload [] tab_ok (hargs.grown gr2) rfl rfl (iltN h5 rfl)) ?_
          refine WQ.y rfl (Yld.pure tab_ok rfl) ?_
          refine WQ.y rfl (Yld.pure tab_ok rfl) ?_
          refine WQ.y rfl (Yld.pure tab_ok rfl) ?_
          obtain ⟨h6, H⟩ := H
          refine WQ.y rfl (Yld.iaddrW tab_ok (hargs.grown gr2) rfl rfl rfl rfl h6.1 h6.2) ?_
          refine WQ.y rfl (Yld.iload [] tab_ok (hargs.grown gr2) rfl rfl (iltN h6 rfl)) ?_
          refine WQ.y rfl (Yld.pure tab_ok rfl) ?_
          obtain ⟨h7, H⟩ := H
          refine WQ.y rfl (Yld.sub rfl rfl h7) ?_
          refine WQ.y rfl (Yld.pure tab_ok rfl) ?_
          refine WQ.nil (WX.then_normal ?_)
          refine WC.seq ?_
          refine WC.region ?_
          refine WL.y rfl (Yld.pure tab_ok rfl) ?_
          refine WL.y rfl (Yld.pure tab_ok rfl) ?_
          refine WL.y rfl (Yld.pure tab_ok rfl) ?_
          obtain ⟨h8, H⟩ := H
          obtain ⟨h9, H⟩ := H
          refine WL.midF 8 (fun L' w' => ∃ q1 : Bool, L' = [(64, .bool q1), (0, .slice A_args args.length c_args), (6, vs s), (8, .int .i64 i)] ∧ ((decide ((0 : Int) < (((args.getD ((i + (1 : Int)).toNat) []).length : Int) - ((args.getD i.toNat []).length : Int)))) && (decide ((((65536 : Int) - (s.length : Int)) / (((args.getD ((i + (1 : Int)).toNat) []).length : Int) - ((args.getD i.toNat []).length : Int))) < n))) = q1 ∧ w2 = w') ?_ (fun hQ => ?_)
          · rintro _ _ ⟨q1, rfl, rfl, rfl⟩
            refine WL.nil (WX.then_normal ?_)
            refine WC.cond rfl (fun b5 => ?_) (fun b5 => ?_)
            · replace H := H.1 (b5)
              refine WC.seq ?_
              refine WC.quiet mixed (by kernel_rfl) ?_
              obtain ⟨vE3, _, hE3⟩ := GOK.get (hG.grown gr2) 16 5 hS16 rfl rfl
              refine WQ.y rfl (Yld.cell tab_ok (ErrR.cell hE3 rfl) rfl rfl) ?_
              refine WQ.y rfl (Yld.pure tab_ok rfl) ?_
              refine WQ.y rfl (Yld.pure tab_ok rfl) ?_
              refine WQ.nil (WX.then_normal ?_)
              refine WC.ret (WX.then_ret (WX.block_ret (WX.then_ret (WX.then_ret (WX.block_ret (WX.then_ret ?_))))))
              exact WX.ret2 rfl rfl rfl ⟨gr2, ([] : List UInt8), vE3, (Er.e 16), rfl, hE3, H⟩
            · replace H := H.2 (b5)
              refine WC.skip (WX.then_normal ?_)
              refine WC.chainF (fun k => !(Nat.beq k 10)) (LD [4, 9] (fun w' => Rd vs w' A_args c_args args)) mixed (by kernel_rfl) (fun k w' h _ => (rd_eqv h (hargs.grown gr2))) ?_
              refine WJ.y rfl rfl (fun w' hw' => Yld.pure tab_ok rfl) ?_
              refine WJ.y rfl rfl (fun w' hw' => Yld.pure tab_ok rfl) ?_
              refine WJ.y rfl rfl (fun w' hw' => Yld.pure tab_ok rfl) ?_
              obtain ⟨h10, H⟩ := H
              refine WJ.y rfl rfl (fun w' hw' => Yld.iaddrW tab_ok (hargs.grown gr2) rfl rfl rfl rfl h10.1 h10.2) ?_
              refine WJ.y rfl rfl (fun w' hw' => Yld.iload [] tab_ok (hw' rfl) rfl rfl (iltN h10 rfl)) ?_
              refine WJ.y rfl rfl (fun w' hw' => Yld.pure tab_ok rfl) ?_
              refine WJ.y rfl rfl (fun w' hw' => Yld.pure tab_ok rfl) ?_
              obtain ⟨h11, H⟩ := H
              refine WJ.y rfl rfl (fun w' hw' => Yld.add rfl rfl h11) ?_
              obtain ⟨h12, H⟩ := H
              refine WJ.y rfl rfl (fun w' hw' => Yld.iaddrW tab_ok (hargs.grown gr2) rfl rfl rfl rfl h12.1 h12.2) ?_
              refine WJ.y rfl rfl (fun w' hw' => Yld.iload [] tab_ok (hw' rfl) rfl rfl (iltN h12 rfl)) ?_
              refine WJ.call rfl (wants_none) rfl rfl (W_strings_ReplaceAll (hG.grown gr2) hS100 H) (fun v w' h w2 e => DD.keep (Rd.grown (hargs.grown gr2) (gr_eqv h.1 e))) ?_
              rintro _ w3 ⟨hg2, s2, rfl, H⟩
              have gr3 := gr_trans gr2 hg2
              refine WJ.y rfl rfl (fun w' hw' => Yld.pure tab_ok rfl) ?_
              refine WJ.nil (WX.block_normal (WX.then_normal ?_))
              refine WC.region ?_
              refine WL.y rfl (Yld.pure tab_ok rfl) ?_
              obtain ⟨h13, H⟩ := H
              refine WL.y rfl (Yld.add rfl rfl h13) ?_
              refine WL.y rfl (Yld.pure tab_ok rfl) ?_
              refine WL.nil ?_
              exact WX.roundF _ ⟨s2, i + (2 : Int), rfl, rfl, H.1, gr3⟩ (by repeat (first | exact Sub.nil | refine Sub.cons rfl ?_)) H.2
          · clear H
            rcases Bool.eq_false_or_eq_true (decide ((0 : Int) < (((args.getD ((i + (1 : Int)).toNat) []).length : Int) - ((args.getD i.toNat []).length : Int)))) with b6 | b6
            · refine WL.gyes rfl rfl (okb b6) rfl (Yld.pure tab_ok rfl) ?_
              refine WL.gyes rfl rfl (okb b6) rfl (Yld.pure tab_ok rfl) ?_
              refine WL.gyes rfl rfl (okb b6) rfl (Yld.pure tab_ok rfl) ?_
              refine WL.gyes rfl rfl (okb b6) rfl (Yld.sub rfl rfl (h8 b6)) ?_
              refine WL.gyes rfl rfl (okb b6) rfl (Yld.pure tab_ok rfl) ?_
              refine WL.gyes rfl rfl (okb b6) rfl (Yld.quo rfl rfl (h9 b6).1 (h9 b6).2.1 (h9 b6).2.2) ?_
              refine WL.gyes rfl rfl (okb b6) rfl (Yld.pure tab_ok rfl) ?_
              refine WL.y rfl (Yld.pickT (okb b6) rfl) ?_
              exact WL.weaken (by repeat (first | exact Sub.nil | refine Sub.cons rfl ?_)) (hQ _ _ ⟨decide ((((65536 : Int) - (s.length : Int)) / (((args.getD ((i + (1 : Int)).toNat) []).length : Int) - ((args.getD i.toNat []).length : Int))) < n), rfl, by rw [b6] <;> rfl, rfl⟩)
            · refine WL.gno rfl rfl (okb b6) rfl ?_
              refine WL.gno rfl rfl (okb b6) rfl ?_
              refine WL.gno rfl rfl (okb b6) rfl ?_
              refine WL.gno rfl rfl (okb b6) rfl ?_
              refine WL.gno rfl rfl (okb b6) rfl ?_
              refine WL.gno rfl rfl (okb b6) rfl ?_
              refine WL.gno rfl rfl (okb b6) rfl ?_
              refine WL.y rfl (Yld.pickF (okb b6) rfl) ?_
              exact WL.weaken (by repeat (first | exact Sub.nil | refine Sub.cons rfl ?_)) (hQ _ _ ⟨false, rfl, by rw [b6] <;> rfl, rfl⟩)
      · replace H := H.2 (of_decide_eq_false b3)
        refine WC.exit (WX.then_exit (WX.then_exit (WX.block_same (WX.then_normal ?_))))
        refine WC.seq ?_
        refine WC.region ?_
        refine WL.y rfl (Yld.pure tab_ok rfl) ?_
        refine WL.y rfl (Yld.pure tab_ok rfl) ?_
        refine WL.y rfl (Yld.pure tab_ok rfl) ?_
        refine WL.nil (WX.then_normal ?_)
        refine WC.ret ?_
        exact WX.ret2 rfl rfl rfl ⟨gr2, s, .nilIface, Er.ok, rfl, (ErrR.okR (S := S) (w := w2)), H⟩

set_option maxHeartbeats 8000000 in
theorem W_tool_Do {S : List Nat} {w : World} {tool : Int} {args : List (List UInt8)} {A_args : Option Addr} {c_args : Nat} {inputs : List (List UInt8)} {A_inputs : Option Addr} {c_inputs : Nat} {n_args : Nat} {n_inputs : Nat} {K : (List UInt8) → Er → Prop} (hG : GOK S w) (hS10 : 10 ∈ S) (hS16 : 16 ∈ S) (hS100 : 100 ∈ S) (hargs : Rd vs w A_args c_args args) (hn_args : n_args = args.length) (hinputs : Rd vs w A_inputs c_inputs inputs) (hn_inputs : n_inputs = inputs.length) (H : M_tool_Do tool args inputs K) : Fn Tryz.prog 70 ⟨[.int .i64 tool, .slice A_args n_args c_args, .slice A_inputs n_inputs c_inputs]⟩ w (fun v w' => w.grownBy w' none ∧ ∃ (r0 : List UInt8), ∃ (v_r1 : Value), ∃ (r1 : Er), v = .tuple #[vs r0, v_r1] ∧ ErrR S w' v_r1 r1 ∧ K r0 r1) := by
  subst hn_args
  subst hn_inputs
  unfold M_tool_Do at H
  refine Fn.enter (by kernel_rfl) Tryz.func70 rfl Tryz.ntmps70 rfl ?_
  replace H := H (Nat.le_trans hargs.cap hargs.max)
  replace H := H (Nat.le_trans hinputs.cap hinputs.max)
  refine WC.seq ?_
  refine WC.region ?_
  refine WL.y rfl (Yld.pure tab_ok rfl) ?_
  refine WL.y rfl (Yld.pure tab_ok rfl) ?_
  refine WL.nil (WX.then_normal ?_)
  refine WC.seq ?_
  refine WC.region ?_
  refine WL.y rfl (Yld.pure tab_ok rfl) ?_
  refine WL.y rfl (Yld.pure tab_ok rfl) ?_
  refine WL.nil (WX.then_normal ?_)
  refine WC.seq ?_
  refine WC.region ?_
  refine WL.y rfl (Yld.pure tab_ok rfl) ?_
  refine WL.nil (WX.then_normal ?_)
  refine WC.seq ?_
  refine WC.seq ?_
  refine WC.region ?_
  refine WL.y rfl (Yld.pure tab_ok rfl) ?_
  refine WL.nil (WX.then_normal ?_)
  refine WC.block ?_
  refine WC.seq ?_
  obtain ⟨J1, H, hJ1⟩ := H
  refine WC.midF (fun L' w' => ∃ (args2 : List (List UInt8)), ∃ (A_args2 : Option Addr), ∃ (c_args2 : Nat), ∃ (n_args : Nat), ∃ (inputs2 : List (List UInt8)), ∃ (A_inputs2 : Option Addr), ∃ (c_inputs2 : Nat), ∃ (n_inputs : Nat), ∃ (end_ : List UInt8), ∃ (is : Bool), L' = [(1, .slice A_args2 n_args c_args2), (2, .slice A_inputs2 n_inputs c_inputs2), (8, vs ([] : List UInt8)), (9, vs end_), (10, .bool is)] ∧ J1 args2 inputs2 end_ is ∧ n_args = args2.length ∧ n_inputs = inputs2.length ∧ w.grownBy w' none ∧ Rd vs w' A_args2 c_args2 args2 ∧ Rd vs w' A_inputs2 c_inputs2 inputs2 ∧ Orig (args2 ≠ []) (blk A_args2) w.heap.size [(args ≠ [], blk A_args), (inputs ≠ [], blk A_inputs)] ∧ Orig (inputs2 ≠ []) (blk A_inputs2) w.heap.size [(args ≠ [], blk A_args), (inputs ≠ [], blk A_inputs)]) ?_ (fun hQ => ?_)
  · clear H
    rintro _ w1 ⟨args2, A_args2, c_args2, n_args, inputs2, A_inputs2, c_inputs2, n_inputs, end_, is, rfl, H, rfl, rfl, gr1, k1, k2, or1, or2⟩
    replace H := hJ1 args2 inputs2 end_ is H
    refine WX.then_normal ?_
    refine WC.seq ?_
    refine WC.seq ?_
    refine WC.seq ?_
    refine WC.region ?_
    refine WL.y rfl (Yld.pure tab_ok rfl) ?_
    refine WL.y rfl (Yld.pure tab_ok rfl) ?_
    refine WL.y rfl (Yld.pure tab_ok rfl) ?_
    refine WL.midF 4 (fun L' w' => ∃ q1 : Bool, L' = [(38, .bool q1), (1, .slice A_args2 args2.length c_args2), (2, .slice A_inputs2 inputs2.length c_inputs2), (8, vs ([] : List UInt8)), (9, vs end_)] ∧ ((!is) || (decide ((1 : Int) < (args2.length : Int)))) = q1 ∧ w1 = w') ?_ (fun hQ => ?_)
    · rintro _ _ ⟨q1, rfl, rfl, rfl⟩
      refine WL.nil (WX.then_normal ?_)
      refine WC.cond rfl (fun b1 => ?_) (fun b1 => ?_)
      · replace H := H.1 (b1)
        refine WC.seq ?_
        refine WC.quiet mixed (by kernel_rfl) ?_
        obtain ⟨vE1, _, hE1⟩ := GOK.get (hG.grown gr1) 16 5 hS16 rfl rfl
        refine WQ.y rfl (Yld.cell tab_ok (ErrR.cell hE1 rfl) rfl rfl) ?_
        refine WQ.y rfl (Yld.pure tab_ok rfl) ?_
        refine WQ.y rfl (Yld.pure tab_ok rfl) ?_
        refine WQ.nil (WX.then_normal ?_)
        refine WC.ret (WX.then_ret (WX.then_ret (WX.block_ret (WX.then_ret ?_))))
        exact WX.ret2 rfl rfl rfl ⟨gr1, ([] : List UInt8), vE1, (Er.e 16), rfl, hE1, H⟩
      · replace H := H.2 (b1)
        refine WC.skip (WX.then_normal ?_)
        refine WC.seq ?_
        obtain ⟨J2, H, hJ2⟩ := H
        refine WC.midF (fun L' w' => ∃ (by_ : List UInt8), L' = [(2, .slice A_inputs2 inputs2.length c_inputs2), (8, vs by_), (9, vs end_)] ∧ J2 by_ ∧ w1 = w') ?_ (fun hQ => ?_)
        · clear H
          rintro _ _ ⟨by_, rfl, H, rfl⟩
          replace H := hJ2 by_ H
          refine WX.then_normal ?_
          refine WC.seq ?_
          refine WC.region ?_
          refine WL.y rfl (Yld.pure tab_ok rfl) ?_
          refine WL.y rfl (Yld.pure tab_ok rfl) ?_
          refine WL.y rfl (Yld.pure tab_ok rfl) ?_
          refine WL.call rfl rfl (W_tool_joined (hG.grown gr1) hS16 k2 rfl H) ?_
          rintro _ w2 ⟨hg1, t490, v_t491, t491, rfl, ht491, H⟩
          have gr2 := gr_trans gr1 hg1
          refine WL.y rfl (Yld.pure tab_ok rfl) ?_
          refine WL.y rfl (Yld.pure tab_ok rfl) ?_
          refine WL.y rfl (Yld.pure tab_ok rfl) ?_
          refine WL.y rfl (Yld.pure tab_ok rfl) ?_
          refine WL.nil (WX.then_normal ?_)
          refine WC.ret (WX.then_ret (WX.block_ret (WX.then_ret ?_)))
          exact WX.ret2 rfl rfl rfl ⟨gr2, t490, v_t491, t491, rfl, ht491, H⟩
        · clear hJ2
          refine WC.seq ?_
          refine WC.region ?_
          refine WL.y rfl (Yld.pure tab_ok rfl) ?_
          refine WL.y rfl (Yld.pure tab_ok rfl) ?_
          refine WL.y rfl (Yld.pure tab_ok rfl) ?_
          refine WL.nil (WX.then_normal ?_)
          refine WC.cond rfl (fun b2 => ?_) (fun b2 => ?_)
          · replace H := H.1 (of_decide_eq_true b2)
            refine WC.region ?_
            refine WL.y rfl (Yld.pure tab_ok rfl) ?_
            obtain ⟨h1, H⟩ := H
            refine WL.y rfl (Yld.iaddrW tab_ok k1 rfl rfl rfl rfl h1.1 h1.2) ?_
            refine WL.y rfl (Yld.iload [] tab_ok k1 rfl rfl (iltN h1 rfl)) ?_
            refine WL.y rfl (Yld.pure tab_ok rfl) ?_
            refine WL.nil ?_
            exact WX.weaken (by repeat (first | exact Sub.nil | refine Sub.cons rfl ?_)) (hQ _ _ ⟨args2.getD 0 [], rfl, H, rfl⟩)
          · replace H := H.2 (of_decide_eq_false b2)
            refine WC.skip ?_
            exact WX.weaken (by repeat (first | exact Sub.nil | refine Sub.cons rfl ?_)) (hQ _ _ ⟨([] : List UInt8), rfl, H, rfl⟩)
    · clear H
      rcases Bool.eq_false_or_eq_true (!is) with b3 | b3
      · refine WL.gno rfl rfl (okb b3) rfl ?_
        refine WL.gno rfl rfl (okb b3) rfl ?_
        refine WL.gno rfl rfl (okb b3) rfl ?_
        refine WL.y rfl (Yld.pickT (okb b3) rfl) ?_
        exact WL.weaken (by repeat (first | exact Sub.nil | refine Sub.cons rfl ?_)) (hQ _ _ ⟨true, rfl, by rw [b3] <;> rfl, rfl⟩)
      · refine WL.gyes rfl rfl (okb b3) rfl (Yld.pure tab_ok rfl) ?_
        refine WL.gyes rfl rfl (okb b3) rfl (Yld.pure tab_ok rfl) ?_
        refine WL.gyes rfl rfl (okb b3) rfl (Yld.pure tab_ok rfl) ?_
        refine WL.y rfl (Yld.pickF (okb b3) rfl) ?_
        exact WL.weaken (by repeat (first | exact Sub.nil | refine Sub.cons rfl ?_)) (hQ _ _ ⟨decide ((1 : Int) < (args2.length : Int)), rfl, by rw [b3] <;> rfl, rfl⟩)
  · clear hJ1
    refine WC.block ?_
    refine WC.seq ?_
    refine WC.block ?_
    refine WC.seq ?_
    refine WC.block ?_
    refine WC.seq ?_
    refine WC.seq ?_
    refine WC.seq ?_
    refine WC.region ?_
    refine WL.y rfl (Yld.pure tab_ok rfl) ?_
    refine WL.y rfl (Yld.pure tab_ok rfl) ?_
    refine WL.nil (WX.then_normal ?_)
    refine WC.cond rfl (fun b4 => ?_) (fun b4 => ?_)
    · replace H := H.1 (of_decide_eq_true b4)
      refine WC.exit (WX.then_exit (WX.then_exit (WX.block_same (WX.then_normal ?_))))
      refine WC.seq ?_
      refine WC.seq ?_
      refine WC.region ?_
      refine WL.y rfl (Yld.pure tab_ok rfl) ?_
      refine WL.y rfl (Yld.pure tab_ok rfl) ?_
      refine WL.call rfl rfl (W_tool_substitute hG hS16 hS100 hargs rfl hinputs rfl H) ?_
      rintro _ w3 ⟨hg2, t220, v_t221, t221, rfl, ht221, H⟩
      have gr3 := hg2
      refine WL.y rfl (Yld.pure tab_ok rfl) ?_
      refine WL.y rfl (Yld.pure tab_ok rfl) ?_
      refine WL.y rfl (Yld.pure tab_ok rfl) ?_
      refine WL.y rfl (Yld.pure tab_ok rfl) ?_
      refine WL.nil (WX.then_normal ?_)
      refine WC.ret (WX.then_ret (WX.block_ret (WX.then_ret (WX.block_ret (WX.then_ret (WX.block_ret (WX.then_ret ?_)))))))
      exact WX.ret2 rfl rfl rfl ⟨gr3, t220, v_t221, t221, rfl, ht221, H⟩
    · replace H := H.2 (of_decide_eq_false b4)
      refine WC.skip (WX.then_normal ?_)
      refine WC.seq ?_
      refine WC.seq ?_
      obtain ⟨J3, H, hJ3⟩ := H
      refine WC.midF (fun L' w' => ∃ (t14 : Bool), L' = [(0, .int .i64 tool), (1, .slice A_args args.length c_args), (2, .slice A_inputs inputs.length c_inputs), (8, vs ([] : List UInt8)), (9, vs ([] : List UInt8)), (10, .bool true), (11, .int .i64 tool), (14, .bool t14)] ∧ J3 t14 ∧ w = w') ?_ (fun hQ1 => ?_)
      · clear H
        rintro _ _ ⟨t14, rfl, H, rfl⟩
        replace H := hJ3 t14 H
        refine WX.then_normal ?_
        refine WC.cond rfl (fun b5 => ?_) (fun b5 => ?_)
        · replace H := H.1 (b5)
          refine WC.exit (WX.then_exit (WX.then_exit (WX.block_other rfl (WX.then_exit (WX.block_same (WX.then_normal ?_))))))
          refine WC.seq ?_
          refine WC.region ?_
          refine WL.y rfl (Yld.pure tab_ok rfl) ?_
          refine WL.y rfl (Yld.pure tab_ok rfl) ?_
          refine WL.y rfl (Yld.pure tab_ok rfl) ?_
          refine WL.call rfl rfl (W_tool_listed hG hS100 hargs rfl hinputs rfl H) ?_
          rintro _ w4 ⟨hg3, t290, A_t290, c_t290, t291, rfl, ht290, H⟩
          have hb1 := ht290.ge'
          have k3 := ht290.base (fun g hg => Nat.le_trans (Nat.le_refl _) (hb1 g hg))
          have gr4 := hg3
          refine WL.y rfl (Yld.pure tab_ok rfl) ?_
          refine WL.y rfl (Yld.pure tab_ok rfl) ?_
          refine WL.y rfl (Yld.pure tab_ok rfl) ?_
          refine WL.y rfl (Yld.pure tab_ok rfl) ?_
          refine WL.y rfl (Yld.pure tab_ok rfl) ?_
          refine WL.nil (WX.then_normal ?_)
          refine WC.region ?_
          refine WL.y rfl (Yld.pure tab_ok rfl) ?_
          refine WL.y rfl (Yld.pure tab_ok rfl) ?_
          refine WL.nil (WX.block_normal ?_)
          exact WX.weaken (by repeat (first | exact Sub.nil | refine Sub.cons rfl ?_)) (hQ _ _ ⟨[], none, 0, 0, t290, A_t290, c_t290, t290.length, ([10] : List UInt8), t291, rfl, H, rfl, rfl, gr4, (Own.nil vs w4 w.heap.size 9).rd, k3.rd, (Orig.new Ge.none), (Orig.new k3.ge')⟩)
        · replace H := H.2 (b5)
          refine WC.skip (WX.then_normal ?_)
          refine WC.seq ?_
          refine WC.region ?_
          refine WL.y rfl (Yld.pure tab_ok rfl) ?_
          refine WL.y rfl (Yld.pure tab_ok rfl) ?_
          refine WL.nil (WX.then_normal ?_)
          refine WC.cond rfl (fun b6 => ?_) (fun b6 => ?_)
          · replace H := H.1 (of_decide_eq_true b6)
            refine WC.exit (WX.then_exit (WX.block_other rfl (WX.then_exit (WX.block_other rfl (WX.then_exit (WX.block_same ?_))))))
            exact WX.weaken (by repeat (first | exact Sub.nil | refine Sub.cons rfl ?_)) (hQ _ _ ⟨args, A_args, c_args, args.length, inputs, A_inputs, c_inputs, inputs.length, ([] : List UInt8), true, rfl, H, rfl, rfl, (gr_refl _ _), hargs, hinputs, (Orig.par (List.Mem.head _)), (Orig.par (List.Mem.tail _ (List.Mem.head _)))⟩)
          · replace H := H.2 (of_decide_eq_false b6)
            refine WC.skip (WX.then_normal ?_)
            refine WC.exit (WX.block_other rfl (WX.then_exit (WX.block_other rfl (WX.then_exit (WX.block_other rfl (WX.then_exit (WX.block_same (WX.then_normal ?_))))))))
            refine WC.seq ?_
            refine WC.quiet mixed (by kernel_rfl) ?_
            obtain ⟨vE2, _, hE2⟩ := GOK.get hG 10 2 hS10 rfl rfl
            refine WQ.y rfl (Yld.cell tab_ok (ErrR.cell hE2 rfl) rfl rfl) ?_
            refine WQ.y rfl (Yld.pure tab_ok rfl) ?_
            refine WQ.y rfl (Yld.pure tab_ok rfl) ?_
            refine WQ.nil (WX.then_normal ?_)
            refine WC.ret ?_
            exact WX.ret2 rfl rfl rfl ⟨(gr_refl _ _), ([] : List UInt8), vE2, (Er.e 10), rfl, hE2, H⟩
      · clear hJ3
        refine WC.seq ?_
        refine WC.region ?_
        refine WL.y rfl (Yld.pure tab_ok rfl) ?_
        refine WL.y rfl (Yld.pure tab_ok rfl) ?_
        refine WL.nil (WX.then_normal ?_)
        refine WC.cond rfl (fun b7 => ?_) (fun b7 => ?_)
        · replace H := H.1 (of_decide_eq_true b7)
          refine WC.skip ?_
          exact WX.weaken (by repeat (first | exact Sub.nil | refine Sub.cons rfl ?_)) (hQ1 _ _ ⟨decide (tool = (2 : Int)), rfl, H, rfl⟩)
        · replace H := H.2 (of_decide_eq_false b7)
          refine WC.seq ?_
          refine WC.region ?_
          refine WL.y rfl (Yld.pure tab_ok rfl) ?_
          refine WL.y rfl (Yld.pure tab_ok rfl) ?_
          refine WL.nil (WX.then_normal ?_)
          refine WC.cond rfl (fun b8 => ?_) (fun b8 => ?_)
          · replace H := H.1 (of_decide_eq_true b8)
            refine WC.skip ?_
            exact WX.weaken (by repeat (first | exact Sub.nil | refine Sub.cons rfl ?_)) (hQ1 _ _ ⟨decide (tool = (4 : Int)), rfl, H, rfl⟩)
          · replace H := H.2 (of_decide_eq_false b8)
            refine WC.region ?_
            refine WL.y rfl (Yld.pure tab_ok rfl) ?_
            refine WL.y rfl (Yld.pure tab_ok rfl) ?_
            refine WL.nil ?_
            exact WX.weaken (by repeat (first | exact Sub.nil | refine Sub.cons rfl ?_)) (hQ1 _ _ ⟨decide (tool = (5 : Int)), rfl, H, rfl⟩)

set_option maxHeartbeats 8000000 in
theorem W_key_Parts {S : List Nat} {w : World} {tool : Int} {args : List (List UInt8)} {A_args : Option Addr} {c_args : Nat} {inputs : List (List UInt8)} {A_inputs : Option Addr} {c_inputs : Nat} {n_args : Nat} {n_inputs : Nat} {K : (List (List UInt8)) → Prop} (hG : GOK S w) (hS101 : 101 ∈ S) (hargs : Rd vs w A_args c_args args) (hn_args : n_args = args.length) (hinputs : RdK 32 a32 w A_inputs c_inputs inputs) (hn_inputs : n_inputs = inputs.length) (H : M_key_Parts tool args inputs K) : Fn Tryz.prog 97 ⟨[.int .i64 tool, .slice A_args n_args c_args, .slice A_inputs n_inputs c_inputs]⟩ w (fun v w' => w.grownBy w' none ∧ ∃ (r : List (List UInt8)), ∃ (A_r : Option Addr), ∃ (c_r : Nat), v = .slice A_r r.length c_r ∧ Own vs w' w.heap.size 9 A_r c_r r ∧ K r) := by
  subst hn_args
  subst hn_inputs
  unfold M_key_Parts at H
  refine Fn.enter (by kernel_rfl) Tryz.func97 rfl Tryz.ntmps97 rfl ?_
  replace H := H (Nat.le_trans hargs.cap hargs.max)
  replace H := H (Nat.le_trans hinputs.cap hinputs.max)
  refine WC.seq ?_
  refine WC.region ?_
  refine WL.y rfl (Yld.pure tab_ok rfl) ?_
  refine WL.nil (WX.then_normal ?_)
  refine WC.seq ?_
  refine WC.region ?_
  refine WL.y rfl (Yld.pure tab_ok rfl) ?_
  refine WL.call rfl rfl (W_strconv_Itoa hG hS101 H) ?_
  rintro _ w1 ⟨hg1, t11, rfl, H⟩
  have gr1 := hg1
  refine WL.y rfl (Yld.pure tab_ok rfl) ?_
  refine WL.y rfl (Yld.pure tab_ok rfl) ?_
  refine WL.call rfl rfl (W_strconv_Itoa (hG.grown gr1) hS101 H) ?_
  rintro _ w2 ⟨hg2, t14, rfl, H⟩
  have gr2 := gr_trans gr1 hg2
  refine WL.lit tab_ok rfl rfl rfl (all1c rfl (all1c rfl (all1c rfl all1n))) rfl (by omega) (fun g1 w3 hB1 hg3 hl1 => ?_)
  have hO1 : Own vs w3 w.heap.size 9 (some ⟨g1, 0, none⟩) 3 ([([115, 109, 105, 116, 104, 121] : List UInt8), t11, t14] : List (List UInt8)) := Own.ofBl hB1 (Nat.le_trans (size_le gr2) hl1) (by simp [maxLen]) rfl
  have gr3 := gr_trans gr2 hg3
  refine WL.y rfl (Yld.pure tab_ok rfl) ?_
  refine WL.nil (WX.then_normal ?_)
  refine WC.seq ?_
  refine WC.region ?_
  refine WL.y rfl (Yld.pure tab_ok rfl) ?_
  refine WL.y rfl (Yld.pure tab_ok rfl) ?_
  obtain ⟨h1, H⟩ := H
  refine WL.append tab_ok rfl rfl One.s hO1 rfl rfl (hargs.grown gr3) rfl rfl h1 (applen h1) (size_le gr3) (fun A_l c_l w4 hO2 hg4 hk1 => ?_)
  have gr4 := gr_mod gr3 hg4 hO1.ge'
  refine WL.y rfl (Yld.pure tab_ok rfl) ?_
  refine WL.nil (WX.then_normal ?_)
  refine WC.seq ?_
  refine WC.seq ?_
  refine WC.region ?_
  refine WL.y rfl (Yld.pure tab_ok rfl) ?_
  refine WL.y rfl (Yld.pure tab_ok rfl) ?_
  refine WL.y rfl (Yld.pure tab_ok rfl) ?_
  refine WL.nil (WX.then_normal ?_)
  refine WC.block ?_
  obtain ⟨I1, mu1, h0_1, HR1⟩ := H
  refine WC.loopF (fun n' L' w' => ∃ (l : List (List UInt8)), ∃ (A_l2 : Option Addr), ∃ (c_l2 : Nat), ∃ (n_l : Nat), ∃ (t21 : Int), n' = mu1 l t21 ∧ L' = [(7, .slice A_l2 n_l c_l2), (19, .slice A_inputs inputs.length c_inputs), (20, .int .i64 (inputs.length : Int)), (21, .int .i64 t21)] ∧ I1 l t21 ∧ n_l = l.length ∧ w.grownBy w' none ∧ Own vs w' w.heap.size 9 A_l2 c_l2 l) _ _ ⟨([([115, 109, 105, 116, 104, 121] : List UInt8), t11, t14] : List (List UInt8)) ++ args, A_l, c_l, (([([115, 109, 105, 116, 104, 121] : List UInt8), t11, t14] : List (List UInt8)) ++ args).length, (0 : Int), rfl, rfl, h0_1, rfl, gr4, hO2⟩ (by repeat (first | exact Sub.nil | refine Sub.cons rfl ?_)) ?_
  clear h0_1
  rintro _ _ w5 ⟨l, A_l2, c_l2, n_l, t21, rfl, rfl, hI1, rfl, gr5, k1⟩
  have H := HR1 l t21 hI1
  refine WC.seq ?_
  refine WC.region ?_
  refine WL.y rfl (Yld.pure tab_ok rfl) ?_
  refine WL.nil (WX.then_normal ?_)
  refine WC.seq ?_
  refine WC.cond rfl (fun b1 => ?_) (fun b1 => ?_)
  · replace H := H.1 (of_decide_eq_true b1)
    refine WC.skip (WX.then_normal ?_)
    refine WC.seq ?_
    refine WC.block ?_
    refine WC.seq ?_
    refine WC.region ?_
    obtain ⟨h2, H⟩ := H
    refine WL.y rfl (Yld.iaddrK tab_ok (hinputs.grown gr5) rfl rfl rfl rfl h2.1 h2.2) ?_
    refine WL.y rfl (Yld.iloadK [] tab_ok (hinputs.grown gr5) rfl rfl (iltN h2 rfl)) ?_
    refine WL.alloc rfl zero47 (fun g2 w6 hB2 hg5 hl2 => ?_)
    rw [a32_zero] at hB2
    have gr6 := gr_trans gr5 hg5
    have k2 := k1.grown hg5
    refine WL.storeW (vs := (a32 (inputs.getD t21.toNat []))) tab_ok rfl rfl rfl (a32_one _) hB2 rfl rfl (fun w7 hB3 hg6 => ?_)
    have gr7 := gr_mod gr6 hg6 (Ge.le (Ge.box hl2) (size_le gr5))
    have k3 := k2.go hg6 (Dj.new k1.lt' (Ge.box hl2))
    refine WL.nil (WX.then_normal ?_)
    refine WC.region ?_
    refine WL.y rfl (Yld.pure tab_ok rfl) ?_
    refine WL.y rfl (Yld.bagg (vs := (a32 (inputs.getD t21.toNat []))) tab_ok hB3 rfl rfl rfl rfl) ?_
    refine WL.call rfl rfl (W_sha_Text H) ?_
    rintro _ w8 ⟨hg7, t27, rfl, H⟩
    have gr8 := gr_trans gr7 hg7
    have k4 := k3.grown hg7
    refine WL.lit tab_ok rfl rfl rfl (all1c rfl all1n) rfl (by omega) (fun g3 w9 hB4 hg8 hl3 => ?_)
    have hO3 : Own vs w9 w.heap.size 9 (some ⟨g3, 0, none⟩) 1 ([t27] : List (List UInt8)) := Own.ofBl hB4 (Nat.le_trans (size_le gr8) hl3) (by simp [maxLen]) rfl
    have gr9 := gr_trans gr8 hg8
    have k5 := k4.grown hg8
    obtain ⟨h3, H⟩ := H
    refine WL.append tab_ok rfl rfl One.s k5 rfl rfl hO3.rd rfl rfl h3 (applen h3) (size_le gr9) (fun A_l3 c_l3 w10 hO4 hg9 hk2 => ?_)
    have gr10 := gr_mod gr9 hg9 k5.ge'
    refine WL.y rfl (Yld.pure tab_ok rfl) ?_
    refine WL.nil (WX.block_normal (WX.then_normal ?_))
    refine WC.region ?_
    obtain ⟨h4, H⟩ := H
    refine WL.y rfl (Yld.add rfl rfl h4) ?_
    refine WL.y rfl (Yld.pure tab_ok rfl) ?_
    refine WL.nil ?_
    exact WX.roundF _ ⟨l ++ ([t27] : List (List UInt8)), A_l3, c_l3, (l ++ ([t27] : List (List UInt8))).length, t21 + (1 : Int), rfl, rfl, H.1, rfl, gr10, hO4⟩ (by repeat (first | exact Sub.nil | refine Sub.cons rfl ?_)) H.2
  · replace H := H.2 (of_decide_eq_false b1)
    refine WC.exit (WX.then_exit (WX.then_exit (WX.block_same (WX.then_normal ?_))))
    refine WC.seq ?_
    refine WC.region ?_
    refine WL.y rfl (Yld.pure tab_ok rfl) ?_
    refine WL.y rfl (Yld.pure tab_ok rfl) ?_
    refine WL.nil (WX.then_normal ?_)
    refine WC.ret ?_
    exact WX.ret1 rfl rfl ⟨gr5, l, A_l2, c_l2, rfl, k1, H⟩

set_option maxHeartbeats 8000000 in
theorem W_key_Source {w : World} {text : List UInt8} {K : (List UInt8) → Prop} (H : M_key_Source text K) : Fn Tryz.prog 68 ⟨[vs text]⟩ w (fun v w' => w.grownBy w' none ∧ ∃ (r : List UInt8), v = .agg ⟨a32 r⟩ ∧ K r) := by
  unfold M_key_Source at H
  refine Fn.enter (by kernel_rfl) Tryz.func68 rfl Tryz.ntmps68 rfl ?_
  refine WC.seq ?_
  refine WC.region ?_
  refine WL.alloc rfl zero47 (fun g1 w1 hB1 hg1 hl1 => ?_)
  rw [a32_zero] at hB1
  have gr1 := hg1
  refine WL.nil (WX.then_normal ?_)
  refine WC.seq ?_
  refine WC.region ?_
  refine WL.y rfl (Yld.pure tab_ok rfl) ?_
  obtain ⟨h1, H⟩ := H
  refine WL.s2b tab_ok rfl rfl rfl rfl rfl h1 (fun A_t4 c_t4 w2 hR1 hg2 hge1 => ?_)
  have gr2 := gr_trans gr1 hg2
  have k1 := hB1.g0 hg2
  refine WL.call rfl rfl (W_sha_Of hR1 rfl H) ?_
  rintro _ w3 ⟨hg3, t5, rfl, H⟩
  have gr3 := gr_trans gr2 hg3
  have k2 := k1.g0 hg3
  refine WL.storeW (vs := (a32 t5)) tab_ok rfl rfl rfl (a32_one _) k2 rfl rfl (fun w4 hB2 hg4 => ?_)
  have gr4 := gr_mod gr3 hg4 (Ge.le (Ge.box hl1) (Nat.le_refl _))
  refine WL.nil (WX.then_normal ?_)
  refine WC.ret ?_
  exact WX.retc tab_ok rfl rfl rfl hB2 rfl ⟨gr4, t5, rfl, H⟩

set_option maxHeartbeats 8000000 in
theorem W_key_Of {S : List Nat} {w : World} {tool : Int} {args : List (List UInt8)} {A_args : Option Addr} {c_args : Nat} {inputs : List (List UInt8)} {A_inputs : Option Addr} {c_inputs : Nat} {n_args : Nat} {n_inputs : Nat} {K : (List UInt8) → Prop} (hG : GOK S w) (hS101 : 101 ∈ S) (hargs : Rd vs w A_args c_args args) (hn_args : n_args = args.length) (hinputs : RdK 32 a32 w A_inputs c_inputs inputs) (hn_inputs : n_inputs = inputs.length) (H : M_key_Of tool args inputs K) : Fn Tryz.prog 69 ⟨[.int .i64 tool, .slice A_args n_args c_args, .slice A_inputs n_inputs c_inputs]⟩ w (fun v w' => w.grownBy w' none ∧ ∃ (r : List UInt8), v = .agg ⟨a32 r⟩ ∧ K r) := by
  subst hn_args
  subst hn_inputs
  unfold M_key_Of at H
  refine Fn.enter (by kernel_rfl) Tryz.func69 rfl Tryz.ntmps69 rfl ?_
  replace H := H (Nat.le_trans hargs.cap hargs.max)
  replace H := H (Nat.le_trans hinputs.cap hinputs.max)
  refine WC.seq ?_
  refine WC.region ?_
  refine WL.alloc rfl zero47 (fun g1 w1 hB1 hg1 hl1 => ?_)
  rw [a32_zero] at hB1
  have gr1 := hg1
  refine WL.nil (WX.then_normal ?_)
  refine WC.seq ?_
  refine WC.region ?_
  refine WL.y rfl (Yld.pure tab_ok rfl) ?_
  refine WL.y rfl (Yld.pure tab_ok rfl) ?_
  refine WL.y rfl (Yld.pure tab_ok rfl) ?_
  refine WL.call rfl rfl (W_key_Parts (hG.grown gr1) hS101 (hargs.grown gr1) rfl (hinputs.grown gr1) rfl H) ?_
  rintro _ w2 ⟨hg2, t10, A_t10, c_t10, rfl, ht10, H⟩
  have hb1 := ht10.ge'
  have k1 := ht10.base (fun g hg => Nat.le_trans (size_le gr1) (hb1 g hg))
  have gr2 := gr_trans gr1 hg2
  have k2 := hB1.g0 hg2
  refine WL.call rfl rfl (W_sha_Many k1.rd rfl H) ?_
  rintro _ w3 ⟨hg3, t11, rfl, H⟩
  have gr3 := gr_trans gr2 hg3
  have k3 := k2.g0 hg3
  refine WL.storeW (vs := (a32 t11)) tab_ok rfl rfl rfl (a32_one _) k3 rfl rfl (fun w4 hB2 hg4 => ?_)
  have gr4 := gr_mod gr3 hg4 (Ge.le (Ge.box hl1) (Nat.le_refl _))
  refine WL.nil (WX.then_normal ?_)
  refine WC.ret ?_
  exact WX.retc tab_ok rfl rfl rfl hB2 rfl ⟨gr4, t11, rfl, H⟩

end Go.Proofs.YtjhipfdbionpoaaGreatDoor

 