import Derived.Test.YtfibkajdahaggaaDoorSha5
namespace Go.Proofs.YtfibkajdahaggaaDoor
open Go Go.RowKit
attribute [local irreducible] WL WC WX WQ Yld Fn

/-- a number as a byte -/
def u8v (z : Int) : UInt8 := UInt8.ofNat (IntKind.u8.wrap z).toNat
theorem vb_u8v (z : Int) : Value.int .u8 (IntKind.u8.wrap z) = vb (u8v z) := by
  unfold vb u8v
  have h : IntKind.u8.wrap z = z % 256 := IntKind.wrap_u8 z
  rw [h]
  congr 1
  rw [UInt8.toNat_ofNat']
  omega
theorem Yld.toB {P : Program} {T : Tab} {N : Nat} {L : Slots} {w : World} {dd : Option Tmp} {ty : TypeId} {pos : String} {af : Array Edge} {s d : TypeId} {k k2 : IntKind} {x : Operand} {z : Int} (hT : T.Ok P) (hs : nk T.int s = some k) (hd : nk T.int d = some .u8) (hx : opv L x = some (.int k2 z)) :
    Yld P N w ⟨dd, .convert s d x, ty, pos, af, none⟩ L (vb (u8v z)) := by
  rw [← vb_u8v]
  exact Yld.pure hT (by simp [pv, hx, o1, pvConv, hs, hd])

def padS (l : List UInt8) : List UInt8 := l ++ List.replicate ((120 - l.length % 64) % 64) 0
theorem padS_step (l : List UInt8) (h : l.length % 64 ≠ 56) : padS (l ++ [0]) = padS l := by
  unfold padS
  have : (120 - l.length % 64) % 64 = (120 - (l ++ [0]).length % 64) % 64 + 1 := by simp; omega
  rw [this, List.replicate_succ]
  simp
def lenB (n : Int) (i : Nat) : UInt8 := u8v (shrV .u64 n (8 * (7 - (i : Int))).toNat)
def lenBs (n : Int) : Nat → List UInt8
  | 0 => []
  | i + 1 => lenBs n i ++ [lenB n i]
theorem lenBs_len (n : Int) : ∀ i, (lenBs n i).length = i
  | 0 => rfl
  | i + 1 => by rw [lenBs, List.length_append, lenBs_len n i]; rfl
def endS (r : List UInt8) (n : Int) : List UInt8 := padS (r ++ [0x80]) ++ lenBs (8 * n) 8
def outAt (h : List Int) : Nat → List UInt8
  | 0 => List.replicate 32 0
  | i + 1 => (outAt h i).set i (u8v (shrV .u32 (h.getD (i / 4) 0) (24 - 8 * ((i : Int) % 4)).toNat))
theorem outAt_len (h : List Int) : ∀ i, (outAt h i).length = 32
  | 0 => rfl
  | i + 1 => by rw [outAt, List.length_set, outAt_len h i]
/-- the digest of a state -/
def sumS (hs : List Int) (r : List UInt8) (n : Int) : List UInt8 := outAt (absorb (endS r n).length hs (endS r n)).1 32
theorem sumS_len (hs : List Int) (r : List UInt8) (n : Int) : (sumS hs r n).length = 32 := outAt_len _ 32
theorem bl_one {α : Type} {f : α → Value} {w : World} {g : Nat} {e : TypeId} {x : α} (h : Bl w g e [f x]) : Rd f w (some ⟨g, 0, none⟩) 1 [x] := Rd.ofBl (xs := [x]) h (by simp) (by simp [maxLen])

set_option maxHeartbeats 1000000 in
theorem sum_fn (g : Nat) (hs : List Int) (r : List UInt8) (n : Int) (w : World) (hS : St w g hs r n) (hn : 0 ≤ n) (hn2 : n ≤ 1073741824) (hr : r.length ≤ 64) :
    Fn Tryd.prog 12 ⟨[.pointer (some ⟨g, 0, none⟩)]⟩ w fun v w' => v = .agg ⟨(sumS hs r n).map vb⟩ ∧ w.grownBy w' none := by
  obtain ⟨hh, A, c, hB, hR, hA⟩ := hS
  have hgw := hB.lt
  refine Fn.enter (by kernel_rfl) Tryd.func12 rfl Tryd.ntmps12 rfl ?_
  repeat (first | refine WC.seq ?_ | refine WC.block ?_ | refine WC.region ?_ | refine WL.nil ?_ | refine WX.then_normal ?_ | refine WC.skip ?_ | refine WC.exit ?_ | refine WC.ret ?_ | refine WX.then_exit ?_ | refine WX.then_ret ?_ | refine WX.block_normal ?_ | refine WX.block_ret ?_ | refine WX.block_same ?_ | refine WX.block_other rfl ?_ | refine WC.label ?_ | refine WC.scope ?_ | refine WX.scope_normal ?_ | refine WX.scope_ret ?_ | refine WX.scope_exit ?_ | refine WL.y rfl (Yld.add rfl rfl (by simp only [In]; omega)) ?_ | refine WL.y rfl (Yld.sub rfl rfl (by simp only [In]; omega)) ?_ | refine WL.y rfl (Yld.mul rfl rfl (by simp only [In]; omega)) ?_ | refine WL.y rfl (Yld.convB tab_ok rfl rfl rfl rfl) ?_ | refine WL.y rfl (Yld.conv tab_ok rfl rfl rfl (by simp only [In]; omega)) ?_ | refine WL.y rfl (Yld.quo rfl rfl (by omega) (by omega) (by simp only [In]; omega)) ?_ | refine WL.y rfl (Yld.rem rfl rfl (by omega) (by omega)) ?_ | refine WL.y rfl (Yld.shl rfl rfl (by omega)) ?_ | refine WL.y rfl (Yld.shr rfl rfl (by omega)) ?_ | refine WL.y rfl (Yld.pure tab_ok rfl) ?_)
  refine WL.alloc rfl zero30 (fun go w1 ho1 hg1 hlo => ?_)
  have hB1 := hB.keep hg1 (by simp)
  have hR1 := hR.grown hg1
  repeat (first | refine WL.y rfl (Yld.bagg (vs := stc hs A c r n) tab_ok hB1 rfl rfl (by rw [List.drop_zero, List.take_of_length_le]; rw [stc_len hh]; exact Nat.le_refl _) (stc_len hh _ _ _ _)) ?_ | refine WC.seq ?_ | refine WC.block ?_ | refine WC.region ?_ | refine WL.nil ?_ | refine WX.then_normal ?_ | refine WC.skip ?_ | refine WC.exit ?_ | refine WC.ret ?_ | refine WX.then_exit ?_ | refine WX.then_ret ?_ | refine WX.block_normal ?_ | refine WX.block_ret ?_ | refine WX.block_same ?_ | refine WX.block_other rfl ?_ | refine WC.label ?_ | refine WC.scope ?_ | refine WX.scope_normal ?_ | refine WX.scope_ret ?_ | refine WX.scope_exit ?_ | refine WL.y rfl (Yld.add rfl rfl (by simp only [In]; omega)) ?_ | refine WL.y rfl (Yld.sub rfl rfl (by simp only [In]; omega)) ?_ | refine WL.y rfl (Yld.mul rfl rfl (by simp only [In]; omega)) ?_ | refine WL.y rfl (Yld.convB tab_ok rfl rfl rfl rfl) ?_ | refine WL.y rfl (Yld.conv tab_ok rfl rfl rfl (by simp only [In]; omega)) ?_ | refine WL.y rfl (Yld.quo rfl rfl (by omega) (by omega) (by simp only [In]; omega)) ?_ | refine WL.y rfl (Yld.rem rfl rfl (by omega) (by omega)) ?_ | refine WL.y rfl (Yld.shl rfl rfl (by omega)) ?_ | refine WL.y rfl (Yld.shr rfl rfl (by omega)) ?_ | refine WL.y rfl (Yld.pure tab_ok rfl) ?_)
  refine WL.alloc rfl zero81 (fun gt w2 ht2 hg2 hlt => ?_)
  refine WL.storeW tab_ok rfl rfl rfl (by intro u hu; simp [stc] at hu; rcases hu with ⟨q, _, rfl⟩ | rfl | rfl <;> rfl) ht2 rfl (stc_len hh _ _ _ _) (fun w3 ht3 hg3 => ?_)
  have hz1 := hg1.size
  have hgolt := ho1.lt
  have hz2 := hg2.size
  have hz3 := hg3.size
  have hgr3 : w.grownBy w3 none := gr_new (gr_trans hg1 hg2) hg3 (by omega)
  have hB3 := (hB1.keep hg2 (by simp)).keep hg3 (fun e => by injection e with e; omega)
  have hgt3 := ht3.lt
  have ho3 := (ho1.keep hg2 (by simp)).keep hg3 (fun e => by injection e with e; have := ho1.lt; omega)
  have hR3 := hR.grown hgr3
  clear hB1 hR1 hg1 hg2 hg3 ht2 ho1
  repeat (first | refine WL.y rfl (Yld.bload tab_ok hB3 rfl rfl (stc_9 hh A c r _)) ?_ | refine WL.y rfl (Yld.bload tab_ok hB3 rfl rfl (stc_8 hh A c r _)) ?_ | refine WC.seq ?_ | refine WC.block ?_ | refine WC.region ?_ | refine WL.nil ?_ | refine WX.then_normal ?_ | refine WC.skip ?_ | refine WC.exit ?_ | refine WC.ret ?_ | refine WX.then_exit ?_ | refine WX.then_ret ?_ | refine WX.block_normal ?_ | refine WX.block_ret ?_ | refine WX.block_same ?_ | refine WX.block_other rfl ?_ | refine WC.label ?_ | refine WC.scope ?_ | refine WX.scope_normal ?_ | refine WX.scope_ret ?_ | refine WX.scope_exit ?_ | refine WL.y rfl (Yld.add rfl rfl (by simp only [In]; omega)) ?_ | refine WL.y rfl (Yld.sub rfl rfl (by simp only [In]; omega)) ?_ | refine WL.y rfl (Yld.mul rfl rfl (by simp only [In]; omega)) ?_ | refine WL.y rfl (Yld.convB tab_ok rfl rfl rfl rfl) ?_ | refine WL.y rfl (Yld.conv tab_ok rfl rfl rfl (by simp only [In]; omega)) ?_ | refine WL.y rfl (Yld.quo rfl rfl (by omega) (by omega) (by simp only [In]; omega)) ?_ | refine WL.y rfl (Yld.rem rfl rfl (by omega) (by omega)) ?_ | refine WL.y rfl (Yld.shl rfl rfl (by omega)) ?_ | refine WL.y rfl (Yld.shr rfl rfl (by omega)) ?_ | refine WL.y rfl (Yld.pure tab_ok rfl) ?_)
  refine WL.call rfl rfl (clone_fn A c r w3 hR3 (by omega)) ?_
  rintro _ w4 ⟨A4, c4, rfl, hO4, hg4, hf4⟩
  refine WL.lit (us := [vb 0x80]) tab_ok rfl rfl rfl (by intro u hu; simp at hu; rw [hu]; rfl) rfl (by omega) (fun gl w5 hL5 hg5 hl5 => ?_)
  refine WL.append tab_ok rfl rfl One.b (hO4.grown hg5) rfl rfl (bl_one (x := 0x80) hL5) rfl rfl (by simp; omega) (by simp [maxLen]; omega) (by have := hg4.size; have := hg5.size; omega) (fun A6 c6 w6 hO6 hg6 hf6 => ?_)
  have hgr6 : w3.grownBy w6 none := by
    cases hq : blk A4 with
    | none => rw [hq] at hg6; exact gr_trans (gr_trans hg4 hg5) hg6
    | some q => rw [hq] at hg6; exact gr_new (gr_trans hg4 hg5) hg6 (hO4.lt hq).1
  clear hO4 hg4 hf4 hL5 hg5 hg6 hf6
  have hp0 : padS (r ++ [0x80]) = padS (r ++ [0x80]) := rfl
  repeat (first | refine WC.seq ?_ | refine WC.block ?_ | refine WC.region ?_ | refine WL.nil ?_ | refine WX.then_normal ?_ | refine WC.skip ?_ | refine WC.exit ?_ | refine WC.ret ?_ | refine WX.then_exit ?_ | refine WX.then_ret ?_ | refine WX.block_normal ?_ | refine WX.block_ret ?_ | refine WX.block_same ?_ | refine WX.block_other rfl ?_ | refine WC.label ?_ | refine WC.scope ?_ | refine WX.scope_normal ?_ | refine WX.scope_ret ?_ | refine WX.scope_exit ?_ | refine WL.y rfl (Yld.add rfl rfl (by simp only [In]; omega)) ?_ | refine WL.y rfl (Yld.sub rfl rfl (by simp only [In]; omega)) ?_ | refine WL.y rfl (Yld.mul rfl rfl (by simp only [In]; omega)) ?_ | refine WL.y rfl (Yld.convB tab_ok rfl rfl rfl rfl) ?_ | refine WL.y rfl (Yld.conv tab_ok rfl rfl rfl (by simp only [In]; omega)) ?_ | refine WL.y rfl (Yld.quo rfl rfl (by omega) (by omega) (by simp only [In]; omega)) ?_ | refine WL.y rfl (Yld.rem rfl rfl (by omega) (by omega)) ?_ | refine WL.y rfl (Yld.shl rfl rfl (by omega)) ?_ | refine WL.y rfl (Yld.shr rfl rfl (by omega)) ?_ | refine WL.y rfl (Yld.pure tab_ok rfl) ?_)
  refine WC.loop (S := Option Addr × Nat × List UInt8) (fun s => (120 - s.2.2.length % 64) % 64) (fun s => [(5, .slice s.1 s.2.2.length s.2.1), (4, .int .u64 (8 * n)), (3, .pointer (some ⟨gt, 0, none⟩)), (2, .pointer (some ⟨go, 0, none⟩))])
    (fun s w7 => Own vb w7 w3.heap.size 5 s.1 s.2.1 s.2.2 ∧ padS s.2.2 = padS (r ++ [0x80]) ∧ s.2.2.length ≤ 128 + 64 ∧ w3.grownBy w7 none)
    (A6, c6, r ++ [0x80]) ⟨hO6, rfl, by simp; omega, hgr6⟩ (by repeat (first | exact Sub.nil | refine Sub.cons rfl ?_)) (fun ⟨A7, c7, e7⟩ w7 ⟨hO7, hp7, hl7, hg7⟩ => ?_)
  simp only at hO7 hp7 hl7
  repeat (first | refine WC.seq ?_ | refine WC.block ?_ | refine WC.region ?_ | refine WL.nil ?_ | refine WX.then_normal ?_ | refine WC.skip ?_ | refine WC.exit ?_ | refine WC.ret ?_ | refine WX.then_exit ?_ | refine WX.then_ret ?_ | refine WX.block_normal ?_ | refine WX.block_ret ?_ | refine WX.block_same ?_ | refine WX.block_other rfl ?_ | refine WC.label ?_ | refine WC.scope ?_ | refine WX.scope_normal ?_ | refine WX.scope_ret ?_ | refine WX.scope_exit ?_ | refine WL.y rfl (Yld.add rfl rfl (by simp only [In]; omega)) ?_ | refine WL.y rfl (Yld.sub rfl rfl (by simp only [In]; omega)) ?_ | refine WL.y rfl (Yld.mul rfl rfl (by simp only [In]; omega)) ?_ | refine WL.y rfl (Yld.convB tab_ok rfl rfl rfl rfl) ?_ | refine WL.y rfl (Yld.conv tab_ok rfl rfl rfl (by simp only [In]; omega)) ?_ | refine WL.y rfl (Yld.quo rfl rfl (by omega) (by omega) (by simp only [In]; omega)) ?_ | refine WL.y rfl (Yld.rem rfl rfl (by omega) (by omega)) ?_ | refine WL.y rfl (Yld.shl rfl rfl (by omega)) ?_ | refine WL.y rfl (Yld.shr rfl rfl (by omega)) ?_ | refine WL.y rfl (Yld.pure tab_ok rfl) ?_)
  refine WC.cond rfl (fun h => ?_) (fun h => ?_)
  · have h56 : e7.length % 64 ≠ 56 := by
      simp only [Bool.not_eq_true', decide_eq_false_iff_not] at h
      omega
    have hle : (padS e7).length ≤ 192 := by
      rw [hp7]; unfold padS; simp; omega
    have hl8 : e7.length + 1 ≤ 192 := by
      unfold padS at hle
      rw [List.length_append, List.length_replicate] at hle
      omega
    repeat (first | refine WC.seq ?_ | refine WC.block ?_ | refine WC.region ?_ | refine WL.nil ?_ | refine WX.then_normal ?_ | refine WC.skip ?_ | refine WC.exit ?_ | refine WC.ret ?_ | refine WX.then_exit ?_ | refine WX.then_ret ?_ | refine WX.block_normal ?_ | refine WX.block_ret ?_ | refine WX.block_same ?_ | refine WX.block_other rfl ?_ | refine WC.label ?_ | refine WC.scope ?_ | refine WX.scope_normal ?_ | refine WX.scope_ret ?_ | refine WX.scope_exit ?_ | refine WL.y rfl (Yld.add rfl rfl (by simp only [In]; omega)) ?_ | refine WL.y rfl (Yld.sub rfl rfl (by simp only [In]; omega)) ?_ | refine WL.y rfl (Yld.mul rfl rfl (by simp only [In]; omega)) ?_ | refine WL.y rfl (Yld.convB tab_ok rfl rfl rfl rfl) ?_ | refine WL.y rfl (Yld.conv tab_ok rfl rfl rfl (by simp only [In]; omega)) ?_ | refine WL.y rfl (Yld.quo rfl rfl (by omega) (by omega) (by simp only [In]; omega)) ?_ | refine WL.y rfl (Yld.rem rfl rfl (by omega) (by omega)) ?_ | refine WL.y rfl (Yld.shl rfl rfl (by omega)) ?_ | refine WL.y rfl (Yld.shr rfl rfl (by omega)) ?_ | refine WL.y rfl (Yld.pure tab_ok rfl) ?_)
    refine WL.lit (us := [vb 0]) tab_ok rfl rfl rfl (by intro u hu; simp at hu; rw [hu]; rfl) rfl (by omega) (fun gl w8 hL8 hg8 hl8 => ?_)
    refine WL.append tab_ok rfl rfl One.b (hO7.grown hg8) rfl rfl (bl_one (x := 0) hL8) rfl rfl (by simp; omega) (by simp [maxLen]; omega) (by have := hg7.size; have := hg8.size; omega) (fun A9 c9 w9 hO9 hg9 hf9 => ?_)
    repeat (first | refine WC.seq ?_ | refine WC.block ?_ | refine WC.region ?_ | refine WL.nil ?_ | refine WX.then_normal ?_ | refine WC.skip ?_ | refine WC.exit ?_ | refine WC.ret ?_ | refine WX.then_exit ?_ | refine WX.then_ret ?_ | refine WX.block_normal ?_ | refine WX.block_ret ?_ | refine WX.block_same ?_ | refine WX.block_other rfl ?_ | refine WC.label ?_ | refine WC.scope ?_ | refine WX.scope_normal ?_ | refine WX.scope_ret ?_ | refine WX.scope_exit ?_ | refine WL.y rfl (Yld.add rfl rfl (by simp only [In]; omega)) ?_ | refine WL.y rfl (Yld.sub rfl rfl (by simp only [In]; omega)) ?_ | refine WL.y rfl (Yld.mul rfl rfl (by simp only [In]; omega)) ?_ | refine WL.y rfl (Yld.convB tab_ok rfl rfl rfl rfl) ?_ | refine WL.y rfl (Yld.conv tab_ok rfl rfl rfl (by simp only [In]; omega)) ?_ | refine WL.y rfl (Yld.quo rfl rfl (by omega) (by omega) (by simp only [In]; omega)) ?_ | refine WL.y rfl (Yld.rem rfl rfl (by omega) (by omega)) ?_ | refine WL.y rfl (Yld.shl rfl rfl (by omega)) ?_ | refine WL.y rfl (Yld.shr rfl rfl (by omega)) ?_ | refine WL.y rfl (Yld.pure tab_ok rfl) ?_)
    refine WX.round (A9, c9, e7 ++ [0]) ⟨hO9, by rw [padS_step _ h56]; exact hp7, by simp; omega, ?_⟩ (by simp; omega) (by repeat (first | exact Sub.nil | refine Sub.cons rfl ?_))
    cases hq : blk A7 with
    | none => rw [hq] at hg9; exact gr_trans (gr_trans hg7 hg8) hg9
    | some q => rw [hq] at hg9; exact gr_new (gr_trans hg7 hg8) hg9 (hO7.lt hq).1
  · have h56 : e7.length % 64 = 56 := by
      simp only [Bool.not_eq_false', decide_eq_true_eq] at h
      omega
    have he7 : e7 = padS (r ++ [0x80]) := by
      rw [← hp7]; unfold padS; rw [h56]; simp
    have hpl : e7.length ≤ 184 := by rw [he7]; unfold padS; simp; omega
    repeat (first | refine WC.seq ?_ | refine WC.block ?_ | refine WC.region ?_ | refine WL.nil ?_ | refine WX.then_normal ?_ | refine WC.skip ?_ | refine WC.exit ?_ | refine WC.ret ?_ | refine WX.then_exit ?_ | refine WX.then_ret ?_ | refine WX.block_normal ?_ | refine WX.block_ret ?_ | refine WX.block_same ?_ | refine WX.block_other rfl ?_ | refine WC.label ?_ | refine WC.scope ?_ | refine WX.scope_normal ?_ | refine WX.scope_ret ?_ | refine WX.scope_exit ?_ | refine WL.y rfl (Yld.add rfl rfl (by simp only [In]; omega)) ?_ | refine WL.y rfl (Yld.sub rfl rfl (by simp only [In]; omega)) ?_ | refine WL.y rfl (Yld.mul rfl rfl (by simp only [In]; omega)) ?_ | refine WL.y rfl (Yld.convB tab_ok rfl rfl rfl rfl) ?_ | refine WL.y rfl (Yld.conv tab_ok rfl rfl rfl (by simp only [In]; omega)) ?_ | refine WL.y rfl (Yld.quo rfl rfl (by omega) (by omega) (by simp only [In]; omega)) ?_ | refine WL.y rfl (Yld.rem rfl rfl (by omega) (by omega)) ?_ | refine WL.y rfl (Yld.shl rfl rfl (by omega)) ?_ | refine WL.y rfl (Yld.shr rfl rfl (by omega)) ?_ | refine WL.y rfl (Yld.pure tab_ok rfl) ?_)
    refine WC.loop (S := Nat × Option Addr × Nat) (fun s => 8 - s.1) (fun s => [(32, vi s.1), (5, .slice s.2.1 (e7 ++ lenBs (8 * n) s.1).length s.2.2), (4, .int .u64 (8 * n)), (3, .pointer (some ⟨gt, 0, none⟩)), (2, .pointer (some ⟨go, 0, none⟩))])
      (fun s w8 => s.1 ≤ 8 ∧ Own vb w8 w3.heap.size 5 s.2.1 s.2.2 (e7 ++ lenBs (8 * n) s.1) ∧ w3.grownBy w8 none)
      (0, A7, c7) ⟨by simp, by simpa [lenBs] using hO7, hg7⟩ (by simp only [lenBs, List.append_nil]; repeat (first | exact Sub.nil | refine Sub.cons rfl ?_)) (fun ⟨i, A8, c8⟩ w8 ⟨hi, hO8, hg8⟩ => ?_)
    simp only at hi hO8
    have hlb := lenBs_len (8 * n) i
    repeat (first | refine WC.seq ?_ | refine WC.block ?_ | refine WC.region ?_ | refine WL.nil ?_ | refine WX.then_normal ?_ | refine WC.skip ?_ | refine WC.exit ?_ | refine WC.ret ?_ | refine WX.then_exit ?_ | refine WX.then_ret ?_ | refine WX.block_normal ?_ | refine WX.block_ret ?_ | refine WX.block_same ?_ | refine WX.block_other rfl ?_ | refine WC.label ?_ | refine WC.scope ?_ | refine WX.scope_normal ?_ | refine WX.scope_ret ?_ | refine WX.scope_exit ?_ | refine WL.y rfl (Yld.add rfl rfl (by simp only [In]; omega)) ?_ | refine WL.y rfl (Yld.sub rfl rfl (by simp only [In]; omega)) ?_ | refine WL.y rfl (Yld.mul rfl rfl (by simp only [In]; omega)) ?_ | refine WL.y rfl (Yld.convB tab_ok rfl rfl rfl rfl) ?_ | refine WL.y rfl (Yld.conv tab_ok rfl rfl rfl (by simp only [In]; omega)) ?_ | refine WL.y rfl (Yld.quo rfl rfl (by omega) (by omega) (by simp only [In]; omega)) ?_ | refine WL.y rfl (Yld.rem rfl rfl (by omega) (by omega)) ?_ | refine WL.y rfl (Yld.shl rfl rfl (by omega)) ?_ | refine WL.y rfl (Yld.shr rfl rfl (by omega)) ?_ | refine WL.y rfl (Yld.pure tab_ok rfl) ?_)
    refine WC.cond rfl (fun h => ?_) (fun h => ?_)
    · simp only [decide_eq_true_eq] at h
      repeat (first | refine WL.y rfl (Yld.toB tab_ok rfl rfl rfl) ?_ | refine WC.seq ?_ | refine WC.block ?_ | refine WC.region ?_ | refine WL.nil ?_ | refine WX.then_normal ?_ | refine WC.skip ?_ | refine WC.exit ?_ | refine WC.ret ?_ | refine WX.then_exit ?_ | refine WX.then_ret ?_ | refine WX.block_normal ?_ | refine WX.block_ret ?_ | refine WX.block_same ?_ | refine WX.block_other rfl ?_ | refine WC.label ?_ | refine WC.scope ?_ | refine WX.scope_normal ?_ | refine WX.scope_ret ?_ | refine WX.scope_exit ?_ | refine WL.y rfl (Yld.add rfl rfl (by simp only [In]; omega)) ?_ | refine WL.y rfl (Yld.sub rfl rfl (by simp only [In]; omega)) ?_ | refine WL.y rfl (Yld.mul rfl rfl (by simp only [In]; omega)) ?_ | refine WL.y rfl (Yld.convB tab_ok rfl rfl rfl rfl) ?_ | refine WL.y rfl (Yld.conv tab_ok rfl rfl rfl (by simp only [In]; omega)) ?_ | refine WL.y rfl (Yld.quo rfl rfl (by omega) (by omega) (by simp only [In]; omega)) ?_ | refine WL.y rfl (Yld.rem rfl rfl (by omega) (by omega)) ?_ | refine WL.y rfl (Yld.shl rfl rfl (by omega)) ?_ | refine WL.y rfl (Yld.shr rfl rfl (by omega)) ?_ | refine WL.y rfl (Yld.pure tab_ok rfl) ?_)
      refine WL.lit (us := [vb (lenB (8 * n) i)]) tab_ok rfl rfl rfl (by intro u hu; simp at hu; rw [hu]; rfl) rfl (by omega) (fun gl w9 hL9 hg9 hl9 => ?_)
      refine WL.append tab_ok rfl rfl One.b (hO8.grown hg9) rfl rfl (bl_one (x := lenB (8 * n) i) hL9) rfl rfl (by simp; omega) (by simp [maxLen]; omega) (by have := hg8.size; have := hg9.size; omega) (fun A10 c10 w10 hO10 hg10 hf10 => ?_)
      repeat (first | refine WC.seq ?_ | refine WC.block ?_ | refine WC.region ?_ | refine WL.nil ?_ | refine WX.then_normal ?_ | refine WC.skip ?_ | refine WC.exit ?_ | refine WC.ret ?_ | refine WX.then_exit ?_ | refine WX.then_ret ?_ | refine WX.block_normal ?_ | refine WX.block_ret ?_ | refine WX.block_same ?_ | refine WX.block_other rfl ?_ | refine WC.label ?_ | refine WC.scope ?_ | refine WX.scope_normal ?_ | refine WX.scope_ret ?_ | refine WX.scope_exit ?_ | refine WL.y rfl (Yld.add rfl rfl (by simp only [In]; omega)) ?_ | refine WL.y rfl (Yld.sub rfl rfl (by simp only [In]; omega)) ?_ | refine WL.y rfl (Yld.mul rfl rfl (by simp only [In]; omega)) ?_ | refine WL.y rfl (Yld.convB tab_ok rfl rfl rfl rfl) ?_ | refine WL.y rfl (Yld.conv tab_ok rfl rfl rfl (by simp only [In]; omega)) ?_ | refine WL.y rfl (Yld.quo rfl rfl (by omega) (by omega) (by simp only [In]; omega)) ?_ | refine WL.y rfl (Yld.rem rfl rfl (by omega) (by omega)) ?_ | refine WL.y rfl (Yld.shl rfl rfl (by omega)) ?_ | refine WL.y rfl (Yld.shr rfl rfl (by omega)) ?_ | refine WL.y rfl (Yld.pure tab_ok rfl) ?_)
      have hap : e7 ++ lenBs (8 * n) i ++ [lenB (8 * n) i] = e7 ++ lenBs (8 * n) (i + 1) := by rw [List.append_assoc]; rfl
      rw [hap] at hO10 ⊢
      exact WX.round (i + 1, A10, c10) ⟨by simp; omega, hO10, gr_own (gr_trans hg8 hg9) (hO8.grown hg9) hg10 (Nat.le_refl _)⟩ (by simp; omega) (by repeat (first | exact Sub.nil | refine Sub.cons rfl ?_))
    · simp only [decide_eq_false_iff_not] at h
      obtain rfl : i = 8 := by omega
      have hend : e7 ++ lenBs (8 * n) 8 = endS r n := by rw [he7]; rfl
      rw [hend] at hO8 ⊢
      have hel : (endS r n).length ≤ 192 := by rw [← hend, List.length_append, hlb]; omega
      have hem : (endS r n).length % 64 = 0 := by rw [← hend, List.length_append, hlb]; omega
      have hR8 := hO8.rd
      have hA8 : blk A8 ≠ some gt := fun e => by have := (hO8.lt e).1; omega
      have hA8o : blk A8 ≠ some go := fun e => by have := (hO8.lt e).1; have := ho3.lt; omega
      have ht8 := ht3.keep hg8 (by simp)
      have ho8 := ho3.keep hg8 (by simp)
      have hgr8 := gr_trans hgr3 hg8
      have hz8 := hg8.size
      generalize endS r n = en at *
      clear hO7 hp7 hO8 hO6 hgr6 hp0 hg8 hg7
      repeat (first | refine WC.seq ?_ | refine WC.block ?_ | refine WC.region ?_ | refine WL.nil ?_ | refine WX.then_normal ?_ | refine WC.skip ?_ | refine WC.exit ?_ | refine WC.ret ?_ | refine WX.then_exit ?_ | refine WX.then_ret ?_ | refine WX.block_normal ?_ | refine WX.block_ret ?_ | refine WX.block_same ?_ | refine WX.block_other rfl ?_ | refine WC.label ?_ | refine WC.scope ?_ | refine WX.scope_normal ?_ | refine WX.scope_ret ?_ | refine WX.scope_exit ?_ | refine WL.y rfl (Yld.add rfl rfl (by simp only [In]; omega)) ?_ | refine WL.y rfl (Yld.sub rfl rfl (by simp only [In]; omega)) ?_ | refine WL.y rfl (Yld.mul rfl rfl (by simp only [In]; omega)) ?_ | refine WL.y rfl (Yld.convB tab_ok rfl rfl rfl rfl) ?_ | refine WL.y rfl (Yld.conv tab_ok rfl rfl rfl (by simp only [In]; omega)) ?_ | refine WL.y rfl (Yld.quo rfl rfl (by omega) (by omega) (by simp only [In]; omega)) ?_ | refine WL.y rfl (Yld.rem rfl rfl (by omega) (by omega)) ?_ | refine WL.y rfl (Yld.shl rfl rfl (by omega)) ?_ | refine WL.y rfl (Yld.shr rfl rfl (by omega)) ?_ | refine WL.y rfl (Yld.pure tab_ok rfl) ?_)
      refine WC.loop (S := Nat × List Int) (fun s => en.length - 64 * s.1) (fun s => [(7, vi (64 * s.1 : Nat)), (5, .slice A8 en.length c8), (3, .pointer (some ⟨gt, 0, none⟩)), (2, .pointer (some ⟨go, 0, none⟩))])
        (fun s w9 => 64 * s.1 ≤ en.length ∧ s.2.length = 8 ∧ Bl w9 gt 81 (stc s.2 A c r n) ∧ absorb (en.length - s.1) s.2 (en.drop (64 * s.1)) = absorb en.length hs en ∧ w8.grownBy w9 (some gt))
        (0, hs) ⟨by simp, hh, ht8, by simp, gr_refl _ _⟩ (by repeat (first | exact Sub.nil | refine Sub.cons rfl ?_)) (fun ⟨i, h9⟩ w9 ⟨hi9, hh9, ht9, ha9, hg9⟩ => ?_)
      simp only at hi9 hh9 ht9 ha9
      have hR9 := hR8.keep hg9 (fun q hq e => by injection hq with hq; exact hA8 (by rw [e, hq]))
      repeat (first | refine WC.seq ?_ | refine WC.block ?_ | refine WC.region ?_ | refine WL.nil ?_ | refine WX.then_normal ?_ | refine WC.skip ?_ | refine WC.exit ?_ | refine WC.ret ?_ | refine WX.then_exit ?_ | refine WX.then_ret ?_ | refine WX.block_normal ?_ | refine WX.block_ret ?_ | refine WX.block_same ?_ | refine WX.block_other rfl ?_ | refine WC.label ?_ | refine WC.scope ?_ | refine WX.scope_normal ?_ | refine WX.scope_ret ?_ | refine WX.scope_exit ?_ | refine WL.y rfl (Yld.add rfl rfl (by simp only [In]; omega)) ?_ | refine WL.y rfl (Yld.sub rfl rfl (by simp only [In]; omega)) ?_ | refine WL.y rfl (Yld.mul rfl rfl (by simp only [In]; omega)) ?_ | refine WL.y rfl (Yld.convB tab_ok rfl rfl rfl rfl) ?_ | refine WL.y rfl (Yld.conv tab_ok rfl rfl rfl (by simp only [In]; omega)) ?_ | refine WL.y rfl (Yld.quo rfl rfl (by omega) (by omega) (by simp only [In]; omega)) ?_ | refine WL.y rfl (Yld.rem rfl rfl (by omega) (by omega)) ?_ | refine WL.y rfl (Yld.shl rfl rfl (by omega)) ?_ | refine WL.y rfl (Yld.shr rfl rfl (by omega)) ?_ | refine WL.y rfl (Yld.pure tab_ok rfl) ?_)
      refine WC.cond rfl (fun h => ?_) (fun h => ?_)
      · simp only [decide_eq_true_eq] at h
        repeat (first | refine WC.seq ?_ | refine WC.block ?_ | refine WC.region ?_ | refine WL.nil ?_ | refine WX.then_normal ?_ | refine WC.skip ?_ | refine WC.exit ?_ | refine WC.ret ?_ | refine WX.then_exit ?_ | refine WX.then_ret ?_ | refine WX.block_normal ?_ | refine WX.block_ret ?_ | refine WX.block_same ?_ | refine WX.block_other rfl ?_ | refine WC.label ?_ | refine WC.scope ?_ | refine WX.scope_normal ?_ | refine WX.scope_ret ?_ | refine WX.scope_exit ?_ | refine WL.y rfl (Yld.add rfl rfl (by simp only [In]; omega)) ?_ | refine WL.y rfl (Yld.sub rfl rfl (by simp only [In]; omega)) ?_ | refine WL.y rfl (Yld.mul rfl rfl (by simp only [In]; omega)) ?_ | refine WL.y rfl (Yld.convB tab_ok rfl rfl rfl rfl) ?_ | refine WL.y rfl (Yld.conv tab_ok rfl rfl rfl (by simp only [In]; omega)) ?_ | refine WL.y rfl (Yld.quo rfl rfl (by omega) (by omega) (by simp only [In]; omega)) ?_ | refine WL.y rfl (Yld.rem rfl rfl (by omega) (by omega)) ?_ | refine WL.y rfl (Yld.shl rfl rfl (by omega)) ?_ | refine WL.y rfl (Yld.shr rfl rfl (by omega)) ?_ | refine WL.y rfl (Yld.pure tab_ok rfl) ?_)
        refine WL.cut tab_ok hR9 rfl rfl rfl rfl rfl rfl (by omega) (by omega) (by omega) (fun A10 c10 hR10 hA10 => ?_)
        refine WL.call rfl rfl (mix_fn gt h9 _ A10 c10 _ w9 hh9 ht9 hR10 (by simp; omega)) ?_
        rintro _ w10 ⟨rfl, hB10, hg10⟩
        repeat (first | refine WC.seq ?_ | refine WC.block ?_ | refine WC.region ?_ | refine WL.nil ?_ | refine WX.then_normal ?_ | refine WC.skip ?_ | refine WC.exit ?_ | refine WC.ret ?_ | refine WX.then_exit ?_ | refine WX.then_ret ?_ | refine WX.block_normal ?_ | refine WX.block_ret ?_ | refine WX.block_same ?_ | refine WX.block_other rfl ?_ | refine WC.label ?_ | refine WC.scope ?_ | refine WX.scope_normal ?_ | refine WX.scope_ret ?_ | refine WX.scope_exit ?_ | refine WL.y rfl (Yld.add rfl rfl (by simp only [In]; omega)) ?_ | refine WL.y rfl (Yld.sub rfl rfl (by simp only [In]; omega)) ?_ | refine WL.y rfl (Yld.mul rfl rfl (by simp only [In]; omega)) ?_ | refine WL.y rfl (Yld.convB tab_ok rfl rfl rfl rfl) ?_ | refine WL.y rfl (Yld.conv tab_ok rfl rfl rfl (by simp only [In]; omega)) ?_ | refine WL.y rfl (Yld.quo rfl rfl (by omega) (by omega) (by simp only [In]; omega)) ?_ | refine WL.y rfl (Yld.rem rfl rfl (by omega) (by omega)) ?_ | refine WL.y rfl (Yld.shl rfl rfl (by omega)) ?_ | refine WL.y rfl (Yld.shr rfl rfl (by omega)) ?_ | refine WL.y rfl (Yld.pure tab_ok rfl) ?_)
        have ec1 : (((64 * i : Nat) : Int) + 64).toNat - ((64 * i : Nat) : Int).toNat = 64 := by omega
        have ec2 : ((64 * i : Nat) : Int).toNat = 64 * i := by omega
        simp only [ec1] at hB10
        simp only [ec2] at hB10
        have hd : 64 ≤ (en.drop (64 * i)).length := by rw [List.length_drop]; omega
        obtain ⟨q, hq⟩ : ∃ q, en.length - i = q + 1 := ⟨en.length - i - 1, by omega⟩
        refine WX.round (i + 1, mixS h9 ((en.drop (64 * i)).take 64)) ⟨by simp only; omega, by rw [mixS_len]; exact hh9, hB10, ?_, gr_trans hg9 hg10⟩ (by simp only; omega) ?_
        · rw [← ha9, hq, absorb, if_pos hd, List.drop_drop]
          simp only
          rw [show en.length - (i + 1) = q by omega, show 64 * i + 64 = 64 * (i + 1) by omega]
        · refine Sub.cons ?_ (by repeat (first | exact Sub.nil | refine Sub.cons rfl ?_))
          show some (vi (((64 * i : Nat) : Int) + 64)) = some (vi ((64 * (i + 1) : Nat) : Int))
          rw [show ((64 * i : Nat) : Int) + 64 = ((64 * (i + 1) : Nat) : Int) by omega]
      · simp only [decide_eq_false_iff_not] at h
        have hnil : en.drop (64 * i) = [] := List.drop_eq_nil_of_le (by omega)
        have habs : ∀ k, absorb k h9 [] = (h9, []) := fun k => by
          cases k with
          | zero => rfl
          | succ k => rw [absorb, if_neg (by simp)]
        have hfin : (absorb en.length hs en).1 = h9 := by rw [← ha9, hnil, habs]
        have hres : sumS hs r n = outAt h9 32 := by
          rw [sumS, ← hfin, ← hend, he7]
          rfl
        have ho9 := ho8.keep hg9 (fun e => by injection e with e; have := ho3.lt; omega)
        have hgr9 : w.grownBy w9 none := gr_new hgr8 hg9 (by omega)
        have hz9 := hg9.size
        clear hg9 hR9 hR8 ht8 ho8 hgr8
        repeat (first | refine WC.seq ?_ | refine WC.block ?_ | refine WC.region ?_ | refine WL.nil ?_ | refine WX.then_normal ?_ | refine WC.skip ?_ | refine WC.exit ?_ | refine WC.ret ?_ | refine WX.then_exit ?_ | refine WX.then_ret ?_ | refine WX.block_normal ?_ | refine WX.block_ret ?_ | refine WX.block_same ?_ | refine WX.block_other rfl ?_ | refine WC.label ?_ | refine WC.scope ?_ | refine WX.scope_normal ?_ | refine WX.scope_ret ?_ | refine WX.scope_exit ?_ | refine WL.y rfl (Yld.add rfl rfl (by simp only [In]; omega)) ?_ | refine WL.y rfl (Yld.sub rfl rfl (by simp only [In]; omega)) ?_ | refine WL.y rfl (Yld.mul rfl rfl (by simp only [In]; omega)) ?_ | refine WL.y rfl (Yld.convB tab_ok rfl rfl rfl rfl) ?_ | refine WL.y rfl (Yld.conv tab_ok rfl rfl rfl (by simp only [In]; omega)) ?_ | refine WL.y rfl (Yld.quo rfl rfl (by omega) (by omega) (by simp only [In]; omega)) ?_ | refine WL.y rfl (Yld.rem rfl rfl (by omega) (by omega)) ?_ | refine WL.y rfl (Yld.shl rfl rfl (by omega)) ?_ | refine WL.y rfl (Yld.shr rfl rfl (by omega)) ?_ | refine WL.y rfl (Yld.pure tab_ok rfl) ?_)
        refine WL.alloc rfl zero30 (fun gu w10 hu10 hg10 hlu => ?_)
        have ho10 := ho9.keep hg10 (by simp)
        have ht10 := ht9.keep hg10 (by simp)
        have hgr10 := gr_trans hgr9 hg10
        have htlt := ht10.lt
        have holt := ho10.lt
        have holt9 := ho9.lt
        have htlt9 := ht9.lt
        repeat (first | refine WC.seq ?_ | refine WC.block ?_ | refine WC.region ?_ | refine WL.nil ?_ | refine WX.then_normal ?_ | refine WC.skip ?_ | refine WC.exit ?_ | refine WC.ret ?_ | refine WX.then_exit ?_ | refine WX.then_ret ?_ | refine WX.block_normal ?_ | refine WX.block_ret ?_ | refine WX.block_same ?_ | refine WX.block_other rfl ?_ | refine WC.label ?_ | refine WC.scope ?_ | refine WX.scope_normal ?_ | refine WX.scope_ret ?_ | refine WX.scope_exit ?_ | refine WL.y rfl (Yld.add rfl rfl (by simp only [In]; omega)) ?_ | refine WL.y rfl (Yld.sub rfl rfl (by simp only [In]; omega)) ?_ | refine WL.y rfl (Yld.mul rfl rfl (by simp only [In]; omega)) ?_ | refine WL.y rfl (Yld.convB tab_ok rfl rfl rfl rfl) ?_ | refine WL.y rfl (Yld.conv tab_ok rfl rfl rfl (by simp only [In]; omega)) ?_ | refine WL.y rfl (Yld.quo rfl rfl (by omega) (by omega) (by simp only [In]; omega)) ?_ | refine WL.y rfl (Yld.rem rfl rfl (by omega) (by omega)) ?_ | refine WL.y rfl (Yld.shl rfl rfl (by omega)) ?_ | refine WL.y rfl (Yld.shr rfl rfl (by omega)) ?_ | refine WL.y rfl (Yld.pure tab_ok rfl) ?_)
        refine WC.loop (S := Nat) (fun i => 32 - i) (fun i => [(57, vi i), (8, .pointer (some ⟨gu, 0, none⟩)), (3, .pointer (some ⟨gt, 0, none⟩)), (2, .pointer (some ⟨go, 0, none⟩))])
          (fun i w11 => i ≤ 32 ∧ Bl w11 gu 30 ((outAt h9 i).map vb) ∧ w10.grownBy w11 (some gu)) 0 ⟨by omega, by rw [outAt, List.map_replicate]; exact hu10, gr_refl _ _⟩ (by repeat (first | exact Sub.nil | refine Sub.cons rfl ?_)) (fun i w11 ⟨hi, hu11, hg11⟩ => ?_)
        have hol := outAt_len h9 i
        have ht11 := ht10.keep hg11 (fun e => by injection e with e; omega)
        have ho11 := ho10.keep hg11 (fun e => by injection e with e; omega)
        repeat (first | refine WC.seq ?_ | refine WC.block ?_ | refine WC.region ?_ | refine WL.nil ?_ | refine WX.then_normal ?_ | refine WC.skip ?_ | refine WC.exit ?_ | refine WC.ret ?_ | refine WX.then_exit ?_ | refine WX.then_ret ?_ | refine WX.block_normal ?_ | refine WX.block_ret ?_ | refine WX.block_same ?_ | refine WX.block_other rfl ?_ | refine WC.label ?_ | refine WC.scope ?_ | refine WX.scope_normal ?_ | refine WX.scope_ret ?_ | refine WX.scope_exit ?_ | refine WL.y rfl (Yld.add rfl rfl (by simp only [In]; omega)) ?_ | refine WL.y rfl (Yld.sub rfl rfl (by simp only [In]; omega)) ?_ | refine WL.y rfl (Yld.mul rfl rfl (by simp only [In]; omega)) ?_ | refine WL.y rfl (Yld.convB tab_ok rfl rfl rfl rfl) ?_ | refine WL.y rfl (Yld.conv tab_ok rfl rfl rfl (by simp only [In]; omega)) ?_ | refine WL.y rfl (Yld.quo rfl rfl (by omega) (by omega) (by simp only [In]; omega)) ?_ | refine WL.y rfl (Yld.rem rfl rfl (by omega) (by omega)) ?_ | refine WL.y rfl (Yld.shl rfl rfl (by omega)) ?_ | refine WL.y rfl (Yld.shr rfl rfl (by omega)) ?_ | refine WL.y rfl (Yld.pure tab_ok rfl) ?_)
        refine WC.cond rfl (fun h => ?_) (fun h => ?_)
        · simp only [decide_eq_true_eq] at h
          have hv : (stc h9 A c r n)[0 + 0 + ((i : Int) / 4).toNat * 1]? = some (vu (h9.getD (i / 4) 0)) := by
            have e : 0 + 0 + ((i : Int) / 4).toNat * 1 = i / 4 := by omega
            rw [e, stc, List.getElem?_append_left (by rw [List.length_map]; omega)]
            simp [List.getD, show i / 4 < h9.length by omega]
          repeat (first | refine WL.y rfl (Yld.aaddrN tab_ok rfl rfl rfl (by omega)) ?_ | refine WL.y rfl (Yld.aaddr tab_ok rfl rfl rfl (by omega) (by omega)) ?_ | refine WL.y rfl (Yld.bload tab_ok ht11 rfl rfl hv) ?_ | refine WL.y rfl (Yld.toB tab_ok rfl rfl rfl) ?_ | refine WC.seq ?_ | refine WC.block ?_ | refine WC.region ?_ | refine WL.nil ?_ | refine WX.then_normal ?_ | refine WC.skip ?_ | refine WC.exit ?_ | refine WC.ret ?_ | refine WX.then_exit ?_ | refine WX.then_ret ?_ | refine WX.block_normal ?_ | refine WX.block_ret ?_ | refine WX.block_same ?_ | refine WX.block_other rfl ?_ | refine WC.label ?_ | refine WC.scope ?_ | refine WX.scope_normal ?_ | refine WX.scope_ret ?_ | refine WX.scope_exit ?_ | refine WL.y rfl (Yld.add rfl rfl (by simp only [In]; omega)) ?_ | refine WL.y rfl (Yld.sub rfl rfl (by simp only [In]; omega)) ?_ | refine WL.y rfl (Yld.mul rfl rfl (by simp only [In]; omega)) ?_ | refine WL.y rfl (Yld.convB tab_ok rfl rfl rfl rfl) ?_ | refine WL.y rfl (Yld.conv tab_ok rfl rfl rfl (by simp only [In]; omega)) ?_ | refine WL.y rfl (Yld.quo rfl rfl (by omega) (by omega) (by simp only [In]; omega)) ?_ | refine WL.y rfl (Yld.rem rfl rfl (by omega) (by omega)) ?_ | refine WL.y rfl (Yld.shl rfl rfl (by omega)) ?_ | refine WL.y rfl (Yld.shr rfl rfl (by omega)) ?_ | refine WL.y rfl (Yld.pure tab_ok rfl) ?_)
          refine WL.store1 one5 rfl rfl rfl hu11 (by rw [List.length_map]; omega) (fun w12 hu12 hg12 => ?_)
          repeat (first | refine WC.seq ?_ | refine WC.block ?_ | refine WC.region ?_ | refine WL.nil ?_ | refine WX.then_normal ?_ | refine WC.skip ?_ | refine WC.exit ?_ | refine WC.ret ?_ | refine WX.then_exit ?_ | refine WX.then_ret ?_ | refine WX.block_normal ?_ | refine WX.block_ret ?_ | refine WX.block_same ?_ | refine WX.block_other rfl ?_ | refine WC.label ?_ | refine WC.scope ?_ | refine WX.scope_normal ?_ | refine WX.scope_ret ?_ | refine WX.scope_exit ?_ | refine WL.y rfl (Yld.add rfl rfl (by simp only [In]; omega)) ?_ | refine WL.y rfl (Yld.sub rfl rfl (by simp only [In]; omega)) ?_ | refine WL.y rfl (Yld.mul rfl rfl (by simp only [In]; omega)) ?_ | refine WL.y rfl (Yld.convB tab_ok rfl rfl rfl rfl) ?_ | refine WL.y rfl (Yld.conv tab_ok rfl rfl rfl (by simp only [In]; omega)) ?_ | refine WL.y rfl (Yld.quo rfl rfl (by omega) (by omega) (by simp only [In]; omega)) ?_ | refine WL.y rfl (Yld.rem rfl rfl (by omega) (by omega)) ?_ | refine WL.y rfl (Yld.shl rfl rfl (by omega)) ?_ | refine WL.y rfl (Yld.shr rfl rfl (by omega)) ?_ | refine WL.y rfl (Yld.pure tab_ok rfl) ?_)
          refine WX.round (i + 1) ⟨by omega, ?_, gr_trans hg11 hg12⟩ (by omega) (by repeat (first | exact Sub.nil | refine Sub.cons rfl ?_))
          rw [show 0 + i * 1 = i by omega] at hu12
          rw [outAt, List.map_set]
          exact hu12
        · simp only [decide_eq_false_iff_not] at h
          obtain rfl : i = 32 := by omega
          repeat (first | refine WL.y rfl (Yld.bagg (vs := (outAt h9 32).map vb) tab_ok hu11 rfl rfl (by rw [List.drop_zero, List.take_of_length_le]; simp [hol]) (by simp [hol])) ?_ | refine WC.seq ?_ | refine WC.block ?_ | refine WC.region ?_ | refine WL.nil ?_ | refine WX.then_normal ?_ | refine WC.skip ?_ | refine WC.exit ?_ | refine WC.ret ?_ | refine WX.then_exit ?_ | refine WX.then_ret ?_ | refine WX.block_normal ?_ | refine WX.block_ret ?_ | refine WX.block_same ?_ | refine WX.block_other rfl ?_ | refine WC.label ?_ | refine WC.scope ?_ | refine WX.scope_normal ?_ | refine WX.scope_ret ?_ | refine WX.scope_exit ?_ | refine WL.y rfl (Yld.add rfl rfl (by simp only [In]; omega)) ?_ | refine WL.y rfl (Yld.sub rfl rfl (by simp only [In]; omega)) ?_ | refine WL.y rfl (Yld.mul rfl rfl (by simp only [In]; omega)) ?_ | refine WL.y rfl (Yld.convB tab_ok rfl rfl rfl rfl) ?_ | refine WL.y rfl (Yld.conv tab_ok rfl rfl rfl (by simp only [In]; omega)) ?_ | refine WL.y rfl (Yld.quo rfl rfl (by omega) (by omega) (by simp only [In]; omega)) ?_ | refine WL.y rfl (Yld.rem rfl rfl (by omega) (by omega)) ?_ | refine WL.y rfl (Yld.shl rfl rfl (by omega)) ?_ | refine WL.y rfl (Yld.shr rfl rfl (by omega)) ?_ | refine WL.y rfl (Yld.pure tab_ok rfl) ?_)
          refine WL.storeW tab_ok rfl rfl rfl (oneM One.b _) ho11 rfl (by simp [hol]) (fun w12 ho12 hg12 => ?_)
          repeat (first | refine WC.seq ?_ | refine WC.block ?_ | refine WC.region ?_ | refine WL.nil ?_ | refine WX.then_normal ?_ | refine WC.skip ?_ | refine WC.exit ?_ | refine WC.ret ?_ | refine WX.then_exit ?_ | refine WX.then_ret ?_ | refine WX.block_normal ?_ | refine WX.block_ret ?_ | refine WX.block_same ?_ | refine WX.block_other rfl ?_ | refine WC.label ?_ | refine WC.scope ?_ | refine WX.scope_normal ?_ | refine WX.scope_ret ?_ | refine WX.scope_exit ?_ | refine WL.y rfl (Yld.add rfl rfl (by simp only [In]; omega)) ?_ | refine WL.y rfl (Yld.sub rfl rfl (by simp only [In]; omega)) ?_ | refine WL.y rfl (Yld.mul rfl rfl (by simp only [In]; omega)) ?_ | refine WL.y rfl (Yld.convB tab_ok rfl rfl rfl rfl) ?_ | refine WL.y rfl (Yld.conv tab_ok rfl rfl rfl (by simp only [In]; omega)) ?_ | refine WL.y rfl (Yld.quo rfl rfl (by omega) (by omega) (by simp only [In]; omega)) ?_ | refine WL.y rfl (Yld.rem rfl rfl (by omega) (by omega)) ?_ | refine WL.y rfl (Yld.shl rfl rfl (by omega)) ?_ | refine WL.y rfl (Yld.shr rfl rfl (by omega)) ?_ | refine WL.y rfl (Yld.pure tab_ok rfl) ?_)
          refine WX.retc tab_ok rfl rfl rfl ho12 (by simp [hol]) ⟨by rw [hres], ?_⟩
          exact gr_new (gr_new hgr10 hg11 (by have := hgr9.size; omega)) hg12 hlo
end Go.Proofs.YtfibkajdahaggaaDoor
