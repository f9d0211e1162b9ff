import Derived.Test.YtfibkajdahaggaaDoorSha4
namespace Go.Proofs.YtfibkajdahaggaaDoor
open Go Go.RowKit
attribute [local irreducible] WL WC WX WQ Yld Fn

theorem Rd.ofBl {α : Type} {f : α → Value} {w : World} {g : Nat} {e : TypeId} {xs : List α} {m : Nat} (h : Bl w g e (xs.map f)) (hm : xs.length ≤ m) (h63 : m ≤ maxLen) : Rd f w (some ⟨g, 0, none⟩) m xs :=
  ⟨hm, h63, fun _ => ⟨_, rfl, fun j x hj => by rw [Addr.add_mid, Nat.zero_add, h.cell]; simp [hj]⟩⟩
/-- all whole blocks of all are taken in; what is left -/
def absorb : Nat → List Int → List UInt8 → List Int × List UInt8
  | 0, hs, all => (hs, all)
  | m + 1, hs, all => if 64 ≤ all.length then absorb m (mixS hs (all.take 64)) (all.drop 64) else (hs, all)
theorem absorb_more : ∀ (m : Nat) (hs : List Int) (all : List UInt8), all.length ≤ m → absorb (m + 1) hs all = absorb m hs all
  | 0, hs, all, h => by
    have : ¬ 64 ≤ all.length := by omega
    simp [absorb, this]
  | m + 1, hs, all, h => by
    rw [absorb]
    conv => rhs; rw [absorb]
    split
    · exact absorb_more m _ _ (by simp; omega)
    · rfl
theorem absorb_len : ∀ (m : Nat) (hs : List Int) (all : List UInt8), hs.length = 8 → (absorb m hs all).1.length = 8
  | 0, _, _, h => h
  | m + 1, hs, all, h => by
    rw [absorb]
    split
    · exact absorb_len m _ _ (by rw [mixS_len]; exact h)
    · exact h
/-- the state (words, bytes that are left) behind more bytes -/
def wrS (hs : List Int) (r b : List UInt8) : List Int × List UInt8 := absorb (r ++ b).length hs (r ++ b)
structure St (w : World) (g : Nat) (hs : List Int) (r : List UInt8) (n : Int) : Prop where
  len : hs.length = 8
  at_ : ∃ A c, Bl w g 81 (stc hs A c r n) ∧ Rd vb w A c r ∧ blk A ≠ some g
theorem stc_8 {hs : List Int} (hh : hs.length = 8) (A : Option Addr) (c : Nat) (r : List UInt8) (n : Int) : (stc hs A c r n)[8]? = some (.slice A r.length c) := by
  unfold stc; rw [List.getElem?_append_right (by simp [hh])]; simp [hh]
theorem stc_9 {hs : List Int} (hh : hs.length = 8) (A : Option Addr) (c : Nat) (r : List UInt8) (n : Int) : (stc hs A c r n)[9]? = some (.int .u64 n) := by
  unfold stc; rw [List.getElem?_append_right (by simp [hh])]; simp [hh]
theorem stc_set8 {hs : List Int} (hh : hs.length = 8) (A A' : Option Addr) (c c' : Nat) (r r' : List UInt8) (n : Int) : (stc hs A c r n).set 8 (.slice A' r'.length c') = stc hs A' c' r' n := by
  unfold stc; rw [List.set_append_right _ _ (by simp [hh])]; simp [hh]
theorem stc_set9 {hs : List Int} (hh : hs.length = 8) (A : Option Addr) (c : Nat) (r : List UInt8) (n n' : Int) : (stc hs A c r n).set 9 (.int .u64 n') = stc hs A c r n' := by
  unfold stc; rw [List.set_append_right _ _ (by simp [hh])]; simp [hh]
theorem stc_len {hs : List Int} (hh : hs.length = 8) (A : Option Addr) (c : Nat) (r : List UInt8) (n : Int) : (stc hs A c r n).length = 10 := by simp [stc, hh]

theorem write_fn (g : Nat) (hs : List Int) (r : List UInt8) (n : Int) (A2 : Option Addr) (c2 : Nat) (b : List UInt8) (w : World) (hS : St w g hs r n) (hR2 : Rd vb w A2 c2 b) (hA2 : b ≠ [] → blk A2 ≠ some g) (hn : 0 ≤ n) (hn2 : n ≤ 1073741824) (hr : r.length ≤ 64) (hb : b.length ≤ 1000000) :
    Fn Tryd.prog 10 ⟨[.pointer (some ⟨g, 0, none⟩), .slice A2 b.length c2]⟩ w fun v w' => v = .tuple #[] ∧ St w' g (wrS hs r b).1 (wrS hs r b).2 (n + b.length) ∧ w.grownBy w' (some g) := by
  obtain ⟨hh, A, c, hB, hR, hA⟩ := hS
  refine Fn.enter (by kernel_rfl) Tryd.func10 rfl Tryd.ntmps10 rfl ?_
  repeat (first | refine WL.y rfl (Yld.bload tab_ok hB rfl rfl (stc_9 hh A c r n)) ?_ | refine WC.seq ?_ | refine WC.block ?_ | refine WC.region ?_ | refine WL.nil ?_ | refine WX.then_normal ?_ | refine WC.skip ?_ | refine WC.exit ?_ | refine WC.ret ?_ | refine WX.then_exit ?_ | refine WX.then_ret ?_ | refine WX.block_normal ?_ | refine WX.block_ret ?_ | refine WX.block_same ?_ | refine WX.block_other rfl ?_ | refine WC.label ?_ | refine WC.scope ?_ | refine WX.scope_normal ?_ | refine WX.scope_ret ?_ | refine WX.scope_exit ?_ | refine WL.y rfl (Yld.add rfl rfl (by simp only [In]; omega)) ?_ | refine WL.y rfl (Yld.sub rfl rfl (by simp only [In]; omega)) ?_ | refine WL.y rfl (Yld.mul rfl rfl (by simp only [In]; omega)) ?_ | refine WL.y rfl (Yld.convB tab_ok rfl rfl rfl rfl) ?_ | refine WL.y rfl (Yld.conv tab_ok rfl rfl rfl (by simp only [In]; omega)) ?_ | refine WL.y rfl (Yld.quo rfl rfl (by omega) (by omega) (by simp only [In]; omega)) ?_ | refine WL.y rfl (Yld.rem rfl rfl (by omega) (by omega)) ?_ | refine WL.y rfl (Yld.shl rfl rfl (by omega)) ?_ | refine WL.y rfl (Yld.shr rfl rfl (by omega)) ?_ | refine WL.y rfl (Yld.pure tab_ok rfl) ?_)
  refine WL.store1 one79 rfl rfl rfl hB (by rw [stc_len hh]; omega) (fun w1 hB1 hg1 => ?_)
  rw [stc_set9 hh] at hB1
  have hR1 := hR.keep hg1 (fun q hq e => by injection hq with hq; exact hA (by rw [e, hq]))
  have hR21 := hR2.keep' hg1 (fun hb q hq e => by injection hq with hq; exact hA2 hb (by rw [e, hq]))
  repeat (first | refine WL.y rfl (Yld.bload tab_ok hB1 rfl rfl (stc_8 hh A c r _)) ?_ | refine WC.seq ?_ | refine WC.block ?_ | refine WC.region ?_ | refine WL.nil ?_ | refine WX.then_normal ?_ | refine WC.skip ?_ | refine WC.exit ?_ | refine WC.ret ?_ | refine WX.then_exit ?_ | refine WX.then_ret ?_ | refine WX.block_normal ?_ | refine WX.block_ret ?_ | refine WX.block_same ?_ | refine WX.block_other rfl ?_ | refine WC.label ?_ | refine WC.scope ?_ | refine WX.scope_normal ?_ | refine WX.scope_ret ?_ | refine WX.scope_exit ?_ | refine WL.y rfl (Yld.add rfl rfl (by simp only [In]; omega)) ?_ | refine WL.y rfl (Yld.sub rfl rfl (by simp only [In]; omega)) ?_ | refine WL.y rfl (Yld.mul rfl rfl (by simp only [In]; omega)) ?_ | refine WL.y rfl (Yld.convB tab_ok rfl rfl rfl rfl) ?_ | refine WL.y rfl (Yld.conv tab_ok rfl rfl rfl (by simp only [In]; omega)) ?_ | refine WL.y rfl (Yld.quo rfl rfl (by omega) (by omega) (by simp only [In]; omega)) ?_ | refine WL.y rfl (Yld.rem rfl rfl (by omega) (by omega)) ?_ | refine WL.y rfl (Yld.shl rfl rfl (by omega)) ?_ | refine WL.y rfl (Yld.shr rfl rfl (by omega)) ?_ | refine WL.y rfl (Yld.pure tab_ok rfl) ?_)
  refine WL.lit (us := [vS (A, c, r), vS (A2, c2, b)]) tab_ok rfl rfl rfl (by intro u hu; simp at hu; rcases hu with rfl | rfl <;> rfl) rfl (by omega) (fun gl w2 hL2 hg2 hl2 => ?_)
  refine WL.call rfl rfl (concat_fn (some ⟨gl, 0, none⟩) 2 [(A, c, r), (A2, c2, b)] w2 (Rd.ofBl hL2 (by simp) (by simp [maxLen])) (by intro x hx; simp at hx; rcases hx with rfl | rfl; exact hR1.grown hg2; exact hR21.grown hg2) (by simp [catS]; omega)) ?_
  rintro _ w3 ⟨A3, c3, rfl, hO3, hg3⟩
  have hcat : catS [(A, c, r), (A2, c2, b)] = r ++ b := by simp [catS]
  rw [hcat] at hO3 ⊢
  have hB3 := (hB1.keep hg2 (by simp)).keep hg3 (by simp)
  have hz1 := hg1.size
  have hz2 := hg2.size
  have hgl : g < w2.heap.size := by have := hB1.lt; omega
  have hA3 : blk A3 ≠ some g := fun e => by have := (hO3.lt e).1; omega
  have hg13 : w.grownBy w3 (some g) := gr_trans (gr_trans hg1 (gr_some hg2 _)) (gr_some hg3 _)
  have hR3 := hO3.rd
  clear hO3 hL2 hg1 hg2 hg3 hR1 hR21 hB1
  repeat (first | refine WC.seq ?_ | refine WC.block ?_ | refine WC.region ?_ | refine WL.nil ?_ | refine WX.then_normal ?_ | refine WC.skip ?_ | refine WC.exit ?_ | refine WC.ret ?_ | refine WX.then_exit ?_ | refine WX.then_ret ?_ | refine WX.block_normal ?_ | refine WX.block_ret ?_ | refine WX.block_same ?_ | refine WX.block_other rfl ?_ | refine WC.label ?_ | refine WC.scope ?_ | refine WX.scope_normal ?_ | refine WX.scope_ret ?_ | refine WX.scope_exit ?_ | refine WL.y rfl (Yld.add rfl rfl (by simp only [In]; omega)) ?_ | refine WL.y rfl (Yld.sub rfl rfl (by simp only [In]; omega)) ?_ | refine WL.y rfl (Yld.mul rfl rfl (by simp only [In]; omega)) ?_ | refine WL.y rfl (Yld.convB tab_ok rfl rfl rfl rfl) ?_ | refine WL.y rfl (Yld.conv tab_ok rfl rfl rfl (by simp only [In]; omega)) ?_ | refine WL.y rfl (Yld.quo rfl rfl (by omega) (by omega) (by simp only [In]; omega)) ?_ | refine WL.y rfl (Yld.rem rfl rfl (by omega) (by omega)) ?_ | refine WL.y rfl (Yld.shl rfl rfl (by omega)) ?_ | refine WL.y rfl (Yld.shr rfl rfl (by omega)) ?_ | refine WL.y rfl (Yld.pure tab_ok rfl) ?_)
  refine WC.loop (S := Nat × List Int × Option Addr × Nat × List UInt8) (fun s => s.2.2.2.2.length) (fun s => [(4, .slice s.2.2.1 s.2.2.2.2.length s.2.2.2.1), (0, .pointer (some ⟨g, 0, none⟩))])
    (fun s w4 => s.2.1.length = 8 ∧ Bl w4 g 81 (stc s.2.1 A c r (n + b.length)) ∧ Rd vb w4 s.2.2.1 s.2.2.2.1 s.2.2.2.2 ∧ blk s.2.2.1 ≠ some g ∧ s.2.2.2.2.length ≤ s.1 ∧ s.2.2.2.2.length ≤ 2000000 ∧ absorb s.1 s.2.1 s.2.2.2.2 = wrS hs r b ∧ w3.grownBy w4 (some g))
    ((r ++ b).length, hs, A3, c3, r ++ b) ⟨hh, hB3, hR3, hA3, Nat.le_refl _, by simp; omega, rfl, gr_refl _ _⟩ (by repeat (first | exact Sub.nil | refine Sub.cons rfl ?_)) (fun ⟨m, h4, A4, c4, al⟩ w4 ⟨hh4, hB4, hR4, hA4, hm4, hl4, ha4, hg4⟩ => ?_)
  simp only at hh4 hB4 hR4 hA4 hm4 hl4 ha4
  repeat (first | refine WC.seq ?_ | refine WC.block ?_ | refine WC.region ?_ | refine WL.nil ?_ | refine WX.then_normal ?_ | refine WC.skip ?_ | refine WC.exit ?_ | refine WC.ret ?_ | refine WX.then_exit ?_ | refine WX.then_ret ?_ | refine WX.block_normal ?_ | refine WX.block_ret ?_ | refine WX.block_same ?_ | refine WX.block_other rfl ?_ | refine WC.label ?_ | refine WC.scope ?_ | refine WX.scope_normal ?_ | refine WX.scope_ret ?_ | refine WX.scope_exit ?_ | refine WL.y rfl (Yld.add rfl rfl (by simp only [In]; omega)) ?_ | refine WL.y rfl (Yld.sub rfl rfl (by simp only [In]; omega)) ?_ | refine WL.y rfl (Yld.mul rfl rfl (by simp only [In]; omega)) ?_ | refine WL.y rfl (Yld.convB tab_ok rfl rfl rfl rfl) ?_ | refine WL.y rfl (Yld.conv tab_ok rfl rfl rfl (by simp only [In]; omega)) ?_ | refine WL.y rfl (Yld.quo rfl rfl (by omega) (by omega) (by simp only [In]; omega)) ?_ | refine WL.y rfl (Yld.rem rfl rfl (by omega) (by omega)) ?_ | refine WL.y rfl (Yld.shl rfl rfl (by omega)) ?_ | refine WL.y rfl (Yld.shr rfl rfl (by omega)) ?_ | refine WL.y rfl (Yld.pure tab_ok rfl) ?_)
  refine WC.cond rfl (fun h => ?_) (fun h => ?_)
  · simp only [decide_eq_true_eq] at h
    have h64 : 64 ≤ al.length := by omega
    repeat (first | refine WC.seq ?_ | refine WC.block ?_ | refine WC.region ?_ | refine WL.nil ?_ | refine WX.then_normal ?_ | refine WC.skip ?_ | refine WC.exit ?_ | refine WC.ret ?_ | refine WX.then_exit ?_ | refine WX.then_ret ?_ | refine WX.block_normal ?_ | refine WX.block_ret ?_ | refine WX.block_same ?_ | refine WX.block_other rfl ?_ | refine WC.label ?_ | refine WC.scope ?_ | refine WX.scope_normal ?_ | refine WX.scope_ret ?_ | refine WX.scope_exit ?_ | refine WL.y rfl (Yld.add rfl rfl (by simp only [In]; omega)) ?_ | refine WL.y rfl (Yld.sub rfl rfl (by simp only [In]; omega)) ?_ | refine WL.y rfl (Yld.mul rfl rfl (by simp only [In]; omega)) ?_ | refine WL.y rfl (Yld.convB tab_ok rfl rfl rfl rfl) ?_ | refine WL.y rfl (Yld.conv tab_ok rfl rfl rfl (by simp only [In]; omega)) ?_ | refine WL.y rfl (Yld.quo rfl rfl (by omega) (by omega) (by simp only [In]; omega)) ?_ | refine WL.y rfl (Yld.rem rfl rfl (by omega) (by omega)) ?_ | refine WL.y rfl (Yld.shl rfl rfl (by omega)) ?_ | refine WL.y rfl (Yld.shr rfl rfl (by omega)) ?_ | refine WL.y rfl (Yld.pure tab_ok rfl) ?_)
    refine WL.cut tab_ok hR4 rfl rfl rfl rfl rfl rfl (by omega) (by omega) (by omega) (fun A5 c5 hR5 hA5 => ?_)
    refine WL.call rfl rfl (mix_fn g h4 _ A5 c5 _ w4 hh4 hB4 hR5 (by simp; omega)) ?_
    rintro _ w5 ⟨rfl, hB5, hg5⟩
    have hR45 := hR4.keep hg5 (fun q hq e => by injection hq with hq; exact hA4 (by rw [e, hq]))
    repeat (first | refine WC.seq ?_ | refine WC.block ?_ | refine WC.region ?_ | refine WL.nil ?_ | refine WX.then_normal ?_ | refine WC.skip ?_ | refine WC.exit ?_ | refine WC.ret ?_ | refine WX.then_exit ?_ | refine WX.then_ret ?_ | refine WX.block_normal ?_ | refine WX.block_ret ?_ | refine WX.block_same ?_ | refine WX.block_other rfl ?_ | refine WC.label ?_ | refine WC.scope ?_ | refine WX.scope_normal ?_ | refine WX.scope_ret ?_ | refine WX.scope_exit ?_ | refine WL.y rfl (Yld.add rfl rfl (by simp only [In]; omega)) ?_ | refine WL.y rfl (Yld.sub rfl rfl (by simp only [In]; omega)) ?_ | refine WL.y rfl (Yld.mul rfl rfl (by simp only [In]; omega)) ?_ | refine WL.y rfl (Yld.convB tab_ok rfl rfl rfl rfl) ?_ | refine WL.y rfl (Yld.conv tab_ok rfl rfl rfl (by simp only [In]; omega)) ?_ | refine WL.y rfl (Yld.quo rfl rfl (by omega) (by omega) (by simp only [In]; omega)) ?_ | refine WL.y rfl (Yld.rem rfl rfl (by omega) (by omega)) ?_ | refine WL.y rfl (Yld.shl rfl rfl (by omega)) ?_ | refine WL.y rfl (Yld.shr rfl rfl (by omega)) ?_ | refine WL.y rfl (Yld.pure tab_ok rfl) ?_)
    refine WL.cut tab_ok hR45 rfl rfl rfl rfl rfl rfl (by omega) (by omega) (by omega) (fun A6 c6 hR6 hA6 => ?_)
    repeat (first | refine WC.seq ?_ | refine WC.block ?_ | refine WC.region ?_ | refine WL.nil ?_ | refine WX.then_normal ?_ | refine WC.skip ?_ | refine WC.exit ?_ | refine WC.ret ?_ | refine WX.then_exit ?_ | refine WX.then_ret ?_ | refine WX.block_normal ?_ | refine WX.block_ret ?_ | refine WX.block_same ?_ | refine WX.block_other rfl ?_ | refine WC.label ?_ | refine WC.scope ?_ | refine WX.scope_normal ?_ | refine WX.scope_ret ?_ | refine WX.scope_exit ?_ | refine WL.y rfl (Yld.add rfl rfl (by simp only [In]; omega)) ?_ | refine WL.y rfl (Yld.sub rfl rfl (by simp only [In]; omega)) ?_ | refine WL.y rfl (Yld.mul rfl rfl (by simp only [In]; omega)) ?_ | refine WL.y rfl (Yld.convB tab_ok rfl rfl rfl rfl) ?_ | refine WL.y rfl (Yld.conv tab_ok rfl rfl rfl (by simp only [In]; omega)) ?_ | refine WL.y rfl (Yld.quo rfl rfl (by omega) (by omega) (by simp only [In]; omega)) ?_ | refine WL.y rfl (Yld.rem rfl rfl (by omega) (by omega)) ?_ | refine WL.y rfl (Yld.shl rfl rfl (by omega)) ?_ | refine WL.y rfl (Yld.shr rfl rfl (by omega)) ?_ | refine WL.y rfl (Yld.pure tab_ok rfl) ?_)
    have h0 : Int.toNat 64 - Int.toNat 0 = 64 := rfl
    have hm0 : 1 ≤ m := by omega
    obtain ⟨q, rfl⟩ : ∃ q, m = q + 1 := ⟨m - 1, by omega⟩
    have hlen6 : ((al.drop (Int.toNat 64)).take ((al.length : Int).toNat - Int.toNat 64)) = al.drop 64 := by
      rw [List.take_of_length_le]
      · rfl
      · rw [List.length_drop]; omega
    rw [hlen6] at hR6 ⊢
    refine WX.round (q, mixS h4 ((al.drop (Int.toNat 0)).take (Int.toNat 64 - Int.toNat 0)), A6, c6, al.drop 64) ⟨?_, hB5, hR6, fun e => hA4 (hA6 _ e), ?_, ?_, ?_, gr_trans hg4 hg5⟩ ?_ (by repeat (first | exact Sub.nil | refine Sub.cons rfl ?_))
    · rw [mixS_len]; exact hh4
    · simp only [List.length_drop]; omega
    · simp only [List.length_drop]; omega
    · rw [← ha4, absorb, if_pos h64]
      rfl
    · simp only [List.length_drop]; omega
  · simp only [decide_eq_false_iff_not] at h
    have hfin : wrS hs r b = (h4, al) := by
      rw [← ha4]
      cases m with
      | zero => rfl
      | succ q => rw [absorb, if_neg (by omega)]
    repeat (first | refine WC.seq ?_ | refine WC.block ?_ | refine WC.region ?_ | refine WL.nil ?_ | refine WX.then_normal ?_ | refine WC.skip ?_ | refine WC.exit ?_ | refine WC.ret ?_ | refine WX.then_exit ?_ | refine WX.then_ret ?_ | refine WX.block_normal ?_ | refine WX.block_ret ?_ | refine WX.block_same ?_ | refine WX.block_other rfl ?_ | refine WC.label ?_ | refine WC.scope ?_ | refine WX.scope_normal ?_ | refine WX.scope_ret ?_ | refine WX.scope_exit ?_ | refine WL.y rfl (Yld.add rfl rfl (by simp only [In]; omega)) ?_ | refine WL.y rfl (Yld.sub rfl rfl (by simp only [In]; omega)) ?_ | refine WL.y rfl (Yld.mul rfl rfl (by simp only [In]; omega)) ?_ | refine WL.y rfl (Yld.convB tab_ok rfl rfl rfl rfl) ?_ | refine WL.y rfl (Yld.conv tab_ok rfl rfl rfl (by simp only [In]; omega)) ?_ | refine WL.y rfl (Yld.quo rfl rfl (by omega) (by omega) (by simp only [In]; omega)) ?_ | refine WL.y rfl (Yld.rem rfl rfl (by omega) (by omega)) ?_ | refine WL.y rfl (Yld.shl rfl rfl (by omega)) ?_ | refine WL.y rfl (Yld.shr rfl rfl (by omega)) ?_ | refine WL.y rfl (Yld.pure tab_ok rfl) ?_)
    refine WL.store1 one22 rfl rfl rfl hB4 (by rw [stc_len hh4]; omega) (fun w5 hB5 hg5 => ?_)
    rw [stc_set8 hh4] at hB5
    repeat (first | refine WC.seq ?_ | refine WC.block ?_ | refine WC.region ?_ | refine WL.nil ?_ | refine WX.then_normal ?_ | refine WC.skip ?_ | refine WC.exit ?_ | refine WC.ret ?_ | refine WX.then_exit ?_ | refine WX.then_ret ?_ | refine WX.block_normal ?_ | refine WX.block_ret ?_ | refine WX.block_same ?_ | refine WX.block_other rfl ?_ | refine WC.label ?_ | refine WC.scope ?_ | refine WX.scope_normal ?_ | refine WX.scope_ret ?_ | refine WX.scope_exit ?_ | refine WL.y rfl (Yld.add rfl rfl (by simp only [In]; omega)) ?_ | refine WL.y rfl (Yld.sub rfl rfl (by simp only [In]; omega)) ?_ | refine WL.y rfl (Yld.mul rfl rfl (by simp only [In]; omega)) ?_ | refine WL.y rfl (Yld.convB tab_ok rfl rfl rfl rfl) ?_ | refine WL.y rfl (Yld.conv tab_ok rfl rfl rfl (by simp only [In]; omega)) ?_ | refine WL.y rfl (Yld.quo rfl rfl (by omega) (by omega) (by simp only [In]; omega)) ?_ | refine WL.y rfl (Yld.rem rfl rfl (by omega) (by omega)) ?_ | refine WL.y rfl (Yld.shl rfl rfl (by omega)) ?_ | refine WL.y rfl (Yld.shr rfl rfl (by omega)) ?_ | refine WL.y rfl (Yld.pure tab_ok rfl) ?_)
    refine WX.end0 rfl ⟨rfl, ?_, gr_trans (gr_trans hg13 hg4) hg5⟩
    rw [hfin]
    exact ⟨hh4, A4, c4, hB5, hR4.keep hg5 (fun q hq e => by injection hq with hq; exact hA4 (by rw [e, hq])), hA4⟩
end Go.Proofs.YtfibkajdahaggaaDoor
