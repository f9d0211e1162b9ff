/- More rules: a grown nil slice, a slice of one's own cut at its head, make, bytes by name. -/
import Derived.Test.YtfibkajdahaggaaDoorBuild
namespace Go.Proofs.YtfibkajdahaggaaDoor
open Go Go.RowKit
section rules
variable {P : Program} {T : Tab} {N : Nat} {ops : Array Oper} {Q : Post} {L : Slots} {w : World} {rest : List Oper} {d : Nat} {ty : TypeId} {pos : String} {af : Array Edge} {t t' : TypeId} {x y i : Operand} {k : IntKind} {q : Int}
variable {α : Type} {f : α → Value} {A : Option Addr} {c n B : Nat} {xs ys : List α} {e : TypeId} {us : List Value}

theorem Own.take (h : Own f w B e A c xs) (m : Nat) (hm : m ≤ xs.length) (hA : xs = [] → A = none → c = 0) : Own f w B e A c (xs.take m) := by
  unfold Own at h ⊢
  rcases h.2 with ⟨hv, hn⟩ | ⟨g, cap, cur, hv, hb, hg, hnc, hcm, hcs, htake⟩
  · simp only [Value.slice.injEq] at hv
    obtain ⟨rfl, _, rfl⟩ := hv
    have : xs = [] := List.eq_nil_of_length_eq_zero hn
    subst this
    simpa using World.ownsRow_nil w B e 1
  · simp only [Value.slice.injEq] at hv
    obtain ⟨rfl, _, rfl⟩ := hv
    have hl : (xs.take m).length = m := by simp; omega
    rw [hl]
    refine ⟨by simp; omega, .inr ⟨g, c, cur, rfl, hb, hg, by omega, hcm, hcs, ?_⟩⟩
    rw [List.map_take, ← htake, List.take_take, Nat.mul_one, Nat.mul_one, Nat.min_eq_left hm]
/-- x[:h], x of the call's own -/
theorem WL.ocut {lo hi : Option Operand} {h : Int} (hT : T.Ok P) (hd : Nat.blt d N = true) (hs : nk T.sl t = some (e, 1)) {e' : TypeId} (hO : Own f w B e' A c xs) (hx : opv L x = some (.slice A n c)) (hn : n = xs.length)
    (hl : optv L lo 0 = some 0) (hh : optv L hi n = some h) (h1 : 0 ≤ h) (h2 : h ≤ n)
    (hk : Own f w B e' A c (xs.take h.toNat) → WL P N ops Q rest ((d, .slice A (xs.take h.toNat).length c) :: L) w) :
    WL P N ops Q (⟨some d, .slice t x lo hi none, ty, pos, af, none⟩ :: rest) L w := by
  have hy := Yld.cut (P := P) (N := N) (ty := ty) (pos := pos) (af := af) (dd := some d) hT hO.rd hs hx hn hl hh (by omega) h1 h2
  have e1 : (Value.slice (if c = (0 : Int).toNat then A else A.map (·.add (0 : Int).toNat)) ((xs.drop (0 : Int).toNat).take (h.toNat - (0 : Int).toNat)).length (c - (0 : Int).toNat)) = .slice A (xs.take h.toNat).length c := by
    have : A.map (·.add 0) = A := by
      cases A with
      | none => rfl
      | some a => simp [Addr.add]
    simp [this]
  rw [e1] at hy
  refine WL.y hd hy (hk (hO.take h.toNat (by omega) (fun he hA => ?_)))
  subst hA
  unfold Own at hO
  rcases hO.2 with ⟨hv, _⟩ | ⟨g, cap, cur, hv, _⟩
  · simp only [Value.slice.injEq] at hv
    exact hv.2.2
  · simp only [Value.slice.injEq] at hv
    cases hv.1
/-- append(nil, make([]T, m)...) -/
theorem WL.appendZ {m : Int} {z : α} {b : Nat} {u : IntKind} (hT : T.Ok P) (hd : Nat.blt d N = true) (hs : nk T.ow t = some (e, b)) (hti : nk T.int t' = some u) (hz : zeroOf P e = some [f z]) (hx : opv L x = some (.slice none 0 0)) (hy : opv L y = some (.int k m)) (h0 : 0 ≤ m) (hm : m * b ≤ 140737488355328) (h63 : m ≤ 140737488355328) (hB : B ≤ w.heap.size)
    (hk : ∀ A' c' w', Own f w' B e A' c' (List.replicate m.toNat z) → w.grownBy w' none → (∀ g, blk A' = some g → w.heap.size ≤ g) → WL P N ops Q rest ((d, .slice A' m.toNat c') :: L) w') :
    WL P N ops Q (⟨some d, .call ⟨.builtin .append, ⟨[x, y]⟩, ⟨[t, t']⟩⟩, ty, pos, af, none⟩ :: rest) L w :=
  WL.put (R := fun v w' => ∃ A' c', v = .slice A' m.toNat c' ∧ Own f w' B e A' c' (List.replicate m.toNat z) ∧ w.grownBy w' none ∧ (∀ g, blk A' = some g → w.heap.size ≤ g)) hd (fun a w1 hw ha => by
    obtain ⟨hu, i, z0, hi, hz0, hi1, hib, hz1⟩ := hT.ow hs
    have hs1 : w1.heap.size = w.heap.size := by rw [hw.heap]
    have hzc : z0.cells = #[f z] := by
      unfold zeroOf at hz
      rw [hi] at hz
      simp only [hz0, Option.some.injEq] at hz
      apply Array.ext'
      rw [hz]
    obtain ⟨q, rfl⟩ := Int.eq_ofNat_of_zero_le h0
    have hwrap : IntKind.i64.wrap (q : Int) = q := In.wrap (by simp only [In]; omega)
    have hmb : ¬ (281474976710656 < (q : Int) * (i.bytes : Int)) := by rw [hib]; omega
    by_cases hq : q = 0
    · subst hq
      refine ⟨.slice none 0 0, w1, ?_, none, 0, rfl, Own.nil f w1 B e, eqv_gr hw (gr_refl _ _), fun g hg => by simp [blk] at hg⟩
      unfold execOp
      simp [resolve, invoke, builtin, ha.ev hx, ha.ev hy, Builtin.append_, run_underlying hu, run_underlying (hT.int hti), sizeOf, typeInfo, hi, hi1, asInt, asIntOf]
      have : IntKind.i64.wrap 0 = 0 := rfl
      simp [this]
    · have hge := grownCap_ge w1 q 0 e
      have hcm := grownCap_le_maxLen w1 q 0 e (by simp only [maxLen]; omega)
      have hnn : ¬ ((q : Int) < 0) := by omega
      have hqb : q * b ≤ 140737488355328 := by
        have : ((q * b : Nat) : Int) ≤ 140737488355328 := by rw [Int.natCast_mul]; exact hm
        omega
      have hfit : ¬ (281474976710656 < Builtin.nextslicecap q 0 * i.bytes) := by
        have := growslice_fits (need := q) (old := 0) (bytes := i.bytes) (by omega) (by rw [hib]; exact hqb)
        omega
      have hbig : ¬ (9223372036854775807 < (q : Int)) := by omega
      have hforced : (Question.appendCap q 0 e).forced = false := rfl
      have hfc : (Builtin.firstCells 1 0 (Value.slice none 0 0)).run P w1.drew = .ok #[] w1.drew := rfl
      have hgr : w1.grownBy (w1.drew.alloc (.cells (Builtin.zeroCells z0.cells q ++ Builtin.zeroCells z0.cells (grownCap w1 q 0 e - q)) e)) none := ⟨rfl, rfl, rfl, by simp, fun k hk _ => heap_alloc_old w1.drew _ hk⟩
      refine ⟨.slice (some ⟨w1.heap.size, 0, none⟩) q (grownCap w1 q 0 e), _, ?_, some ⟨w1.heap.size, 0, none⟩, grownCap w1 q 0 e, rfl, ?_, eqv_gr hw hgr, fun g hg => ?_⟩
      · unfold execOp
        simp [resolve, invoke, builtin, ha.ev hx, ha.ev hy, Builtin.append_, run_underlying hu, run_underlying (hT.int hti), sizeOf, typeInfo, hi, hi1, asInt, asIntOf, hwrap, zeroValue, hz0, hnn, hmb, hq, hbig, hfit, hforced, hfc]
        rfl
      · have hzs : ∀ m, (Builtin.zeroCells z0.cells m).toList = List.replicate m (f z) := fun m => by
          rw [hzc]
          unfold Builtin.zeroCells
          apply List.ext_getElem
          · simp
          · intro p h1 h2
            simp [Nat.mod_one]
        unfold Own
        rw [List.length_replicate]
        refine ⟨by simp, .inr ⟨w1.heap.size, _, _, rfl, by omega, heap_alloc_new w1.drew _, hge, hcm, ?_, ?_⟩⟩
        · simp [size_zeroCells, hzc]; omega
        · rw [Array.toList_append, hzs, hzs]
          simp
      · simp only [blk, Option.map_some, Option.some.injEq] at hg
        omega) (fun v w' ⟨A', c', hv, h1, h2, h3⟩ => by subst hv; exact hk A' c' w' h1 h2 h3)
/-! ### a slice, a pointer, a Bool held against another -/
theorem run_equal_of {x y : Value} {b : Bool} {w1 : World} (h : ∀ d : Nat, (Op.equalIn (d + 1) t x y).run P w1 = .ok b w1) : (Op.equal t x y).run P w1 = .ok b w1 := by
  simp [Op.equal, Op.maxDepth, h 9999]
theorem Yld.eqnil {dd : Option Tmp} {es : Nat × Nat} {n2 c2 : Nat} (hT : T.Ok P) (hs : nk T.sl t = some es) (hx : opv L x = some (.slice A n c)) (hy : opv L y = some (.slice none n2 c2)) : Yld P N w ⟨dd, .binOp .eql t x y t', ty, pos, af, none⟩ L (.bool A.isNone) := fun a w1 _ ha => by
  obtain ⟨hu, _⟩ := hT.sl (e := es.1) (s := es.2) hs
  refine exec_bin (ha.ev hx) (ha.ev hy) (by unfold eqGuard; rfl) ?_
  have h : (Op.equal t (.slice A n c) (.slice none n2 c2)).run P w1 = .ok A.isNone w1 := run_equal_of fun d => by
    cases A <;> simp [Op.equalIn, run_underlying hu]
  simp [binOp, h]
theorem Yld.nenil {dd : Option Tmp} {es : Nat × Nat} {n2 c2 : Nat} (hT : T.Ok P) (hs : nk T.sl t = some es) (hx : opv L x = some (.slice A n c)) (hy : opv L y = some (.slice none n2 c2)) : Yld P N w ⟨dd, .binOp .neq t x y t', ty, pos, af, none⟩ L (.bool (!A.isNone)) := fun a w1 _ ha => by
  obtain ⟨hu, _⟩ := hT.sl (e := es.1) (s := es.2) hs
  refine exec_bin (ha.ev hx) (ha.ev hy) (by unfold eqGuard; rfl) ?_
  have h : (Op.equal t (.slice A n c) (.slice none n2 c2)).run P w1 = .ok A.isNone w1 := run_equal_of fun d => by
    cases A <;> simp [Op.equalIn, run_underlying hu]
  simp [binOp, h]
end rules
end Go.Proofs.YtfibkajdahaggaaDoor
