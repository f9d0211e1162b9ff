/- Rules again: fields of a struct by value; make of zeros; make with room. -/
import Derived.Test.YtfibkajdahaggaaDoorMore
namespace Go.Proofs.YtfibkajdahaggaaDoor
open Go Go.RowKit
def ckFlds (P : Program) : List Field → List (Nat × Option Nat) → Bool
  | [], [] => true
  | f :: fs, (o, m) :: os => Nat.beq f.offset o && (match P.underlying f.type with
    | some d => (match m with
      | none => !isRow d
      | some n => isRow d && (match P.info? f.type with | some i => Nat.beq i.size n | none => false))
    | none => false) && ckFlds P fs os
  | _, _ => false
def ckFld (P : Program) (x : Nat × List (Nat × Option Nat)) : Bool := match P.underlying x.1 with | some (.struct fs) => ckFlds P fs.toList x.2 | _ => false
def fldV (os : List (Nat × Option Nat)) (us : List Value) (f : Nat) : Option Value := match os[f]? with
  | some (o, none) => us[o]?
  | some (o, some n) => some (.agg ⟨(us.drop o).take n⟩)
  | none => none
theorem ckFlds_spec {P : Program} : ∀ {fs : List Field} {os : List (Nat × Option Nat)}, ckFlds P fs os = true → ∀ (f o : Nat) (m : Option Nat), os[f]? = some (o, m) → ∃ fd : Field, fs[f]? = some fd ∧ fd.offset = o ∧ ∃ d, P.underlying fd.type = some d ∧
    (m = none → isRow d = false) ∧ (∀ n, m = some n → isRow d = true ∧ ∃ i, P.info? fd.type = some i ∧ i.size = n)
  | [], [], _, f, o, m, h => by simp at h
  | [], _ :: _, h, _, _, _, _ => by simp [ckFlds] at h
  | _ :: _, [], h, _, _, _, _ => by simp [ckFlds] at h
  | fd :: fs, (o', m') :: os, h, f, o, m, ho => by
    simp only [ckFlds, Bool.and_eq_true] at h
    obtain ⟨⟨h1, h2⟩, h3⟩ := h
    cases f with
    | zero =>
      simp only [List.getElem?_cons_zero, Option.some.injEq, Prod.mk.injEq] at ho
      obtain ⟨rfl, rfl⟩ := ho
      refine ⟨fd, rfl, Nat.eq_of_beq_eq_true h1, ?_⟩
      cases hq : P.underlying fd.type with
      | none => rw [hq] at h2; simp at h2
      | some d =>
        rw [hq] at h2
        refine ⟨d, rfl, fun e => ?_, fun n e => ?_⟩
        · subst e; simpa using h2
        · subst e
          simp only [Bool.and_eq_true] at h2
          refine ⟨h2.1, ?_⟩
          have h4 := h2.2
          cases hi : P.info? fd.type with
          | none => rw [hi] at h4; simp at h4
          | some i => rw [hi] at h4; exact ⟨i, rfl, Nat.eq_of_beq_eq_true h4⟩
    | succ f => exact ckFlds_spec h3 f o m (by simpa using ho)

section rules
variable {P : Program} {T : Tab} {N : Nat} {ops : Array Oper} {Q : Post} {L : Slots} {w : World} {rest : List Oper} {d : Nat} {ty : TypeId} {pos : String} {af : Array Edge} {t s : TypeId} {x y : Operand} {k k' : IntKind}
variable {α : Type} {f : α → Value} {B : Nat} {e : TypeId}
theorem Yld.fld {F : List (Nat × List (Nat × Option Nat))} {dd : Option Tmp} {os : List (Nat × Option Nat)} {us : List Value} {n : Nat} {v : Value} (hF : F.all (ckFld P) = true) (hs : nk F s = some os) (hx : opv L x = some (.agg ⟨us⟩)) (hv : fldV os us n = some v) :
    Yld P N w ⟨dd, .field s x n, ty, pos, af, none⟩ L v := fun a w1 _ ha => by
  have h := nk_all hF hs
  unfold ckFld at h
  unfold fldV at hv
  cases hu : P.underlying s with
  | none => simp only [hu] at h; cases h
  | some de =>
    simp only [hu] at h
    cases de with
    | struct fs =>
      cases ho : os[n]? with
      | none => rw [ho] at hv; cases hv
      | some p =>
        obtain ⟨o, m⟩ := p
        obtain ⟨fd, hfd, rfl, dd', hd, h1, h2⟩ := ckFlds_spec h n o m ho
        have hfd' : fs[n]? = some fd := by simpa using hfd
        rw [ho] at hv
        unfold execOp
        cases m with
        | none =>
          have hr := h1 rfl
          have hv' : us[fd.offset]? = some v := hv
          cases dd' <;> simp [isRow] at hr <;> simp [ha.ev hx, Instr.field, run_underlying hu, hfd', asAgg, part, isAgg, run_underlying hd, hv']
        | some q =>
          obtain ⟨hr, i, hi, hi2⟩ := h2 q rfl
          simp only [Option.some.injEq] at hv
          cases dd' <;> simp [isRow] at hr <;> simp [ha.ev hx, Instr.field, run_underlying hu, hfd', asAgg, part, isAgg, run_underlying hd, sizeOf, typeInfo, hi, hi2, hv]
    | _ => simp at h
/-- make([]T, m) -/
theorem Eff.makeZ {m : Nat} {z : α} {b : Nat} (hT : T.Ok P) (hs : nk T.ow t = some (e, b)) (hz : zeroOf P e = some [f z]) (hx : opv L x = some (.int k (m : Int))) (hy : opv L y = some (.int k' (m : Int))) (hm : m * b ≤ 140737488355328) (h63 : m ≤ 140737488355328) (hB : B ≤ w.heap.size) :
    Eff P N w ⟨some d, .makeSlice t x y, ty, pos, af, none⟩ L (fun v w' => v = .slice (some ⟨w.heap.size, 0, none⟩) m m ∧ Own f w' B e (some ⟨w.heap.size, 0, none⟩) m (List.replicate m z) ∧ w.grownBy w' none) := fun a w1 hw ha => by
  obtain ⟨hu, i, z0, hi, hz0, hi1, hib, hz1⟩ := hT.ow hs
  have hs1 : w1.heap.size = w.heap.size := by rw [hw.heap]
  have hzc : z0.cells = #[f z] := by
    unfold zeroOf at hz
    rw [hi] at hz
    simp only [hz0, Option.some.injEq] at hz
    apply Array.ext'
    rw [hz]
  obtain ⟨w', hr, hO, hg⟩ := run_make_full (P := P) w1 B t e i z0 1 hu hi hz0 hi1 k k' m (by rw [hib, Nat.mul_comm]; omega) (by simp only [maxLen]; omega) (by omega)
  refine ⟨_, w', ?_, by rw [← hs1], ?_, eqv_gr hw hg⟩
  · unfold execOp
    simp only [ha.ev hx, ha.ev hy, Sem.run_bind, hr, Result.andThen_ok, Sem.run_pure]
  · have e1 : (madeCells z0.cells (m * 1)).toList = (List.replicate m z).map f := by rw [hzc, Nat.mul_one, toList_madeCells_one]; simp
    unfold Own
    rw [e1] at hO
    rw [← hs1]
    simpa using hO
theorem WL.makeZ {m : Nat} {z : α} {b : Nat} (hT : T.Ok P) (hd : Nat.blt d N = true) (hs : nk T.ow t = some (e, b)) (hz : zeroOf P e = some [f z]) (hx : opv L x = some (.int k (m : Int))) (hy : opv L y = some (.int k' (m : Int))) (hm : m * b ≤ 140737488355328) (h63 : m ≤ 140737488355328) (hB : B ≤ w.heap.size)
    (hk : ∀ g w', Own f w' B e (some ⟨g, 0, none⟩) m (List.replicate m z) → w.grownBy w' none → w.heap.size ≤ g → WL P N ops Q rest ((d, .slice (some ⟨g, 0, none⟩) m m) :: L) w') :
    WL P N ops Q (⟨some d, .makeSlice t x y, ty, pos, af, none⟩ :: rest) L w :=
  WL.put (R := fun v w' => v = .slice (some ⟨w.heap.size, 0, none⟩) m m ∧ Own f w' B e (some ⟨w.heap.size, 0, none⟩) m (List.replicate m z) ∧ w.grownBy w' none) hd (Eff.makeZ hT hs hz hx hy hm h63 hB) (fun v w' ⟨hv, h1, h2⟩ => by subst hv; exact hk _ w' h1 h2 (Nat.le_refl _))
/-- make([]T, 0, c) -/
theorem WL.makeC {c : Nat} {b : Nat} (hT : T.Ok P) (hd : Nat.blt d N = true) (hs : nk T.ow t = some (e, b)) (hx : opv L x = some (.int k 0)) (hy : opv L y = some (.int k' (c : Int))) (hm : c * b ≤ 140737488355328) (h63 : c ≤ 140737488355328) (hB : B ≤ w.heap.size)
    (hk : ∀ g w', Own f w' B e (some ⟨g, 0, none⟩) c [] → w.grownBy w' none → w.heap.size ≤ g → WL P N ops Q rest ((d, .slice (some ⟨g, 0, none⟩) 0 c) :: L) w') :
    WL P N ops Q (⟨some d, .makeSlice t x y, ty, pos, af, none⟩ :: rest) L w :=
  WL.put (R := fun v w' => v = .slice (some ⟨w.heap.size, 0, none⟩) 0 c ∧ Own f w' B e (some ⟨w.heap.size, 0, none⟩) c [] ∧ w.grownBy w' none) hd (fun a w1 hw ha => by
    obtain ⟨hu, i, z0, hi, hz0, hi1, hib, hz1⟩ := hT.ow hs
    have hs1 : w1.heap.size = w.heap.size := by rw [hw.heap]
    obtain ⟨w', hr, hO, hg⟩ := run_make_own (P := P) w1 B t e i z0 1 hu hi hz0 hi1 k k' c (by rw [hib, Nat.mul_comm]; omega) (by simp only [maxLen]; omega) (by omega)
    refine ⟨_, w', ?_, by rw [← hs1], ?_, eqv_gr hw hg⟩
    · unfold execOp
      simp only [ha.ev hx, ha.ev hy, Sem.run_bind, hr, Result.andThen_ok, Sem.run_pure]
    · unfold Own
      rw [← hs1]
      simpa using hO) (fun v w' ⟨hv, h1, h2⟩ => by subst hv; exact hk _ w' h1 h2 (Nat.le_refl _))
end rules
end Go.Proofs.YtfibkajdahaggaaDoor
