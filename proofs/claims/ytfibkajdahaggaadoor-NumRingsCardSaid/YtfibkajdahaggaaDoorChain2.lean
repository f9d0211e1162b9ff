/- Chain regions again: calls in the chain, and guarded operations. -/
import Derived.Test.YtfibkajdahaggaaDoorChain
import Derived.Test.YtfibkajdahaggaaDoorMore3
namespace Go.Proofs.YtfibkajdahaggaaDoor
open Go Go.RowKit
theorem run_enter {P : Program} {N : Nat} {L : Slots} {a : Act} {w1 : World} {dd : Option Tmp} {ty : TypeId} {pos : String} {af : Array Edge} {gd : Option (Nat × Bool)} {g : FuncId} {as : List Operand} {ts : Array TypeId} {vs : List Value} (ha : Has N L a) (hv : opvs L as = some vs) (hgo : goesIn P g = true) :
    (execOp a.eval ⟨dd, .call ⟨.value (.func g), ⟨as⟩, ts⟩, ty, pos, af, gd⟩).run P w1 = .ok (.enter g ⟨vs⟩) w1 := by
  have hm : (⟨as⟩ : Array Operand).map a.eval = ⟨vs⟩ := by rw [← ha.evs hv]; simp
  unfold goesIn at hgo
  split at hgo
  · rename_i fn hfn
    simp only [Bool.and_eq_true, Bool.not_eq_true'] at hgo
    have hnone : fn.body.isNone = false := by cases hb : fn.body <;> simp_all
    unfold execOp
    simp only [resolve, Act.eval, hm, Deferred.ofValue, Sem.run_bind, Sem.run_pure, Result.andThen_ok, invoke, callFunc, program, Sem.run, hfn, hgo.1, hnone, Bool.false_eq_true, if_false]
    simp
  · cases hgo
section
variable {P : Program} {N : Nat} {ops : Array Oper} {fl : Nat → Bool} {D : World → Prop} {Q : Post} {L : Slots} {w : World} {k d : Nat} {op : Op} {ty : TypeId} {pos : String} {af : Array Edge} {rest : List Oper} {gd : Option (Nat × Bool)}
/-- the guard of an operation, decided -/
def Wants (N : Nat) (ops : Array Oper) (L : Slots) (gd : Option (Nat × Bool)) : Prop := match gd with
  | none => True
  | some (j, t) => ∃ d', (ops[j]?).bind (·.dst) = some d' ∧ Nat.blt d' N = true ∧ lk L d' = some (.bool t)
theorem wants_none : Wants N ops L none := trivial
theorem wants_some {j d' : Nat} {t : Bool} (hj : (ops[j]?).bind (·.dst) = some d') (hN : Nat.blt d' N = true) (hb : lk L d' = some (.bool t)) : Wants N ops L (some (j, t)) := ⟨d', hj, hN, hb⟩
theorem Wants.wanted {o : Oper} {a : Act} (h : Wants N ops L o.guard) (ha : Has N L a) : Region.wanted o (yielded ops a.tmps) = true := by
  unfold Wants at h
  split at h
  · rename_i hg; simp [Region.wanted, hg]
  · rename_i j t hg
    obtain ⟨d', hj, hN, hb⟩ := h
    have := yielded_of ha hj hN hb
    simp [Region.wanted, hg, this]
theorem WK.yw {v : Value} (hf : fl k = true) (hg : Wants N ops L gd) (hd : Nat.blt d N = true) (hy : ∀ w', D w' → Yld P N w' ⟨some d, op, ty, pos, af, none⟩ L v) (h : WK P N ops fl D Q rest (k + 1) ((d, v) :: L) w) :
    WK P N ops fl D Q (⟨some d, op, ty, pos, af, gd⟩ :: rest) k L w := fun a w1 e hw ha => by
  unfold wpC
  rw [hf]
  exact ⟨v, .inl ⟨Wants.wanted (o := ⟨some d, op, ty, pos, af, gd⟩) hg ha, fun w' hw' => hy w' hw' a w' (Eqv.refl _) ha⟩, h _ _ e hw (ha.put hd v)⟩
theorem WK.putw {R : Value → World → Prop} (hf : fl k = false) (hg : Wants N ops L gd) (hd : Nat.blt d N = true) (hr : Eff P N w ⟨some d, op, ty, pos, af, none⟩ L R) (hD : ∀ v w', R v w' → D w')
    (hk : ∀ v w', R v w' → WK P N ops fl D Q rest (k + 1) ((d, v) :: L) w') : WK P N ops fl D Q (⟨some d, op, ty, pos, af, gd⟩ :: rest) k L w := fun a w1 e hw ha => by
  unfold wpC
  rw [hf]
  show sRun _ _ _ _ _ _ _
  unfold sRun
  rw [if_pos (Wants.wanted (o := ⟨some d, op, ty, pos, af, gd⟩) hg ha)]
  obtain ⟨v, w', h, hR⟩ := hr a w1 e ha
  have h' : (execOp a.eval ⟨some d, op, ty, pos, af, gd⟩).run P w1 = .ok (.value v) w' := h
  rw [h']
  exact ⟨hD v w' hR, hk v w' hR _ w' (Eqv.refl _) (hD v w' hR) (ha.put hd v)⟩
theorem WK.call {R : Value → World → Prop} {g : FuncId} {as : List Operand} {ts : Array TypeId} {vs : List Value} (hf : fl k = false) (hg : Wants N ops L gd) (hd : Nat.blt d N = true) (hv : opvs L as = some vs) (hc : Fn P g ⟨vs⟩ w R) (hD : ∀ v w', R v w' → ∀ w2, Eqv w' w2 → D w2)
    (hk : ∀ v w', R v w' → WK P N ops fl D Q rest (k + 1) ((d, v) :: L) w') : WK P N ops fl D Q (⟨some d, .call ⟨.value (.func g), ⟨as⟩, ts⟩, ty, pos, af, gd⟩ :: rest) k L w := fun a w1 e hw ha => by
  unfold wpC
  rw [hf]
  show sRun _ _ _ _ _ _ _
  unfold sRun
  rw [if_pos (Wants.wanted (o := ⟨some d, .call ⟨.value (.func g), ⟨as⟩, ts⟩, ty, pos, af, gd⟩) hg ha), run_enter ha hv hc.1]
  refine (hc.2 w1 e).mono ?_
  rintro en w' ⟨v, w0, rfl, h0, hR⟩
  exact ⟨v, rfl, hD v w0 hR w' h0, hk v w0 hR _ w' h0 (hD v w0 hR w' h0) (ha.put hd v)⟩
/-- not wanted: nothing happens -/
theorem WK.no {j d' : Nat} {t : Bool} (hj : (ops[j]?).bind (·.dst) = some d') (hN : Nat.blt d' N = true) (hb : lk L d' = some (.bool (!t))) (hd : Nat.blt d N = true) (h : WK P N ops fl D Q rest (k + 1) ((d, undef) :: L) w) :
    WK P N ops fl D Q (⟨some d, op, ty, pos, af, some (j, t)⟩ :: rest) k L w := fun a w1 e hw ha => by
  have hno : Region.wanted ⟨some d, op, ty, pos, af, some (j, t)⟩ (yielded ops a.tmps) = false := by
    have := yielded_of ha hj hN hb
    simp [Region.wanted, this]
  unfold wpC
  cases hf : fl k with
  | true => exact ⟨undef, .inr ⟨hno, rfl⟩, h _ _ e hw (ha.put hd undef)⟩
  | false =>
    show sRun _ _ _ _ _ _ _
    unfold sRun
    rw [if_neg (by rw [hno]; simp)]
    exact h _ _ e hw (ha.put hd undef)
/-- a guarded call where the order is that of the text -/
theorem WL.callw {R : Value → World → Prop} {g : FuncId} {as : List Operand} {ts : Array TypeId} {vs : List Value} (hg : Wants N ops L gd) (hd : Nat.blt d N = true) (hv : opvs L as = some vs) (hc : Fn P g ⟨vs⟩ w R)
    (hk : ∀ v w', R v w' → WL P N ops Q rest ((d, v) :: L) w') : WL P N ops Q (⟨some d, .call ⟨.value (.func g), ⟨as⟩, ts⟩, ty, pos, af, gd⟩ :: rest) L w := fun a w1 e ha =>
  wpList_step fun K hK => by
    rw [if_pos (Wants.wanted (o := ⟨some d, .call ⟨.value (.func g), ⟨as⟩, ts⟩, ty, pos, af, gd⟩) hg ha)]
    unfold Oper.wp
    rw [run_enter ha hv hc.1]
    refine (hc.2 w1 e).mono ?_
    rintro en w' ⟨v, w0, rfl, h0, hR⟩
    exact hK _ _ (hk v w0 hR _ w' h0 (ha.put hd v))
/-- an operation that yields nothing -/
def Ef0 (P : Program) (N : Nat) (w : World) (o : Oper) (L : Slots) (R : World → Prop) : Prop := ∀ a w1, Eqv w w1 → Has N L a → ∃ w', (execOp a.eval o).run P w1 = .ok .skip w' ∧ R w'
theorem Ef0.storeW {T : Tab} {g m : Nat} {t e : TypeId} {x y : Operand} {us vs : List Value} (hT : T.Ok P) (h1 : nk T.agg t = some m) (hx : opv L x = some (.pointer (some ⟨g, 0, none⟩))) (hy : opv L y = some (.agg ⟨vs⟩)) (hu : ∀ u ∈ vs, u.oneCell' = true) (hB : Bl w g e us) (ho : us.length = m) (hv : vs.length = m) :
    Ef0 P N w ⟨none, .store t x y, ty, pos, af, none⟩ L (fun w' => Bl w' g e vs ∧ w.grownBy w' (some g)) := fun a w1 hw ha => by
  have hB1 := bl_eqv hw hB
  obtain ⟨_, j, hj, hj1⟩ := hT.agg h1
  have hst := run_storeCells_at P g 0 e vs 0 ⟨us⟩ w1 hB1 (by simp; omega) hu
  have hrow : (List.take (0 + 0) (⟨us⟩ : Array Value).toList ++ vs ++ List.drop (0 + 0 + vs.length) (⟨us⟩ : Array Value).toList).toArray = ⟨vs⟩ := by
    have : List.drop (0 + 0 + vs.length) us = [] := List.drop_eq_nil_of_le (by omega)
    simp only [this]
    simp
  rw [hrow] at hst
  refine ⟨w1.setRow g ⟨vs⟩, ?_, setRow_heap w1 g _ _ e _ hB1, eqv_gr hw ⟨rfl, rfl, rfl, by simp, fun k _ hk => setRow_other w1 g k _ (fun e => hk (by rw [e]))⟩⟩
  unfold execOp
  have hcell : (Value.agg ⟨vs⟩).cells = ⟨vs⟩ := rfl
  simp only [ha.ev hx, ha.ev hy, Sem.run_bind, Instr.storeAt, Instr.sureAddr, Sem.run_pure, Result.andThen_ok, storeVar, hcell, sizeOf, typeInfo, program, Sem.run, hj, hj1]
  have hsz : (⟨vs⟩ : Array Value).size = m := hv
  simp only [hsz, ne_eq, not_true_eq_false, if_false, hst, Result.andThen_ok]
theorem WK.eff {R : World → Prop} (hf : fl k = false) (hr : Ef0 P N w ⟨none, op, ty, pos, af, none⟩ L R) (hD : ∀ w', R w' → D w') (hk : ∀ w', R w' → WK P N ops fl D Q rest (k + 1) L w') :
    WK P N ops fl D Q (⟨none, op, ty, pos, af, none⟩ :: rest) k L w := fun a w1 e hw ha => by
  unfold wpC
  rw [hf]
  show sRun _ _ _ _ _ _ _
  unfold sRun
  rw [if_pos (by simp [Region.wanted])]
  obtain ⟨w', h, hR⟩ := hr a w1 e ha
  rw [h]
  exact ⟨hD w' hR, hk w' hR _ w' (Eqv.refl _) (hD w' hR) (ha.put_none undef)⟩
theorem WX.retct {T : Tab} {fn : Func} {R : Value → World → Prop} {s s2 g m : Nat} {t e : TypeId} {us : List Value} {v2 : Value} (hT : T.Ok P) (hr : fn.results = #[.cell s t, .tmp s2]) (hs : nk T.agg t = some m) (hv : lk L s = some (.pointer (some ⟨g, 0, none⟩))) (hB : Bl w g e us) (hm : us.length = m) (h2 : lk L s2 = some v2)
    (hR : R (.tuple #[.agg ⟨us⟩, v2]) w) : WX N (RetPost P fn R) .ret L w := fun a w1 hw ha => by
  obtain ⟨⟨de, hu, hrow⟩, j, hj, hj1⟩ := hT.agg hs
  have hrow' : de.isRow = true := by cases de <;> simp_all [isRow]
  have hl := run_loadVar_mid (P := P) w1 g 0 t us de (fun p v hv' => by rw [hw.cell, hB.cell, ← hv', Nat.zero_add]) hu hrow' (by simp [hj, hj1, hm])
  have hp := ha.get s _ hv
  have hp2 := ha.get s2 _ h2
  refine ⟨ha.defers, .tuple #[.agg ⟨us⟩, v2], ?_, _, w, rfl, hw, hR⟩
  have hp' : a.tmps[s]?.getD undef = .pointer (some ⟨g, 0, none⟩) := by simpa using hp
  have hp2' : a.tmps[s2]?.getD undef = v2 := by simpa using hp2
  simp [results, hr, hp', hp2', asAddr, hl]
/-- an array of nothing but zeros -/
theorem Yld.zarr {T : Tab} {dd : Option Tmp} {t e : TypeId} {m s : Nat} {zs : List Value} (hT : T.Ok P) (hs : nk T.arr t = some (m, e, s)) (hz : zeroOf P t = some zs) :
    Yld P N w ⟨dd, .build t ⟨[]⟩, ty, pos, af, none⟩ L (.agg ⟨zs⟩) := fun a w1 _ ha => by
  obtain ⟨z, hz1, hz2⟩ := zeroOf_run hz w1
  obtain ⟨hu, i, hi, hi1⟩ := hT.arr hs
  have hfill := fill_fillL (fun j => some (j * s, s)) [] ⟨zs⟩ zs rfl
  unfold execOp
  simp only [Instr.build, Sem.run_bind, hz1, Result.andThen_ok, run_underlying hu, hz2, sizeOf, typeInfo, program, Sem.run, hi, hi1, Sem.run_pure, List.map_toArray, List.map_nil, Instr.fill]
end
end Go.Proofs.YtfibkajdahaggaaDoor
