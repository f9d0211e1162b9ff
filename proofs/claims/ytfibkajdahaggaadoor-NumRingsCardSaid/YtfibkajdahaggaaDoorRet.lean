/- Rules for results of more kinds. -/
import Derived.Test.YtfibkajdahaggaaDoorMore5
import Derived.Test.YtfibkajdahaggaaDoorChain3
namespace Go.Proofs.YtfibkajdahaggaaDoor
open Go Go.RowKit
section
variable {P : Program} {N : Nat} {L : Slots} {w : World}
theorem cell_run {T : Tab} {a : Act} {w1 : World} {s g m : Nat} {t e : TypeId} {us : List Value} (hT : T.Ok P) (hw : Eqv w w1) (ha : Has N L a) (hs : nk T.agg t = some m) (hv : lk L s = some (.pointer (some ⟨g, 0, none⟩))) (hB : Bl w g e us) (hm : us.length = m) :
    a.tmps[s]?.getD undef = .pointer (some ⟨g, 0, none⟩) ∧ (loadVar t ⟨g, 0, none⟩).run P w1 = .ok (.agg ⟨us⟩) w1 := by
  obtain ⟨⟨de, hu, hrow⟩, j, hj, hj1⟩ := hT.agg hs
  have hrow' : de.isRow = true := by cases de <;> simp_all [isRow]
  have hl := run_loadVar_mid (P := P) w1 g 0 t us de (fun p v hv' => by rw [hw.cell, hB.cell, ← hv', Nat.zero_add]) hu hrow' (by simp [hj, hj1, hm])
  have hp := ha.get s _ hv
  exact ⟨by simpa using hp, hl⟩
theorem WX.retcct {T : Tab} {fn : Func} {R : Value → World → Prop} {s g m : Nat} {t e : TypeId} {us : List Value} {s' g' m' : Nat} {t' e' : TypeId} {us' : List Value} {s2 : Nat} {v2 : Value} (hT : T.Ok P) (hr : fn.results = #[.cell s t, .cell s' t', .tmp s2]) (hs : nk T.agg t = some m) (hv : lk L s = some (.pointer (some ⟨g, 0, none⟩))) (hB : Bl w g e us) (hm : us.length = m)
    (hs' : nk T.agg t' = some m') (hv' : lk L s' = some (.pointer (some ⟨g', 0, none⟩))) (hB' : Bl w g' e' us') (hm' : us'.length = m') (h2 : lk L s2 = some v2)
    (hR : R (.tuple #[.agg ⟨us⟩, .agg ⟨us'⟩, v2]) w) : WX N (RetPost P fn R) .ret L w := fun a w1 hw ha => by
  obtain ⟨hp, hl⟩ := cell_run hT hw ha hs hv hB hm
  obtain ⟨hp', hl'⟩ := cell_run hT hw ha hs' hv' hB' hm'
  have hp2 : a.tmps[s2]?.getD undef = v2 := by simpa using ha.get s2 _ h2
  refine ⟨ha.defers, .tuple #[.agg ⟨us⟩, .agg ⟨us'⟩, v2], ?_, _, w, rfl, hw, hR⟩
  simp [results, hr, hp, hp', hp2, asAddr, hl, hl']
theorem WX.retcc {T : Tab} {fn : Func} {R : Value → World → Prop} {s g m : Nat} {t e : TypeId} {us : List Value} {s' g' m' : Nat} {t' e' : TypeId} {us' : List Value} (hT : T.Ok P) (hr : fn.results = #[.cell s t, .cell s' t']) (hs : nk T.agg t = some m) (hv : lk L s = some (.pointer (some ⟨g, 0, none⟩))) (hB : Bl w g e us) (hm : us.length = m)
    (hs' : nk T.agg t' = some m') (hv' : lk L s' = some (.pointer (some ⟨g', 0, none⟩))) (hB' : Bl w g' e' us') (hm' : us'.length = m')
    (hR : R (.tuple #[.agg ⟨us⟩, .agg ⟨us'⟩]) w) : WX N (RetPost P fn R) .ret L w := fun a w1 hw ha => by
  obtain ⟨hp, hl⟩ := cell_run hT hw ha hs hv hB hm
  obtain ⟨hp', hl'⟩ := cell_run hT hw ha hs' hv' hB' hm'
  refine ⟨ha.defers, .tuple #[.agg ⟨us⟩, .agg ⟨us'⟩], ?_, _, w, rfl, hw, hR⟩
  simp [results, hr, hp, hp', asAddr, hl, hl']
/-- the branches of a test come to worlds of one kind: what stands behind is walked once -/
theorem WC.mergeW {S : Type} {Q : Post} {c : Operand} {x y : Code} {b : Bool} (Ls : S → Slots) (I : S → World → Prop) (hc : opv L c = some (.bool b)) (ht : b = true → ∀ Q' : Post, (∀ s w', I s w' → WX N Q' .normal (Ls s) w') → WC P N Q' x L w)
    (hf : b = false → ∀ Q' : Post, (∀ s w', I s w' → WX N Q' .normal (Ls s) w') → WC P N Q' y L w) (h : ∀ s w', I s w' → WX N Q .normal (Ls s) w') : WC P N Q (.cond c x y) L w := WC.cond hc (fun e => ht e Q h) (fun e => hf e Q h)
end
end Go.Proofs.YtfibkajdahaggaaDoor
