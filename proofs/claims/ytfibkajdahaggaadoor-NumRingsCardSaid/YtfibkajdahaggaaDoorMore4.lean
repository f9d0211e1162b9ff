/- Two branches that come to the same. -/
import Derived.Test.YtfibkajdahaggaaDoorMore3
namespace Go.Proofs.YtfibkajdahaggaaDoor
open Go Go.RowKit
section
variable {P : Program} {N : Nat} {Q : Post} {L : Slots} {w : World}
theorem WX.weaken {L' : Slots} {e : Exit} (hs : Sub L L') (h : WX N Q e L' w) : WX N Q e L w := fun a w1 he ha => h a w1 he (ha.sub hs)
/-- the branches of a test join: what stands behind is walked once -/
theorem WC.merge {c : Operand} {x y : Code} {b : Bool} (L' : Slots) (hc : opv L c = some (.bool b)) (ht : b = true → ∀ Q' : Post, WX N Q' .normal L' w → WC P N Q' x L w) (hf : b = false → ∀ Q' : Post, WX N Q' .normal L' w → WC P N Q' y L w)
    (h : WX N Q .normal L' w) : WC P N Q (.cond c x y) L w := WC.cond hc (fun e => ht e Q h) (fun e => hf e Q h)
theorem Yld.beql {ty : TypeId} {pos : String} {af : Array Edge} {dd : Option Tmp} {t t' : TypeId} {x y : Operand} {p q : Bool} (h : P.underlying t = some .bool) (hx : opv L x = some (.bool p)) (hy : opv L y = some (.bool q)) : Yld P N w ⟨dd, .binOp .eql t x y t', ty, pos, af, none⟩ L (.bool (p == q)) := fun a w1 _ ha => by
  refine exec_bin (ha.ev hx) (ha.ev hy) (by unfold eqGuard; rfl) ?_
  have h : (Op.equal t (.bool p) (.bool q)).run P w1 = .ok (p == q) w1 := run_equal_of fun d => by simp [Op.equalIn, run_underlying h]
  simp [binOp, h]
theorem Yld.bneq {ty : TypeId} {pos : String} {af : Array Edge} {dd : Option Tmp} {t t' : TypeId} {x y : Operand} {p q : Bool} (h : P.underlying t = some .bool) (hx : opv L x = some (.bool p)) (hy : opv L y = some (.bool q)) : Yld P N w ⟨dd, .binOp .neq t x y t', ty, pos, af, none⟩ L (.bool (!(p == q))) := fun a w1 _ ha => by
  refine exec_bin (ha.ev hx) (ha.ev hy) (by unfold eqGuard; rfl) ?_
  have h : (Op.equal t (.bool p) (.bool q)).run P w1 = .ok (p == q) w1 := run_equal_of fun d => by simp [Op.equalIn, run_underlying h]
  simp [binOp, h]
end
end Go.Proofs.YtfibkajdahaggaaDoor
