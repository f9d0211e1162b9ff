/- Rules again: a literal is the call's own. -/
import Derived.Test.YtfibkajdahaggaaDoorMore4
import Derived.Test.YtfibkajdahaggaaDoorFld
import Derived.Test.YtfibkajdahaggaaDoorChain2
namespace Go.Proofs.YtfibkajdahaggaaDoor
open Go Go.RowKit
theorem Own.ofBl {α : Type} {f : α → Value} {w : World} {B g : Nat} {e : TypeId} {xs : List α} {m : Nat} (h : Bl w g e (xs.map f)) (hB : B ≤ g) (hm : xs.length ≤ maxLen) (hn : m = xs.length) : Own f w B e (some ⟨g, 0, none⟩) m xs := by
  subst hn
  unfold Own
  exact ⟨by simp, .inr ⟨g, xs.length, ⟨xs.map f⟩, rfl, hB, h, Nat.le_refl _, hm, by simp, by rw [Nat.mul_one]; exact List.take_of_length_le (by simp)⟩⟩
theorem Own.base {α : Type} {f : α → Value} {w : World} {B B' : Nat} {e : TypeId} {A : Option Addr} {c : Nat} {xs : List α} (h : Own f w B e A c xs) (hB : ∀ g, blk A = some g → B' ≤ g) : Own f w B' e A c xs := by
  unfold Own at h ⊢
  rcases h.2 with ⟨hv, hn⟩ | ⟨g, cap, cur, hv, hb, hg⟩
  · exact ⟨h.1, .inl ⟨hv, hn⟩⟩
  · refine ⟨h.1, .inr ⟨g, cap, cur, hv, hB g ?_, hg⟩⟩
    simp only [Value.slice.injEq] at hv
    rw [hv.1]; rfl
end Go.Proofs.YtfibkajdahaggaaDoor
