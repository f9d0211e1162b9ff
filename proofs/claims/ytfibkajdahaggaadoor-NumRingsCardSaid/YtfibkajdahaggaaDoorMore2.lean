/- Rules again, where an index is a natural number. -/
import Derived.Test.YtfibkajdahaggaaDoorMore
namespace Go.Proofs.YtfibkajdahaggaaDoor
open Go Go.RowKit
theorem gr_own {α : Type} {f : α → Value} {a b c : World} {B : Nat} {e : TypeId} {A : Option Addr} {k : Nat} {xs : List α} (h : a.grownBy b none) (hO : Own f b B e A k xs) (hg : b.grownBy c (blk A)) (hB : a.heap.size ≤ B) : a.grownBy c none := by
  cases hq : blk A with
  | none => rw [hq] at hg; exact gr_trans h hg
  | some q => rw [hq] at hg; exact gr_new h hg (Nat.le_trans hB (hO.lt hq).1)
theorem Rd.keep' {α : Type} {f : α → Value} {w w' : World} {A : Option Addr} {c : Nat} {xs : List α} {row : Option Nat} (h : Rd f w A c xs) (hg : w.grownBy w' row) (hne : xs ≠ [] → ∀ g, row = some g → blk A ≠ some g) : Rd f w' A c xs := by
  by_cases hx : xs = []
  · subst hx; exact Rd.nil f w' h.max
  · exact h.keep hg (hne hx)
section rules
variable {P : Program} {T : Tab} {N : Nat} {L : Slots} {w : World} {ty : TypeId} {pos : String} {af : Array Edge} {t : TypeId} {x i : Operand} {k : IntKind}
variable {α : Type} {f : α → Value} {A : Option Addr} {c n : Nat} {xs : List α}
theorem Yld.iaddrN {dd : Option Tmp} {e : TypeId} {j : Nat} (hT : T.Ok P) (hR : Rd f w A c xs) (hs : nk T.sl t = some (e, 1)) (hx : opv L x = some (.slice A n c)) (hn : n = xs.length) (hi : opv L i = some (.int k (j : Int))) (h1 : j < n) :
    Yld P N w ⟨dd, .indexAddr t x i, ty, pos, af, none⟩ L (.pointer (A.map (·.add j))) := by
  have := Yld.iaddr (P := P) (N := N) (dd := dd) (ty := ty) (pos := pos) (af := af) hT hR hs hx hn hi (by omega) (by omega)
  rwa [Int.toNat_natCast] at this
theorem Yld.aaddrN {dd : Option Tmp} {g o m s j : Nat} {e : TypeId} (hT : T.Ok P) (hs : nk T.arr t = some (m, e, s)) (hx : opv L x = some (.pointer (some ⟨g, o, none⟩))) (hi : opv L i = some (.int k (j : Int))) (h1 : j < m) :
    Yld P N w ⟨dd, .indexAddr t x i, ty, pos, af, none⟩ L (.pointer (some ⟨g, o + j * s, none⟩)) := by
  have := Yld.aaddr (P := P) (N := N) (w := w) (dd := dd) (ty := ty) (pos := pos) (af := af) hT hs hx hi (by omega) (by omega)
  rwa [Int.toNat_natCast] at this
theorem Yld.sidxN {dd : Option Tmp} {j : Nat} {p : List UInt8} {u : Unit} (hT : T.Ok P) (ht : nk T.str t = some u) (hx : opv L x = some (.string ⟨⟨p⟩⟩)) (hi : opv L i = some (.int k (j : Int))) (h1 : j < p.length) :
    Yld P N w ⟨dd, .index t x i, ty, pos, af, none⟩ L (.int .u8 ((p.getD j 0).toNat : Int)) := by
  have := Yld.sidx (P := P) (N := N) (w := w) (d := dd) (ty := ty) (pos := pos) (af := af) hT ht hx hi (by omega) (by omega)
  rwa [Int.toNat_natCast] at this
theorem Yld.aidxN {dd : Option Tmp} {m j : Nat} {e : TypeId} {us : List Value} {u : Unit} {v : Value} (hT : T.Ok P) (hs : nk T.arr t = some (m, e, 1)) (he : nk T.one e = some u) (hx : opv L x = some (.agg ⟨us⟩)) (hi : opv L i = some (.int k (j : Int))) (h1 : j < m) (hv : us[j]? = some v) :
    Yld P N w ⟨dd, .index t x i, ty, pos, af, none⟩ L v :=
  Yld.aidx hT hs he hx hi (by omega) (by omega) (by rwa [Int.toNat_natCast])
end rules
end Go.Proofs.YtfibkajdahaggaaDoor
