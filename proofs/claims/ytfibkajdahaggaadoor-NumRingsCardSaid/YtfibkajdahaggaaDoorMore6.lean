/- An element's address: in whatever world. -/
import Derived.Test.YtfibkajdahaggaaDoorRet
import Derived.Test.YtfibkajdahaggaaDoorChain4
namespace Go.Proofs.YtfibkajdahaggaaDoor
open Go Go.RowKit
section
variable {P : Program} {T : Tab} {N : Nat} {L : Slots} {w w0 : World} {ty : TypeId} {pos : String} {af : Array Edge} {t : TypeId} {x i : Operand} {k : IntKind} {q : Int} {α : Type} {f : α → Value} {A : Option Addr} {c n : Nat} {xs : List α}
theorem Yld.iaddrW {dd : Option Tmp} {e : TypeId} (hT : T.Ok P) (hR : Rd f w0 A c xs) (hs : nk T.sl t = some (e, 1)) (hx : opv L x = some (.slice A n c)) (hn : n = xs.length) (hi : opv L i = some (.int k q)) (h0 : 0 ≤ q) (h1 : q < n) :
    Yld P N w ⟨dd, .indexAddr t x i, ty, pos, af, none⟩ L (.pointer (A.map (·.add q.toNat))) := fun a w1 _ ha => by
  obtain ⟨hu, j, hj, hj1⟩ := hT.sl hs
  obtain ⟨ad, rfl, _⟩ := hR.cells (fun e => by rw [e] at hn; simp at hn; omega)
  unfold execOp
  simp [ha.ev hx, ha.ev hi, Instr.indexAt, run_underlying hu, asIntOf, h0, h1, sizeOf, typeInfo, hj, hj1]
theorem Yld.iaddrNW {dd : Option Tmp} {e : TypeId} {j : Nat} (hT : T.Ok P) (hR : Rd f w0 A c xs) (hs : nk T.sl t = some (e, 1)) (hx : opv L x = some (.slice A n c)) (hn : n = xs.length) (hi : opv L i = some (.int k (j : Int))) (h1 : j < n) :
    Yld P N w ⟨dd, .indexAddr t x i, ty, pos, af, none⟩ L (.pointer (A.map (·.add j))) := by
  have := Yld.iaddrW (N := N) (w := w) (dd := dd) (ty := ty) (pos := pos) (af := af) hT hR hs hx hn hi (by omega) (by omega)
  rwa [Int.toNat_natCast] at this
variable {y : Operand} {us : List Value} {e : TypeId} {B : Nat}
theorem Ef0.store1 {g o : Nat} {u : Value} (h1 : sz1 P t = true) (hx : opv L x = some (.pointer (some ⟨g, o, none⟩))) (hy : opv L y = some u) (hu : u.oneCell' = true) (hB : Bl w g e us) (ho : o < us.length) :
    Ef0 P N w ⟨none, .store t x y, ty, pos, af, none⟩ L (fun w' => Bl w' g e (us.set o u) ∧ w.grownBy w' (some g)) := fun a w1 hw ha => by
  have hB1 := bl_eqv hw hB
  unfold sz1 at h1
  split at h1
  · rename_i j hj
    refine ⟨_, ?_, bl_set (o := o) (u := u) hB1, eqv_gr hw (gr_set w1 ⟨g, o, none⟩ u)⟩
    unfold execOp
    simp only [ha.ev hx, ha.ev hy, Sem.run_bind, run_store1 hB1 ho hu hj (Nat.eq_of_beq_eq_true h1), Result.andThen_ok, Sem.run_pure]
  · cases h1
theorem Ef0.ostore {j : Nat} {v : α} (h1 : sz1 P t = true) (hf : One f) (hO : Own f w B e A c xs) (hx : opv L x = some (.pointer (A.map (·.add j)))) (hy : opv L y = some (f v)) (hj : j < xs.length) :
    Ef0 P N w ⟨none, .store t x y, ty, pos, af, none⟩ L (fun w' => Own f w' B e A c (xs.set j v) ∧ w.grownBy w' (blk A)) := fun a w1 hw ha => by
  unfold Own at hO
  rcases hO.2 with ⟨hv, hn⟩ | ⟨g, cap, cur, hv, hb, hg, hnc, hcm, hcs, htake⟩
  · omega
  · simp only [Value.slice.injEq] at hv
    obtain ⟨rfl, _, rfl⟩ := hv
    obtain ⟨w', hr, hB', hgr⟩ := Ef0.store1 (P := P) (N := N) (ty := ty) (pos := pos) (af := af) (g := g) (o := j) (e := e) (us := cur.toList) (u := f v) h1 (by rw [hx]; simp [Addr.add_mid]) hy (hf v) (by unfold Bl; exact hg) (by have : cur.size = c * 1 := hcs; rw [Array.length_toList]; omega) a w1 hw ha
    refine ⟨w', hr, ?_, hgr⟩
    unfold Own
    refine ⟨by simp, .inr ⟨g, c, _, by simp, hb, hB', by simpa using hnc, hcm, by simpa using hcs, ?_⟩⟩
    simp only [List.length_set, List.map_set]
    rw [List.take_set, ← htake]
end
section
variable {P : Program} {N : Nat} {ops : Array Oper} {Q : Post} {L : Slots} {w : World} {ty : TypeId} {pos : String} {af : Array Edge} {rest : List Oper} {op : Op} {j d' d k : Nat} {t : Bool}
theorem not_wanted_undef {o : Oper} {a : Act} (hg : o.guard = some (j, t)) (hj : (ops[j]?).bind (·.dst) = some d') (hN : Nat.blt d' N = true) (hb : lk L d' = some undef) (ha : Has N L a) : Region.wanted o (yielded ops a.tmps) = false := by
  have h1 : d' < a.tmps.size := by rw [ha.size]; simpa [Nat.blt_eq] using hN
  have h2 := ha.get d' _ hb
  have h3 : a.tmps[d'] = undef := by rw [← h2]; simp [Array.getD, h1]
  have h4 : yielded ops a.tmps j = none := by
    unfold yielded
    rw [hj]
    simp only [Option.bind_some, Array.getElem?_eq_getElem h1, h3]
    rfl
  simp [Region.wanted, hg, h4]
/-- the guard itself was not reached -/
theorem WL.gun (hj : (ops[j]?).bind (·.dst) = some d') (hN : Nat.blt d' N = true) (hb : lk L d' = some undef) (hd : Nat.blt d N = true) (h : WL P N ops Q rest ((d, undef) :: L) w) :
    WL P N ops Q (⟨some d, op, ty, pos, af, some (j, t)⟩ :: rest) L w := fun a w1 e ha => by
  refine wpList_step fun K hK => ?_
  rw [if_neg (by rw [not_wanted_undef (o := ⟨some d, op, ty, pos, af, some (j, t)⟩) rfl hj hN hb ha]; simp)]
  exact hK _ _ (h _ _ e (ha.put hd undef))
theorem WQ.gun {K : Act → Prop} (hj : (ops[j]?).bind (·.dst) = some d') (hN : Nat.blt d' N = true) (hb : lk L d' = some undef) (hd : Nat.blt d N = true) (h : WQ P N ops K rest ((d, undef) :: L) w) :
    WQ P N ops K (⟨some d, op, ty, pos, af, some (j, t)⟩ :: rest) L w := fun a ha => by
  refine wpQuiet_step fun K' hK => ?_
  rw [if_neg (by rw [not_wanted_undef (o := ⟨some d, op, ty, pos, af, some (j, t)⟩) rfl hj hN hb ha]; simp)]
  exact hK _ (h _ (ha.put hd undef))
theorem WJ.gun {fl : Nat → Bool} {D : Nat → World → Prop} (hj : (ops[j]?).bind (·.dst) = some d') (hN : Nat.blt d' N = true) (hb : lk L d' = some undef) (hd : Nat.blt d N = true) (h : WJ P N ops fl D Q rest (k + 1) ((d, undef) :: L) w) :
    WJ P N ops fl D Q (⟨some d, op, ty, pos, af, some (j, t)⟩ :: rest) k L w := fun a w1 e ha => by
  have hno := not_wanted_undef (o := ⟨some d, op, ty, pos, af, some (j, t)⟩) rfl hj hN hb ha
  unfold wpJ
  cases hf : fl k with
  | true => exact ⟨undef, .inr ⟨hno, rfl⟩, h _ _ e (ha.put hd undef)⟩
  | false =>
    show sRun _ _ _ _ _ _ _
    unfold sRun
    rw [if_neg (by rw [hno]; simp)]
    exact h _ _ e (ha.put hd undef)
end
theorem WL.weaken {P : Program} {N : Nat} {ops : Array Oper} {Q : Post} {L L' : Slots} {w : World} {l : List Oper} (hs : Sub L L') (h : WL P N ops Q l L' w) : WL P N ops Q l L w := fun a w1 e ha => h a w1 e (ha.sub hs)
/-- a piece of code that comes to one frame in the same world: what stands behind is walked once -/
theorem WC.seqW {P : Program} {N : Nat} {Q : Post} {L : Slots} {w : World} {x y : Code} (L' : Slots) (h1 : ∀ Q' : Post, WX N Q' .normal L' w → WC P N Q' x L w) (h2 : WC P N Q y L' w) : WC P N Q (.seq x y) L w := WC.seq (h1 _ (WX.then_normal h2))
/-- .. or to one kind of frame and world -/
theorem WC.seqI {P : Program} {N : Nat} {Q : Post} {L : Slots} {w : World} {x y : Code} {S : Type} (Ls : S → Slots) (I : S → World → Prop) (h1 : ∀ Q' : Post, (∀ s w', I s w' → WX N Q' .normal (Ls s) w') → WC P N Q' x L w) (h2 : ∀ s w', I s w' → WC P N Q y (Ls s) w') : WC P N Q (.seq x y) L w := WC.seq (h1 _ fun s w' h => WX.then_normal (h2 s w' h))
end Go.Proofs.YtfibkajdahaggaaDoor
