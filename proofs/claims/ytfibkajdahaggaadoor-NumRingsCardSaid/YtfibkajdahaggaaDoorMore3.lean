/- Rules again: guarded operations whose guard is decided, picks, max and min. -/
import Derived.Test.YtfibkajdahaggaaDoorMore2
namespace Go.Proofs.YtfibkajdahaggaaDoor
open Go Go.RowKit
def vd (n : Nat) : Value := .int .u32 (n : Int)
theorem One.d : One vd := fun _ => rfl
def vj (n : Nat) : Value := .int .i64 (n : Int)
theorem One.j : One vj := fun _ => rfl
section rules
variable {P : Program} {T : Tab} {N : Nat} {ops : Array Oper} {Q : Post} {L : Slots} {w : World} {ty : TypeId} {pos : String} {af : Array Edge} {rest : List Oper} {x y c : Operand} {d : Tmp}
theorem Yld.pickV {dd : Option Tmp} {b : Bool} {u v : Value} (hc : opv L c = some (.bool b)) (hx : opv L x = some u) (hy : opv L y = some v) :
    Yld P N w ⟨dd, .pick c x y, ty, pos, af, none⟩ L (bif b then u else v) := fun a w1 hw ha => by
  unfold execOp
  simp only [ha.ev hc, ha.ev hx, ha.ev hy, Sem.run_bind, asBool, Sem.run_pure, Result.andThen_ok]
  cases b <;> rfl
theorem Yld.max2 {dd : Option Tmp} {k k' : IntKind} {p q : Int} {ts : Array TypeId} (hx : opv L x = some (.int k p)) (hy : opv L y = some (.int k' q)) :
    Yld P N w ⟨dd, .call ⟨.builtin .max, ⟨[x, y]⟩, ts⟩, ty, pos, af, none⟩ L (.int k (if q > p then q else p)) := fun a w1 hw ha => by
  unfold execOp
  simp [resolve, invoke, builtin, ha.ev hx, ha.ev hy, run_max_int2]
theorem Yld.min2 {dd : Option Tmp} {k k' : IntKind} {p q : Int} {ts : Array TypeId} (hx : opv L x = some (.int k p)) (hy : opv L y = some (.int k' q)) :
    Yld P N w ⟨dd, .call ⟨.builtin .min, ⟨[x, y]⟩, ts⟩, ty, pos, af, none⟩ L (.int k (if q < p then q else p)) := fun a w1 hw ha => by
  unfold execOp
  simp [resolve, invoke, builtin, ha.ev hx, ha.ev hy, run_min_int2]
theorem WL.gyes {op : Op} {j d' : Nat} {t : Bool} {v : Value} (hj : (ops[j]?).bind (·.dst) = some d') (hN : Nat.blt d' N = true) (hb : lk L d' = some (.bool t)) (hd : Nat.blt d N = true) (hy : Yld P N w ⟨some d, op, ty, pos, af, none⟩ L v)
    (h : WL P N ops Q rest ((d, v) :: L) w) : WL P N ops Q (⟨some d, op, ty, pos, af, some (j, t)⟩ :: rest) L w :=
  WL.guard hj hN hb hd (fun _ => ⟨v, hy, h⟩) (fun e => by cases t <;> cases e)
theorem WL.gno {op : Op} {j d' : Nat} {t : Bool} (hj : (ops[j]?).bind (·.dst) = some d') (hN : Nat.blt d' N = true) (hb : lk L d' = some (.bool (!t))) (hd : Nat.blt d N = true)
    (h : WL P N ops Q rest ((d, undef) :: L) w) : WL P N ops Q (⟨some d, op, ty, pos, af, some (j, t)⟩ :: rest) L w :=
  WL.guard hj hN hb hd (fun e => by cases t <;> cases e) (fun _ => h)
theorem WQ.gyes {K : Act → Prop} {op : Op} {j d' : Nat} {t : Bool} {v : Value} (hj : (ops[j]?).bind (·.dst) = some d') (hN : Nat.blt d' N = true) (hb : lk L d' = some (.bool t)) (hd : Nat.blt d N = true) (hy : Yld P N w ⟨some d, op, ty, pos, af, none⟩ L v)
    (h : WQ P N ops K rest ((d, v) :: L) w) : WQ P N ops K (⟨some d, op, ty, pos, af, some (j, t)⟩ :: rest) L w :=
  WQ.guard hj hN hb hd (fun _ => ⟨v, hy, h⟩) (fun e => by cases t <;> cases e)
theorem WQ.gno {K : Act → Prop} {op : Op} {j d' : Nat} {t : Bool} (hj : (ops[j]?).bind (·.dst) = some d') (hN : Nat.blt d' N = true) (hb : lk L d' = some (.bool (!t))) (hd : Nat.blt d N = true)
    (h : WQ P N ops K rest ((d, undef) :: L) w) : WQ P N ops K (⟨some d, op, ty, pos, af, some (j, t)⟩ :: rest) L w :=
  WQ.guard hj hN hb hd (fun e => by cases t <;> cases e) (fun _ => h)
/-- a loop: what a round ends in is K, of which the next round is read off -/
theorem WC.loopG {S : Type} {k : Code} (K : S → Act → World → Prop) (mu : S → Nat) (Ls : S → Slots) (I : S → World → Prop) (hK : ∀ s a' w', K s a' w' → ∃ s' w0, I s' w0 ∧ Eqv w0 w' ∧ Has N (Ls s') a' ∧ mu s' < mu s) (s0 : S) (h0 : I s0 w) (hL : Sub L (Ls s0))
    (round : ∀ s w, I s w → WC P N (Exit.then (K s) Q) k (Ls s) w) : WC P N Q (.loop k) L w := fun a w1 e ha => by
  have key : ∀ n s a w0 w1, mu s = n → I s w0 → Eqv w0 w1 → Has N (Ls s) a → ∀ (b : Frame) (k' : List Item) (cs : List Frame),
      ∃ e a' w', Q e a' w' ∧ Arrives P (lone (b.at a (.code k :: .inLoop k :: k')) cs w1) b k' cs e a' w' := by
    intro n
    induction n using Nat.strongRecOn with
    | _ n ih =>
      intro s a w0 w1 hn hI he ha b k' cs
      obtain ⟨e, a1, w2, hq, harr⟩ := round s w0 hI a w1 he ha b (.inLoop k :: k') cs
      cases e with
      | normal =>
        obtain ⟨s', w3, hI', he', ha', hlt⟩ := hK _ _ _ hq
        obtain ⟨e2, a2, w4, hq2, harr2⟩ := ih (mu s') (hn ▸ hlt) s' a1 w3 w2 rfl hI' he' ha' b k' cs
        exact ⟨e2, a2, w4, hq2, .of_steps (Steps.trans harr (.one step_inLoop)) harr2⟩
      | exit id => exact ⟨_, a1, w2, hq, .pass (x := .inLoop k) rfl (fun _ _ => .inl (by simp)) harr⟩
      | goto l => exact ⟨_, a1, w2, hq, .pass (x := .inLoop k) rfl (fun _ _ => .inl (by simp)) harr⟩
      | ret => exact ⟨_, a1, w2, hq, .pass (x := .inLoop k) rfl (fun _ _ => .inl (by simp)) harr⟩
      | panic ch => exact ⟨_, a1, w2, hq, .pass (x := .inLoop k) rfl (fun _ _ => .inl (by simp)) harr⟩
      | outgrown => exact ⟨_, a1, w2, hq, .pass (x := .inLoop k) rfl (fun _ _ => .inl (by simp)) harr⟩
  intro b k' cs
  obtain ⟨e', a', w', hq, harr⟩ := key _ s0 a w w1 rfl h0 e (ha.sub hL) b k' cs
  exact ⟨e', a', w', hq, .of_steps (.one step_loop) harr⟩
theorem WC.loop2 {S1 S2 : Type} {k : Code} (mu : S1 → S2 → Nat) (Ls : S1 → S2 → Slots) (I : S1 → S2 → World → Prop) (x0 : S1) (y0 : S2) (h0 : I x0 y0 w) (hL : Sub L (Ls x0 y0))
    (round : ∀ x y w, I x y w → WC P N (Exit.then (fun a' w' => ∃ x' y' w0, I x' y' w0 ∧ Eqv w0 w' ∧ Has N (Ls x' y') a' ∧ mu x' y' < mu x y) Q) k (Ls x y) w) : WC P N Q (.loop k) L w :=
  WC.loopG (S := S1 × S2) (fun s a' w' => ∃ x' y' w0, I x' y' w0 ∧ Eqv w0 w' ∧ Has N (Ls x' y') a' ∧ mu x' y' < mu s.1 s.2) (fun s => mu s.1 s.2) (fun s => Ls s.1 s.2) (fun s => I s.1 s.2)
    (fun _ _ _ ⟨x', y', w0, h⟩ => ⟨(x', y'), w0, h⟩) (x0, y0) h0 hL (fun s w h => round s.1 s.2 w h)
theorem WX.round2 {S1 S2 : Type} {mu : S1 → S2 → Nat} {Ls : S1 → S2 → Slots} {I : S1 → S2 → World → Prop} {m : Nat} (x' : S1) (y' : S2) (hI : I x' y' w) (hm : mu x' y' < m) (hL : Sub L (Ls x' y')) :
    WX N (Exit.then (fun a' w' => ∃ x' y' w0, I x' y' w0 ∧ Eqv w0 w' ∧ Has N (Ls x' y') a' ∧ mu x' y' < m) Q) .normal L w := fun _ _ e ha => ⟨x', y', w, hI, e, ha.sub hL, hm⟩
theorem WC.loop3 {S1 S2 S3 : Type} {k : Code} (mu : S1 → S2 → S3 → Nat) (Ls : S1 → S2 → S3 → Slots) (I : S1 → S2 → S3 → World → Prop) (x0 : S1) (y0 : S2) (z0 : S3) (h0 : I x0 y0 z0 w) (hL : Sub L (Ls x0 y0 z0))
    (round : ∀ x y z w, I x y z w → WC P N (Exit.then (fun a' w' => ∃ x' y' z' w0, I x' y' z' w0 ∧ Eqv w0 w' ∧ Has N (Ls x' y' z') a' ∧ mu x' y' z' < mu x y z) Q) k (Ls x y z) w) : WC P N Q (.loop k) L w :=
  WC.loopG (S := S1 × S2 × S3) (fun s a' w' => ∃ x' y' z' w0, I x' y' z' w0 ∧ Eqv w0 w' ∧ Has N (Ls x' y' z') a' ∧ mu x' y' z' < mu s.1 s.2.1 s.2.2) (fun s => mu s.1 s.2.1 s.2.2) (fun s => Ls s.1 s.2.1 s.2.2) (fun s => I s.1 s.2.1 s.2.2)
    (fun _ _ _ ⟨x', y', z', w0, h⟩ => ⟨(x', y', z'), w0, h⟩) (x0, y0, z0) h0 hL (fun s w h => round s.1 s.2.1 s.2.2 w h)
theorem WX.round3 {S1 S2 S3 : Type} {mu : S1 → S2 → S3 → Nat} {Ls : S1 → S2 → S3 → Slots} {I : S1 → S2 → S3 → World → Prop} {m : Nat} (x' : S1) (y' : S2) (z' : S3) (hI : I x' y' z' w) (hm : mu x' y' z' < m) (hL : Sub L (Ls x' y' z')) :
    WX N (Exit.then (fun a' w' => ∃ x' y' z' w0, I x' y' z' w0 ∧ Eqv w0 w' ∧ Has N (Ls x' y' z') a' ∧ mu x' y' z' < m) Q) .normal L w := fun _ _ e ha => ⟨x', y', z', w, hI, e, ha.sub hL, hm⟩
theorem WC.loop4 {S1 S2 S3 S4 : Type} {k : Code} (mu : S1 → S2 → S3 → S4 → Nat) (Ls : S1 → S2 → S3 → S4 → Slots) (I : S1 → S2 → S3 → S4 → World → Prop) (x0 : S1) (y0 : S2) (z0 : S3) (u0 : S4) (h0 : I x0 y0 z0 u0 w) (hL : Sub L (Ls x0 y0 z0 u0))
    (round : ∀ x y z u w, I x y z u w → WC P N (Exit.then (fun a' w' => ∃ x' y' z' u' w0, I x' y' z' u' w0 ∧ Eqv w0 w' ∧ Has N (Ls x' y' z' u') a' ∧ mu x' y' z' u' < mu x y z u) Q) k (Ls x y z u) w) : WC P N Q (.loop k) L w :=
  WC.loopG (S := S1 × S2 × S3 × S4) (fun s a' w' => ∃ x' y' z' u' w0, I x' y' z' u' w0 ∧ Eqv w0 w' ∧ Has N (Ls x' y' z' u') a' ∧ mu x' y' z' u' < mu s.1 s.2.1 s.2.2.1 s.2.2.2) (fun s => mu s.1 s.2.1 s.2.2.1 s.2.2.2) (fun s => Ls s.1 s.2.1 s.2.2.1 s.2.2.2) (fun s => I s.1 s.2.1 s.2.2.1 s.2.2.2)
    (fun _ _ _ ⟨x', y', z', u', w0, h⟩ => ⟨(x', y', z', u'), w0, h⟩) (x0, y0, z0, u0) h0 hL (fun s w h => round s.1 s.2.1 s.2.2.1 s.2.2.2 w h)
theorem WX.round4 {S1 S2 S3 S4 : Type} {mu : S1 → S2 → S3 → S4 → Nat} {Ls : S1 → S2 → S3 → S4 → Slots} {I : S1 → S2 → S3 → S4 → World → Prop} {m : Nat} (x' : S1) (y' : S2) (z' : S3) (u' : S4) (hI : I x' y' z' u' w) (hm : mu x' y' z' u' < m) (hL : Sub L (Ls x' y' z' u')) :
    WX N (Exit.then (fun a' w' => ∃ x' y' z' u' w0, I x' y' z' u' w0 ∧ Eqv w0 w' ∧ Has N (Ls x' y' z' u') a' ∧ mu x' y' z' u' < m) Q) .normal L w := fun _ _ e ha => ⟨x', y', z', u', w, hI, e, ha.sub hL, hm⟩
theorem WC.loop5 {S1 S2 S3 S4 S5 : Type} {k : Code} (mu : S1 → S2 → S3 → S4 → S5 → Nat) (Ls : S1 → S2 → S3 → S4 → S5 → Slots) (I : S1 → S2 → S3 → S4 → S5 → World → Prop) (x0 : S1) (y0 : S2) (z0 : S3) (u0 : S4) (v0 : S5) (h0 : I x0 y0 z0 u0 v0 w) (hL : Sub L (Ls x0 y0 z0 u0 v0))
    (round : ∀ x y z u v w, I x y z u v w → WC P N (Exit.then (fun a' w' => ∃ x' y' z' u' v' w0, I x' y' z' u' v' w0 ∧ Eqv w0 w' ∧ Has N (Ls x' y' z' u' v') a' ∧ mu x' y' z' u' v' < mu x y z u v) Q) k (Ls x y z u v) w) : WC P N Q (.loop k) L w :=
  WC.loopG (S := S1 × S2 × S3 × S4 × S5) (fun s a' w' => ∃ x' y' z' u' v' w0, I x' y' z' u' v' w0 ∧ Eqv w0 w' ∧ Has N (Ls x' y' z' u' v') a' ∧ mu x' y' z' u' v' < mu s.1 s.2.1 s.2.2.1 s.2.2.2.1 s.2.2.2.2) (fun s => mu s.1 s.2.1 s.2.2.1 s.2.2.2.1 s.2.2.2.2) (fun s => Ls s.1 s.2.1 s.2.2.1 s.2.2.2.1 s.2.2.2.2) (fun s => I s.1 s.2.1 s.2.2.1 s.2.2.2.1 s.2.2.2.2)
    (fun _ _ _ ⟨x', y', z', u', v', w0, h⟩ => ⟨(x', y', z', u', v'), w0, h⟩) (x0, y0, z0, u0, v0) h0 hL (fun s w h => round s.1 s.2.1 s.2.2.1 s.2.2.2.1 s.2.2.2.2 w h)
theorem WX.round5 {S1 S2 S3 S4 S5 : Type} {mu : S1 → S2 → S3 → S4 → S5 → Nat} {Ls : S1 → S2 → S3 → S4 → S5 → Slots} {I : S1 → S2 → S3 → S4 → S5 → World → Prop} {m : Nat} (x' : S1) (y' : S2) (z' : S3) (u' : S4) (v' : S5) (hI : I x' y' z' u' v' w) (hm : mu x' y' z' u' v' < m) (hL : Sub L (Ls x' y' z' u' v')) :
    WX N (Exit.then (fun a' w' => ∃ x' y' z' u' v' w0, I x' y' z' u' v' w0 ∧ Eqv w0 w' ∧ Has N (Ls x' y' z' u' v') a' ∧ mu x' y' z' u' v' < m) Q) .normal L w := fun _ _ e ha => ⟨x', y', z', u', v', w, hI, e, ha.sub hL, hm⟩
end rules
end Go.Proofs.YtfibkajdahaggaaDoor
