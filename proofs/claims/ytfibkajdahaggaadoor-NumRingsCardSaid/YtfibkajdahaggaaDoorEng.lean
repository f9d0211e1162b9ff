/- A small engine of walks: frames as short lists of slots, worlds up to the count of draws; one rule for each kind of operation. -/
import Derived.StillTail
import Derived.BigQuiet
import Derived.WalkKit
import Derived.WalkLawsBesides
namespace Go.Proofs.YtfibkajdahaggaaDoor
open Go Go.RowKit

/-! ## Regions that draw: quiet operations, then a forced tail -/
section
variable {P : Program} {ops : Array Oper} {md : Region.Mode} {C : World → Prop}
/-- the head's operations in whatever order may come, each quiet in C; then L. -/
def headQ (P : Program) (md : Region.Mode) (ops : Array Oper) (C : World → Prop) (n : Nat) (L : Array Bool → Act → Prop) : Nat → Array Bool → Act → Prop
  | 0, listed, a => L listed a
  | f + 1, listed, a => Region.ready md ops listed ≠ [] ∧ ∀ i ∈ Region.ready md ops listed, i < n ∧ qOp P ops C i (headQ P md ops C n L f (listed.setIfInBounds i true)) a

theorem any_of_headQ {n g : Nat} {L : Array Bool → Act → Prop} {Q : Exit → Act → World → Prop} (hL : ∀ listed a w, C w → L listed a → wpAny P md ops Q g listed a w) :
    ∀ (f : Nat) (listed : Array Bool) (a : Act) (w : World), C w → headQ P md ops C n L f listed a → wpAny P md ops Q (f + g) listed a w := by
  intro f
  induction f with
  | zero => intro listed a w hw h; rw [Nat.zero_add]; exact hL _ _ _ hw h
  | succ f ih =>
    intro listed a w hw h
    rw [Nat.add_right_comm]
    exact ⟨fun h0 => absurd h0 h.1, fun i hi => wpOp_of_qOp hw (fun a' w' hw' h' => ih _ a' w' hw' h') (h.2 i hi).2⟩

/-- one of the head's operations that may come now may be taken first. -/
theorem headQ_first {n i : Nat} {oi : Oper} {v : Value} {L : Array Bool → Act → Prop} (hi : ops[i]? = some oi) (hsel : ∀ (j : Nat) (o : Oper) cs b, ops[j]? = some o → o.op ≠ .select cs b)
    (hs : Region.sinkB md ops n = true) (hc : Region.chainB md ops n = true) (hn : n < ops.size) (hin : i < n) (hdone : ∀ listed a, L listed a → ∀ j ∈ Region.ready md ops listed, n ≤ j)
    (f : Nat) : ∀ (listed : Array Bool) (a : Act), HeadInv md ops n listed →
      (∀ j oj, ops[j]? = some oj → j ≠ i → listed.getD j true = false → (∀ e ∈ oj.after, Region.binds md e = true → e.on ≠ i) → oi.apart ops oj = true) →
      i ∈ Region.ready md ops listed → YieldsIn P ops C oi v a → headQ P md ops C n L f (listed.setIfInBounds i true) (a.put oi.dst v) → headQ P md ops C n L (f + 1) listed a := by
  induction f with
  | zero =>
    intro listed a inv _ hr hy H
    refine ⟨fun h => (by rw [h] at hr; cases hr), fun j hj => ?_⟩
    have hjn : j < n := (Nat.lt_or_ge j n).elim id fun h => absurd hj (tail_waits hs hc hn inv _ i rfl hin (mem_ready.1 hr).1 j h)
    refine ⟨hjn, ?_⟩
    by_cases hji : j = i
    · subst hji; exact hy.qOp hi H
    · exact absurd (hdone _ _ H j (ready_mono hj hji)) (by omega)
  | succ f ih =>
    intro listed a inv hfree hr hy H
    refine ⟨fun h => (by rw [h] at hr; cases hr), fun j hj => ?_⟩
    have hjn : j < n := (Nat.lt_or_ge j n).elim id fun h => absurd hj (tail_waits hs hc hn inv _ i rfl hin (mem_ready.1 hr).1 j h)
    refine ⟨hjn, ?_⟩
    by_cases hji : j = i
    · subst hji; exact hy.qOp hi H
    · have h1 := (H.2 j (ready_mono hj hji)).2
      obtain ⟨hjun, oj, hoj, hall⟩ := mem_ready.1 hj
      have hnot : ∀ e ∈ oj.after, Region.binds md e = true → e.on ≠ i := fun e he hb heq => by
        have := hall e he hb
        rw [heq, getD_both (mem_ready.1 hr).1] at this
        cases this
      have h2 := qOp_put hoj (hfree j oj hoj hji hjun hnot) (fun cs b => hsel i oi cs b hi) (fun cs b => hsel j oj cs b hoj) hy h1
      refine qOp_mono (fun a' h3 => ih (listed.setIfInBounds j true) a' (inv.set hj hjn) (fun k ok hk hki hun hno => hfree k ok hk hki ?_ hno) (ready_mono hr (Ne.symm hji)) h3.1 ?_) h2
      · by_cases hjk : j = k
        · subst hjk; exact hjun
        · rw [getD_set_ne true hjk] at hun; exact hun
      · rw [Array.setIfInBounds_comm _ _ hji]; exact h3.2

theorem headQ_lex {n g : Nat} {Lq : Act → Prop} (hsel : Region.noSelect ops = true) (hs : Region.sinkB md ops n = true) (hc : Region.chainB md ops n = true) (hn : n < ops.size) :
    ∀ (l : List Oper) (k : Nat) (listed : Array Bool) (a : Act), (∀ j, j < l.length → l[j]? = ops[k + j]?) → k + l.length = n → HeadInv md ops n listed →
    Region.lexHead md ops g l.length k listed = true → wpQuiet P ops C Lq l a →
    headQ P md ops C n (fun listed' a' => Region.seqB md ops g n listed' = true ∧ Lq a') l.length listed a := by
  intro l
  induction l with
  | nil =>
    intro k listed a _ hk _ hB h
    obtain rfl : k = n := by simpa using hk
    exact ⟨by simpa [Region.lexHead] using hB, h⟩
  | cons o l ih =>
    intro k listed a hl hk inv hB h
    have h0 : ops[k]? = some o := by simpa using (hl 0 (by simp)).symm
    simp only [List.length_cons, Region.lexHead, Bool.and_eq_true] at hB hk
    obtain ⟨⟨hr, hf⟩, hB'⟩ := hB
    have hkn : k < n := by omega
    have hr' : k ∈ Region.ready md ops listed := by simpa using hr
    have hst : qOp P ops C k (wpQuiet P ops C Lq l) a := by unfold qOp; simp only [h0]; exact h
    obtain ⟨v, hy, hK⟩ := yieldsIn_of_qOp h0 hst
    exact headQ_first h0 (Region.noSelect_spec hsel) hs hc hn hkn (fun listed' a' hL => seqB_ready hL.1) l.length listed a inv (Region.free_spec h0 hf) hr' hy
      (ih (k + 1) _ _ (fun j hj => by have := hl (j + 1) (by simp; omega); simpa [Nat.add_assoc, Nat.add_comm 1 j] using this) (by omega) (inv.set hr' hkn) hB' hK)

theorem wp_region_quiet_tail {id : Nat} {Q : Exit → Act → World → Prop} {a : Act} {w : World} {l : List Oper} (n : Nat) (hm : P.follows .mixedOrders = true) (hB : Region.lexTailB .any l.toArray n = true)
    (hC : C { w with drawn := w.drawn + 1 }) (h : wpQuiet P l.toArray C (fun a' => ∀ w', C w' → wpList P l.toArray Q (l.drop n) a' w') (l.take n) a) : (Code.region id l.toArray true).wp P Q a w := by
  simp only [Region.lexTailB, Bool.and_eq_true, decide_eq_true_eq] at hB
  obtain ⟨⟨⟨⟨hsel, hn⟩, hs⟩, hc⟩, hlex⟩ := hB
  have hn' : n < l.length := by simpa using hn
  have htl : (l.take n).length = n := by simp; omega
  have hdl : (l.drop n).length = l.toArray.size - n := by simp
  have inv0 : HeadInv .any l.toArray n (Array.replicate l.toArray.size false) :=
    ⟨by simp, fun j oj _ hl => (by rw [getD_replicate_false] at hl; cases hl), fun t _ ht => getD_in (by simpa using ht) (getD_replicate_false _ _)⟩
  have H := headQ_lex (md := .any) (g := l.toArray.size - n) hsel hs hc hn (l.take n) 0 _ a (fun j hj => by
    have hj' : j < n := by rw [htl] at hj; exact hj
    simp [hj']) (by simpa using htl) inv0 (by rw [htl]; exact hlex) h
  refine wp_region_any hm ?_
  have := any_of_headQ (Q := Q) (g := l.toArray.size - n) (fun listed a' w' hw' hL => by
    have := wpAny_of_seq (md := .any) (Q' := Q) (l.drop n) n listed a' w' (fun j => by simp [List.getElem?_drop]) (by rw [hdl]; exact hL.1) (hL.2 w' hw')
    rwa [hdl] at this) _ _ _ { w with drawn := w.drawn + 1 } hC H
  rw [htl, show n + (l.toArray.size - n) = l.toArray.size by omega] at this
  exact this
end

/-! ## Worlds up to the count of draws; frames by their slots -/
/-- w1 is w, but for the count of draws. -/
structure Eqv (w w1 : World) : Prop where
  heap : w1.heap = w.heap
  os : w1.os = w.os
  tape : w1.tape = w.tape
  output : w1.output = w.output
theorem Eqv.refl (w : World) : Eqv w w := ⟨rfl, rfl, rfl, rfl⟩
theorem Eqv.trans {a b c : World} (h : Eqv a b) (k : Eqv b c) : Eqv a c := ⟨k.heap.trans h.heap, k.os.trans h.os, k.tape.trans h.tape, k.output.trans h.output⟩
theorem Eqv.symm {a b : World} (h : Eqv a b) : Eqv b a := ⟨h.heap.symm, h.os.symm, h.tape.symm, h.output.symm⟩
theorem Eqv.drawn {w w1 : World} (h : Eqv w w1) (n : Nat) : Eqv w { w1 with drawn := n } := ⟨h.heap, h.os, h.tape, h.output⟩
theorem Eqv.cell {w w1 : World} (h : Eqv w w1) (a : Addr) : w1.cell? a = w.cell? a := by unfold World.cell?; rw [h.heap]
theorem Eqv.frozen {w w1 : World} (h : Eqv w w1) (a : Addr) : w1.frozen? a = w.frozen? a := by unfold World.frozen?; rw [h.heap]

abbrev Slots := List (Nat × Value)
def lk : Slots → Nat → Option Value
  | [], _ => none
  | (t, v) :: L, s => bif Nat.beq t s then some v else lk L s
def opv (L : Slots) : Operand → Option Value
  | .tmp t => lk L t
  | .const v => some v
  | .global g => some (.pointer (some ⟨g, 0, none⟩))
  | .func f => some (.func (.func f) #[] #[])
def opvs (L : Slots) : List Operand → Option (List Value)
  | [] => some []
  | x :: xs => match opv L x, opvs L xs with
    | some v, some vs => some (v :: vs)
    | _, _ => none

structure Has (N : Nat) (L : Slots) (a : Act) : Prop where
  size : a.tmps.size = N
  defers : a.defers = []
  get : ∀ t v, lk L t = some v → a.tmps.getD t undef = v

theorem Has.ev {N : Nat} {L : Slots} {a : Act} {x : Operand} {v : Value} (h : Has N L a) (hx : opv L x = some v) : a.eval x = v := by
  cases x with
  | tmp t => exact h.get t v hx
  | const u => exact Option.some.inj hx
  | global g => exact Option.some.inj hx
  | func f => exact Option.some.inj hx
theorem Has.evs {N : Nat} {L : Slots} {a : Act} (h : Has N L a) : ∀ {xs : List Operand} {vs : List Value}, opvs L xs = some vs → xs.map a.eval = vs
  | [], vs, hx => by simp only [opvs, Option.some.injEq] at hx; rw [← hx]; rfl
  | x :: xs, vs, hx => by
    unfold opvs at hx
    cases h1 : opv L x with
    | none => rw [h1] at hx; simp at hx
    | some v =>
      cases h2 : opvs L xs with
      | none => rw [h1, h2] at hx; simp at hx
      | some us =>
        rw [h1, h2] at hx
        simp only [Option.some.injEq] at hx
        rw [← hx, List.map_cons, h.ev h1, h.evs h2]

theorem Has.put {N : Nat} {L : Slots} {a : Act} (h : Has N L a) {d : Nat} (hd : Nat.blt d N = true) (v : Value) : Has N ((d, v) :: L) (a.put (some d) v) := by
  have hd' : d < N := by simpa [Nat.blt_eq] using hd
  refine ⟨by simp [Act.put, h.size], h.defers, fun t u ht => ?_⟩
  simp only [lk] at ht
  cases hb : Nat.beq d t with
  | true =>
    have : d = t := Nat.eq_of_beq_eq_true hb
    subst this
    simp only [hb, cond_true, Option.some.injEq] at ht
    subst ht
    simp [Act.put, h.size, hd']
  | false =>
    have hne : d ≠ t := Nat.ne_of_beq_eq_false hb
    simp only [hb, cond_false] at ht
    rw [← h.get t u ht]
    simp [Act.put, hne]
theorem Has.put_none {N : Nat} {L : Slots} {a : Act} (h : Has N L a) (v : Value) : Has N L (a.put none v) := h

/-- L tells at least what L' tells. -/
def Sub (L L' : Slots) : Prop := ∀ t v, lk L' t = some v → lk L t = some v
theorem Sub.nil {L : Slots} : Sub L [] := fun _ _ h => by simp [lk] at h
theorem Sub.cons {L L' : Slots} {t : Nat} {v : Value} (h : lk L t = some v) (hs : Sub L L') : Sub L ((t, v) :: L') := fun s u hu => by
  simp only [lk] at hu
  cases hb : Nat.beq t s with
  | true =>
    have : t = s := Nat.eq_of_beq_eq_true hb
    subst this
    simp only [hb, cond_true, Option.some.injEq] at hu
    rw [← hu]; exact h
  | false => simp only [hb, cond_false] at hu; exact hs s u hu
theorem Has.sub {N : Nat} {L L' : Slots} {a : Act} (h : Has N L a) (hs : Sub L L') : Has N L' a := ⟨h.size, h.defers, fun t v ht => h.get t v (hs t v ht)⟩

/-! ## The four judgements -/
abbrev Post := Exit → Act → World → Prop
def WL (P : Program) (N : Nat) (ops : Array Oper) (Q : Post) (l : List Oper) (L : Slots) (w : World) : Prop := ∀ a w1, Eqv w w1 → Has N L a → wpList P ops Q l a w1
def WC (P : Program) (N : Nat) (Q : Post) (c : Code) (L : Slots) (w : World) : Prop := ∀ a w1, Eqv w w1 → Has N L a → c.wp P Q a w1
def WX (N : Nat) (Q : Post) (e : Exit) (L : Slots) (w : World) : Prop := ∀ a w1, Eqv w w1 → Has N L a → Q e a w1
def WQ (P : Program) (N : Nat) (ops : Array Oper) (K : Act → Prop) (l : List Oper) (L : Slots) (w : World) : Prop := ∀ a, Has N L a → wpQuiet P ops (Eqv w) K l a

/-- function f has a body of Go, that a call enters -/
def goesIn (P : Program) (f : FuncId) : Bool := match P.funcs[f]? with
  | some fn => !(fn.name == "runtime.NumGoroutine") && fn.body.isSome
  | none => false
/-- A contract: called in w (whatever the count of draws), f returns v in w', and R. -/
def Fn (P : Program) (f : FuncId) (args : Array Value) (w : World) (R : Value → World → Prop) : Prop :=
  goesIn P f = true ∧ ∀ w1, Eqv w w1 → Calls P f args w1 fun e w' => ∃ v w0, e = .returned v ∧ Eqv w0 w' ∧ R v w0
theorem Fn.mono {P : Program} {f : FuncId} {args : Array Value} {w : World} {R R' : Value → World → Prop} (h : Fn P f args w R) (hr : ∀ v w', R v w' → R' v w') : Fn P f args w R' :=
  ⟨h.1, fun w1 h1 => (h.2 w1 h1).mono fun _ _ ⟨v, w0, he, h0, hR⟩ => ⟨v, w0, he, h0, hr _ _ hR⟩⟩

section rules
variable {P : Program} {N : Nat} {ops : Array Oper} {Q : Post} {L : Slots} {w : World}

/-! ### control -/
theorem WC.seq {x y : Code} (h : WC P N (Exit.then (y.wp P Q) Q) x L w) : WC P N Q (.seq x y) L w := fun a w1 e ha => wp_seq (h a w1 e ha)
theorem WC.block {i : Nat} {c : Code} (h : WC P N (Exit.inBlock i Q) c L w) : WC P N Q (.block i c) L w := fun a w1 e ha => wp_block (h a w1 e ha)
theorem WC.skip (h : WX N Q .normal L w) : WC P N Q .skip L w := fun a w1 e ha => wp_skip (h a w1 e ha)
theorem WC.label {l : Nat} (h : WX N Q .normal L w) : WC P N Q (.label l) L w := fun a w1 e ha => wp_label (h a w1 e ha)
theorem WC.exit {i : Nat} (h : WX N Q (.exit i) L w) : WC P N Q (.exit i) L w := fun a w1 e ha => wp_exit (h a w1 e ha)
theorem WC.ret (h : WX N Q .ret L w) : WC P N Q .ret L w := fun a w1 e ha => wp_ret (h a w1 e ha)
theorem WC.region {i : Nat} {l : List Oper} (h : WL P N l.toArray Q l L w) : WC P N Q (.region i l.toArray false) L w := fun a w1 e ha => wp_region_lit (h a w1 e ha)
theorem WC.cond {c : Operand} {x y : Code} {b : Bool} (hc : opv L c = some (.bool b)) (ht : b = true → WC P N Q x L w) (hf : b = false → WC P N Q y L w) : WC P N Q (.cond c x y) L w := fun a w1 e ha => by
  refine wp_cond (t := b) (ha.ev hc) ?_
  cases b with
  | true => exact ht rfl a w1 e ha
  | false => exact hf rfl a w1 e ha
theorem WC.scope {c : Code} (h : WC P N (Exit.noGoto Q) c L w) : WC P N Q (.scope c) L w := fun a w1 e ha => wp_scope_straight (h a w1 e ha)
theorem WC.weaken {L' : Slots} {c : Code} (hs : Sub L L') (h : WC P N Q c L' w) : WC P N Q c L w := fun a w1 e ha => h a w1 e (ha.sub hs)
theorem WC.quiet {i : Nat} {l : List Oper} (hm : P.follows .mixedOrders = true) (hB : Region.lexB .any l.toArray = true) (h : WQ P N l.toArray (fun a => ∀ w', Eqv w w' → Q .normal a w') l L w) : WC P N Q (.region i l.toArray true) L w := fun a _ e ha =>
  wp_region_quiet (C := Eqv w) hm hB (e.drawn _) (by simpa using h a ha)
theorem WC.tail {i : Nat} {l : List Oper} (n : Nat) (hm : P.follows .mixedOrders = true) (hB : Region.lexTailB .any l.toArray n = true) (h : WQ P N l.toArray (fun a => ∀ w', Eqv w w' → wpList P l.toArray Q (l.drop n) a w') (l.take n) L w) : WC P N Q (.region i l.toArray true) L w := fun a _ e ha =>
  wp_region_quiet_tail n hm hB (e.drawn _) (h a ha)

/-- a loop: s is the ghost; Ls what its slots hold, I what is true of the world, mu falls. -/
theorem WC.loop {S : Type} {c : Code} (mu : S → Nat) (Ls : S → Slots) (I : S → World → Prop) (s0 : S) (h0 : I s0 w) (hL : Sub L (Ls s0))
    (round : ∀ s w, I s w → WC P N (Exit.then (fun a' w' => ∃ s' w0, I s' w0 ∧ Eqv w0 w' ∧ Has N (Ls s') a' ∧ mu s' < mu s) Q) c (Ls s) w) : WC P N Q (.loop c) L w := fun a w1 e ha => by
  have key : ∀ n s a w0 w1, mu s = n → I s w0 → Eqv w0 w1 → Has N (Ls s) a → ∀ (b : Frame) (k : List Item) (cs : List Frame),
      ∃ e a' w', Q e a' w' ∧ Arrives P (lone (b.at a (.code c :: .inLoop c :: k)) cs w1) b k cs e a' w' := by
    intro n
    induction n using Nat.strongRecOn with
    | _ n ih =>
      intro s a w0 w1 hn hI he ha b k cs
      obtain ⟨e, a1, w2, hq, harr⟩ := round s w0 hI a w1 he ha b (.inLoop c :: k) cs
      cases e with
      | normal =>
        obtain ⟨s', w3, hI', he', ha', hlt⟩ := hq
        obtain ⟨e2, a2, w4, hq2, harr2⟩ := ih (mu s') (hn ▸ hlt) s' a1 w3 w2 rfl hI' he' ha' b k cs
        exact ⟨e2, a2, w4, hq2, .of_steps (Steps.trans harr (.one step_inLoop)) harr2⟩
      | exit id => exact ⟨_, a1, w2, hq, .pass (x := .inLoop c) rfl (fun _ _ => .inl (by simp)) harr⟩
      | goto l => exact ⟨_, a1, w2, hq, .pass (x := .inLoop c) rfl (fun _ _ => .inl (by simp)) harr⟩
      | ret => exact ⟨_, a1, w2, hq, .pass (x := .inLoop c) rfl (fun _ _ => .inl (by simp)) harr⟩
      | panic ch => exact ⟨_, a1, w2, hq, .pass (x := .inLoop c) rfl (fun _ _ => .inl (by simp)) harr⟩
      | outgrown => exact ⟨_, a1, w2, hq, .pass (x := .inLoop c) rfl (fun _ _ => .inl (by simp)) harr⟩
  intro b k cs
  obtain ⟨e', a', w', hq, harr⟩ := key _ s0 a w w1 rfl h0 e (ha.sub hL) b k cs
  exact ⟨e', a', w', hq, .of_steps (.one step_loop) harr⟩

theorem WX.then_normal {y : Code} (h : WC P N Q y L w) : WX N (Exit.then (y.wp P Q) Q) .normal L w := h
theorem WX.then_exit {K : Act → World → Prop} {i : Nat} (h : WX N Q (.exit i) L w) : WX N (Exit.then K Q) (.exit i) L w := h
theorem WX.then_ret {K : Act → World → Prop} (h : WX N Q .ret L w) : WX N (Exit.then K Q) .ret L w := h
theorem WX.block_normal {i : Nat} (h : WX N Q .normal L w) : WX N (Exit.inBlock i Q) .normal L w := h
theorem WX.block_ret {i : Nat} (h : WX N Q .ret L w) : WX N (Exit.inBlock i Q) .ret L w := h
theorem WX.block_same {i : Nat} (h : WX N Q .normal L w) : WX N (Exit.inBlock i Q) (.exit i) L w := fun a w1 e ha => by
  show if i = i then _ else _
  rw [if_pos rfl]; exact h a w1 e ha
theorem WX.block_other {i j : Nat} (hij : Nat.beq j i = false) (h : WX N Q (.exit j) L w) : WX N (Exit.inBlock i Q) (.exit j) L w := fun a w1 e ha => by
  show if j = i then _ else _
  rw [if_neg (Nat.ne_of_beq_eq_false hij)]; exact h a w1 e ha
theorem WX.scope_normal (h : WX N Q .normal L w) : WX N (Exit.noGoto Q) .normal L w := h
theorem WX.scope_ret (h : WX N Q .ret L w) : WX N (Exit.noGoto Q) .ret L w := h
theorem WX.scope_exit {i : Nat} (h : WX N Q (.exit i) L w) : WX N (Exit.noGoto Q) (.exit i) L w := h
/-- the round's end -/
theorem WX.round {S : Type} {mu : S → Nat} {Ls : S → Slots} {I : S → World → Prop} {s : S} (s' : S) (hI : I s' w) (hm : mu s' < mu s) (hL : Sub L (Ls s')) :
    WX N (Exit.then (fun a' w' => ∃ s' w0, I s' w0 ∧ Eqv w0 w' ∧ Has N (Ls s') a' ∧ mu s' < mu s) Q) .normal L w := fun _ _ e ha => ⟨s', w, hI, e, ha.sub hL, hm⟩

theorem WL.nil (h : WX N Q .normal L w) : WL P N ops Q [] L w := fun a w1 e ha => wpList_nil (h a w1 e ha)
theorem WQ.nil (h : WX N Q .normal L w) : WQ P N ops (fun a => ∀ w', Eqv w w' → Q .normal a w') [] L w := fun a ha => wpQuiet_nil fun w' e => h a w' e ha
theorem WQ.tail {l : List Oper} (h : WL P N ops Q l L w) : WQ P N ops (fun a => ∀ w', Eqv w w' → wpList P ops Q l a w') [] L w := fun a ha => wpQuiet_nil fun w' e => h a w' e ha

/-! ### operations that yield -/
def Yld (P : Program) (N : Nat) (w : World) (o : Oper) (L : Slots) (v : Value) : Prop := ∀ a w1, Eqv w w1 → Has N L a → (execOp a.eval o).run P w1 = .ok (.value v) w1

theorem WL.y {d : Nat} {op : Op} {ty : TypeId} {pos : String} {af : Array Edge} {rest : List Oper} {v : Value} (hd : Nat.blt d N = true) (hy : Yld P N w ⟨some d, op, ty, pos, af, none⟩ L v)
    (h : WL P N ops Q rest ((d, v) :: L) w) : WL P N ops Q (⟨some d, op, ty, pos, af, none⟩ :: rest) L w := fun a w1 e ha =>
  wpList_plain rfl fun K hK => by
    unfold Oper.wp
    rw [hy a w1 e ha]
    exact hK _ _ (h _ _ e (ha.put hd v))
theorem WQ.y {K : Act → Prop} {d : Nat} {op : Op} {ty : TypeId} {pos : String} {af : Array Edge} {rest : List Oper} {v : Value} (hd : Nat.blt d N = true) (hy : Yld P N w ⟨some d, op, ty, pos, af, none⟩ L v)
    (h : WQ P N ops K rest ((d, v) :: L) w) : WQ P N ops K (⟨some d, op, ty, pos, af, none⟩ :: rest) L w := fun a ha =>
  wpQuiet_step fun K' hK => by
    rw [if_pos (by simp [Region.wanted])]
    exact ⟨v, fun w1 e => by unfold Oper.quietAt; rw [hy a w1 e ha]; exact ⟨rfl, rfl⟩, hK _ (h _ (ha.put hd v))⟩
/-! a guarded operation: the guarding one's slot d' holds a Bool -/
theorem yielded_of {a : Act} {j d' : Nat} {b : Bool} (ha : Has N L a) (hj : (ops[j]?).bind (·.dst) = some d') (hN : Nat.blt d' N = true) (hb : lk L d' = some (.bool b)) : yielded ops a.tmps j = some b := by
  have h1 : d' < a.tmps.size := by rw [ha.size]; simpa [Nat.blt_eq] using hN
  have h2 := ha.get d' _ hb
  unfold yielded
  rw [hj]
  simp only [Option.bind_some, Array.getElem?_eq_getElem h1]
  have : a.tmps[d'] = .bool b := by rw [← h2]; simp [Array.getD, h1]
  rw [this]
theorem WL.guard {d j d' : Nat} {op : Op} {ty : TypeId} {pos : String} {af : Array Edge} {rest : List Oper} {b t : Bool} (hj : (ops[j]?).bind (·.dst) = some d') (hN : Nat.blt d' N = true) (hb : lk L d' = some (.bool b)) (hd : Nat.blt d N = true)
    (hyes : b = t → ∃ v, Yld P N w ⟨some d, op, ty, pos, af, none⟩ L v ∧ WL P N ops Q rest ((d, v) :: L) w) (hno : b = !t → WL P N ops Q rest ((d, undef) :: L) w) : WL P N ops Q (⟨some d, op, ty, pos, af, some (j, t)⟩ :: rest) L w := fun a w1 e ha => by
  have hg := yielded_of ha hj hN hb
  refine wpList_step fun K hK => ?_
  by_cases hbt : b = t
  · rw [if_pos (by simp [Region.wanted, hg, hbt])]
    obtain ⟨v, hy, h⟩ := hyes hbt
    unfold Oper.wp
    have : execOp a.eval ⟨some d, op, ty, pos, af, some (j, t)⟩ = execOp a.eval ⟨some d, op, ty, pos, af, none⟩ := rfl
    rw [this, hy a w1 e ha]
    exact hK _ _ (h _ _ e (ha.put hd v))
  · rw [if_neg (by simp [Region.wanted, hg, hbt])]
    exact hK _ _ (hno (by cases b <;> cases t <;> simp_all) _ _ e (ha.put hd undef))
theorem WQ.guard {K : Act → Prop} {d j d' : Nat} {op : Op} {ty : TypeId} {pos : String} {af : Array Edge} {rest : List Oper} {b t : Bool} (hj : (ops[j]?).bind (·.dst) = some d') (hN : Nat.blt d' N = true) (hb : lk L d' = some (.bool b)) (hd : Nat.blt d N = true)
    (hyes : b = t → ∃ v, Yld P N w ⟨some d, op, ty, pos, af, none⟩ L v ∧ WQ P N ops K rest ((d, v) :: L) w) (hno : b = !t → WQ P N ops K rest ((d, undef) :: L) w) : WQ P N ops K (⟨some d, op, ty, pos, af, some (j, t)⟩ :: rest) L w := fun a ha => by
  have hg := yielded_of ha hj hN hb
  refine wpQuiet_step fun K' hK => ?_
  by_cases hbt : b = t
  · rw [if_pos (by simp [Region.wanted, hg, hbt])]
    obtain ⟨v, hy, h⟩ := hyes hbt
    exact ⟨v, fun w1 e => by unfold Oper.quietAt; have : execOp a.eval ⟨some d, op, ty, pos, af, some (j, t)⟩ = execOp a.eval ⟨some d, op, ty, pos, af, none⟩ := rfl; rw [this, hy a w1 e ha]; exact ⟨rfl, rfl⟩, hK _ (h _ (ha.put hd v))⟩
  · rw [if_neg (by simp [Region.wanted, hg, hbt])]
    exact hK _ (hno (by cases b <;> cases t <;> simp_all) _ (ha.put hd undef))

end rules
end Go.Proofs.YtfibkajdahaggaaDoor
