/- Chain regions where what a float reads need stay only as long as the float may still come. -/
import Derived.Test.YtfibkajdahaggaaDoorChain2
namespace Go.Proofs.YtfibkajdahaggaaDoor
open Go Go.RowKit
section
variable {P : Program} {ops : Array Oper} {md : Region.Mode} {fl : Nat → Bool} {D : Nat → World → Prop} {Q : Act → World → Prop}
def DD (md : Region.Mode) (ops : Array Oper) (fl : Nat → Bool) (D : Nat → World → Prop) (j : Nat) (w : World) : Prop := ∀ k, fl k = true → reach md ops ops.size j k = false → D k w
def Hold (fl : Nat → Bool) (D : Nat → World → Prop) (listed : Array Bool) (w : World) : Prop := ∀ k, fl k = true → listed.getD k true = false → D k w
theorem Hold.set {listed : Array Bool} {w : World} (h : Hold fl D listed w) (j : Nat) : Hold fl D (listed.setIfInBounds j true) w := fun k hk hl => h k hk (by
  by_cases hjk : j = k
  · subst hjk
    rcases Nat.lt_or_ge j listed.size with h' | h'
    · simp [h'] at hl
    · simp [Array.getElem?_eq_none h'] at hl
  · rw [getD_set_ne true hjk] at hl; exact hl)
theorem DD.hold {listed : Array Bool} {w : World} {j : Nat} (h : DD md ops fl D j w) (hcl : Closed md ops listed) (hj : j ∈ Region.ready md ops listed) : Hold fl D (listed.setIfInBounds j true) w := fun k hk hl => by
  obtain ⟨hjun, oj, hoj, hall⟩ := mem_ready.1 hj
  have hku : listed.getD k true = false := by
    by_cases hjk : j = k
    · subst hjk
      rcases Nat.lt_or_ge j listed.size with h' | h'
      · simp [h'] at hl
      · simp [Array.getElem?_eq_none h'] at hl
    · rw [getD_set_ne true hjk] at hl; exact hl
  refine h k hk ?_
  cases hq : reach md ops ops.size j k with
  | false => rfl
  | true => exact absurd hall (not_listed_of_reach hcl (getD_both hku) ops.size j hq oj hoj)
theorem sRun_some2 {E : World → Prop} {o : Oper} {a : Act} {w : World} {K : Act → World → Prop} (hh : sRun P ops E o a w K) : ∃ u w', (E w' ∨ w' = w) ∧ K (a.put o.dst u) w' := by
  unfold sRun at hh
  split at hh
  · generalize (execOp a.eval o).run P w = r at hh
    cases r with
    | halt => exact hh.elim
    | ok x w' => cases x with
      | value v => exact ⟨v, w', .inl hh.1, hh.2⟩
      | skip => exact ⟨undef, w', .inl hh.1, hh.2⟩
      | enter f args =>
        obtain ⟨e, w2, fr, ⟨v, _, d, k⟩, _⟩ := hh []
        exact ⟨v, w2, .inl d, k⟩
      | _ => exact hh.elim
  · exact ⟨undef, w, .inr rfl, hh⟩
theorem sRun_mono2 {E : World → Prop} {o : Oper} {a : Act} {w : World} {K K' : Act → World → Prop} (h : ∀ a w, E w → K a w → K' a w) (h2 : ∀ a, K a w → K' a w) (hh : sRun P ops E o a w K) : sRun P ops E o a w K' := by
  unfold sRun at hh ⊢
  split
  · rename_i hw'
    rw [if_pos hw'] at hh
    generalize (execOp a.eval o).run P w = r at hh ⊢
    cases r with
    | halt => exact hh.elim
    | ok x w' => cases x with
      | value v => exact ⟨hh.1, h _ _ hh.1 hh.2⟩
      | skip => exact ⟨hh.1, h _ _ hh.1 hh.2⟩
      | enter f args => exact Calls.mono hh fun e w'' ⟨v, e1, d, k⟩ => ⟨v, e1, d, h _ _ d k⟩
      | _ => exact hh.elim
  · rename_i hw'
    rw [if_neg hw'] at hh
    exact h2 _ hh
def anyJ (P : Program) (md : Region.Mode) (ops : Array Oper) (fl : Nat → Bool) (D : Nat → World → Prop) (Q : Act → World → Prop) : Nat → Array Bool → Act → World → Prop
  | 0, listed, a, w => Region.ready md ops listed = [] ∧ Q a w
  | f + 1, listed, a, w => (Region.ready md ops listed = [] → Q a w) ∧ ∀ i ∈ Region.ready md ops listed, ∃ o, ops[i]? = some o ∧
      ((fl i = true ∧ ∃ v, fYld P ops (D i) o a v ∧ anyJ P md ops fl D Q f (listed.setIfInBounds i true) (a.put o.dst v) w) ∨
       (fl i = false ∧ sRun P ops (DD md ops fl D i) o a w fun a' w' => anyJ P md ops fl D Q f (listed.setIfInBounds i true) a' w'))
theorem any_of_anyJ {Q' : Post} (hQ : ∀ a w, Q a w → Q' .normal a w) : ∀ (f : Nat) (listed : Array Bool) (a : Act) (w : World), Hold fl D listed w → Closed md ops listed → anyJ P md ops fl D Q f listed a w → wpAny P md ops Q' f listed a w := by
  intro f
  induction f with
  | zero => intro listed a w _ _ h; exact ⟨h.1, hQ _ _ h.2⟩
  | succ f ih =>
    intro listed a w hw hcl h
    refine ⟨fun h0 => hQ _ _ (h.1 h0), fun i hi => ?_⟩
    obtain ⟨o, ho, h1⟩ := h.2 i hi
    rcases h1 with ⟨hf, v, hy, hn⟩ | ⟨_, hs⟩
    · unfold wpOp
      simp only [ho]
      rcases hy with ⟨hwn, hv⟩ | ⟨hwn, hv⟩
      · rw [if_pos hwn]
        refine .inl ?_
        unfold Oper.wp
        rw [hv w (hw i hf (mem_ready.1 hi).1)]
        exact ih _ _ _ (hw.set i) (hcl.set hi) hn
      · rw [if_neg (by simp [hwn])]
        subst hv
        exact ih _ _ _ (hw.set i) (hcl.set hi) hn
    · exact wp_of_sRun (D := DD md ops fl D i) ho (sRun_mono2 (fun a' w' hw' h' => ih _ _ _ (hw'.hold hcl hi) (hcl.set hi) h') (fun a' h' => ih _ _ _ (hw.set i) (hcl.set hi) h') hs)
theorem float_firstJ {i : Nat} {oi : Oper} {v : Value} (hi : ops[i]? = some oi) (hf : fl i = true) (hsel : ∀ (j : Nat) (o : Oper) cs b, ops[j]? = some o → o.op ≠ .select cs b) :
    ∀ (f : Nat) (listed : Array Bool) (a : Act) (w : World), Hold fl D listed w → Closed md ops listed →
      (∀ j oj, ops[j]? = some oj → j ≠ i → listed.getD j true = false → (∀ e ∈ oj.after, Region.binds md e = true → e.on ≠ i) → oi.apart ops oj = true) →
      i ∈ Region.ready md ops listed → fYld P ops (D i) oi a v → anyJ P md ops fl D Q f (listed.setIfInBounds i true) (a.put oi.dst v) w → anyJ P md ops fl D Q (f + 1) listed a w := by
  intro f
  induction f with
  | zero =>
    intro listed a w _ _ _ hr hy H
    refine ⟨fun h => (by rw [h] at hr; cases hr), fun j hj => ?_⟩
    by_cases hji : j = i
    · subst hji; exact ⟨oi, hi, .inl ⟨hf, v, hy, H⟩⟩
    · have := ready_mono hj hji
      rw [H.1] at this
      cases this
  | succ f ih =>
    intro listed a w hw hcl hfree hr hy H
    refine ⟨fun h => (by rw [h] at hr; cases hr), fun j hj => ?_⟩
    by_cases hji : j = i
    · subst hji; exact ⟨oi, hi, .inl ⟨hf, v, hy, H⟩⟩
    · obtain ⟨oj, hoj, h1⟩ := H.2 j (ready_mono hj hji)
      obtain ⟨hjun, oj', hoj', hall⟩ := mem_ready.1 hj
      obtain rfl : oj' = oj := Option.some.inj (hoj'.symm.trans hoj)
      have hnot : ∀ e ∈ oj'.after, Region.binds md e = true → e.on ≠ i := fun e he hb heq => by
        have := hall e he hb
        rw [heq, getD_both (mem_ready.1 hr).1] at this
        cases this
      have hap := hfree j oj' hoj hji hjun hnot
      have hfree' : ∀ k ok, ops[k]? = some ok → k ≠ i → (listed.setIfInBounds j true).getD k true = false → (∀ e ∈ ok.after, Region.binds md e = true → e.on ≠ i) → oi.apart ops ok = true := fun k ok hk hki hun hno => by
        refine hfree k ok hk hki ?_ hno
        by_cases hjk : j = k
        · subst hjk; exact hjun
        · rw [getD_set_ne true hjk] at hun; exact hun
      have hr' := ready_mono hr (Ne.symm hji)
      refine ⟨oj', hoj, ?_⟩
      rcases h1 with ⟨hfj, u, hyj, hn⟩ | ⟨hfj, hs⟩
      · refine .inl ⟨hfj, u, (fYld_put hap (fun cs b => hsel j oj' cs b hoj)).1 hyj, ih _ _ w (hw.set j) (hcl.set hj) hfree' hr' ((fYld_put' hap (fun cs b => hsel i oi cs b hi)).2 hy) ?_⟩
        rw [Array.setIfInBounds_comm _ _ hji, ← apart_symm_dst hap]
        exact hn
      · refine .inr ⟨hfj, ?_⟩
        have hs' := (sRun_put hap (fun cs b => hsel j oj' cs b hoj)).1 hs
        have key : ∀ a' w', Hold fl D (listed.setIfInBounds j true) w' → fYld P ops (D i) oi a' v → anyJ P md ops fl D Q f ((listed.setIfInBounds i true).setIfInBounds j true) (a'.put oi.dst v) w' → anyJ P md ops fl D Q (f + 1) (listed.setIfInBounds j true) a' w' := fun a' w' hw' hy' h' =>
          ih _ _ w' hw' (hcl.set hj) hfree' hr' hy' (by rw [Array.setIfInBounds_comm _ _ hji]; exact h')
        -- every outcome's frame is a with j's slot written
        have hput : ∀ u, fYld P ops (D i) oi (a.put oj'.dst u) v := fun u => (fYld_put' hap (fun cs b => hsel i oi cs b hi)).2 hy
        unfold sRun at hs' ⊢
        split
        · rename_i hwn
          rw [if_pos hwn] at hs'
          generalize (execOp a.eval oj').run P w = r at hs' ⊢
          cases r with
          | halt => exact hs'.elim
          | ok x w' => cases x with
            | value u => exact ⟨hs'.1, key _ _ (hs'.1.hold hcl hj) (hput u) hs'.2⟩
            | skip => exact ⟨hs'.1, key _ _ (hs'.1.hold hcl hj) (hput _) hs'.2⟩
            | enter g args => exact Calls.mono hs' fun e w'' ⟨u, e1, d, k⟩ => ⟨u, e1, d, key _ _ (d.hold hcl hj) (hput u) k⟩
            | _ => exact hs'.elim
        · rename_i hwn
          rw [if_neg hwn] at hs'
          exact key _ _ (hw.set j) (hput _) hs'

theorem seq_firstJ {i : Nat} {oi : Oper} (hi : ops[i]? = some oi) (hf : fl i = false) (hsel : ∀ (j : Nat) (o : Oper) cs b, ops[j]? = some o → o.op ≠ .select cs b) :
    ∀ (f : Nat) (listed : Array Bool) (a : Act) (w : World), Hold fl D listed w → Closed md ops listed →
      (∀ j oj, ops[j]? = some oj → j ≠ i → listed.getD j true = false → (∀ e ∈ oj.after, Region.binds md e = true → e.on ≠ i) → oi.apart ops oj = true) →
      (∀ j oj, ops[j]? = some oj → j ≠ i → listed.getD j true = false → fl j = true ∨ reach md ops ops.size j i = true) →
      i ∈ Region.ready md ops listed → sRun P ops (DD md ops fl D i) oi a w (fun a' w' => anyJ P md ops fl D Q f (listed.setIfInBounds i true) a' w') → anyJ P md ops fl D Q (f + 1) listed a w := by
  intro f
  induction f with
  | zero =>
    intro listed a w hw _ _ _ hr H
    refine ⟨fun h => (by rw [h] at hr; cases hr), fun j hj => ?_⟩
    by_cases hji : j = i
    · subst hji; exact ⟨oi, hi, .inr ⟨hf, H⟩⟩
    · obtain ⟨u, w', _, h⟩ := sRun_some2 H
      have := ready_mono hj hji
      rw [h.1] at this
      cases this
  | succ f ih =>
    intro listed a w hw hcl hfree hseq hr H
    refine ⟨fun h => (by rw [h] at hr; cases hr), fun j hj => ?_⟩
    by_cases hji : j = i
    · subst hji; exact ⟨oi, hi, .inr ⟨hf, H⟩⟩
    · obtain ⟨hjun, oj, hoj, hall⟩ := mem_ready.1 hj
      have hiun := getD_both (mem_ready.1 hr).1
      have hfj : fl j = true := by
        rcases hseq j oj hoj hji hjun with h | h
        · exact h
        · exact absurd hall (not_listed_of_reach hcl hiun ops.size j h oj hoj)
      have hnot : ∀ e ∈ oj.after, Region.binds md e = true → e.on ≠ i := fun e he hb heq => by
        have := hall e he hb
        rw [heq, hiun] at this
        cases this
      have hap := hfree j oj hoj hji hjun hnot
      have hsi := fun cs b => hsel i oi cs b hi
      have hsj := fun cs b => hsel j oj cs b hoj
      obtain ⟨u, w', hw', h⟩ := sRun_some2 H
      obtain ⟨oj2, hoj2, h2⟩ := h.2 j (ready_mono hj hji)
      obtain rfl : oj2 = oj := Option.some.inj (hoj2.symm.trans hoj)
      rcases h2 with ⟨_, v, hy, _⟩ | ⟨hno, _⟩
      · have hya : fYld P ops (D j) oj2 a v := (fYld_put hap hsj).1 hy
        refine ⟨oj2, hoj, .inl ⟨hfj, v, hya, ih _ _ w (hw.set j) (hcl.set hj) (fun k ok hk hki hun hno => hfree k ok hk hki ?_ hno) (fun k ok hk hki hun => hseq k ok hk hki ?_) (ready_mono hr (Ne.symm hji)) ?_⟩⟩
        · by_cases hjk : j = k
          · subst hjk; exact hjun
          · rw [getD_set_ne true hjk] at hun; exact hun
        · by_cases hjk : j = k
          · subst hjk; exact hjun
          · rw [getD_set_ne true hjk] at hun; exact hun
        · -- the others' run, with j's value already laid
          obtain ⟨g1, g2, g3⟩ := Oper.apart_spec hap
          have hc : ∀ u, (a.put oi.dst u).put oj2.dst v = (a.put oj2.dst v).put oi.dst u := fun u => Act.put_comm a u v g2
          have huniq : ∀ u2, fYld P ops (D j) oj2 (a.put oi.dst u2) v := fun u2 => (fYld_put hap hsj).2 hya
          have hnr : reach md ops ops.size i j = false := by
            cases hq : reach md ops ops.size i j with
            | false => rfl
            | true => exact absurd (mem_ready.1 hr).2 (fun ⟨oi', hoi', hall'⟩ => not_listed_of_reach hcl (getD_both hjun) ops.size i hq oi' hoi' hall')
          have key : ∀ u2 w2, D j w2 → anyJ P md ops fl D Q (f + 1) (listed.setIfInBounds i true) (a.put oi.dst u2) w2 → anyJ P md ops fl D Q f ((listed.setIfInBounds j true).setIfInBounds i true) ((a.put oj2.dst v).put oi.dst u2) w2 := fun u2 w2 hw2 hh => by
            obtain ⟨oj3, hoj3, h3⟩ := hh.2 j (ready_mono hj hji)
            obtain rfl : oj3 = oj2 := Option.some.inj (hoj3.symm.trans hoj)
            rcases h3 with ⟨_, v2, hy2, hn2⟩ | ⟨hno, _⟩
            · have hv : v2 = v := by
                have hu := huniq u2
                rcases hy2 with ⟨p1, p2⟩ | ⟨p1, p2⟩ <;> rcases hu with ⟨q1, q2⟩ | ⟨q1, q2⟩
                · have := (p2 w2 hw2).symm.trans (q2 w2 hw2)
                  simpa using this
                · rw [p1] at q1; cases q1
                · rw [p1] at q1; cases q1
                · rw [p2, q2]
              subst hv
              rw [Array.setIfInBounds_comm _ _ hji, ← hc]
              exact hn2
            · rw [hfj] at hno; cases hno
          unfold sRun at H ⊢
          rw [execOp_put oi hsi a oj2.dst v g3, wanted_put oi a oj2.dst v g3]
          split
          · rename_i hwn
            rw [if_pos hwn] at H
            generalize (execOp a.eval oi).run P w = r at H ⊢
            cases r with
            | halt => exact H.elim
            | ok x w' => cases x with
              | value u => exact ⟨H.1, key _ _ (H.1 j hfj hnr) H.2⟩
              | skip => exact ⟨H.1, key _ _ (H.1 j hfj hnr) H.2⟩
              | enter g args => exact Calls.mono H fun e w'' ⟨u, e1, d, k⟩ => ⟨u, e1, d, key _ _ (d j hfj hnr) k⟩
              | _ => exact H.elim
          · rename_i hwn
            rw [if_neg hwn] at H
            exact key _ _ (hw j hfj hjun) H
      · rw [hfj] at hno; cases hno

def wpJ (P : Program) (md : Region.Mode) (ops : Array Oper) (fl : Nat → Bool) (D : Nat → World → Prop) (Q : Act → World → Prop) : List Oper → Nat → Act → World → Prop
  | [], _, a, w => Q a w
  | o :: rest, k, a, w => bif fl k then ∃ v, fYld P ops (D k) o a v ∧ wpJ P md ops fl D Q rest (k + 1) (a.put o.dst v) w else sRun P ops (DD md ops fl D k) o a w fun a' w' => wpJ P md ops fl D Q rest (k + 1) a' w'
theorem anyJ_lex (hsel : Region.noSelect ops = true) : ∀ (l : List Oper) (k : Nat) (listed : Array Bool) (a : Act) (w : World), Hold fl D listed w → (∀ j, l[j]? = ops[k + j]?) → Closed md ops listed →
    Region.lexC md ops fl l.length k listed = true → wpJ P md ops fl D Q l k a w → anyJ P md ops fl D Q l.length listed a w := by
  intro l
  induction l with
  | nil =>
    intro k listed a w _ _ _ hB h
    exact ⟨by simpa [Region.lexC] using hB, h⟩
  | cons o l ih =>
    intro k listed a w hw hl hcl hB h
    have h0 : ops[k]? = some o := by simpa using (hl 0).symm
    have hl' : ∀ j, l[j]? = ops[(k + 1) + j]? := fun j => by have := hl (j + 1); simpa [Nat.add_assoc, Nat.add_comm 1 j] using this
    simp only [List.length_cons, Region.lexC, Bool.and_eq_true] at hB
    obtain ⟨⟨⟨hr, hf⟩, hs⟩, hB'⟩ := hB
    have hr' : k ∈ Region.ready md ops listed := by simpa using hr
    unfold wpJ at h
    cases hfl : fl k with
    | true =>
      rw [hfl] at h
      obtain ⟨v, hy, hn⟩ := h
      exact float_firstJ h0 hfl (Region.noSelect_spec hsel) l.length listed a w hw hcl (Region.free_spec h0 hf) hr' hy (ih (k + 1) _ _ w (hw.set k) hl' (hcl.set hr') hB' hn)
    | false =>
      rw [hfl] at h
      refine seq_firstJ h0 hfl (Region.noSelect_spec hsel) l.length listed a w hw hcl (Region.free_spec h0 hf) (fun j oj hj hji hun => ?_) hr' (sRun_mono2 (fun a' w' hw' h' => ih (k + 1) _ a' w' (hw'.hold hcl hr') hl' (hcl.set hr') hB' h') (fun a' h' => ih (k + 1) _ a' w (hw.set k) hl' (hcl.set hr') hB' h') h)
      rw [hfl] at hs
      simp only [Bool.false_or] at hs
      have hjl : j < ops.size := (Array.getElem?_eq_some_iff.1 hj).1
      have := List.all_eq_true.1 hs j (List.mem_range.2 hjl)
      simp only [Bool.or_eq_true] at this
      rcases this with ((h1 | h1) | h1) | h1
      · exact absurd (Nat.eq_of_beq_eq_true h1) hji
      · rw [hun] at h1; cases h1
      · exact .inl h1
      · exact .inr h1
theorem wp_region_chainJ {id : Nat} {Q' : Post} {a : Act} {w : World} {l : List Oper} (fl : Nat → Bool) (D : Nat → World → Prop) (hm : P.follows .mixedOrders = true) (hB : Region.chainOk .any l.toArray fl = true) (hD : ∀ k, fl k = true → D k { w with drawn := w.drawn + 1 })
    (h : wpJ P .any l.toArray fl D (fun a' w' => Q' .normal a' w') l 0 a { w with drawn := w.drawn + 1 }) : (Code.region id l.toArray true).wp P Q' a w := by
  simp only [Region.chainOk, Bool.and_eq_true] at hB
  refine wp_region_any hm ?_
  have hcl : Closed .any l.toArray (Array.replicate l.toArray.size false) := fun j oj _ hl => (by rw [getD_replicate_false] at hl; cases hl)
  have hh : Hold fl D (Array.replicate l.toArray.size false) { w with drawn := w.drawn + 1 } := fun k hk _ => hD k hk
  have := anyJ_lex (md := .any) (D := D) hB.1 l 0 (Array.replicate l.toArray.size false) a _ hh (by simp) hcl (by simpa using hB.2) h
  have h2 := any_of_anyJ (Q' := Q') (fun _ _ hq => hq) _ _ _ _ hh hcl this
  simpa using h2
end
/-! ## the judgement -/
def WJ (P : Program) (N : Nat) (ops : Array Oper) (fl : Nat → Bool) (D : Nat → World → Prop) (Q : Post) (l : List Oper) (k : Nat) (L : Slots) (w : World) : Prop :=
  ∀ a w1, Eqv w w1 → Has N L a → wpJ P .any ops fl D (fun a' w' => Q .normal a' w') l k a w1
section
variable {P : Program} {N : Nat} {ops : Array Oper} {fl : Nat → Bool} {D : Nat → World → Prop} {Q : Post} {L : Slots} {w : World} {k d : Nat} {op : Op} {ty : TypeId} {pos : String} {af : Array Edge} {rest : List Oper} {gd : Option (Nat × Bool)}
theorem WC.chainJ {i : Nat} {l : List Oper} (fl : Nat → Bool) (D : Nat → World → Prop) (hm : P.follows .mixedOrders = true) (hB : Region.chainOk .any l.toArray fl = true) (hE : ∀ k w', Eqv w w' → D k w') (h : WJ P N l.toArray fl D Q l 0 L w) : WC P N Q (.region i l.toArray true) L w := fun a _ e ha =>
  wp_region_chainJ fl D hm hB (fun k _ => hE k _ (e.drawn _)) (h a _ (e.drawn _) ha)
theorem WJ.nil (h : WX N Q .normal L w) : WJ P N ops fl D Q [] k L w := fun a w1 e ha => h a w1 e ha
theorem WJ.yw {v : Value} (hf : fl k = true) (hg : Wants N ops L gd) (hd : Nat.blt d N = true) (hy : ∀ w', D k w' → Yld P N w' ⟨some d, op, ty, pos, af, none⟩ L v) (h : WJ P N ops fl D Q rest (k + 1) ((d, v) :: L) w) :
    WJ P N ops fl D Q (⟨some d, op, ty, pos, af, gd⟩ :: rest) k L w := fun a w1 e ha => by
  unfold wpJ
  rw [hf]
  exact ⟨v, .inl ⟨Wants.wanted (o := ⟨some d, op, ty, pos, af, gd⟩) hg ha, fun w' hw' => hy w' hw' a w' (Eqv.refl _) ha⟩, h _ _ e (ha.put hd v)⟩
theorem WJ.y {v : Value} (hf : fl k = true) (hd : Nat.blt d N = true) (hy : ∀ w', D k w' → Yld P N w' ⟨some d, op, ty, pos, af, none⟩ L v) (h : WJ P N ops fl D Q rest (k + 1) ((d, v) :: L) w) :
    WJ P N ops fl D Q (⟨some d, op, ty, pos, af, none⟩ :: rest) k L w := WJ.yw hf wants_none hd hy h
theorem WJ.putw {R : Value → World → Prop} (hf : fl k = false) (hg : Wants N ops L gd) (hd : Nat.blt d N = true) (hr : Eff P N w ⟨some d, op, ty, pos, af, none⟩ L R) (hD : ∀ v w', R v w' → DD .any ops fl D k w')
    (hk : ∀ v w', R v w' → WJ P N ops fl D Q rest (k + 1) ((d, v) :: L) w') : WJ P N ops fl D Q (⟨some d, op, ty, pos, af, gd⟩ :: rest) k L w := fun a w1 e ha => by
  unfold wpJ
  rw [hf]
  show sRun _ _ _ _ _ _ _
  unfold sRun
  rw [if_pos (Wants.wanted (o := ⟨some d, op, ty, pos, af, gd⟩) hg ha)]
  obtain ⟨v, w', h, hR⟩ := hr a w1 e ha
  have h' : (execOp a.eval ⟨some d, op, ty, pos, af, gd⟩).run P w1 = .ok (.value v) w' := h
  rw [h']
  exact ⟨hD v w' hR, hk v w' hR _ w' (Eqv.refl _) (ha.put hd v)⟩
theorem WJ.call {R : Value → World → Prop} {g : FuncId} {as : List Operand} {ts : Array TypeId} {vs : List Value} (hf : fl k = false) (hg : Wants N ops L gd) (hd : Nat.blt d N = true) (hv : opvs L as = some vs) (hc : Fn P g ⟨vs⟩ w R) (hD : ∀ v w', R v w' → ∀ w2, Eqv w' w2 → DD .any ops fl D k w2)
    (hk : ∀ v w', R v w' → WJ P N ops fl D Q rest (k + 1) ((d, v) :: L) w') : WJ P N ops fl D Q (⟨some d, .call ⟨.value (.func g), ⟨as⟩, ts⟩, ty, pos, af, gd⟩ :: rest) k L w := fun a w1 e ha => by
  unfold wpJ
  rw [hf]
  show sRun _ _ _ _ _ _ _
  unfold sRun
  rw [if_pos (Wants.wanted (o := ⟨some d, .call ⟨.value (.func g), ⟨as⟩, ts⟩, ty, pos, af, gd⟩) hg ha), run_enter ha hv hc.1]
  refine (hc.2 w1 e).mono ?_
  rintro en w' ⟨v, w0, rfl, h0, hR⟩
  exact ⟨v, rfl, hD v w0 hR w' h0, hk v w0 hR _ w' h0 (ha.put hd v)⟩
theorem WJ.no {j d' : Nat} {t : Bool} (hj : (ops[j]?).bind (·.dst) = some d') (hN : Nat.blt d' N = true) (hb : lk L d' = some (.bool (!t))) (hd : Nat.blt d N = true) (h : WJ P N ops fl D Q rest (k + 1) ((d, undef) :: L) w) :
    WJ P N ops fl D Q (⟨some d, op, ty, pos, af, some (j, t)⟩ :: rest) k L w := fun a w1 e ha => by
  have hno : Region.wanted ⟨some d, op, ty, pos, af, some (j, t)⟩ (yielded ops a.tmps) = false := by
    have := yielded_of ha hj hN hb
    simp [Region.wanted, this]
  unfold wpJ
  cases hf : fl k with
  | true => exact ⟨undef, .inr ⟨hno, rfl⟩, h _ _ e (ha.put hd undef)⟩
  | false =>
    show sRun _ _ _ _ _ _ _
    unfold sRun
    rw [if_neg (by rw [hno]; simp)]
    exact h _ _ e (ha.put hd undef)
theorem WJ.eff {R : World → Prop} (hf : fl k = false) (hr : Ef0 P N w ⟨none, op, ty, pos, af, none⟩ L R) (hD : ∀ w', R w' → DD .any ops fl D k w') (hk : ∀ w', R w' → WJ P N ops fl D Q rest (k + 1) L w') :
    WJ P N ops fl D Q (⟨none, op, ty, pos, af, none⟩ :: rest) k L w := fun a w1 e ha => by
  unfold wpJ
  rw [hf]
  show sRun _ _ _ _ _ _ _
  unfold sRun
  rw [if_pos (by simp [Region.wanted])]
  obtain ⟨w', h, hR⟩ := hr a w1 e ha
  rw [h]
  exact ⟨hD w' hR, hk w' hR _ w' (Eqv.refl _) ha⟩
/-- the floats of lo read what I tells of -/
def LD (lo : List Nat) (I : World → Prop) (k : Nat) (w : World) : Prop := lo.contains k = true → I w
theorem DD.past {lo : List Nat} {I : World → Prop} {w' : World} (h : lo.all (fun k => reach .any ops ops.size d k) = true) : DD .any ops fl (LD lo I) d w' := fun k _ hr hk => by
  have := List.all_eq_true.1 h k (by simpa using hk)
  rw [hr] at this
  cases this
theorem DD.keep {lo : List Nat} {I : World → Prop} {w' : World} (h : I w') : DD .any ops fl (LD lo I) d w' := fun _ _ _ _ => h
end
end Go.Proofs.YtfibkajdahaggaaDoor
