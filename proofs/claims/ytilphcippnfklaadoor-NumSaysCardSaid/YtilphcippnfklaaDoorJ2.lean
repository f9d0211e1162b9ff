/- Texts of this claim, joined by a program: Chain4, More6, Fast, Vg, Eq, Err, Laid, Row2, Num0, Dig, Strs, Dec, Txt, Lim, Lim2. -/
import Derived.Test.YtilphcippnfklaaDoorJ1
import Derived.LaidEql
import Derived.Lib.LaidTab
import Derived.Lib.ItoaNum
import Derived.Lib.SmallJoins
import Derived.ChangeMaps5
/- Chain regions where what a float reads need stay only as_ long as_ the float may still come. -/
namespace Go.Proofs.YtilphcippnfklaaDoor
open Go Go.RowKit
section
variable {P : Program} {ops : Array Oper} {md : Region.Mode} {fl : Nat → Bool} {D : Nat → World → Prop} {Q : Act → World → Prop}
def DD (md : Region.Mode) (ops : Array Oper) (fl : Nat → Bool) (D : Nat → World → Prop) (j : Nat) (w : World) : Prop := ∀ k, fl k = true → reach md ops ops.size j k = false → D k w
def Hold (fl : Nat → Bool) (D : Nat → World → Prop) (listed : Array Bool) (w : World) : Prop := ∀ k, fl k = true → listed.getD k true = false → D k w
theorem Hold.set {listed : Array Bool} {w : World} (h : Hold fl D listed w) (j : Nat) : Hold fl D (listed.setIfInBounds j true) w := fun k hk hl => h k hk (by
  by_cases hjk : j = k
  · subst hjk
    rcases Nat.lt_or_ge j listed.size with h' | h'
    · simp [h'] at hl
    · simp at hl
  · rw [getD_set_ne true hjk] at hl; exact hl)
theorem DD.hold {listed : Array Bool} {w : World} {j : Nat} (h : DD md ops fl D j w) (hcl : Closed md ops listed) (hj : j ∈ Region.ready md ops listed) : Hold fl D (listed.setIfInBounds j true) w := fun k hk hl => by
  obtain ⟨hjun, oj, hoj, hall⟩ := mem_ready.1 hj
  have hku : listed.getD k true = false := by
    by_cases hjk : j = k
    · subst hjk
      rcases Nat.lt_or_ge j listed.size with h' | h'
      · simp [h'] at hl
      · simp at hl
    · rw [getD_set_ne true hjk] at hl; exact hl
  refine h k hk ?_
  cases hq : reach md ops ops.size j k with
  | false => rfl
  | true => exact absurd hall (not_listed_of_reach hcl (getD_both hku) ops.size j hq oj hoj)
theorem sRun_some2 {E : World → Prop} {o : Oper} {a : Act} {w : World} {K : Act → World → Prop} (hh : sRun P ops E o a w K) : ∃ u w', (E w' ∨ w' = w) ∧ K (a.put o.dst u) w' := by
  unfold sRun at hh
  split at hh
  · generalize (execOp a.eval o).run P w = r at hh
    cases r with
    | halt => exact hh.elim
    | ok x w' => cases x with
      | value v => exact ⟨v, w', .inl hh.1, hh.2⟩
      | skip => exact ⟨undef, w', .inl hh.1, hh.2⟩
      | enter f args =>
        obtain ⟨e, w2, fr, ⟨v, _, d, k⟩, _⟩ := hh []
        exact ⟨v, w2, .inl d, k⟩
      | _ => exact hh.elim
  · exact ⟨undef, w, .inr rfl, hh⟩
theorem sRun_mono2 {E : World → Prop} {o : Oper} {a : Act} {w : World} {K K' : Act → World → Prop} (h : ∀ a w, E w → K a w → K' a w) (h2 : ∀ a, K a w → K' a w) (hh : sRun P ops E o a w K) : sRun P ops E o a w K' := by
  unfold sRun at hh ⊢
  split
  · rename_i hw'
    rw [if_pos hw'] at hh
    generalize (execOp a.eval o).run P w = r at hh ⊢
    cases r with
    | halt => exact hh.elim
    | ok x w' => cases x with
      | value v => exact ⟨hh.1, h _ _ hh.1 hh.2⟩
      | skip => exact ⟨hh.1, h _ _ hh.1 hh.2⟩
      | enter f args => exact Calls.mono hh fun e w'' ⟨v, e1, d, k⟩ => ⟨v, e1, d, h _ _ d k⟩
      | _ => exact hh.elim
  · rename_i hw'
    rw [if_neg hw'] at hh
    exact h2 _ hh
def anyJ (P : Program) (md : Region.Mode) (ops : Array Oper) (fl : Nat → Bool) (D : Nat → World → Prop) (Q : Act → World → Prop) : Nat → Array Bool → Act → World → Prop
  | 0, listed, a, w => Region.ready md ops listed = [] ∧ Q a w
  | f + 1, listed, a, w => (Region.ready md ops listed = [] → Q a w) ∧ ∀ i ∈ Region.ready md ops listed, ∃ o, ops[i]? = some o ∧
      ((fl i = true ∧ ∃ v, fYld P ops (D i) o a v ∧ anyJ P md ops fl D Q f (listed.setIfInBounds i true) (a.put o.dst v) w) ∨
       (fl i = false ∧ sRun P ops (DD md ops fl D i) o a w fun a' w' => anyJ P md ops fl D Q f (listed.setIfInBounds i true) a' w'))
theorem any_of_anyJ {Q' : Post} (hQ : ∀ a w, Q a w → Q' .normal a w) : ∀ (f : Nat) (listed : Array Bool) (a : Act) (w : World), Hold fl D listed w → Closed md ops listed → anyJ P md ops fl D Q f listed a w → wpAny P md ops Q' f listed a w := by
  intro f
  induction f with
  | zero => intro listed a w _ _ h; exact ⟨h.1, hQ _ _ h.2⟩
  | succ f ih =>
    intro listed a w hw hcl h
    refine ⟨fun h0 => hQ _ _ (h.1 h0), fun i hi => ?_⟩
    obtain ⟨o, ho, h1⟩ := h.2 i hi
    rcases h1 with ⟨hf, v, hy, hn⟩ | ⟨_, hs⟩
    · unfold wpOp
      simp only [ho]
      rcases hy with ⟨hwn, hv⟩ | ⟨hwn, hv⟩
      · rw [if_pos hwn]
        refine .inl ?_
        unfold Oper.wp
        rw [hv w (hw i hf (mem_ready.1 hi).1)]
        exact ih _ _ _ (hw.set i) (hcl.set hi) hn
      · rw [if_neg (by simp [hwn])]
        subst hv
        exact ih _ _ _ (hw.set i) (hcl.set hi) hn
    · exact wp_of_sRun (D := DD md ops fl D i) ho (sRun_mono2 (fun a' w' hw' h' => ih _ _ _ (hw'.hold hcl hi) (hcl.set hi) h') (fun a' h' => ih _ _ _ (hw.set i) (hcl.set hi) h') hs)
theorem float_firstJ {i : Nat} {oi : Oper} {v : Value} (hi : ops[i]? = some oi) (hf : fl i = true) (hsel : ∀ (j : Nat) (o : Oper) cs b, ops[j]? = some o → o.op ≠ .select cs b) :
    ∀ (f : Nat) (listed : Array Bool) (a : Act) (w : World), Hold fl D listed w → Closed md ops listed →
      (∀ j oj, ops[j]? = some oj → j ≠ i → listed.getD j true = false → (∀ e ∈ oj.after, Region.binds md e = true → e.on ≠ i) → oi.apart ops oj = true) →
      i ∈ Region.ready md ops listed → fYld P ops (D i) oi a v → anyJ P md ops fl D Q f (listed.setIfInBounds i true) (a.put oi.dst v) w → anyJ P md ops fl D Q (f + 1) listed a w := by
  intro f
  induction f with
  | zero =>
    intro listed a w _ _ _ hr hy H
    refine ⟨fun h => (by rw [h] at hr; cases hr), fun j hj => ?_⟩
    by_cases hji : j = i
    · subst hji; exact ⟨oi, hi, .inl ⟨hf, v, hy, H⟩⟩
    · have := ready_mono hj hji
      rw [H.1] at this
      cases this
  | succ f ih =>
    intro listed a w hw hcl hfree hr hy H
    refine ⟨fun h => (by rw [h] at hr; cases hr), fun j hj => ?_⟩
    by_cases hji : j = i
    · subst hji; exact ⟨oi, hi, .inl ⟨hf, v, hy, H⟩⟩
    · obtain ⟨oj, hoj, h1⟩ := H.2 j (ready_mono hj hji)
      obtain ⟨hjun, oj', hoj', hall⟩ := mem_ready.1 hj
      obtain rfl : oj' = oj := Option.some.inj (hoj'.symm.trans hoj)
      have hnot : ∀ e ∈ oj'.after, Region.binds md e = true → e.on ≠ i := fun e he hb heq => by
        have := hall e he hb
        rw [heq, getD_both (mem_ready.1 hr).1] at this
        cases this
      have hap := hfree j oj' hoj hji hjun hnot
      have hfree' : ∀ k ok, ops[k]? = some ok → k ≠ i → (listed.setIfInBounds j true).getD k true = false → (∀ e ∈ ok.after, Region.binds md e = true → e.on ≠ i) → oi.apart ops ok = true := fun k ok hk hki hun hno => by
        refine hfree k ok hk hki ?_ hno
        by_cases hjk : j = k
        · subst hjk; exact hjun
        · rw [getD_set_ne true hjk] at hun; exact hun
      have hr' := ready_mono hr (Ne.symm hji)
      refine ⟨oj', hoj, ?_⟩
      rcases h1 with ⟨hfj, u, hyj, hn⟩ | ⟨hfj, hs⟩
      · refine .inl ⟨hfj, u, (fYld_put hap (fun cs b => hsel j oj' cs b hoj)).1 hyj, ih _ _ w (hw.set j) (hcl.set hj) hfree' hr' ((fYld_put' hap (fun cs b => hsel i oi cs b hi)).2 hy) ?_⟩
        rw [Array.setIfInBounds_comm _ _ hji, ← apart_symm_dst hap]
        exact hn
      · refine .inr ⟨hfj, ?_⟩
        have hs' := (sRun_put hap (fun cs b => hsel j oj' cs b hoj)).1 hs
        have key : ∀ a' w', Hold fl D (listed.setIfInBounds j true) w' → fYld P ops (D i) oi a' v → anyJ P md ops fl D Q f ((listed.setIfInBounds i true).setIfInBounds j true) (a'.put oi.dst v) w' → anyJ P md ops fl D Q (f + 1) (listed.setIfInBounds j true) a' w' := fun a' w' hw' hy' h' =>
          ih _ _ w' hw' (hcl.set hj) hfree' hr' hy' (by rw [Array.setIfInBounds_comm _ _ hji]; exact h')
        -- every outcome's frame is a with j's slot written
        have hput : ∀ u, fYld P ops (D i) oi (a.put oj'.dst u) v := fun u => (fYld_put' hap (fun cs b => hsel i oi cs b hi)).2 hy
        unfold sRun at hs' ⊢
        split
        · rename_i hwn
          rw [if_pos hwn] at hs'
          generalize (execOp a.eval oj').run P w = r at hs' ⊢
          cases r with
          | halt => exact hs'.elim
          | ok x w' => cases x with
            | value u => exact ⟨hs'.1, key _ _ (hs'.1.hold hcl hj) (hput u) hs'.2⟩
            | skip => exact ⟨hs'.1, key _ _ (hs'.1.hold hcl hj) (hput _) hs'.2⟩
            | enter g args => exact Calls.mono hs' fun e w'' ⟨u, e1, d, k⟩ => ⟨u, e1, d, key _ _ (d.hold hcl hj) (hput u) k⟩
            | _ => exact hs'.elim
        · rename_i hwn
          rw [if_neg hwn] at hs'
          exact key _ _ (hw.set j) (hput _) hs'

theorem seq_firstJ {i : Nat} {oi : Oper} (hi : ops[i]? = some oi) (hf : fl i = false) (hsel : ∀ (j : Nat) (o : Oper) cs b, ops[j]? = some o → o.op ≠ .select cs b) :
    ∀ (f : Nat) (listed : Array Bool) (a : Act) (w : World), Hold fl D listed w → Closed md ops listed →
      (∀ j oj, ops[j]? = some oj → j ≠ i → listed.getD j true = false → (∀ e ∈ oj.after, Region.binds md e = true → e.on ≠ i) → oi.apart ops oj = true) →
      (∀ j oj, ops[j]? = some oj → j ≠ i → listed.getD j true = false → fl j = true ∨ reach md ops ops.size j i = true) →
      i ∈ Region.ready md ops listed → sRun P ops (DD md ops fl D i) oi a w (fun a' w' => anyJ P md ops fl D Q f (listed.setIfInBounds i true) a' w') → anyJ P md ops fl D Q (f + 1) listed a w := by
  intro f
  induction f with
  | zero =>
    intro listed a w hw _ _ _ hr H
    refine ⟨fun h => (by rw [h] at hr; cases hr), fun j hj => ?_⟩
    by_cases hji : j = i
    · subst hji; exact ⟨oi, hi, .inr ⟨hf, H⟩⟩
    · obtain ⟨u, w', _, h⟩ := sRun_some2 H
      have := ready_mono hj hji
      rw [h.1] at this
      cases this
  | succ f ih =>
    intro listed a w hw hcl hfree hseq hr H
    refine ⟨fun h => (by rw [h] at hr; cases hr), fun j hj => ?_⟩
    by_cases hji : j = i
    · subst hji; exact ⟨oi, hi, .inr ⟨hf, H⟩⟩
    · obtain ⟨hjun, oj, hoj, hall⟩ := mem_ready.1 hj
      have hiun := getD_both (mem_ready.1 hr).1
      have hfj : fl j = true := by
        rcases hseq j oj hoj hji hjun with h | h
        · exact h
        · exact absurd hall (not_listed_of_reach hcl hiun ops.size j h oj hoj)
      have hnot : ∀ e ∈ oj.after, Region.binds md e = true → e.on ≠ i := fun e he hb heq => by
        have := hall e he hb
        rw [heq, hiun] at this
        cases this
      have hap := hfree j oj hoj hji hjun hnot
      have hsi := fun cs b => hsel i oi cs b hi
      have hsj := fun cs b => hsel j oj cs b hoj
      obtain ⟨u, w', hw', h⟩ := sRun_some2 H
      obtain ⟨oj2, hoj2, h2⟩ := h.2 j (ready_mono hj hji)
      obtain rfl : oj2 = oj := Option.some.inj (hoj2.symm.trans hoj)
      rcases h2 with ⟨_, v, hy, _⟩ | ⟨hno, _⟩
      · have hya : fYld P ops (D j) oj2 a v := (fYld_put hap hsj).1 hy
        refine ⟨oj2, hoj, .inl ⟨hfj, v, hya, ih _ _ w (hw.set j) (hcl.set hj) (fun k ok hk hki hun hno => hfree k ok hk hki ?_ hno) (fun k ok hk hki hun => hseq k ok hk hki ?_) (ready_mono hr (Ne.symm hji)) ?_⟩⟩
        · by_cases hjk : j = k
          · subst hjk; exact hjun
          · rw [getD_set_ne true hjk] at hun; exact hun
        · by_cases hjk : j = k
          · subst hjk; exact hjun
          · rw [getD_set_ne true hjk] at hun; exact hun
        · -- the others' run, with j's value already laid
          obtain ⟨g1, g2, g3⟩ := Oper.apart_spec hap
          have hc : ∀ u, (a.put oi.dst u).put oj2.dst v = (a.put oj2.dst v).put oi.dst u := fun u => Act.put_comm a u v g2
          have huniq : ∀ u2, fYld P ops (D j) oj2 (a.put oi.dst u2) v := fun u2 => (fYld_put hap hsj).2 hya
          have hnr : reach md ops ops.size i j = false := by
            cases hq : reach md ops ops.size i j with
            | false => rfl
            | true => exact absurd (mem_ready.1 hr).2 (fun ⟨oi', hoi', hall'⟩ => not_listed_of_reach hcl (getD_both hjun) ops.size i hq oi' hoi' hall')
          have key : ∀ u2 w2, D j w2 → anyJ P md ops fl D Q (f + 1) (listed.setIfInBounds i true) (a.put oi.dst u2) w2 → anyJ P md ops fl D Q f ((listed.setIfInBounds j true).setIfInBounds i true) ((a.put oj2.dst v).put oi.dst u2) w2 := fun u2 w2 hw2 hh => by
            obtain ⟨oj3, hoj3, h3⟩ := hh.2 j (ready_mono hj hji)
            obtain rfl : oj3 = oj2 := Option.some.inj (hoj3.symm.trans hoj)
            rcases h3 with ⟨_, v2, hy2, hn2⟩ | ⟨hno, _⟩
            · have hv : v2 = v := by
                have hu := huniq u2
                rcases hy2 with ⟨p1, p2⟩ | ⟨p1, p2⟩ <;> rcases hu with ⟨q1, q2⟩ | ⟨q1, q2⟩
                · have := (p2 w2 hw2).symm.trans (q2 w2 hw2)
                  simpa using this
                · rw [p1] at q1; cases q1
                · rw [p1] at q1; cases q1
                · rw [p2, q2]
              subst hv
              rw [Array.setIfInBounds_comm _ _ hji, ← hc]
              exact hn2
            · rw [hfj] at hno; cases hno
          unfold sRun at H ⊢
          rw [execOp_put oi hsi a oj2.dst v g3, wanted_put oi a oj2.dst v g3]
          split
          · rename_i hwn
            rw [if_pos hwn] at H
            generalize (execOp a.eval oi).run P w = r at H ⊢
            cases r with
            | halt => exact H.elim
            | ok x w' => cases x with
              | value u => exact ⟨H.1, key _ _ (H.1 j hfj hnr) H.2⟩
              | skip => exact ⟨H.1, key _ _ (H.1 j hfj hnr) H.2⟩
              | enter g args => exact Calls.mono H fun e w'' ⟨u, e1, d, k⟩ => ⟨u, e1, d, key _ _ (d j hfj hnr) k⟩
              | _ => exact H.elim
          · rename_i hwn
            rw [if_neg hwn] at H
            exact key _ _ (hw j hfj hjun) H
      · rw [hfj] at hno; cases hno

def wpJ (P : Program) (md : Region.Mode) (ops : Array Oper) (fl : Nat → Bool) (D : Nat → World → Prop) (Q : Act → World → Prop) : List Oper → Nat → Act → World → Prop
  | [], _, a, w => Q a w
  | o :: rest, k, a, w => bif fl k then ∃ v, fYld P ops (D k) o a v ∧ wpJ P md ops fl D Q rest (k + 1) (a.put o.dst v) w else sRun P ops (DD md ops fl D k) o a w fun a' w' => wpJ P md ops fl D Q rest (k + 1) a' w'
theorem anyJ_lex (hsel : Region.noSelect ops = true) : ∀ (l : List Oper) (k : Nat) (listed : Array Bool) (a : Act) (w : World), Hold fl D listed w → (∀ j, l[j]? = ops[k + j]?) → Closed md ops listed →
    Region.lexC md ops fl l.length k listed = true → wpJ P md ops fl D Q l k a w → anyJ P md ops fl D Q l.length listed a w := by
  intro l
  induction l with
  | nil =>
    intro k listed a w _ _ _ hB h
    exact ⟨by simpa [Region.lexC] using hB, h⟩
  | cons o l ih =>
    intro k listed a w hw hl hcl hB h
    have h0 : ops[k]? = some o := by simpa using (hl 0).symm
    have hl' : ∀ j, l[j]? = ops[(k + 1) + j]? := fun j => by have := hl (j + 1); simpa [Nat.add_assoc, Nat.add_comm 1 j] using this
    simp only [List.length_cons, Region.lexC, Bool.and_eq_true] at hB
    obtain ⟨⟨⟨hr, hf⟩, hs⟩, hB'⟩ := hB
    have hr' : k ∈ Region.ready md ops listed := by simpa using hr
    unfold wpJ at h
    cases hfl : fl k with
    | true =>
      rw [hfl] at h
      obtain ⟨v, hy, hn⟩ := h
      exact float_firstJ h0 hfl (Region.noSelect_spec hsel) l.length listed a w hw hcl (Region.free_spec h0 hf) hr' hy (ih (k + 1) _ _ w (hw.set k) hl' (hcl.set hr') hB' hn)
    | false =>
      rw [hfl] at h
      refine seq_firstJ h0 hfl (Region.noSelect_spec hsel) l.length listed a w hw hcl (Region.free_spec h0 hf) (fun j oj hj hji hun => ?_) hr' (sRun_mono2 (fun a' w' hw' h' => ih (k + 1) _ a' w' (hw'.hold hcl hr') hl' (hcl.set hr') hB' h') (fun a' h' => ih (k + 1) _ a' w (hw.set k) hl' (hcl.set hr') hB' h') h)
      rw [hfl] at hs
      simp only [Bool.false_or] at hs
      have hjl : j < ops.size := (Array.getElem?_eq_some_iff.1 hj).1
      have := List.all_eq_true.1 hs j (List.mem_range.2 hjl)
      simp only [Bool.or_eq_true] at this
      rcases this with ((h1 | h1) | h1) | h1
      · exact absurd (Nat.eq_of_beq_eq_true h1) hji
      · rw [hun] at h1; cases h1
      · exact .inl h1
      · exact .inr h1
theorem wp_region_chainJ {id : Nat} {Q' : Post} {a : Act} {w : World} {l : List Oper} (fl : Nat → Bool) (D : Nat → World → Prop) (hm : P.follows .mixedOrders = true) (hB : Region.chainOk .any l.toArray fl = true) (hD : ∀ k, fl k = true → D k { w with drawn := w.drawn + 1 })
    (h : wpJ P .any l.toArray fl D (fun a' w' => Q' .normal a' w') l 0 a { w with drawn := w.drawn + 1 }) : (Code.region id l.toArray true).wp P Q' a w := by
  simp only [Region.chainOk, Bool.and_eq_true] at hB
  refine wp_region_any hm ?_
  have hcl : Closed .any l.toArray (Array.replicate l.toArray.size false) := fun j oj _ hl => (by rw [getD_replicate_false] at hl; cases hl)
  have hh : Hold fl D (Array.replicate l.toArray.size false) { w with drawn := w.drawn + 1 } := fun k hk _ => hD k hk
  have := anyJ_lex (md := .any) (D := D) hB.1 l 0 (Array.replicate l.toArray.size false) a _ hh (by simp) hcl (by simpa using hB.2) h
  have h2 := any_of_anyJ (Q' := Q') (fun _ _ hq => hq) _ _ _ _ hh hcl this
  simpa using h2
end
/-! ## the judgement -/
def WJ (P : Program) (N : Nat) (ops : Array Oper) (fl : Nat → Bool) (D : Nat → World → Prop) (Q : Post) (l : List Oper) (k : Nat) (L : Slots) (w : World) : Prop :=
  ∀ a w1, Eqv w w1 → Has N L a → wpJ P .any ops fl D (fun a' w' => Q .normal a' w') l k a w1
section
variable {P : Program} {N : Nat} {ops : Array Oper} {fl : Nat → Bool} {D : Nat → World → Prop} {Q : Post} {L : Slots} {w : World} {k d : Nat} {op : Op} {ty : TypeId} {pos : String} {af : Array Edge} {rest : List Oper} {gd : Option (Nat × Bool)}
theorem WC.chainJ {i : Nat} {l : List Oper} (fl : Nat → Bool) (D : Nat → World → Prop) (hm : P.follows .mixedOrders = true) (hB : Region.chainOk .any l.toArray fl = true) (hE : ∀ k w', Eqv w w' → D k w') (h : WJ P N l.toArray fl D Q l 0 L w) : WC P N Q (.region i l.toArray true) L w := fun a _ e ha =>
  wp_region_chainJ fl D hm hB (fun k _ => hE k _ (e.drawn _)) (h a _ (e.drawn _) ha)
theorem WJ.nil (h : WX N Q .normal L w) : WJ P N ops fl D Q [] k L w := fun a w1 e ha => h a w1 e ha
theorem WJ.yw {v : Value} (hf : fl k = true) (hg : Wants N ops L gd) (hd : Nat.blt d N = true) (hy : ∀ w', D k w' → Yld P N w' ⟨some d, op, ty, pos, af, none⟩ L v) (h : WJ P N ops fl D Q rest (k + 1) ((d, v) :: L) w) :
    WJ P N ops fl D Q (⟨some d, op, ty, pos, af, gd⟩ :: rest) k L w := fun a w1 e ha => by
  unfold wpJ
  rw [hf]
  exact ⟨v, .inl ⟨Wants.wanted (o := ⟨some d, op, ty, pos, af, gd⟩) hg ha, fun w' hw' => hy w' hw' a w' (Eqv.refl _) ha⟩, h _ _ e (ha.put hd v)⟩
theorem WJ.y {v : Value} (hf : fl k = true) (hd : Nat.blt d N = true) (hy : ∀ w', D k w' → Yld P N w' ⟨some d, op, ty, pos, af, none⟩ L v) (h : WJ P N ops fl D Q rest (k + 1) ((d, v) :: L) w) :
    WJ P N ops fl D Q (⟨some d, op, ty, pos, af, none⟩ :: rest) k L w := WJ.yw hf wants_none hd hy h
theorem WJ.putw {R : Value → World → Prop} (hf : fl k = false) (hg : Wants N ops L gd) (hd : Nat.blt d N = true) (hr : Eff P N w ⟨some d, op, ty, pos, af, none⟩ L R) (hD : ∀ v w', R v w' → DD .any ops fl D k w')
    (hk : ∀ v w', R v w' → WJ P N ops fl D Q rest (k + 1) ((d, v) :: L) w') : WJ P N ops fl D Q (⟨some d, op, ty, pos, af, gd⟩ :: rest) k L w := fun a w1 e ha => by
  unfold wpJ
  rw [hf]
  show sRun _ _ _ _ _ _ _
  unfold sRun
  rw [if_pos (Wants.wanted (o := ⟨some d, op, ty, pos, af, gd⟩) hg ha)]
  obtain ⟨v, w', h, hR⟩ := hr a w1 e ha
  have h' : (execOp a.eval ⟨some d, op, ty, pos, af, gd⟩).run P w1 = .ok (.value v) w' := h
  rw [h']
  exact ⟨hD v w' hR, hk v w' hR _ w' (Eqv.refl _) (ha.put hd v)⟩
theorem WJ.call {R : Value → World → Prop} {g : FuncId} {as_ : List Operand} {ts : Array TypeId} {vs : List Value} (hf : fl k = false) (hg : Wants N ops L gd) (hd : Nat.blt d N = true) (hv : opvs L as_ = some vs) (hc : Fn P g ⟨vs⟩ w R) (hD : ∀ v w', R v w' → ∀ w2, Eqv w' w2 → DD .any ops fl D k w2)
    (hk : ∀ v w', R v w' → WJ P N ops fl D Q rest (k + 1) ((d, v) :: L) w') : WJ P N ops fl D Q (⟨some d, .call ⟨.value (.func g), ⟨as_⟩, ts⟩, ty, pos, af, gd⟩ :: rest) k L w := fun a w1 e ha => by
  unfold wpJ
  rw [hf]
  show sRun _ _ _ _ _ _ _
  unfold sRun
  rw [if_pos (Wants.wanted (o := ⟨some d, .call ⟨.value (.func g), ⟨as_⟩, ts⟩, ty, pos, af, gd⟩) hg ha), run_enter ha hv hc.1]
  refine (hc.2 w1 e).mono ?_
  rintro en w' ⟨v, w0, rfl, h0, hR⟩
  exact ⟨v, rfl, hD v w0 hR w' h0, hk v w0 hR _ w' h0 (ha.put hd v)⟩
theorem WJ.no {j d' : Nat} {t : Bool} (hj : (ops[j]?).bind (·.dst) = some d') (hN : Nat.blt d' N = true) (hb : lk L d' = some (.bool (!t))) (hd : Nat.blt d N = true) (h : WJ P N ops fl D Q rest (k + 1) ((d, undef) :: L) w) :
    WJ P N ops fl D Q (⟨some d, op, ty, pos, af, some (j, t)⟩ :: rest) k L w := fun a w1 e ha => by
  have hno : Region.wanted ⟨some d, op, ty, pos, af, some (j, t)⟩ (yielded ops a.tmps) = false := by
    have := yielded_of ha hj hN hb
    simp [Region.wanted, this]
  unfold wpJ
  cases hf : fl k with
  | true => exact ⟨undef, .inr ⟨hno, rfl⟩, h _ _ e (ha.put hd undef)⟩
  | false =>
    show sRun _ _ _ _ _ _ _
    unfold sRun
    rw [if_neg (by rw [hno]; simp)]
    exact h _ _ e (ha.put hd undef)
theorem WJ.eff {R : World → Prop} (hf : fl k = false) (hr : Ef0 P N w ⟨none, op, ty, pos, af, none⟩ L R) (hD : ∀ w', R w' → DD .any ops fl D k w') (hk : ∀ w', R w' → WJ P N ops fl D Q rest (k + 1) L w') :
    WJ P N ops fl D Q (⟨none, op, ty, pos, af, none⟩ :: rest) k L w := fun a w1 e ha => by
  unfold wpJ
  rw [hf]
  show sRun _ _ _ _ _ _ _
  unfold sRun
  rw [if_pos (by simp [Region.wanted])]
  obtain ⟨w', h, hR⟩ := hr a w1 e ha
  rw [h]
  exact ⟨hD w' hR, hk w' hR _ w' (Eqv.refl _) ha⟩
/-- the floats of lo read what I tells of -/
def LD (lo : List Nat) (I : World → Prop) (k : Nat) (w : World) : Prop := lo.contains k = true → I w
theorem DD.past {lo : List Nat} {I : World → Prop} {w' : World} (h : lo.all (fun k => reach .any ops ops.size d k) = true) : DD .any ops fl (LD lo I) d w' := fun k _ hr hk => by
  have := List.all_eq_true.1 h k (by simpa using hk)
  rw [hr] at this
  cases this
theorem DD.keep {lo : List Nat} {I : World → Prop} {w' : World} (h : I w') : DD .any ops fl (LD lo I) d w' := fun _ _ _ _ => h
end
end Go.Proofs.YtilphcippnfklaaDoor
 /- An element's address: in whatever world. -/
namespace Go.Proofs.YtilphcippnfklaaDoor
open Go Go.RowKit
section
variable {P : Program} {T : Tab} {N : Nat} {L : Slots} {w w0 : World} {ty : TypeId} {pos : String} {af : Array Edge} {t : TypeId} {x i : Operand} {k : IntKind} {q : Int} {α : Type} {f : α → Value} {A : Option Addr} {c n : Nat} {xs : List α}
theorem Yld.iaddrW {dd : Option Tmp} {e : TypeId} (hT : T.Ok P) (hR : Rd f w0 A c xs) (hs : nk T.sl t = some (e, 1)) (hx : opv L x = some (.slice A n c)) (hn : n = xs.length) (hi : opv L i = some (.int k q)) (h0 : 0 ≤ q) (h1 : q < n) :
    Yld P N w ⟨dd, .indexAddr t x i, ty, pos, af, none⟩ L (.pointer (A.map (·.add q.toNat))) := fun a w1 _ ha => by
  obtain ⟨hu, j, hj, hj1⟩ := hT.sl hs
  obtain ⟨ad, rfl, _⟩ := hR.cells (fun e => by rw [e] at hn; simp at hn; omega)
  unfold execOp
  simp [ha.ev hx, ha.ev hi, Instr.indexAt, run_underlying hu, asIntOf, h0, h1, sizeOf, typeInfo, hj, hj1]
theorem Yld.iaddrNW {dd : Option Tmp} {e : TypeId} {j : Nat} (hT : T.Ok P) (hR : Rd f w0 A c xs) (hs : nk T.sl t = some (e, 1)) (hx : opv L x = some (.slice A n c)) (hn : n = xs.length) (hi : opv L i = some (.int k (j : Int))) (h1 : j < n) :
    Yld P N w ⟨dd, .indexAddr t x i, ty, pos, af, none⟩ L (.pointer (A.map (·.add j))) := by
  have := Yld.iaddrW (N := N) (w := w) (dd := dd) (ty := ty) (pos := pos) (af := af) hT hR hs hx hn hi (by omega) (by omega)
  rwa [Int.toNat_natCast] at this
variable {y : Operand} {us : List Value} {e : TypeId} {B : Nat}
theorem Ef0.store1 {g o : Nat} {u : Value} (h1 : sz1 P t = true) (hx : opv L x = some (.pointer (some ⟨g, o, none⟩))) (hy : opv L y = some u) (hu : u.oneCell' = true) (hB : Bl w g e us) (ho : o < us.length) :
    Ef0 P N w ⟨none, .store t x y, ty, pos, af, none⟩ L (fun w' => Bl w' g e (us.set o u) ∧ w.grownBy w' (some g)) := fun a w1 hw ha => by
  have hB1 := bl_eqv hw hB
  unfold sz1 at h1
  split at h1
  · rename_i j hj
    refine ⟨_, ?_, bl_set (o := o) (u := u) hB1, eqv_gr hw (gr_set w1 ⟨g, o, none⟩ u)⟩
    unfold execOp
    simp only [ha.ev hx, ha.ev hy, Sem.run_bind, run_store1 hB1 ho hu hj (Nat.eq_of_beq_eq_true h1), Result.andThen_ok, Sem.run_pure]
  · cases h1
theorem Ef0.ostore {j : Nat} {v : α} (h1 : sz1 P t = true) (hf : One f) (hO : Own f w B e A c xs) (hx : opv L x = some (.pointer (A.map (·.add j)))) (hy : opv L y = some (f v)) (hj : j < xs.length) :
    Ef0 P N w ⟨none, .store t x y, ty, pos, af, none⟩ L (fun w' => Own f w' B e A c (xs.set j v) ∧ w.grownBy w' (blk A)) := fun a w1 hw ha => by
  unfold Own at hO
  rcases hO.2 with ⟨hv, hn⟩ | ⟨g, cap, cur, hv, hb, hg, hnc, hcm, hcs, htake⟩
  · omega
  · simp only [Value.slice.injEq] at hv
    obtain ⟨rfl, _, rfl⟩ := hv
    obtain ⟨w', hr, hB', hgr⟩ := Ef0.store1 (P := P) (N := N) (ty := ty) (pos := pos) (af := af) (g := g) (o := j) (e := e) (us := cur.toList) (u := f v) h1 (by rw [hx]; simp [Addr.add_mid]) hy (hf v) (by unfold Bl; exact hg) (by have : cur.size = c * 1 := hcs; rw [Array.length_toList]; omega) a w1 hw ha
    refine ⟨w', hr, ?_, hgr⟩
    unfold Own
    refine ⟨by simp, .inr ⟨g, c, _, by simp, hb, hB', by simpa using hnc, hcm, by simpa using hcs, ?_⟩⟩
    simp only [List.length_set, List.map_set]
    rw [List.take_set, ← htake]
end
section
variable {P : Program} {N : Nat} {ops : Array Oper} {Q : Post} {L : Slots} {w : World} {ty : TypeId} {pos : String} {af : Array Edge} {rest : List Oper} {op : Op} {j d' d k : Nat} {t : Bool}
theorem not_wanted_undef {o : Oper} {a : Act} (hg : o.guard = some (j, t)) (hj : (ops[j]?).bind (·.dst) = some d') (hN : Nat.blt d' N = true) (hb : lk L d' = some undef) (ha : Has N L a) : Region.wanted o (yielded ops a.tmps) = false := by
  have h1 : d' < a.tmps.size := by rw [ha.size]; simpa [Nat.blt_eq] using hN
  have h2 := ha.get d' _ hb
  have h3 : a.tmps[d'] = undef := by rw [← h2]; simp [Array.getD, h1]
  have h4 : yielded ops a.tmps j = none := by
    unfold yielded
    rw [hj]
    simp only [Option.bind_some, Array.getElem?_eq_getElem h1, h3]
    rfl
  simp [Region.wanted, hg, h4]
/-- the guard itself was not reached -/
theorem WL.gun (hj : (ops[j]?).bind (·.dst) = some d') (hN : Nat.blt d' N = true) (hb : lk L d' = some undef) (hd : Nat.blt d N = true) (h : WL P N ops Q rest ((d, undef) :: L) w) :
    WL P N ops Q (⟨some d, op, ty, pos, af, some (j, t)⟩ :: rest) L w := fun a w1 e ha => by
  refine wpList_step fun K hK => ?_
  rw [if_neg (by rw [not_wanted_undef (o := ⟨some d, op, ty, pos, af, some (j, t)⟩) rfl hj hN hb ha]; simp)]
  exact hK _ _ (h _ _ e (ha.put hd undef))
theorem WQ.gun {K : Act → Prop} (hj : (ops[j]?).bind (·.dst) = some d') (hN : Nat.blt d' N = true) (hb : lk L d' = some undef) (hd : Nat.blt d N = true) (h : WQ P N ops K rest ((d, undef) :: L) w) :
    WQ P N ops K (⟨some d, op, ty, pos, af, some (j, t)⟩ :: rest) L w := fun a ha => by
  refine wpQuiet_step fun K' hK => ?_
  rw [if_neg (by rw [not_wanted_undef (o := ⟨some d, op, ty, pos, af, some (j, t)⟩) rfl hj hN hb ha]; simp)]
  exact hK _ (h _ (ha.put hd undef))
theorem WJ.gun {fl : Nat → Bool} {D : Nat → World → Prop} (hj : (ops[j]?).bind (·.dst) = some d') (hN : Nat.blt d' N = true) (hb : lk L d' = some undef) (hd : Nat.blt d N = true) (h : WJ P N ops fl D Q rest (k + 1) ((d, undef) :: L) w) :
    WJ P N ops fl D Q (⟨some d, op, ty, pos, af, some (j, t)⟩ :: rest) k L w := fun a w1 e ha => by
  have hno := not_wanted_undef (o := ⟨some d, op, ty, pos, af, some (j, t)⟩) rfl hj hN hb ha
  unfold wpJ
  cases hf : fl k with
  | true => exact ⟨undef, .inr ⟨hno, rfl⟩, h _ _ e (ha.put hd undef)⟩
  | false =>
    show sRun _ _ _ _ _ _ _
    unfold sRun
    rw [if_neg (by rw [hno]; simp)]
    exact h _ _ e (ha.put hd undef)
end
theorem WL.weaken {P : Program} {N : Nat} {ops : Array Oper} {Q : Post} {L L' : Slots} {w : World} {l : List Oper} (hs : Sub L L') (h : WL P N ops Q l L' w) : WL P N ops Q l L w := fun a w1 e ha => h a w1 e (ha.sub hs)
/-- a piece of code that comes to one frame in the same world: what stands behind is walked once -/
theorem WC.seqW {P : Program} {N : Nat} {Q : Post} {L : Slots} {w : World} {x y : Code} (L' : Slots) (h1 : ∀ Q' : Post, WX N Q' .normal L' w → WC P N Q' x L w) (h2 : WC P N Q y L' w) : WC P N Q (.seq x y) L w := WC.seq (h1 _ (WX.then_normal h2))
/-- .. or to one kind of frame and world -/
theorem WC.seqI {P : Program} {N : Nat} {Q : Post} {L : Slots} {w : World} {x y : Code} {S : Type} (Ls : S → Slots) (I : S → World → Prop) (h1 : ∀ Q' : Post, (∀ s w', I s w' → WX N Q' .normal (Ls s) w') → WC P N Q' x L w) (h2 : ∀ s w', I s w' → WC P N Q y (Ls s) w') : WC P N Q (.seq x y) L w := WC.seq (h1 _ fun s w' h => WX.then_normal (h2 s w' h))
end Go.Proofs.YtilphcippnfklaaDoor
 /- A quick check of a drawn region's chain: who waits for whom, as_ sets of bits. -/
namespace Go.Proofs.YtilphcippnfklaaDoor
open Go Go.RowKit
theorem reach_mono {md : Region.Mode} {ops : Array Oper} : ∀ (f g j k : Nat), f ≤ g → reach md ops f j k = true → reach md ops g j k = true
  | 0, _, _, _, _, h => by simp [reach] at h
  | f + 1, 0, _, _, hg, _ => by omega
  | f + 1, g + 1, j, k, hg, h => by
    unfold reach at h ⊢
    cases ho : ops[j]? with
    | none => rw [ho] at h; cases h
    | some oj =>
      rw [ho] at h
      simp only at h ⊢
      obtain ⟨e, he, h2⟩ := Array.any_eq_true'.1 h
      refine Array.any_eq_true'.2 ⟨e, he, ?_⟩
      simp only [Bool.and_eq_true, Bool.or_eq_true] at h2 ⊢
      exact ⟨h2.1, h2.2.imp id (fun h3 => reach_mono f g _ _ (by omega) h3)⟩
def emask (md : Region.Mode) (acc : List Nat) : List Edge → Nat
  | [] => 0
  | e :: es => bif Region.binds md e then Nat.lor (Nat.lor (Nat.shiftLeft 1 e.on) (acc.getD e.on 0)) (emask md acc es) else emask md acc es
def maskL (md : Region.Mode) : List Oper → List Nat → List Nat
  | [], acc => acc
  | o :: l, acc => maskL md l (acc ++ [emask md acc o.after.toList])
theorem emask_spec {md : Region.Mode} {acc : List Nat} : ∀ {es : List Edge} {k : Nat}, (emask md acc es).testBit k = true → ∃ e ∈ es, Region.binds md e = true ∧ (e.on = k ∨ (acc.getD e.on 0).testBit k = true)
  | [], k, h => by simp [emask] at h
  | e :: es, k, h => by
    unfold emask at h
    cases hb : Region.binds md e with
    | false =>
      rw [hb] at h
      obtain ⟨e', he', h'⟩ := emask_spec (by simpa using h)
      exact ⟨e', by simp [he'], h'⟩
    | true =>
      rw [hb] at h
      simp only [cond_true] at h
      have h : ((1 <<< e.on ||| acc.getD e.on 0) ||| emask md acc es).testBit k = true := h
      rw [Nat.testBit_or, Nat.testBit_or, Bool.or_eq_true, Bool.or_eq_true] at h
      rcases h with (h | h) | h
      · refine ⟨e, by simp, hb, .inl ?_⟩
        rw [Nat.testBit_shiftLeft] at h
        simp only [Bool.and_eq_true, decide_eq_true_eq, ge_iff_le] at h
        have h2 := h.2
        rw [Nat.testBit_one_eq_true_iff_self_eq_zero] at h2
        omega
      · exact ⟨e, by simp, hb, .inr h⟩
      · obtain ⟨e', he', h'⟩ := emask_spec h
        exact ⟨e', by simp [he'], h'⟩
def MaskOk (md : Region.Mode) (ops : Array Oper) (acc : List Nat) : Prop := ∀ j k, (acc.getD j 0).testBit k = true → reach md ops (j + 1) j k = true
def backL (md : Region.Mode) : Nat → List Oper → Bool
  | _, [] => true
  | k, o :: l => o.after.toList.all (fun e => !Region.binds md e || Nat.blt e.on k) && backL md (k + 1) l
theorem maskL_ok {md : Region.Mode} {ops : Array Oper} : ∀ (l : List Oper) (acc : List Nat), (∀ j, l[j]? = ops[acc.length + j]?) → backL md acc.length l = true → MaskOk md ops acc → MaskOk md ops (maskL md l acc) ∧ (maskL md l acc).length = acc.length + l.length
  | [], acc, _, _, h => ⟨h, by simp [maskL]⟩
  | o :: l, acc, hl, hb, h => by
    have h0 : ops[acc.length]? = some o := by simpa using (hl 0).symm
    simp only [backL, Bool.and_eq_true] at hb
    have ih := maskL_ok l (acc ++ [emask md acc o.after.toList]) (fun j => by
      have := hl (j + 1)
      simp only [List.getElem?_cons_succ, List.length_append, List.length_singleton] at this ⊢
      rw [this]; congr 1; omega) (by simpa using hb.2) (fun j k hj => by
      rcases Nat.lt_trichotomy j acc.length with hlt | heq | hgt
      · rw [List.getD_eq_getElem?_getD, List.getElem?_append_left hlt, ← List.getD_eq_getElem?_getD] at hj
        exact h j k hj
      · subst heq
        have : (acc ++ [emask md acc o.after.toList]).getD acc.length 0 = emask md acc o.after.toList := by simp [List.getD]
        rw [this] at hj
        obtain ⟨e, he, hbind, h3⟩ := emask_spec hj
        unfold reach
        rw [h0]
        refine Array.any_eq_true'.2 ⟨e, by simpa using he, ?_⟩
        simp only [Bool.and_eq_true, Bool.or_eq_true]
        refine ⟨hbind, h3.imp (fun h => by rw [h]; exact Nat.beq_refl _) (fun h3 => ?_)⟩
        have hlt : e.on < acc.length := by
          have := List.all_eq_true.1 hb.1 e he
          simpa [hbind, Nat.blt_eq] using this
        exact reach_mono _ _ _ _ (by omega) (h e.on k h3)
      · rw [List.getD_eq_getElem?_getD, List.getElem?_eq_none (by simp; omega)] at hj
        simp at hj)
    refine ⟨ih.1, ?_⟩
    have h5 := ih.2
    have e5 : maskL md (o :: l) acc = maskL md l (acc ++ [emask md acc o.after.toList]) := rfl
    rw [e5, h5]
    simp only [List.length_append, List.length_cons, List.length_nil]
    omega
def flAll (fl : Nat → Bool) (k : Nat) : Nat → List Nat → Bool
  | _, [] => true
  | j, m :: ms => (fl j || Nat.testBit m k) && flAll fl k (j + 1) ms
theorem flAll_spec {fl : Nat → Bool} {k : Nat} : ∀ {ms : List Nat} {j i : Nat}, flAll fl k j ms = true → i < ms.length → fl (j + i) = true ∨ (ms.getD i 0).testBit k = true
  | [], _, _, _, h => by simp at h
  | m :: ms, j, 0, h, _ => by simp only [flAll, Bool.and_eq_true, Bool.or_eq_true] at h; simpa using h.1
  | m :: ms, j, i + 1, h, hi => by
    simp only [flAll, Bool.and_eq_true, Bool.or_eq_true] at h
    have := flAll_spec h.2 (i := i) (by simpa using hi)
    rw [show j + (i + 1) = j + 1 + i by omega]
    simpa using this
def lex2 (md : Region.Mode) (ops : Array Oper) (fl : Nat → Bool) : Nat → List Oper → List Nat → Bool
  | _, [], [] => true
  | k, o :: rest, _ :: ms => rest.all (fun oj => oj.after.any (fun e => Region.binds md e && e.on == k) || o.apart ops oj) && ((fl k || flAll fl k (k + 1) ms) && lex2 md ops fl (k + 1) rest ms)
  | _, _, _ => false
theorem lexC_of {md : Region.Mode} {ops : Array Oper} {fl : Nat → Bool} {M : List Nat} (hM : MaskOk md ops M) (hlen : M.length = ops.size) : ∀ (l : List Oper) (k : Nat) (listed : Array Bool), listed.size = ops.size → (∀ j, j < ops.size → ∀ b, listed.getD j b = decide (j < k)) → (∀ j, l[j]? = ops[k + j]?) → k + l.length = ops.size →
    backL md k l = true → lex2 md ops fl k l (M.drop k) = true → Region.lexC md ops fl l.length k listed = true
  | [], k, listed, hs, hlis, hl, hk, hb, h => by
    simp only [List.length_nil, Region.lexC, Nat.add_zero] at *
    rw [List.isEmpty_iff, Region.ready, List.filter_eq_nil_iff]
    intro i hi
    rw [List.mem_range] at hi
    simp [hlis i hi true, hk, hi]
  | o :: rest, k, listed, hs, hlis, hl, hk, hb, h => by
    have h0 : ops[k]? = some o := by simpa using (hl 0).symm
    have hkn : k < ops.size := by simp at hk; omega
    have hdrop : M.drop k = M.getD k 0 :: M.drop (k + 1) := by
      rw [List.drop_eq_getElem_cons (by omega)]
      simp [List.getD, List.getElem?_eq_getElem (by omega : k < M.length)]
    rw [hdrop] at h
    simp only [lex2, Bool.and_eq_true] at h
    obtain ⟨hap, hfl, hrest⟩ := h
    simp only [backL, Bool.and_eq_true] at hb
    simp only [List.length_cons, Region.lexC, Bool.and_eq_true]
    have hrj : ∀ j, k < j → ∀ oj, ops[j]? = some oj → oj ∈ rest := fun j hj oj hoj => by
      have := hl (j - k)
      rw [show k + (j - k) = j by omega, hoj, show j - k = (j - k - 1) + 1 by omega, List.getElem?_cons_succ] at this
      exact List.mem_of_getElem? this
    refine ⟨⟨⟨?_, ?_⟩, ?_⟩, ?_⟩
    · rw [List.contains_iff_mem, mem_ready]
      refine ⟨by rw [hlis k hkn]; simp, o, h0, fun e he hbe => ?_⟩
      have := List.all_eq_true.1 hb.1 e (by simpa using he)
      simp only [hbe, Bool.not_true, Bool.false_or, Nat.blt_eq] at this
      rw [hlis e.on (by omega)]
      simpa using this
    · simp only [Region.free, h0, List.all_eq_true, List.mem_range]
      intro j hj
      rcases Nat.lt_trichotomy j k with hlt | heq | hgt
      · rw [hlis j hj]; simp [hlt]
      · simp [heq]
      · have hoj : ops[j]? = some ops[j] := Array.getElem?_eq_getElem hj
        rw [hoj]
        have := List.all_eq_true.1 hap _ (hrj j hgt _ hoj)
        show (j == k || listed.getD j true || ((ops[j].after.any fun e => Region.binds md e && e.on == k) || Oper.apart ops o ops[j])) = true
        rw [this]; simp
    · rcases Bool.or_eq_true _ _ ▸ hfl with h1 | h1
      · rw [h1]; rfl
      · rw [Bool.or_eq_true]; right
        rw [List.all_eq_true]
        intro j hj
        rw [List.mem_range] at hj
        rcases Nat.lt_trichotomy j k with hlt | heq | hgt
        · rw [hlis j hj]; simp [hlt]
        · simp [heq]
        · have h3 := flAll_spec h1 (i := j - (k + 1)) (by rw [List.length_drop]; omega)
          rw [show k + 1 + (j - (k + 1)) = j by omega] at h3
          rcases h3 with h3 | h3
          · rw [h3]; simp
          · have h4 : (M.getD j 0).testBit k = true := by
              rw [List.getD_eq_getElem?_getD, List.getElem?_drop, show k + 1 + (j - (k + 1)) = j by omega] at h3
              rwa [List.getD_eq_getElem?_getD]
            rw [reach_mono _ _ _ _ (by omega) (hM j k h4)]; simp
    · refine lexC_of hM hlen rest (k + 1) (listed.setIfInBounds k true) (by simp [hs]) (fun j hj b => ?_) (fun j => ?_) (by simp at hk; omega) hb.2 hrest
      · rcases Nat.lt_trichotomy j k with hlt | heq | hgt
        · rw [getD_set_ne b (by omega), hlis j hj]; simp [hlt]; omega
        · subst heq; simp [Array.getD, hs, hj]
        · rw [getD_set_ne b (by omega), hlis j hj]
          rw [decide_eq_decide]; omega
      · have := hl (j + 1)
        simp only [List.getElem?_cons_succ] at this
        rw [this]; congr 1; omega
def chain2 (md : Region.Mode) (l : List Oper) (fl : Nat → Bool) : Bool := Region.noSelect l.toArray && (backL md 0 l && lex2 md l.toArray fl 0 l (maskL md l []))
theorem chain2_ok {md : Region.Mode} {l : List Oper} {fl : Nat → Bool} (h : chain2 md l fl = true) : Region.chainOk md l.toArray fl = true := by
  simp only [chain2, Bool.and_eq_true] at h
  obtain ⟨h1, h2, h3⟩ := h
  obtain ⟨hM, hlen⟩ := maskL_ok (ops := l.toArray) l [] (fun j => by simp) h2 (fun j k hj => by simp at hj)
  unfold Region.chainOk
  rw [h1, Bool.true_and]
  exact lexC_of (l := l) hM (by simpa using hlen) 0 _ (by simp) (fun j hj b => by simp at hj; simp [Array.getD, hj]) (fun j => by simp) (by simp) h2 (by simpa using h3)
section
variable {P : Program} {N : Nat} {Q : Post} {L : Slots} {w : World}
theorem WC.chainF {i : Nat} {l : List Oper} (fl : Nat → Bool) (D : Nat → World → Prop) (hm : P.follows .mixedOrders = true) (hB : chain2 .any l fl = true) (hE : ∀ k w', Eqv w w' → D k w') (h : WJ P N l.toArray fl D Q l 0 L w) : WC P N Q (.region i l.toArray true) L w := WC.chainJ fl D hm (chain2_ok hB) hE h
end
end Go.Proofs.YtilphcippnfklaaDoor
 /- The generator's rules: joins and loops over any number of ghosts; objects that lie apart; guards by an equation; results in a row. -/
namespace Go.Proofs.YtilphcippnfklaaDoor
open Go Go.RowKit
/-! ## the plain side: loops as_ 'there is an invariant and a measure' -/
def Lp1 {A : Type} (b : A → (A → Prop) → Prop) (a : A) : Prop := ∃ (I : A → Prop) (mu : A → Nat), I a ∧ ∀ a, I a → b a fun a' => I a' ∧ mu a' < mu a
def Lp2 {A B : Type} (b : A → B → (A → B → Prop) → Prop) (x : A) (y : B) : Prop := ∃ (I : A → B → Prop) (mu : A → B → Nat), I x y ∧ ∀ x y, I x y → b x y fun x' y' => I x' y' ∧ mu x' y' < mu x y
def Lp3 {A B C : Type} (b : A → B → C → (A → B → C → Prop) → Prop) (x : A) (y : B) (z : C) : Prop := ∃ (I : A → B → C → Prop) (mu : A → B → C → Nat), I x y z ∧ ∀ x y z, I x y z → b x y z fun x' y' z' => I x' y' z' ∧ mu x' y' z' < mu x y z
def Lp4 {A B C D : Type} (b : A → B → C → D → (A → B → C → D → Prop) → Prop) (x : A) (y : B) (z : C) (u : D) : Prop := ∃ (I : A → B → C → D → Prop) (mu : A → B → C → D → Nat), I x y z u ∧ ∀ x y z u, I x y z u → b x y z u fun x' y' z' u' => I x' y' z' u' ∧ mu x' y' z' u' < mu x y z u
def Lp5 {A B C D E : Type} (b : A → B → C → D → E → (A → B → C → D → E → Prop) → Prop) (x : A) (y : B) (z : C) (u : D) (v : E) : Prop := ∃ (I : A → B → C → D → E → Prop) (mu : A → B → C → D → E → Nat), I x y z u v ∧ ∀ x y z u v, I x y z u v → b x y z u v fun x' y' z' u' v' => I x' y' z' u' v' ∧ mu x' y' z' u' v' < mu x y z u v
def Lp6 {A B C D E F : Type} (b : A → B → C → D → E → F → (A → B → C → D → E → F → Prop) → Prop) (x : A) (y : B) (z : C) (u : D) (v : E) (s : F) : Prop := ∃ (I : A → B → C → D → E → F → Prop) (mu : A → B → C → D → E → F → Nat), I x y z u v s ∧ ∀ x y z u v s, I x y z u v s → b x y z u v s fun x' y' z' u' v' s' => I x' y' z' u' v' s' ∧ mu x' y' z' u' v' s' < mu x y z u v s
def vB (b : Bool) : Value := .bool b
theorem One.B : One vB := fun _ => rfl
/-- what lies at p is not what lies at q -/
def Dj (p q : Option Nat) : Prop := ∀ g, p = some g → q ≠ some g
theorem Dj.symm {p q : Option Nat} (h : Dj p q) : Dj q p := fun g hq hp => h g hp hq
def Dn {α : Type} (xs : List α) (p q : Option Nat) : Prop := xs ≠ [] → Dj p q
theorem Dn.of {α : Type} {xs : List α} {p q : Option Nat} (h : Dj p q) : Dn xs p q := fun _ => h
theorem Dn.sub {α β : Type} {xs : List α} {ys : List β} {p p' q : Option Nat} (h : Dn xs p q) (hx : ys ≠ [] → xs ≠ []) (hb : ∀ g, p' = some g → p = some g) : Dn ys p' q := fun hy g hg => h (hx hy) g (hb g hg)
theorem Dj.nl {q : Option Nat} : Dj none q := fun _ h => by cases h
theorem Dj.nr {q : Option Nat} : Dj q none := fun _ _ h => by cases h
theorem Dn.nr {α : Type} {xs : List α} {q : Option Nat} : Dn xs q none := fun _ => Dj.nr
/-- old and new -/
def Lt (p : Option Nat) (n : Nat) : Prop := ∀ g, p = some g → g < n
def Ge (p : Option Nat) (n : Nat) : Prop := ∀ g, p = some g → n ≤ g
theorem Dj.new {p q : Option Nat} {n : Nat} (h : Lt p n) (k : Ge q n) : Dj p q := fun g hp hq => by have := h g hp; have := k g hq; omega
theorem Dn.new {α : Type} {xs : List α} {p q : Option Nat} {n : Nat} (h : xs ≠ [] → Lt p n) (k : Ge q n) : Dn xs p q := fun hx => Dj.new (h hx) k
/-- what grew of p stays apart from q -/
theorem Dj.app {p p' q : Option Nat} {n : Nat} (h : Dj p q) (hq : Lt q n) (k : ∀ g, p' = some g → p = some g ∨ n ≤ g) : Dj p' q := fun g hp hqg => by
  rcases k g hp with h1 | h1
  · exact h g h1 hqg
  · have := hq g hqg; omega
theorem Dn.app {α : Type} {xs : List α} {r p p' : Option Nat} {n : Nat} (h : Dn xs r p) (hq : xs ≠ [] → Lt r n) (k : ∀ g, p' = some g → p = some g ∨ n ≤ g) : Dn xs r p' := fun hx => ((h hx).symm.app (hq hx) k).symm
theorem Lt.box {g n : Nat} (h : g < n) : Lt (some g) n := fun _ e => by cases e; exact h
theorem Ge.box {g n : Nat} (h : n ≤ g) : Ge (some g) n := fun _ e => by cases e; exact h
section
variable {α : Type} {f : α → Value} {w w' w0 : World} {A : Option Addr} {c B g : Nat} {xs : List α} {e : TypeId} {us : List Value} {row : Option Nat}
theorem Bl.lt' (h : Bl w g e us) : Lt (some g) w.heap.size := Lt.box h.lt
theorem Own.lt' (h : Own f w B e A c xs) : Lt (blk A) w.heap.size := fun _ hg => (h.lt hg).2
theorem Own.ge' (h : Own f w B e A c xs) : Ge (blk A) B := fun _ hg => (h.lt hg).1
theorem Rd.lt' (h : Rd f w A c xs) (hx : xs ≠ []) : Lt (blk A) w.heap.size := fun _ hg => h.lt hx hg
theorem Bl.go (h : Bl w g e us) (hg : w.grownBy w' row) (hd : Dj (some g) row) : Bl w' g e us := h.keep hg fun e => hd g rfl e
theorem Own.go (h : Own f w B e A c xs) (hg : w.grownBy w' row) (hd : Dj (blk A) row) : Own f w' B e A c xs := h.keep hg fun g e k => hd g k e
theorem Rd.go (h : Rd f w A c xs) (hg : w.grownBy w' row) (hd : Dn xs (blk A) row) : Rd f w' A c xs := h.keep' hg fun hx g e k => hd hx g k e
theorem Bl.g0 (h : Bl w g e us) (hg : w.grownBy w' none) : Bl w' g e us := h.keep hg (by simp)
theorem cell_g0 {p : Addr} {v : Value} (h : w.cell? p = some v) (hg : w.grownBy w' none) : w'.cell? p = some v := by
  have hlt := World.block_lt_of_cell? w _ h
  have := hg.block p.block hlt (by simp)
  unfold World.cell? at h ⊢
  rw [this]; exact h
/-- a write to what the call made itself -/
theorem gr_mod (h : w0.grownBy w none) (k : w.grownBy w' row) (hn : Ge row w0.heap.size) : w0.grownBy w' none := by
  cases row with
  | none => exact gr_trans h k
  | some g => exact gr_new h k (hn g rfl)
theorem size_le (h : w.grownBy w' row) : w.heap.size ≤ w'.heap.size := h.size
theorem Ge.none {n : Nat} : Ge Option.none n := fun _ h => by cases h
theorem Ge.le {p : Option Nat} {m n : Nat} (h : Ge p n) (k : m ≤ n) : Ge p m := fun g hg => Nat.le_trans k (h g hg)
end
/-! ## joins and loops -/
section
variable {P : Program} {N : Nat} {Q : Post} {L : Slots} {w : World}
theorem WC.midF {x : Code} (F : Slots → World → Prop) (h2 : ∀ L' w', F L' w' → WX N Q .normal L' w') (h1 : (∀ L' w', F L' w' → WX N Q .normal L' w') → WC P N Q x L w) : WC P N Q x L w := h1 h2
theorem WC.loopF {k : Code} (F : Nat → Slots → World → Prop) (n0 : Nat) (L0 : Slots) (h0 : F n0 L0 w) (hL : Sub L L0)
    (round : ∀ n L w, F n L w → WC P N (Exit.then (fun a' w' => ∃ n' L' w0, F n' L' w0 ∧ Eqv w0 w' ∧ Has N L' a' ∧ n' < n) Q) k L w) : WC P N Q (.loop k) L w :=
  WC.loopG (S := Nat × Slots) (fun s a' w' => ∃ n' L' w0, F n' L' w0 ∧ Eqv w0 w' ∧ Has N L' a' ∧ n' < s.1) (fun s => s.1) (fun s => s.2) (fun s => F s.1 s.2)
    (fun _ _ _ ⟨n', L', w0, h⟩ => ⟨(n', L'), w0, h⟩) (n0, L0) h0 hL (fun s w h => round s.1 s.2 w h)
theorem WX.roundF {F : Nat → Slots → World → Prop} {n n' : Nat} (L' : Slots) (hI : F n' L' w) (hL : Sub L L') (hm : n' < n) :
    WX N (Exit.then (fun a' w' => ∃ n' L' w0, F n' L' w0 ∧ Eqv w0 w' ∧ Has N L' a' ∧ n' < n) Q) .normal L w := fun _ _ e ha => ⟨n', L', w, hI, e, ha.sub hL, hm⟩
theorem WC.cut {c : Code} {L' : Slots} (hs : Sub L L') (h : WC P N Q c L' w) : WC P N Q c L w := h.weaken hs
end
theorem all1n : ∀ u ∈ ([] : List Value), u.oneCell' = true := fun _ h => by cases h
theorem all1c {u : Value} {us : List Value} (h : u.oneCell' = true) (t : ∀ v ∈ us, v.oneCell' = true) : ∀ v ∈ u :: us, v.oneCell' = true := fun v hv => by
  rcases List.mem_cons.1 hv with rfl | hv
  · exact h
  · exact t v hv
/-! ## guards -/
theorem okb {e t : Bool} (h : e = t) : some (Value.bool e) = some (Value.bool t) := by rw [h]
section
variable {P : Program} {T : Tab} {N : Nat} {L : Slots} {w : World} {ty : TypeId} {pos : String} {af : Array Edge} {dd : Option Tmp} {t t' : TypeId} {x y c i : Operand} {k : IntKind} {q : Int}
theorem Yld.pickT {u : Value} (hc : opv L c = some (.bool true)) (hx : opv L x = some u) : Yld P N w ⟨dd, .pick c x y, ty, pos, af, none⟩ L u := fun a w1 _ ha => by
  unfold execOp
  simp only [ha.ev hc, ha.ev hx, Sem.run_bind, asBool, Sem.run_pure, Result.andThen_ok]
  rfl
theorem Yld.pickF {u : Value} (hc : opv L c = some (.bool false)) (hy : opv L y = some u) : Yld P N w ⟨dd, .pick c x y, ty, pos, af, none⟩ L u := fun a w1 _ ha => by
  unfold execOp
  simp only [ha.ev hc, ha.ev hy, Sem.run_bind, asBool, Sem.run_pure, Result.andThen_ok]
  rfl
theorem Yld.scutF (hT : T.Ok P) {lo : Operand} {p : List UInt8} {u : Unit} {l : Int} (ht : nk T.str t = some u) (hx : opv L x = some (.string ⟨⟨p⟩⟩)) (hl : optv L (some lo) 0 = some l) (h0 : 0 ≤ l) (h1 : l ≤ p.length) : Yld P N w ⟨dd, .slice t x (some lo) none none, ty, pos, af, none⟩ L (.string ⟨⟨p.drop l.toNat⟩⟩) := by
  have h := Yld.scut (P := P) (N := N) (w := w) (d := dd) (ty := ty) (pos := pos) (af := af) hT ht hx hl (hi := none) (h := (p.length : Int)) rfl h0 h1 (by omega)
  have e : (p.drop l.toNat).take ((p.length : Int).toNat - l.toNat) = p.drop l.toNat := List.take_of_length_le (by simp)
  rw [e] at h
  exact h
end
section
variable {P : Program} {T : Tab} {N : Nat} {L : Slots} {w : World} {ty : TypeId} {pos : String} {af : Array Edge} {dd : Option Tmp} {t : TypeId} {x : Operand} {k : IntKind} {q : Int}
theorem Yld.neg (hT : T.Ok P) (hx : opv L x = some (.int k q)) (hi : In k (0 - q)) : Yld P N w ⟨dd, .unOp .neg t x, ty, pos, af, none⟩ L (.int k (0 - q)) := by
  have h := Yld.pure (P := P) (T := T) (L := L) (N := N) (w := w) (d := dd) (ty := ty) (pos := pos) (af := af) hT (op := .unOp .neg t x) (v := .int k (k.wrap (0 - q))) (by simp only [pv, hx, o1, pvUn])
  rw [In.wrap hi] at h
  exact h
end
/-! ## small facts -/
theorem nd_true {p : Prop} [Decidable p] (h : (!decide p) = true) : ¬ p := by simpa using h
theorem nd_false {p : Prop} [Decidable p] (h : (!decide p) = false) : p := by simpa using h
theorem iltN {α : Type} {xs : List α} {i : Int} {n : Nat} (h : 0 ≤ i ∧ i < (n : Int)) (hn : n = xs.length) : i.toNat < xs.length := by omega
theorem applen {a b c : Nat} (h : (a + b) * (c + 1) ≤ 140737488355328) : a + b ≤ maxLen := by
  have : (a + b) * 1 ≤ (a + b) * (c + 1) := Nat.mul_le_mul_left _ (by omega)
  simp only [maxLen]; omega
theorem ne_take {α : Type} {xs : List α} {n : Nat} (h : xs.take n ≠ []) : xs ≠ [] := fun e => h (by rw [e]; simp)
theorem ne_drop {α : Type} {xs : List α} {n : Nat} (h : xs.drop n ≠ []) : xs ≠ [] := fun e => h (by rw [e]; simp)
theorem ne_cut {α : Type} {xs : List α} {n m : Nat} (h : (xs.drop n).take m ≠ []) : xs ≠ [] := fun e => h (by rw [e]; simp)
theorem byte_eq {k : IntKind} {e : Int} (h : 0 ≤ e ∧ e ≤ 255) : some (Value.int k e) = some (Value.int k ((UInt8.ofNat e.toNat).toNat : Int)) := by
  have : ((UInt8.ofNat e.toNat).toNat : Int) = e := by rw [UInt8.toNat_ofNat']; omega
  rw [this]
theorem byte_eq' {e : Int} (h : 0 ≤ e ∧ e ≤ 255) : Value.int .u8 e = vb (UInt8.ofNat e.toNat) := by
  have : ((UInt8.ofNat e.toNat).toNat : Int) = e := by rw [UInt8.toNat_ofNat']; omega
  unfold vb; rw [this]
/-! ## where a result lies: new, or where an argument lies -/
def Orig (ne : Prop) (p : Option Nat) (n : Nat) (ps : List (Prop × Option Nat)) : Prop := ne → ∀ g, p = some g → n ≤ g ∨ ∃ x, List.Mem x ps ∧ x.1 ∧ x.2 = some g
def OrAll (Q : Prop → Option Nat → Prop) (ps : List (Prop × Option Nat)) : Prop := ∀ x, List.Mem x ps → Q x.1 x.2
theorem orN {Q : Prop → Option Nat → Prop} : OrAll Q [] := fun _ h => by cases h
theorem orC {Q : Prop → Option Nat → Prop} {a : Prop} {b : Option Nat} {ps : List (Prop × Option Nat)} (h : Q a b) (t : OrAll Q ps) : OrAll Q ((a, b) :: ps) := fun x hx => by
  cases hx with
  | head => exact h
  | tail _ hx => exact t x hx
theorem Orig.apart {α : Type} {ys : List α} {p z : Option Nat} {n : Nat} {ps : List (Prop × Option Nat)} (h : Orig (ys ≠ []) p n ps) (hz : Lt z n) (hs : OrAll (fun ne q => ne → Dj q z) ps) : Dn ys p z := fun hy g hg hzg => by
  rcases h hy g hg with h1 | ⟨x, hx, hne, hxg⟩
  · have := hz g hzg; omega
  · exact hs x hx hne g hxg hzg
theorem Orig.par {ne : Prop} {p : Option Nat} {n : Nat} {ps : List (Prop × Option Nat)} (h : List.Mem (ne, p) ps) : Orig ne p n ps := fun hn _ hg => .inr ⟨_, h, hn, hg⟩
theorem Orig.new {ne : Prop} {p : Option Nat} {n : Nat} {ps : List (Prop × Option Nat)} (h : Ge p n) : Orig ne p n ps := fun _ g hg => .inl (h g hg)
theorem Orig.sub {ne ne' : Prop} {p p' : Option Nat} {n : Nat} {ps : List (Prop × Option Nat)} (h : Orig ne p n ps) (hx : ne' → ne) (hb : ∀ g, p' = some g → p = some g) : Orig ne' p' n ps := fun hn g hg => h (hx hn) g (hb g hg)
theorem Orig.trans {ne : Prop} {p : Option Nat} {n m : Nat} {ps qs : List (Prop × Option Nat)} (h : Orig ne p n qs) (hm : m ≤ n) (hs : OrAll (fun ne q => Orig ne q m ps) qs) : Orig ne p m ps := fun hn g hg => by
  rcases h hn g hg with h1 | ⟨x, hx, hne, hxg⟩
  · exact .inl (by omega)
  · exact hs x hx hne g hxg
section
variable {P : Program} {T : Tab} {N : Nat} {ops : Array Oper} {Q : Post} {L : Slots} {w : World} {rest : List Oper} {d : Nat} {ty : TypeId} {pos : String} {af : Array Edge} {t t' : TypeId} {x y i : Operand} {k k' : IntKind} {q : Int}
variable {α : Type} {f : α → Value} {A : Option Addr} {c n B : Nat} {xs ys : List α} {e : TypeId}
theorem WL.cutF {e : TypeId} {lo : Operand} {l : Int} (hT : T.Ok P) (hR : Rd f w A c xs) (hd : Nat.blt d N = true) (hs : nk T.sl t = some (e, 1)) (hx : opv L x = some (.slice A n c)) (hn : n = xs.length) (hl : optv L (some lo) 0 = some l) (h0 : 0 ≤ l) (h1 : l ≤ (n : Int))
    (hk : ∀ A' c', Rd f w A' c' (xs.drop l.toNat) → (∀ g, blk A' = some g → blk A = some g) → WL P N ops Q rest ((d, .slice A' (xs.drop l.toNat).length c') :: L) w) : WL P N ops Q (⟨some d, .slice t x (some lo) none none, ty, pos, af, none⟩ :: rest) L w := by
  refine WL.cut (h := (n : Int)) hT hR hd hs hx hn hl rfl h0 h1 (Int.le_refl _) (fun A' c' => ?_)
  have e : (xs.drop l.toNat).take ((n : Int).toNat - l.toNat) = xs.drop l.toNat := List.take_of_length_le (by simp; omega)
  rw [e]
  exact hk A' c'
theorem WL.makeZI {q : Int} {z : α} {b : Nat} (hT : T.Ok P) (hd : Nat.blt d N = true) (hs : nk T.ow t = some (e, b)) (hz : zeroOf P e = some [f z]) (hx : opv L x = some (.int k q)) (hy : opv L y = some (.int k' q)) (h0 : 0 ≤ q) (hm : q * (b : Int) ≤ 140737488355328) (h63 : q ≤ 140737488355328) (hB : B ≤ w.heap.size)
    (hk : ∀ g w', Own f w' B e (some ⟨g, 0, none⟩) q.toNat (List.replicate q.toNat z) → w.grownBy w' none → w.heap.size ≤ g → WL P N ops Q rest ((d, .slice (some ⟨g, 0, none⟩) q.toNat q.toNat) :: L) w') :
    WL P N ops Q (⟨some d, .makeSlice t x y, ty, pos, af, none⟩ :: rest) L w := by
  have e1 : ((q.toNat : Nat) : Int) = q := Int.toNat_of_nonneg h0
  have e2 : q.toNat * b ≤ 140737488355328 := by
    have : ((q.toNat * b : Nat) : Int) ≤ 140737488355328 := by rw [Int.natCast_mul, e1]; exact hm
    omega
  exact WL.makeZ hT hd hs hz (by rw [e1]; exact hx) (by rw [e1]; exact hy) e2 (by omega) hB hk
theorem WL.makeCI {q : Int} {b : Nat} (hT : T.Ok P) (hd : Nat.blt d N = true) (hs : nk T.ow t = some (e, b)) (hx : opv L x = some (.int k 0)) (hy : opv L y = some (.int k' q)) (h0 : 0 ≤ q) (hm : q * (b : Int) ≤ 140737488355328) (h63 : q ≤ 140737488355328) (hB : B ≤ w.heap.size)
    (hk : ∀ g w', Own f w' B e (some ⟨g, 0, none⟩) q.toNat [] → w.grownBy w' none → w.heap.size ≤ g → WL P N ops Q rest ((d, .slice (some ⟨g, 0, none⟩) 0 q.toNat) :: L) w') :
    WL P N ops Q (⟨some d, .makeSlice t x y, ty, pos, af, none⟩ :: rest) L w := by
  have e1 : ((q.toNat : Nat) : Int) = q := Int.toNat_of_nonneg h0
  have e2 : q.toNat * b ≤ 140737488355328 := by
    have : ((q.toNat * b : Nat) : Int) ≤ 140737488355328 := by rw [Int.natCast_mul, e1]; exact hm
    omega
  exact WL.makeC hT hd hs hx (by rw [e1]; exact hy) e2 (by omega) hB hk
/-! ## in the midst of a region -/
theorem WL.midF {l : List Oper} (m : Nat) (F : Slots → World → Prop) (h2 : ∀ L' w', F L' w' → WL P N ops Q (l.drop m) L' w') (h1 : (∀ L' w', F L' w' → WL P N ops Q (l.drop m) L' w') → WL P N ops Q l L w) : WL P N ops Q l L w := h1 h2
theorem WQ.midF {K : Act → Prop} {l : List Oper} (m : Nat) (F : Slots → World → Prop) (h2 : ∀ L' w', F L' w' → WQ P N ops K (l.drop m) L' w') (h1 : (∀ L' w', F L' w' → WQ P N ops K (l.drop m) L' w') → WQ P N ops K l L w) : WQ P N ops K l L w := h1 h2
theorem WJ.midF {fl : Nat → Bool} {D : Nat → World → Prop} {l : List Oper} {j : Nat} (m : Nat) (F : Slots → World → Prop) (h2 : ∀ L' w', F L' w' → WJ P N ops fl D Q (l.drop m) (j + m) L' w') (h1 : (∀ L' w', F L' w' → WJ P N ops fl D Q (l.drop m) (j + m) L' w') → WJ P N ops fl D Q l j L w) : WJ P N ops fl D Q l j L w := h1 h2
theorem WQ.weaken {K : Act → Prop} {l : List Oper} {L' : Slots} (hs : Sub L L') (h : WQ P N ops K l L' w) : WQ P N ops K l L w := fun a ha => h a (ha.sub hs)
theorem WJ.weaken {fl : Nat → Bool} {D : Nat → World → Prop} {l : List Oper} {j : Nat} {L' : Slots} (hs : Sub L L') (h : WJ P N ops fl D Q l j L' w) : WJ P N ops fl D Q l j L w := fun a w1 e ha => h a w1 e (ha.sub hs)
end
theorem Bl.cast {w : World} {g : Nat} {e : TypeId} {us vs : List Value} (h : us = vs) (hB : Bl w g e us) : Bl w g e vs := h ▸ hB
theorem lnil {α : Type} {f : α → Value} : ([] : List Value) = [].map f := rfl
theorem lcons {α : Type} {f : α → Value} {v : Value} {l : List Value} {x : α} {xs : List α} (h : v = f x) (t : l = xs.map f) : v :: l = (x :: xs).map f := by rw [h, t]; rfl
end Go.Proofs.YtilphcippnfklaaDoor
 /- A pointer or an interface's value held against nil. -/
namespace Go.Proofs.YtilphcippnfklaaDoor
open Go Go.RowKit
section
variable {P : Program} {N : Nat} {L : Slots} {w : World} {ty : TypeId} {pos : String} {af : Array Edge} {dd : Option Tmp} {t t' : TypeId} {x : Operand}
theorem Yld.peqnil {e : TypeId} {y : Operand} {p : Option Addr} (h : P.underlying t = some (.pointer e)) (hx : opv L x = some (.pointer p)) (hy : opv L y = some (.pointer none)) : Yld P N w ⟨dd, .binOp .eql t x y t', ty, pos, af, none⟩ L (.bool p.isNone) := fun a w1 _ ha => by
  refine exec_bin (ha.ev hx) (ha.ev hy) (by unfold eqGuard; rfl) ?_
  have h : (Op.equal t (.pointer p) (.pointer none)).run P w1 = .ok p.isNone w1 := run_equal_of fun d => by
    cases p <;> simp [Op.equalIn, run_underlying h]
  simp [binOp, h]
theorem Yld.ieqnil0 {ms : Array (String × TypeId)} {y : Value} (h : P.underlying t = some (.interface ms)) (hx : opv L x = some .nilIface) (hy : y = .nilIface) : Yld P N w ⟨dd, .binOp .eql t x (.const y) t', ty, pos, af, none⟩ L (.bool true) := fun a w1 _ ha => by
  subst hy
  refine exec_bin (ha.ev hx) rfl ?_ ?_
  · unfold eqGuard; cases x <;> rfl
  have h : (Op.equal t .nilIface .nilIface).run P w1 = .ok true w1 := run_equal_of fun d => by
    simp [Op.equalIn, run_underlying h]
  have ec : a.eval (.const .nilIface) = .nilIface := rfl
  simp [binOp, h, ec]
theorem Yld.ieqnil1 {ms : Array (String × TypeId)} {y u : Value} {tx : TypeId} (h : P.underlying t = some (.interface ms)) (hx : opv L x = some (.iface tx u)) (hy : y = .nilIface) : Yld P N w ⟨dd, .binOp .eql t x (.const y) t', ty, pos, af, none⟩ L (.bool false) := fun a w1 _ ha => by
  subst hy
  refine exec_bin (ha.ev hx) rfl ?_ ?_
  · unfold eqGuard; cases x <;> rfl
  have h : (Op.equal t (.iface tx u) .nilIface).run P w1 = .ok false w1 := run_equal_of fun d => by
    simp [Op.equalIn, run_underlying h]
  have ec : a.eval (.const .nilIface) = .nilIface := rfl
  simp [binOp, h, ec]
end
end Go.Proofs.YtilphcippnfklaaDoor
 /- Errors, as_ plain data: none, one of api's variables, or one of them with a place. -/
namespace Go.Proofs.YtilphcippnfklaaDoor
open Go Go.RowKit
inductive Er where
  | ok
  | e (n : Nat)
  | at_ (pos : Int) (n : Nat)
  deriving DecidableEq, Inhabited
/-- the variables of api, by their numbers -/
def eglob : List (Option Nat) := [some 6, some 7, some 8, some 9, some 10, some 4, some 11, some 1, some 12, some 13, some 3, some 14, some 0, some 15, some 16, some 17, some 2]
def etext : List (List UInt8) := [[108, 101, 120], [112, 97, 114, 115, 101], [114, 101, 115, 111, 108, 118, 101], [100, 121, 110, 97, 109, 105, 99], [99, 121, 99, 108, 101], [118, 105, 115, 105, 98, 105, 108, 105, 116, 121], [97, 110, 97, 108, 121, 115, 105, 115], [108, 105, 109, 105, 116], [109, 105, 115, 115, 105, 110, 103], [116, 111, 111, 32, 109, 97, 110, 121], [110, 111, 32, 115, 117, 99, 104, 32, 107, 105, 110, 100], [110, 111, 32, 112, 97, 116, 104], [110, 111, 116, 32, 116, 104, 101, 32, 115, 104, 97, 112, 101, 32, 116, 104, 97, 116, 32, 105, 116, 32, 104, 97, 115, 32, 116, 111, 32, 104, 97, 118, 101], [105, 116, 32, 101, 110, 100, 115, 32, 116, 111, 111, 32, 101, 97, 114, 108, 121], [97, 32, 110, 117, 109, 98, 101, 114, 32, 111, 117, 116, 32, 111, 102, 32, 105, 116, 115, 32, 114, 97, 110, 103, 101], [116, 104, 101, 32, 112, 111, 119, 101, 114, 32, 104, 97, 115, 32, 103, 111, 110, 101], [105, 116, 32, 104, 97, 115, 32, 102, 97, 105, 108, 101, 100]]
/-- v is the value of api's variable n -/
structure ErV (w : World) (v : Value) (n : Nat) : Prop where
  ex : ∃ g t a, eglob[n]? = some (some g) ∧ etext[n]? = some t ∧ w.cell? ⟨g, 0, none⟩ = some v ∧ v = .iface 217 (.pointer (some a)) ∧ w.cell? a = some (vs t) ∧ ∃ c e, w.heap[a.block]? = some (.cells c e (0, 0))
def ErrR (S : List Nat) (w : World) (v : Value) : Er → Prop
  | .ok => v = .nilIface
  | .e n => ErV w v n ∧ n ∈ S
  | .at_ pos n => ∃ b u, v = .iface 130 (.pointer (some ⟨b, 0, none⟩)) ∧ Bl w b 132 [.int .i64 pos, u] ∧ ErV w u n ∧ n ∈ S
/-- the variables hold what they were laid with -/
structure GOK (S : List Nat) (w : World) : Prop where
  er : ∀ n ∈ S, n < 17 → ∃ v, ErV w v n
  /-- 100: a variable of the library's own holds some number -/
  ml : 100 ∈ S → ∃ m, w.cell? ⟨5, 0, none⟩ = some (.int .i64 m)
  /-- 101: a table of the library's own is as_ it was laid -/
  p10 : 101 ∈ S → Lib.TabIs Tryd.prog w "internal/strconv.uint64pow10" .u64 Lib.pow10Tab
theorem tab_grown {P : Program} {nm : String} {k : IntKind} {w w' : World} {zs : List Int} (h : Lib.TabIs P w nm k zs) (hg : w.grownBy w' none) : Lib.TabIs P w' nm k zs := by
  unfold Lib.TabIs World.var? at h ⊢
  obtain ⟨o, ho⟩ : ∃ o, P.globalNamed nm = o := ⟨_, rfl⟩
  rw [ho] at h ⊢
  cases o with
  | none => cases h
  | some g =>
    simp only [Option.bind_some] at h ⊢
    have hlt : g < w.heap.size := by
      rcases Nat.lt_or_ge g w.heap.size with h' | h'
      · exact h'
      · rw [Array.getElem?_eq_none h'] at h; cases h
    rw [hg.block g hlt (by simp)]
    exact h
variable {S : List Nat}
theorem ErV.grown {w w' : World} {v : Value} {n : Nat} (h : ErV w v n) (hg : w.grownBy w' none) : ErV w' v n := by
  obtain ⟨g, t, a, h1, h2, h3, h4, h5⟩ := h
  obtain ⟨h5, c, e, h6⟩ := h5
  exact ⟨g, t, a, h1, h2, cell_g0 h3 hg, h4, cell_g0 h5 hg, c, e, (hg.block a.block (World.block_lt_of_cell? w _ h5) (by simp)).trans h6⟩
theorem ErV.uniq {w : World} {u v : Value} {n : Nat} (h : ErV w u n) (k : ErV w v n) : u = v := by
  obtain ⟨g, t, a, h1, h2, h3, h4, h5⟩ := h
  obtain ⟨g', t', a', k1, k2, k3, k4, k5⟩ := k
  have e1 := Option.some.inj (Option.some.inj (h1.symm.trans k1))
  subst e1
  exact Option.some.inj (h3.symm.trans k3)
theorem ErV.lt {w : World} {v : Value} {n : Nat} (h : ErV w v n) : n < 17 := by
  obtain ⟨g, t, a, h1, _⟩ := h
  have := (List.getElem?_eq_some_iff.1 h1).1
  simpa [eglob] using this
/-- two of the variables hold unlike values -/
theorem ErV.inj {w : World} {v : Value} {n m : Nat} (h : ErV w v n) (k : ErV w v m) : n = m := by
  have hn := h.lt
  have hm := k.lt
  obtain ⟨g, t, a, h1, h2, h3, h4, h5⟩ := h
  obtain ⟨g', t', a', k1, k2, k3, k4, k5⟩ := k
  have e := h4.symm.trans k4
  simp only [Value.iface.injEq, true_and, Value.pointer.injEq, Option.some.injEq] at e
  subst e
  have e2 := Option.some.inj (h5.1.symm.trans k5.1)
  simp only [vs, Value.string.injEq, ByteArray.mk.injEq, Array.mk.injEq] at e2
  subst e2
  have key : (List.range 17).all (fun i => (List.range 17).all fun j => !(decide (etext[i]? = etext[j]?)) || decide (i = j)) = true := by decide +kernel
  have k6 := List.all_eq_true.1 (List.all_eq_true.1 key n (by simpa using hn)) m (by simpa using hm)
  rw [h2, k2] at k6
  simpa using k6
theorem ErV.back {w w' : World} {v : Value} {n : Nat} (h : ErV w' v n) (hS : n ∈ S) (hG : GOK S w) (hg : w.grownBy w' none) : ErV w v n := by
  obtain ⟨u, hu⟩ := hG.er n hS h.lt
  rw [ErV.uniq h (hu.grown hg)]
  exact hu
theorem ErV.iface {w : World} {v : Value} {n : Nat} (h : ErV w v n) : ∃ a, v = .iface 217 (.pointer (some a)) := by
  obtain ⟨g, t, a, h1, h2, h3, h4, h5⟩ := h
  exact ⟨a, h4⟩
theorem ErrR.grown {w w' : World} {v : Value} {e : Er} (h : ErrR S w v e) (hg : w.grownBy w' none) : ErrR S w' v e := by
  cases e with
  | ok => exact h
  | e n => exact ⟨ErV.grown h.1 hg, h.2⟩
  | at_ pos n =>
    obtain ⟨b, u, h1, h2, h3, h4⟩ := h
    exact ⟨b, u, h1, h2.g0 hg, h3.grown hg, h4⟩
theorem ErrR.eqv {w w' : World} {v : Value} {e : Er} (h : ErrR S w v e) (hg : Eqv w w') : ErrR S w' v e := h.grown (gr_eqv (gr_refl w none) hg)
/-- behind a write to a block of another kind -/
theorem ErrR.go {w0 w w' : World} {v : Value} {e : Er} {g : Nat} {t : TypeId} {us : List Value} (h : ErrR S w v e) (hG : GOK S w0) (h0 : w0.grownBy w none) (hg : w.grownBy w' (some g)) (h1 : w0.grownBy w' none) (hB : Bl w g t us) (ht : Nat.beq t 132 = false) : ErrR S w' v e := by
  cases e with
  | ok => exact h
  | e n => exact ⟨(ErV.back h.1 h.2 hG h0).grown h1, h.2⟩
  | at_ pos n =>
    obtain ⟨b, u, k1, k2, k3, k4⟩ := h
    refine ⟨b, u, k1, k2.keep hg (fun e => ?_), (ErV.back k3 k4 hG h0).grown h1, k4⟩
    injection e with e
    subst e
    exact Bl.ne k2 hB (fun e => Nat.ne_of_beq_eq_false ht e.symm) rfl
/-- behind a write to a slice of one's own -/
theorem ErrR.goO {α : Type} {f : α → Value} {w0 w w' : World} {v : Value} {e : Er} {t B c : Nat} {A : Option Addr} {xs : List α} (h : ErrR S w v e) (hG : GOK S w0) (h0 : w0.grownBy w none) (hg : w.grownBy w' (blk A)) (h1 : w0.grownBy w' none) (hO : Own f w B t A c xs) (ht : Nat.beq t 132 = false) : ErrR S w' v e := by
  rcases hO.2 with ⟨hv, _⟩ | ⟨g, cap, cur, hv, _, hb, _⟩
  · simp only [Value.slice.injEq] at hv
    obtain ⟨rfl, _⟩ := hv
    exact h.grown hg
  · simp only [Value.slice.injEq] at hv
    obtain ⟨rfl, _⟩ := hv
    exact ErrR.go (g := g) (us := cur.toList) h hG h0 hg h1 hb ht
theorem ErrR.one {w : World} {v : Value} {e : Er} (h : ErrR S w v e) : v.oneCell' = true := by
  cases e with
  | ok => rw [show v = .nilIface from h]; rfl
  | e n => obtain ⟨a, rfl⟩ := ErV.iface h.1; rfl
  | at_ pos n => obtain ⟨b, u, rfl, _⟩ := h; rfl
theorem ErrR.okR {w : World} : ErrR S w .nilIface .ok := rfl
theorem GOK.grown {w w' : World} (h : GOK S w) (hg : w.grownBy w' none) : GOK S w' := ⟨fun n hn hl => by
  obtain ⟨v, hv⟩ := h.er n hn hl
  exact ⟨v, hv.grown hg⟩, fun hn => by
  obtain ⟨m, hm⟩ := h.ml hn
  exact ⟨m, cell_g0 hm hg⟩, fun hn => tab_grown (h.p10 hn) hg⟩
section
variable {P : Program} {N : Nat} {L : Slots} {w w0 : World} {ty : TypeId} {pos : String} {af : Array Edge} {dd : Option Tmp} {t t' : TypeId} {x : Operand}
theorem Yld.inenil0 {ms : Array (String × TypeId)} {y : Value} (h : P.underlying t = some (.interface ms)) (hx : opv L x = some .nilIface) (hy : y = .nilIface) : Yld P N w ⟨dd, .binOp .neq t x (.const y) t', ty, pos, af, none⟩ L (.bool false) := fun a w1 _ ha => by
  subst hy
  refine exec_bin (ha.ev hx) rfl ?_ ?_
  · unfold eqGuard; cases x <;> rfl
  have h : (Op.equal t .nilIface .nilIface).run P w1 = .ok true w1 := run_equal_of fun d => by
    simp [Op.equalIn, run_underlying h]
  have ec : a.eval (.const .nilIface) = .nilIface := rfl
  simp [binOp, h, ec]
theorem Yld.inenil1 {ms : Array (String × TypeId)} {y u : Value} {tx : TypeId} (h : P.underlying t = some (.interface ms)) (hx : opv L x = some (.iface tx u)) (hy : y = .nilIface) : Yld P N w ⟨dd, .binOp .neq t x (.const y) t', ty, pos, af, none⟩ L (.bool true) := fun a w1 _ ha => by
  subst hy
  refine exec_bin (ha.ev hx) rfl ?_ ?_
  · unfold eqGuard; cases x <;> rfl
  have h : (Op.equal t (.iface tx u) .nilIface).run P w1 = .ok false w1 := run_equal_of fun d => by
    simp [Op.equalIn, run_underlying h]
  have ec : a.eval (.const .nilIface) = .nilIface := rfl
  simp [binOp, h, ec]
theorem Yld.erreql {ms : Array (String × TypeId)} {v : Value} {e : Er} (h : P.underlying t = some (.interface ms)) (hE : ErrR S w0 v e) (hx : opv L x = some v) : Yld P N w ⟨dd, .binOp .eql t x (.const .nilIface) t', ty, pos, af, none⟩ L (.bool (decide (e = .ok))) := by
  cases e with
  | ok => rw [show v = .nilIface from hE] at hx; exact Yld.ieqnil0 h hx rfl
  | e n => obtain ⟨a, rfl⟩ := ErV.iface hE.1; exact Yld.ieqnil1 h hx rfl
  | at_ p n => obtain ⟨b, u, rfl, _⟩ := hE; exact Yld.ieqnil1 h hx rfl
theorem Yld.errneq {ms : Array (String × TypeId)} {v : Value} {e : Er} (h : P.underlying t = some (.interface ms)) (hE : ErrR S w0 v e) (hx : opv L x = some v) : Yld P N w ⟨dd, .binOp .neq t x (.const .nilIface) t', ty, pos, af, none⟩ L (.bool (!decide (e = .ok))) := by
  cases e with
  | ok => rw [show v = .nilIface from hE] at hx; exact Yld.inenil0 h hx rfl
  | e n => obtain ⟨a, rfl⟩ := ErV.iface hE.1; exact Yld.inenil1 h hx rfl
  | at_ p n => obtain ⟨b, u, rfl, _⟩ := hE; exact Yld.inenil1 h hx rfl
end
section
variable {P : Program} {N : Nat} {L : Slots} {w w0 : World} {ty : TypeId} {pos : String} {af : Array Edge} {dd : Option Tmp} {t t' ta e0 : TypeId} {x y : Operand}
theorem Yld.assertNo {v : Value} {er : Er} (hu : P.underlying ta = some (.pointer e0)) (hz : ∀ w, (zeroValue ta).run P w = .ok (.pointer none) w) (hE : ErrR S w0 v er) (hx : opv L x = some v) (h1 : Nat.beq 217 ta = false) (h2 : Nat.beq 130 ta = false ∨ ∀ p n, er ≠ .at_ p n) :
    Yld P N w ⟨dd, .typeAssert x t ta true, ty, pos, af, none⟩ L (.tuple #[.pointer none, .bool false]) := fun a w1 _ ha => by
  have hx' := ha.ev hx
  have n1 : ¬ (217 : Nat) = ta := Nat.ne_of_beq_eq_false h1
  cases er with
  | ok =>
    obtain rfl : v = .nilIface := hE
    simp [execOp, Instr.typeAssert, run_underlying hu, hx', hz]
  | e n =>
    obtain ⟨a', rfl⟩ := ErV.iface hE.1
    simp [execOp, Instr.typeAssert, run_underlying hu, hx', hz, n1]
  | at_ p n =>
    obtain ⟨b, u, rfl, _⟩ := hE
    rcases h2 with h2 | h2
    · have n2 : ¬ (130 : Nat) = ta := Nat.ne_of_beq_eq_false h2
      simp [execOp, Instr.typeAssert, run_underlying hu, hx', hz, n2]
    · exact absurd rfl (h2 p n)
theorem Yld.assertYes {v u : Value} (hu : P.underlying ta = some (.pointer e0)) (hx : opv L x = some v) (hv : v = .iface ta u) :
    Yld P N w ⟨dd, .typeAssert x t ta true, ty, pos, af, none⟩ L (.tuple #[u, .bool true]) := fun a w1 _ ha => by
  have hx' := ha.ev hx
  subst hv
  simp [execOp, Instr.typeAssert, run_underlying hu, hx']
theorem Er.atCases (e : Er) : (∃ p n, e = .at_ p n) ∨ ∀ p n, e ≠ .at_ p n := by
  cases e with
  | at_ p n => exact .inl ⟨p, n, rfl⟩
  | ok => right; intro p n h; cases h
  | e k => right; intro p n h; cases h
theorem ErrR.atOut {v : Value} {p : Int} {n : Nat} (h : ErrR S w v (.at_ p n)) : ∃ b u, v = .iface 130 (.pointer (some ⟨b, 0, none⟩)) ∧ Bl w b 132 [.int .i64 p, u] ∧ ErrR S w u (.e n) := by
  obtain ⟨b, u, h1, h2, h3, h4⟩ := h
  exact ⟨b, u, h1, h2, h3, h4⟩
theorem ErrR.mkAt {u : Value} {b : Nat} {p : Int} {n : Nat} (hB : Bl w b 132 [.int .i64 p, u]) (hE : ErrR S w u (.e n)) : ErrR S w (.iface 130 (.pointer (some ⟨b, 0, none⟩))) (.at_ p n) := ⟨b, u, rfl, hB, hE.1, hE.2⟩
/-- two errors held against each other, not both nil, not both with a place -/
theorem Yld.erreq2 {ms : Array (String × TypeId)} {ii ij : TypeInfo} {u v : Value} {d e : Er} (h : P.underlying t = some (.interface ms)) (hp : P.underlying 217 = some (.pointer e0)) (hinfo : P.info? 217 = some ii) (hcomp : ii.comparable = true) (hte : P.info? e0 = some ij) (hsz : ij.size ≠ 0)
    (hD : ErrR S w u d) (hE : ErrR S w v e) (hx : opv L x = some u) (hy : opv L y = some v)
    (h0 : ¬ (d = .ok ∧ e = .ok)) (h1 : (∀ p n, d ≠ .at_ p n) ∨ ∀ p n, e ≠ .at_ p n) : Yld P N w ⟨dd, .binOp .eql t x y t', ty, pos, af, none⟩ L (.bool (decide (d = e))) := by
  have key : ∀ b, (u ≠ .nilIface ∨ v ≠ .nilIface) → ((∃ t1 u1, u = .iface t1 u1) ∨ u = .nilIface) → ((∃ t1 u1, v = .iface t1 u1) ∨ v = .nilIface) → (∀ w1, Eqv w w1 → (binOp .eql t u v).run P w1 = .ok (.bool b) w1) → Yld P N w ⟨dd, .binOp .eql t x y t', ty, pos, af, none⟩ L (.bool b) := fun b hn hu hv hb => fun a w1 hw ha => by
    refine exec_bin (ha.ev hx) (ha.ev hy) ?_ (hb w1 hw)
    unfold eqGuard
    rcases hu with ⟨t1, u1, rfl⟩ | rfl <;> rcases hv with ⟨t2, u2, rfl⟩ | rfl <;> first | rfl | simp at hn
  have nl : ∀ tp q w1, (binOp .eql t .nilIface (.iface tp q)).run P w1 = .ok (.bool false) w1 := fun tp q w1 => run_eql_iface_nil_left w1 tp q h
  have nr : ∀ tp q w1, (binOp .eql t (.iface tp q) .nilIface).run P w1 = .ok (.bool false) w1 := fun tp q w1 => by
    have h2 : (Op.equal t (.iface tp q) .nilIface).run P w1 = .ok false w1 := run_equal_of fun d => by simp [Op.equalIn, run_underlying h]
    simp [binOp, h2]
  have ne : ∀ tp q tp' q' w1, tp ≠ tp' → (binOp .eql t (.iface tp q) (.iface tp' q')).run P w1 = .ok (.bool false) w1 := fun tp q tp' q' w1 hne => by
    have h2 : (Op.equal t (.iface tp q) (.iface tp' q')).run P w1 = .ok false w1 := run_equal_of fun d => by simp [Op.equalIn, run_underlying h, hne]
    simp [binOp, h2]
  have tne : (217 : Nat) ≠ 130 := by decide
  cases d with
  | ok =>
    obtain rfl : u = .nilIface := hD
    cases e with
    | ok => exact absurd ⟨rfl, rfl⟩ h0
    | e n => obtain ⟨a, rfl⟩ := ErV.iface hE.1; exact key false (by simp) (by simp) (by simp) fun w1 _ => nl _ _ w1
    | at_ p n => obtain ⟨b, u, rfl, _⟩ := hE; exact key false (by simp) (by simp) (by simp) fun w1 _ => nl _ _ w1
  | e m =>
    cases e with
    | ok => obtain ⟨a, rfl⟩ := ErV.iface hD.1; obtain rfl : v = .nilIface := hE; exact key false (by simp) (by simp) (by simp) fun w1 _ => nr _ _ w1
    | e n =>
      have hD' := hD.1
      have hE' := hE.1
      obtain ⟨g, tx, a, k1, k2, k3, rfl, k5, c, e', k6⟩ := hD.1
      obtain ⟨g', tx', a', l1, l2, l3, rfl, l5, c', e'', l6⟩ := hE.1
      by_cases haa : a = a'
      · subst haa
        have hmn : m = n := ErV.inj hD' hE'
        subst hmn
        rw [decide_eq_true rfl]
        exact key true (by simp) (by simp) (by simp) fun w1 hw => run_eql_iface_ptr_same w1 a h hp hinfo hcomp hte
      · have hmn : ¬ (Er.e m = Er.e n) := fun hh => by
          cases hh
          have := ErV.uniq hD' hE'
          simp only [Value.iface.injEq, true_and, Value.pointer.injEq, Option.some.injEq] at this
          exact haa this
        rw [decide_eq_false hmn]
        exact key false (by simp) (by simp) (by simp) fun w1 hw => run_eql_iface_ptr_other w1 h hp hinfo hcomp hte hsz haa (by rw [hw.heap]; exact k6) (by rw [hw.heap]; exact l6)
    | at_ p n => obtain ⟨a, rfl⟩ := ErV.iface hD.1; obtain ⟨b, u, rfl, _⟩ := hE; exact key false (by simp) (by simp) (by simp) fun w1 _ => ne _ _ _ _ w1 tne
  | at_ p m =>
    obtain ⟨b, u', rfl, _⟩ := hD
    cases e with
    | ok => obtain rfl : v = .nilIface := hE; exact key false (by simp) (by simp) (by simp) fun w1 _ => nr _ _ w1
    | e n => obtain ⟨a, rfl⟩ := ErV.iface hE.1; exact key false (by simp) (by simp) (by simp) fun w1 _ => ne _ _ _ _ w1 tne.symm
    | at_ p' n => rcases h1 with h1 | h1 <;> exact absurd rfl (h1 _ _)
end
/-- the variable n, read -/
theorem ErV.read {w : World} {v u : Value} {n g : Nat} (h : ErV w v n) (hg : eglob[n]? = some (some g)) (hu : w.cell? ⟨g, 0, none⟩ = some u) : u = v := by
  obtain ⟨g', t, a, h1, h2, h3, h4, h5⟩ := h
  have e1 := Option.some.inj (Option.some.inj (h1.symm.trans hg))
  subst e1
  exact Option.some.inj (hu.symm.trans h3)
theorem GOK.get {w : World} (h : GOK S w) (n g : Nat) (hS : n ∈ S) (hl : Nat.blt n 17 = true) (hg : eglob[n]? = some (some g)) : ∃ v, w.cell? ⟨g, 0, none⟩ = some v ∧ ErrR S w v (.e n) := by
  obtain ⟨v, hv⟩ := h.er n hS (by simpa [Nat.blt_eq] using hl)
  obtain ⟨g', t, a, h1, h2, h3, h4, h5⟩ := id hv
  have e1 := Option.some.inj (Option.some.inj (h1.symm.trans hg))
  subst e1
  exact ⟨v, h3, hv, hS⟩
theorem ErrR.cell {w : World} {v : Value} {n g : Nat} (h : ErrR S w v (.e n)) (hg : eglob[n]? = some (some g)) : w.cell? ⟨g, 0, none⟩ = some v := by
  obtain ⟨⟨g', t, a, h1, h2, h3, h4, h5⟩, _⟩ := h
  have e1 := Option.some.inj (Option.some.inj (h1.symm.trans hg))
  subst e1
  exact h3
theorem noC {u : Value} {us : List Value} (h : ∀ x, u ≠ vd x) (t : ∀ v ∈ us, ∀ x, v ≠ vd x) : ∀ v ∈ u :: us, ∀ x, v ≠ vd x := fun v hv => by
  rcases List.mem_cons.1 hv with rfl | hv
  · exact h
  · exact t v hv
theorem noN : ∀ v ∈ ([] : List Value), ∀ x, v ≠ vd x := fun _ h => by cases h
theorem esCmp : (Tryd.prog.info? 217).map (·.comparable) = some true := by kernel_rfl
theorem esSz : (Tryd.prog.info? 231).map (fun i => Nat.beq i.size 0) = some false := by kernel_rfl
theorem Yld.erreqA {N : Nat} {L : Slots} {w : World} {ty : TypeId} {pos : String} {af : Array Edge} {dd : Option Tmp} {t' : TypeId} {x y : Operand} {u v : Value} {d e : Er} (hD : ErrR S w u d) (hE : ErrR S w v e)
    (h0 : ¬ (d = .ok ∧ e = .ok) ∧ ((∀ p n, d ≠ .at_ p n) ∨ ∀ p n, e ≠ .at_ p n)) (hx : opv L x = some u) (hy : opv L y = some v) : Yld Tryd.prog N w ⟨dd, .binOp .eql 28 x y t', ty, pos, af, none⟩ L (.bool (decide (d = e))) := by
  have h1 := esCmp
  have h2 := esSz
  rw [Option.map_eq_some_iff] at h1 h2
  obtain ⟨i, h1, h3⟩ := h1
  obtain ⟨j, h2, h4⟩ := h2
  exact Yld.erreq2 Tryd.underlying28 Tryd.underlying217 h1 h3 h2 (Nat.ne_of_beq_eq_false h4) hD hE hx hy h0.1 h0.2
end Go.Proofs.YtilphcippnfklaaDoor
 /- What a row's listed variables give: the errors of api, each at its place. -/
namespace Go.Proofs.YtilphcippnfklaaDoor
open Go Go.RowKit Go.WideShapes Go.ChangeShapes Go.ChangeAt
def ename : List String := ["smithy/api.ErrLex", "smithy/api.ErrParse", "smithy/api.ErrResolve", "smithy/api.ErrDynamic", "smithy/api.ErrCycle", "smithy/api.ErrVisibility", "smithy/api.ErrAnalysis", "smithy/api.ErrLimit", "smithy/api.ErrMissing", "smithy/api.ErrMany", "smithy/api.ErrKind", "smithy/api.ErrPath", "smithy/api.ErrShape", "smithy/api.ErrEnd", "smithy/api.ErrRange", "smithy/api.ErrDown", "smithy/api.ErrFail"]
theorem cellsEs : Tryd.prog.cellsOf 231 = 1 := by kernel_rfl
theorem cellsStr : Tryd.prog.cellsOf 9 = 1 := by kernel_rfl
theorem starEs : "*" ++ "errors.errorString" = "*errors.errorString" := by decide
theorem rowEs (u : TypeId) (h : Tryd.prog.typeName? 3 u = some "*errors.errorString") : u = 217 :=
  typeName_ptr_named (nm := "errors.errorString") (by rw [starEs]; kernel_rfl) (by kernel_rfl) (by decide) u (by rw [starEs]; exact h)
set_option maxRecDepth 100000 in
theorem erv_of_vars {W : World} : ∀ {l : List (String × DataW Unit)} {ps : List MemPlace}, DataW.LaidVars Tryd.prog W l ps → (∀ b off, MemPlace.cell b off ∈ ps → (∃ c t, W.heap[b]? = some (.cells c t (0, 0))) ∧ ∀ u v, W.cell? ⟨b, off, none⟩ = some (.iface u v) → Value.okWide Tryd.prog W .any 0 u v) →
    ∀ nm t g, (nm, DataW.iface "*errors.errorString" (.ptr (.agg [.lit (.string t)]))) ∈ l → Tryd.prog.globalNamed nm = some g → (Tryd.prog.globals[g]?).map (·.type) = some 28 → ∃ a, W.cell? ⟨g, 0, none⟩ = some (.iface 217 (.pointer (some a))) ∧ W.cell? a = some (vs t) ∧ ∃ c e, W.heap[a.block]? = some (.cells c e (0, 0))
  | [], _, _, _, _, _, _, h, _, _ => by cases h
  | (n0, d0) :: r, ps, hL, hok, nm, t, g, h, hg, ht => by
    obtain ⟨g0, t0, cs0, f0, p0, q0, hg0, ht0, hv0, hd0, hr, rfl⟩ := hL
    rcases List.mem_cons.1 h with h | h
    · simp only [Prod.mk.injEq] at h
      obtain ⟨rfl, rfl⟩ := h
      obtain rfl := Option.some.inj (hg.symm.trans hg0)
      obtain rfl := Option.some.inj (ht.symm.trans ht0)
      obtain ⟨l0⟩ := cs0
      have ok0 : ∀ u v, l0 = [.iface u v] → Value.okWide Tryd.prog W .any 0 u v := fun u v e => by
        subst e
        exact (hok g 0 (by simp [MemPlace.row])).2 u v (by simpa using World.var?_cell hg0 hv0 0)
      obtain ⟨a0, s0, rfl, hc0, hs0, hz0, rfl⟩ := errorString_of_trod Tryd.underlying28 rowEs Tryd.underlying217 Tryd.underlying231 rfl rfl Tryd.underlying9 cellsEs cellsStr hd0 ok0
      refine ⟨a0, by simpa using World.var?_cell hg0 hv0 0, ?_, (hok a0.block a0.off (by simp [MemPlace.row])).1⟩
      rw [hc0, ← hs0]
      rfl
    · exact erv_of_vars hr (fun b off hb => hok b off (by simp [hb])) nm t g h hg ht
theorem tab_of_vars {P : Program} {W : World} {name : String} {k : IntKind} {zs : List Int} {g : Nat} {t e : TypeId} {n : Nat}
    (hg : P.globalNamed name = some g) (hty : (P.globals[g]?).map (·.type) = some t) (ht : P.underlying t = some (.array n e)) (he : P.underlying e = some (.int k)) (hce : P.cellsOf e = 1) (hct : P.cellsOf t = n) :
    ∀ {l : List (String × DataW Unit)} {ps : List MemPlace}, DataW.LaidVars P W l ps → (name, Lib.tabData k zs) ∈ l → Lib.TabIs P W name k zs
  | [], _, _, h => by cases h
  | (n0, d0) :: r, ps, hL, h => by
    obtain ⟨g0, t0, cs0, f0, p0, q0, hg0, ht0, hv0, hd0, hr, rfl⟩ := hL
    rcases List.mem_cons.1 h with h | h
    · simp only [Prod.mk.injEq] at h
      obtain ⟨rfl, rfl⟩ := h
      obtain rfl := Option.some.inj (hg.symm.trans hg0)
      obtain rfl := Option.some.inj (hty.symm.trans ht0)
      unfold Lib.TabIs
      rw [hv0, ← Lib.cells_of_tab ht he hce hct hd0]
    · exact tab_of_vars hg hty ht he hce hct hr h
theorem tab_of_laid {P : Program} {W : World} {name : String} {k : IntKind} {zs : List Int} {g : Nat} {t e : TypeId} {n : Nat} {l : List (String × DataW Unit)} (h : laidMetH P l W) (hp : (l.all fun x => x.2.handleName?.isNone) = true)
    (hg : P.globalNamed name = some g) (hty : (P.globals[g]?).map (·.type) = some t) (ht : P.underlying t = some (.array n e)) (he : P.underlying e = some (.int k)) (hce : P.cellsOf e = 1) (hct : P.cellsOf t = n) (hm : (name, Lib.tabData k zs) ∈ l) : Lib.TabIs P W name k zs := by
  rw [MakeChecks.laidMetH_plain _ _ _ hp] at h
  obtain ⟨ps, hL, _⟩ := h
  exact tab_of_vars hg hty ht he hce hct hL hm
def errText? : DataW Unit → Option (List UInt8)
  | .iface n (.ptr (.agg [.lit (.string t)])) => if n == "*errors.errorString" then some t else none
  | _ => none
theorem errText_spec {d : DataW Unit} {t : List UInt8} (h : errText? d = some t) : d = .iface "*errors.errorString" (.ptr (.agg [.lit (.string t)])) := by
  unfold errText? at h
  split at h
  · rename_i n t'
    split at h
    · rename_i hn
      have := eq_of_beq hn
      subst this
      cases h
      rfl
    · cases h
  · cases h
def gokB (P : Program) (S : List Nat) (l : List (String × DataW Unit)) : Bool := S.all fun n => match eglob[n]?, etext[n]?, ename[n]? with
  | some (some g), some t, some nm => decide (P.globalNamed nm = some g) && (decide ((P.globals[g]?).map (·.type) = some 28) && l.any fun x => decide (x.1 = nm) && decide (errText? x.2 = some t))
  | _, _, _ => false
set_option maxRecDepth 100000 in
theorem gok_of_laid {S : List Nat} {W : World} {l : List (String × DataW Unit)} (h : laidMetH Tryd.prog l W) (hp : (l.all fun x => x.2.handleName?.isNone) = true) (hB : gokB Tryd.prog (S.filter fun n => Nat.blt n 17) l = true) (hM : 100 ∈ S → ∃ m, W.cell? ⟨5, 0, none⟩ = some (.int .i64 m)) (hP : 101 ∈ S → Lib.TabIs Tryd.prog W "internal/strconv.uint64pow10" .u64 Lib.pow10Tab) : GOK S W := by
  refine ⟨fun n hn hl => ?_, hM, hP⟩
  rw [MakeChecks.laidMetH_plain _ _ _ hp] at h
  obtain ⟨ps, hL, _, hrows⟩ := h
  have hb := List.all_eq_true.1 hB n (by simp [hn, Nat.blt_eq, hl])
  split at hb
  · rename_i g t nm h1 h2 h3
    simp only [Bool.and_eq_true, decide_eq_true_eq, List.any_eq_true] at hb
    obtain ⟨hg, ht, ⟨n', d'⟩, hm, he1, he2⟩ := hb
    simp only at he1 he2
    subst he1
    rw [errText_spec he2] at hm
    obtain ⟨a, k1, k2⟩ := erv_of_vars hL (fun b off hb => hrows b off hb) _ t g hm hg ht
    exact ⟨_, g, t, a, h1, h2, k1, rfl, k2⟩
  · cases hb
end Go.Proofs.YtilphcippnfklaaDoor
 /- More arguments, opened: five and six of them; a struct of two texts. -/
namespace Go.Proofs.YtilphcippnfklaaDoor
open Go Go.RowKit Go.WideShapes Go.ChangeShapes Go.ChangeAt Go.Joins Go.Deep
section
variable {H : Type} {enc : TypeId × Value → H} {P : Program} {w : World} {base : Nat} {spare : Nat → Bool} {held : Bool}
theorem trodAll_five {t0 t1 t2 t3 t4 : TypeId} {args : Array Value} {ds : List (DataW H)} {ps : List MemPlace} (h : DataW.TrodAll enc P w base spare held [t0, t1, t2, t3, t4] args.toList ds ps) :
    ∃ v0 v1 v2 v3 v4 d0 d1 d2 d3 d4 p0 p1 p2 p3 p4, args = #[v0, v1, v2, v3, v4] ∧ ds = [d0, d1, d2, d3, d4] ∧ ps = p0 ++ p1 ++ p2 ++ p3 ++ p4 ∧ DataW.Trod enc P w base spare held t0 v0 d0 p0 ∧ DataW.Trod enc P w base spare held t1 v1 d1 p1 ∧ DataW.Trod enc P w base spare held t2 v2 d2 p2 ∧ DataW.Trod enc P w base spare held t3 v3 d3 p3 ∧ DataW.Trod enc P w base spare held t4 v4 d4 p4 := by
  obtain ⟨v0, u0, d0, e0, p0, q0, hargs, rfl, rfl, h0, k0⟩ := trodAll_cons h
  obtain ⟨v1, u1, d1, e1, p1, q1, rfl, rfl, rfl, h1, k1⟩ := trodAll_cons k0
  obtain ⟨v2, u2, d2, e2, p2, q2, rfl, rfl, rfl, h2, k2⟩ := trodAll_cons k1
  obtain ⟨v3, u3, d3, e3, p3, q3, rfl, rfl, rfl, h3, k3⟩ := trodAll_cons k2
  obtain ⟨v4, u4, d4, e4, p4, q4, rfl, rfl, rfl, h4, k4⟩ := trodAll_cons k3
  obtain ⟨rfl, rfl, rfl⟩ := trodAll_nil k4
  exact ⟨v0, v1, v2, v3, v4, d0, d1, d2, d3, d4, p0, p1, p2, p3, p4, by cases args; simp_all, rfl, by simp, h0, h1, h2, h3, h4⟩
theorem trodAll_six {t0 t1 t2 t3 t4 t5 : TypeId} {args : Array Value} {ds : List (DataW H)} {ps : List MemPlace} (h : DataW.TrodAll enc P w base spare held [t0, t1, t2, t3, t4, t5] args.toList ds ps) :
    ∃ v0 v1 v2 v3 v4 v5 d0 d1 d2 d3 d4 d5 p0 p1 p2 p3 p4 p5, args = #[v0, v1, v2, v3, v4, v5] ∧ ds = [d0, d1, d2, d3, d4, d5] ∧ ps = p0 ++ p1 ++ p2 ++ p3 ++ p4 ++ p5 ∧ DataW.Trod enc P w base spare held t0 v0 d0 p0 ∧ DataW.Trod enc P w base spare held t1 v1 d1 p1 ∧ DataW.Trod enc P w base spare held t2 v2 d2 p2 ∧ DataW.Trod enc P w base spare held t3 v3 d3 p3 ∧ DataW.Trod enc P w base spare held t4 v4 d4 p4 ∧ DataW.Trod enc P w base spare held t5 v5 d5 p5 := by
  obtain ⟨v0, u0, d0, e0, p0, q0, hargs, rfl, rfl, h0, k0⟩ := trodAll_cons h
  obtain ⟨v1, u1, d1, e1, p1, q1, rfl, rfl, rfl, h1, k1⟩ := trodAll_cons k0
  obtain ⟨v2, u2, d2, e2, p2, q2, rfl, rfl, rfl, h2, k2⟩ := trodAll_cons k1
  obtain ⟨v3, u3, d3, e3, p3, q3, rfl, rfl, rfl, h3, k3⟩ := trodAll_cons k2
  obtain ⟨v4, u4, d4, e4, p4, q4, rfl, rfl, rfl, h4, k4⟩ := trodAll_cons k3
  obtain ⟨v5, u5, d5, e5, p5, q5, rfl, rfl, rfl, h5, k5⟩ := trodAll_cons k4
  obtain ⟨rfl, rfl, rfl⟩ := trodAll_nil k5
  exact ⟨v0, v1, v2, v3, v4, v5, d0, d1, d2, d3, d4, d5, p0, p1, p2, p3, p4, p5, by cases args; simp_all, rfl, by simp, h0, h1, h2, h3, h4, h5⟩
theorem open_two {r : Reach} {b0 : Nat} {t : TypeId} {f0 f1 : Field} {v : Value} {d : DataW H} {p : List MemPlace} (hs : P.underlying t = some (.struct #[f0, f1])) (hone : oneCellFields P #[f0, f1] = true) (hC : P.cellsOf t = 2) (h0 : P.underlying f0.type = some .string) (h1 : P.underlying f1.type = some .string)
    (hv : Value.okWide P w r b0 t v) (h : DataW.Trod enc P w base spare held t v d p) : ∃ a b : List UInt8, v = .agg ⟨[vs a, vs b]⟩ ∧ a.length ≤ maxLen ∧ b.length ≤ maxLen := by
  obtain ⟨v0, v1, y0, y1, n, rfl, _, _, k0, k1⟩ := open_agg2 hs hone hC hv h
  obtain ⟨s0, e0, _, l0⟩ := DataW.trod_string h0 k0
  obtain ⟨s1, e1, _, l1⟩ := DataW.trod_string h1 k1
  simp only [List.cons.injEq, and_true] at e0 e1
  subst e0; subst e1
  obtain ⟨⟨a⟩⟩ := s0
  obtain ⟨⟨b⟩⟩ := s1
  exact ⟨a, b, rfl, l0, l1⟩
end
end Go.Proofs.YtilphcippnfklaaDoor
 namespace Go.Proofs.YtilphcippnfklaaDoor
open Go Go.RowKit
attribute [local irreducible] WL WC WX WQ Yld Eff Fn
/-! numbers: digits to the base of 10^9, the lowest first -/
def val : List Nat → Nat
  | [] => 0
  | x :: xs => x + 1000000000 * val xs
theorem val_app : ∀ a b : List Nat, val (a ++ b) = val a + 1000000000 ^ a.length * val b
  | [], b => by simp [val]
  | x :: a, b => by
    have := val_app a b
    simp only [List.cons_append, val, this, List.length_cons]
    grind
theorem val_one (d : Nat) : val [d] = d := rfl
theorem val_push (a : List Nat) (d : Nat) : val (a ++ [d]) = val a + 1000000000 ^ a.length * d := by rw [val_app, val_one]
theorem take_push (l : List Nat) (k : Nat) (h : k < l.length) : l.take (k + 1) = l.take k ++ [l.getD k 0] := by
  rw [List.take_succ_eq_append_getElem h]; simp [List.getD, h]
theorem val_take (l : List Nat) (k : Nat) : val (l.take (k + 1)) = val (l.take k) + 1000000000 ^ k * l.getD k 0 := by
  rcases Nat.lt_or_ge k l.length with h | h
  · rw [take_push l k h, val_push, List.length_take, Nat.min_eq_left (by omega)]
  · have e : l.getD k 0 = 0 := by simp [List.getD, List.getElem?_eq_none h]
    rw [List.take_of_length_le (by omega), List.take_of_length_le h, e]
    omega
/-- each digit is one -/
def Dg (l : List Nat) : Prop := ∀ i : Nat, l.getD i 0 < 1000000000
theorem Dg.nil : Dg [] := fun i => by simp
theorem Dg.push {l : List Nat} (h : Dg l) {d : Nat} (hd : d < 1000000000) : Dg (l ++ [d]) := fun i => by
  rcases Nat.lt_trichotomy i l.length with h1 | h1 | h1
  · have := h i
    simpa [List.getD, List.getElem?_append, h1] using this
  · subst h1; simpa [List.getD] using hd
  · have e : (l ++ [d]).getD i 0 = 0 := by simp only [List.getD]; rw [List.getElem?_eq_none (by simp; omega)]; rfl
    omega
theorem Dg.take {l : List Nat} (h : Dg l) (k : Nat) : Dg (l.take k) := fun i => by
  rcases Nat.lt_or_ge i k with h1 | h1
  · have := h i
    simpa [List.getD, List.getElem?_take, h1] using this
  · have e : (l.take k).getD i 0 = 0 := by simp only [List.getD]; rw [List.getElem?_eq_none (by simp; omega)]; rfl
    omega
theorem val_lt {l : List Nat} (h : Dg l) : ∀ k, val (l.take k) < 1000000000 ^ k
  | 0 => by simp [val]
  | k + 1 => by
    have h1 := val_lt h k
    have h2 := h k
    rw [val_take, Nat.pow_succ]
    generalize 1000000000 ^ k = p at *
    generalize l.getD k 0 = d at *
    have : p * d ≤ p * 999999999 := Nat.mul_le_mul_left _ (by omega)
    omega
theorem val_lt' {l : List Nat} (h : Dg l) : val l < 1000000000 ^ l.length := by
  have := val_lt h l.length
  rwa [List.take_of_length_le (Nat.le_refl _)] at this
/-- no needless digit at the end -/
def Can (l : List Nat) : Prop := l ≠ [] → l.getD (l.length - 1) 0 ≠ 0
theorem val_ge {l : List Nat} (h : Can l) (hl : l ≠ []) : 1000000000 ^ (l.length - 1) ≤ val l := by
  have h1 := h hl
  have hp : 0 < l.length := List.length_pos_iff.mpr hl
  have e := val_take l (l.length - 1)
  rw [show l.length - 1 + 1 = l.length by omega, List.take_of_length_le (Nat.le_refl _)] at e
  rw [e]
  generalize 1000000000 ^ (l.length - 1) = p at *
  generalize l.getD (l.length - 1) 0 = d at *
  have : p * 1 ≤ p * d := Nat.mul_le_mul_left _ (by omega)
  omega
theorem val_zero {l : List Nat} (h : Can l) : val l = 0 ↔ l = [] := by
  constructor
  · intro e
    rcases Classical.em (l = []) with h1 | h1
    · exact h1
    · have := val_ge h h1
      have : 0 < 1000000000 ^ (l.length - 1) := Nat.pow_pos (by omega)
      omega
  · intro e; subst e; rfl
/-- a number, as_ the program has it: canonical, of at most m digits of the base -/
structure Nm (w : World) (v : Value) (z : Int) (m : Nat) : Prop where
  at_ : ∃ (neg : Bool) (A : Option Addr) (c : Nat) (l : List Nat), v = .agg ⟨[.bool neg, .slice A l.length c]⟩ ∧ Rd vd w A c l ∧ Dg l ∧ Can l ∧ l.length ≤ m ∧ (neg = true → l ≠ []) ∧ z = bif neg then -(val l : Int) else (val l : Int)
theorem Nm.grown {w w' : World} {v : Value} {z : Int} {m : Nat} (h : Nm w v z m) (hg : w.grownBy w' none) : Nm w' v z m := by
  obtain ⟨neg, A, c, l, h1, h2, h3⟩ := h
  exact ⟨neg, A, c, l, h1, h2.grown hg, h3⟩
theorem Nm.mono {w : World} {v : Value} {z : Int} {m m' : Nat} (h : Nm w v z m) (hm : m ≤ m') : Nm w v z m' := by
  obtain ⟨neg, A, c, l, h1, h2, h3, h4, h5, h6⟩ := h
  exact ⟨neg, A, c, l, h1, h2, h3, h4, by omega, h6⟩
theorem made_end {w w' : World} {g : Nat} {neg : Bool} {A : Option Addr} {c : Nat} {l j : List Nat} (hR : Rd vd w A c j) (hg : w.grownBy w' (some g)) (hA : blk A ≠ some g ∨ j = []) (hD : Dg j) (hC : Can j) (hj : j.length ≤ l.length) (hv : val j = val l) :
    Nm w' (.agg ⟨[.bool (bif neg then decide ((0 : Int) < (j.length : Int)) else false), .slice A j.length c]⟩) (bif neg then -(val l : Int) else (val l : Int)) l.length := by
  refine ⟨_, A, c, j, rfl, hR.keep' hg (fun hne q hq e => ?_), hD, hC, hj, fun h => ?_, ?_⟩
  · injection hq with hq
    subst hq
    rcases hA with hA | hA
    · exact hA e
    · exact hne hA
  · cases neg
    · cases h
    · intro e; subst e; simp at h
  · rw [← hv]
    cases neg
    · rfl
    · rcases Classical.em (j = []) with e | e
      · subst e; rfl
      · have : 0 < j.length := List.length_pos_iff.mpr e
        simp [this]
/-- v's digits lie in a block of which p holds -/
def Lies (v : Value) (p : Nat → Prop) : Prop := ∀ neg A n c, v = .agg ⟨[.bool neg, .slice A n c]⟩ → ∀ g, blk A = some g → p g
theorem Lies.mk {neg : Bool} {A : Option Addr} {n c : Nat} {p : Nat → Prop} (h : ∀ g, blk A = some g → p g) : Lies (.agg ⟨[.bool neg, .slice A n c]⟩) p := fun neg' A' n' c' e => by
  simp only [Value.agg.injEq, Array.mk.injEq, List.cons.injEq, Value.slice.injEq] at e
  obtain ⟨_, ⟨rfl, _⟩, _⟩ := e
  exact h
theorem made_fn' (neg : Bool) (A : Option Addr) (c : Nat) (l : List Nat) (w : World) (hR : Rd vd w A c l) (hD : Dg l) (hl : l.length ≤ 1000000) :
    Fn Tryd.prog 69 ⟨[.bool neg, .slice A l.length c]⟩ w fun v w' => Nm w' v (bif neg then -(val l : Int) else (val l : Int)) l.length ∧ w.grownBy w' none ∧ Lies v (fun q => blk A = some q) := by
  refine Fn.enter (by kernel_rfl) Tryd.func69 rfl Tryd.ntmps69 rfl ?_
  repeat (first | refine WC.seq ?_ | refine WC.block ?_ | refine WC.region ?_ | refine WL.nil ?_ | refine WX.then_normal ?_ | refine WC.skip ?_ | refine WC.exit ?_ | refine WC.ret ?_ | refine WX.then_exit ?_ | refine WX.then_ret ?_ | refine WX.block_normal ?_ | refine WX.block_ret ?_ | refine WX.block_same ?_ | refine WX.block_other rfl ?_ | refine WC.label ?_ | refine WC.scope ?_ | refine WX.scope_normal ?_ | refine WX.scope_ret ?_ | refine WX.scope_exit ?_ | refine WL.y rfl (Yld.sub rfl rfl (by simp only [In]; omega)) ?_ | refine WL.y rfl (Yld.pure tab_ok rfl) ?_ | refine WL.y rfl (Yld.pickV rfl rfl rfl) ?_ | refine WL.gno rfl rfl rfl rfl ?_ | refine WL.gyes rfl rfl rfl rfl (Yld.sub rfl rfl (by simp only [In]; omega)) ?_ | refine WL.gyes rfl rfl rfl rfl (Yld.pure tab_ok rfl) ?_)
  refine WL.alloc rfl zero44 (fun g w1 hB1 hg1 hl1 => ?_)
  repeat (first | refine WC.seq ?_ | refine WC.block ?_ | refine WC.region ?_ | refine WL.nil ?_ | refine WX.then_normal ?_ | refine WC.skip ?_ | refine WC.exit ?_ | refine WC.ret ?_ | refine WX.then_exit ?_ | refine WX.then_ret ?_ | refine WX.block_normal ?_ | refine WX.block_ret ?_ | refine WX.block_same ?_ | refine WX.block_other rfl ?_ | refine WC.label ?_ | refine WC.scope ?_ | refine WX.scope_normal ?_ | refine WX.scope_ret ?_ | refine WX.scope_exit ?_ | refine WL.y rfl (Yld.sub rfl rfl (by simp only [In]; omega)) ?_ | refine WL.y rfl (Yld.pure tab_ok rfl) ?_ | refine WL.y rfl (Yld.pickV rfl rfl rfl) ?_ | refine WL.gno rfl rfl rfl rfl ?_ | refine WL.gyes rfl rfl rfl rfl (Yld.sub rfl rfl (by simp only [In]; omega)) ?_ | refine WL.gyes rfl rfl rfl rfl (Yld.pure tab_ok rfl) ?_)
  refine WC.loop3 (fun j _ _ => j.length) (fun j A' c' => [(1, .slice A' j.length c'), (0, .bool neg), (4, .pointer (some ⟨g, 0, none⟩))])
    (fun j A' c' w2 => Dg j ∧ j.length ≤ l.length ∧ val j = val l ∧ Rd vd w1 A' c' j ∧ (blk A' ≠ some g ∨ j = []) ∧ (∀ q, blk A' = some q → blk A = some q) ∧ w2 = w1) l A c ⟨hD, by simp, rfl, hR.grown hg1, ?_, fun _ e => e, rfl⟩ (by repeat (first | exact Sub.nil | refine Sub.cons rfl ?_)) (fun j A' c' w2 ⟨hDj, hk, hv, hR2, hgA, hbA, hw2⟩ => ?_)
  · rcases Classical.em (l = []) with e | e
    · exact .inr e
    · exact .inl fun q => by have := hR.lt e q; omega
  subst hw2
  repeat (first | refine WC.seq ?_ | refine WC.block ?_ | refine WC.region ?_ | refine WL.nil ?_ | refine WX.then_normal ?_ | refine WC.skip ?_ | refine WC.exit ?_ | refine WC.ret ?_ | refine WX.then_exit ?_ | refine WX.then_ret ?_ | refine WX.block_normal ?_ | refine WX.block_ret ?_ | refine WX.block_same ?_ | refine WX.block_other rfl ?_ | refine WC.label ?_ | refine WC.scope ?_ | refine WX.scope_normal ?_ | refine WX.scope_ret ?_ | refine WX.scope_exit ?_ | refine WL.y rfl (Yld.sub rfl rfl (by simp only [In]; omega)) ?_ | refine WL.y rfl (Yld.pure tab_ok rfl) ?_ | refine WL.y rfl (Yld.pickV rfl rfl rfl) ?_ | refine WL.gno rfl rfl rfl rfl ?_ | refine WL.gyes rfl rfl rfl rfl (Yld.sub rfl rfl (by simp only [In]; omega)) ?_ | refine WL.gyes rfl rfl rfl rfl (Yld.pure tab_ok rfl) ?_)
  generalize hb : decide ((0 : Int) < (j.length : Int)) = b
  cases b
  · simp only [decide_eq_false_iff_not] at hb
    obtain rfl : j = [] := List.length_eq_zero_iff.mp (by omega)
    have hCj : Can [] := fun h => absurd rfl h
    repeat (first | refine WC.seq ?_ | refine WC.block ?_ | refine WC.region ?_ | refine WL.nil ?_ | refine WX.then_normal ?_ | refine WC.skip ?_ | refine WC.exit ?_ | refine WC.ret ?_ | refine WX.then_exit ?_ | refine WX.then_ret ?_ | refine WX.block_normal ?_ | refine WX.block_ret ?_ | refine WX.block_same ?_ | refine WX.block_other rfl ?_ | refine WC.label ?_ | refine WC.scope ?_ | refine WX.scope_normal ?_ | refine WX.scope_ret ?_ | refine WX.scope_exit ?_ | refine WL.y rfl (Yld.sub rfl rfl (by simp only [In]; omega)) ?_ | refine WL.y rfl (Yld.pure tab_ok rfl) ?_ | refine WL.y rfl (Yld.pickV rfl rfl rfl) ?_ | refine WL.gno rfl rfl rfl rfl ?_ | refine WL.gyes rfl rfl rfl rfl (Yld.sub rfl rfl (by simp only [In]; omega)) ?_ | refine WL.gyes rfl rfl rfl rfl (Yld.pure tab_ok rfl) ?_)
    refine WC.cond rfl (fun h => by cases h) (fun _ => ?_)
    repeat (first | refine WC.seq ?_ | refine WC.block ?_ | refine WC.region ?_ | refine WL.nil ?_ | refine WX.then_normal ?_ | refine WC.skip ?_ | refine WC.exit ?_ | refine WC.ret ?_ | refine WX.then_exit ?_ | refine WX.then_ret ?_ | refine WX.block_normal ?_ | refine WX.block_ret ?_ | refine WX.block_same ?_ | refine WX.block_other rfl ?_ | refine WC.label ?_ | refine WC.scope ?_ | refine WX.scope_normal ?_ | refine WX.scope_ret ?_ | refine WX.scope_exit ?_ | refine WL.y rfl (Yld.sub rfl rfl (by simp only [In]; omega)) ?_ | refine WL.y rfl (Yld.pure tab_ok rfl) ?_ | refine WL.y rfl (Yld.pickV rfl rfl rfl) ?_ | refine WL.gno rfl rfl rfl rfl ?_ | refine WL.gyes rfl rfl rfl rfl (Yld.sub rfl rfl (by simp only [In]; omega)) ?_ | refine WL.gyes rfl rfl rfl rfl (Yld.pure tab_ok rfl) ?_)
    cases neg
    · repeat (first | refine WC.seq ?_ | refine WC.block ?_ | refine WC.region ?_ | refine WL.nil ?_ | refine WX.then_normal ?_ | refine WC.skip ?_ | refine WC.exit ?_ | refine WC.ret ?_ | refine WX.then_exit ?_ | refine WX.then_ret ?_ | refine WX.block_normal ?_ | refine WX.block_ret ?_ | refine WX.block_same ?_ | refine WX.block_other rfl ?_ | refine WC.label ?_ | refine WC.scope ?_ | refine WX.scope_normal ?_ | refine WX.scope_ret ?_ | refine WX.scope_exit ?_ | refine WL.y rfl (Yld.sub rfl rfl (by simp only [In]; omega)) ?_ | refine WL.y rfl (Yld.pure tab_ok rfl) ?_ | refine WL.y rfl (Yld.pickV rfl rfl rfl) ?_ | refine WL.gno rfl rfl rfl rfl ?_ | refine WL.gyes rfl rfl rfl rfl (Yld.sub rfl rfl (by simp only [In]; omega)) ?_ | refine WL.gyes rfl rfl rfl rfl (Yld.pure tab_ok rfl) ?_)
      refine WL.y rfl (Yld.struct (us := [.bool (bif false then decide ((0 : Int) < (([] : List Nat).length : Int)) else false), .slice A' ([] : List Nat).length c']) zero44 places44 rfl rfl) ?_
      refine WL.storeW (vs := [.bool (bif false then decide ((0 : Int) < (([] : List Nat).length : Int)) else false), .slice A' ([] : List Nat).length c']) tab_ok rfl rfl rfl (by intro u hu; simp at hu; rcases hu with rfl | rfl <;> rfl) hB1 rfl rfl (fun w3 hB3 hg3 => ?_)
      repeat (first | refine WC.seq ?_ | refine WC.block ?_ | refine WC.region ?_ | refine WL.nil ?_ | refine WX.then_normal ?_ | refine WC.skip ?_ | refine WC.exit ?_ | refine WC.ret ?_ | refine WX.then_exit ?_ | refine WX.then_ret ?_ | refine WX.block_normal ?_ | refine WX.block_ret ?_ | refine WX.block_same ?_ | refine WX.block_other rfl ?_ | refine WC.label ?_ | refine WC.scope ?_ | refine WX.scope_normal ?_ | refine WX.scope_ret ?_ | refine WX.scope_exit ?_ | refine WL.y rfl (Yld.sub rfl rfl (by simp only [In]; omega)) ?_ | refine WL.y rfl (Yld.pure tab_ok rfl) ?_ | refine WL.y rfl (Yld.pickV rfl rfl rfl) ?_ | refine WL.gno rfl rfl rfl rfl ?_ | refine WL.gyes rfl rfl rfl rfl (Yld.sub rfl rfl (by simp only [In]; omega)) ?_ | refine WL.gyes rfl rfl rfl rfl (Yld.pure tab_ok rfl) ?_)
      exact WX.retc tab_ok rfl rfl rfl hB3 rfl ⟨made_end hR2 hg3 hgA hDj hCj (by first | exact hk | simp) hv, gr_new hg1 hg3 hl1, Lies.mk hbA⟩
    · repeat (first | refine WC.seq ?_ | refine WC.block ?_ | refine WC.region ?_ | refine WL.nil ?_ | refine WX.then_normal ?_ | refine WC.skip ?_ | refine WC.exit ?_ | refine WC.ret ?_ | refine WX.then_exit ?_ | refine WX.then_ret ?_ | refine WX.block_normal ?_ | refine WX.block_ret ?_ | refine WX.block_same ?_ | refine WX.block_other rfl ?_ | refine WC.label ?_ | refine WC.scope ?_ | refine WX.scope_normal ?_ | refine WX.scope_ret ?_ | refine WX.scope_exit ?_ | refine WL.y rfl (Yld.sub rfl rfl (by simp only [In]; omega)) ?_ | refine WL.y rfl (Yld.pure tab_ok rfl) ?_ | refine WL.y rfl (Yld.pickV rfl rfl rfl) ?_ | refine WL.gno rfl rfl rfl rfl ?_ | refine WL.gyes rfl rfl rfl rfl (Yld.sub rfl rfl (by simp only [In]; omega)) ?_ | refine WL.gyes rfl rfl rfl rfl (Yld.pure tab_ok rfl) ?_)
      refine WL.y rfl (Yld.struct (us := [.bool (bif true then decide ((0 : Int) < (([] : List Nat).length : Int)) else false), .slice A' ([] : List Nat).length c']) zero44 places44 rfl rfl) ?_
      refine WL.storeW (vs := [.bool (bif true then decide ((0 : Int) < (([] : List Nat).length : Int)) else false), .slice A' ([] : List Nat).length c']) tab_ok rfl rfl rfl (by intro u hu; simp at hu; rcases hu with rfl | rfl <;> rfl) hB1 rfl rfl (fun w3 hB3 hg3 => ?_)
      repeat (first | refine WC.seq ?_ | refine WC.block ?_ | refine WC.region ?_ | refine WL.nil ?_ | refine WX.then_normal ?_ | refine WC.skip ?_ | refine WC.exit ?_ | refine WC.ret ?_ | refine WX.then_exit ?_ | refine WX.then_ret ?_ | refine WX.block_normal ?_ | refine WX.block_ret ?_ | refine WX.block_same ?_ | refine WX.block_other rfl ?_ | refine WC.label ?_ | refine WC.scope ?_ | refine WX.scope_normal ?_ | refine WX.scope_ret ?_ | refine WX.scope_exit ?_ | refine WL.y rfl (Yld.sub rfl rfl (by simp only [In]; omega)) ?_ | refine WL.y rfl (Yld.pure tab_ok rfl) ?_ | refine WL.y rfl (Yld.pickV rfl rfl rfl) ?_ | refine WL.gno rfl rfl rfl rfl ?_ | refine WL.gyes rfl rfl rfl rfl (Yld.sub rfl rfl (by simp only [In]; omega)) ?_ | refine WL.gyes rfl rfl rfl rfl (Yld.pure tab_ok rfl) ?_)
      exact WX.retc tab_ok rfl rfl rfl hB3 rfl ⟨made_end hR2 hg3 hgA hDj hCj (by first | exact hk | simp) hv, gr_new hg1 hg3 hl1, Lies.mk hbA⟩
  · simp only [decide_eq_true_eq] at hb
    repeat (first | refine WL.gyes rfl rfl rfl rfl (Yld.iaddr tab_ok hR2 rfl rfl rfl rfl (by omega) (by omega)) ?_ | refine WL.gyes rfl rfl rfl rfl (Yld.iload 0 tab_ok hR2 rfl rfl (by omega)) ?_ | refine WC.seq ?_ | refine WC.block ?_ | refine WC.region ?_ | refine WL.nil ?_ | refine WX.then_normal ?_ | refine WC.skip ?_ | refine WC.exit ?_ | refine WC.ret ?_ | refine WX.then_exit ?_ | refine WX.then_ret ?_ | refine WX.block_normal ?_ | refine WX.block_ret ?_ | refine WX.block_same ?_ | refine WX.block_other rfl ?_ | refine WC.label ?_ | refine WC.scope ?_ | refine WX.scope_normal ?_ | refine WX.scope_ret ?_ | refine WX.scope_exit ?_ | refine WL.y rfl (Yld.sub rfl rfl (by simp only [In]; omega)) ?_ | refine WL.y rfl (Yld.pure tab_ok rfl) ?_ | refine WL.y rfl (Yld.pickV rfl rfl rfl) ?_ | refine WL.gno rfl rfl rfl rfl ?_ | refine WL.gyes rfl rfl rfl rfl (Yld.sub rfl rfl (by simp only [In]; omega)) ?_ | refine WL.gyes rfl rfl rfl rfl (Yld.pure tab_ok rfl) ?_)
    have hjt : ((j.length : Int) - 1).toNat = j.length - 1 := by omega
    rw [hjt]
    refine WC.cond rfl (fun h => ?_) (fun h => ?_)
    · simp only [cond_true, decide_eq_true_eq] at h
      repeat (first | refine WC.seq ?_ | refine WC.block ?_ | refine WC.region ?_ | refine WL.nil ?_ | refine WX.then_normal ?_ | refine WC.skip ?_ | refine WC.exit ?_ | refine WC.ret ?_ | refine WX.then_exit ?_ | refine WX.then_ret ?_ | refine WX.block_normal ?_ | refine WX.block_ret ?_ | refine WX.block_same ?_ | refine WX.block_other rfl ?_ | refine WC.label ?_ | refine WC.scope ?_ | refine WX.scope_normal ?_ | refine WX.scope_ret ?_ | refine WX.scope_exit ?_ | refine WL.y rfl (Yld.sub rfl rfl (by simp only [In]; omega)) ?_ | refine WL.y rfl (Yld.pure tab_ok rfl) ?_ | refine WL.y rfl (Yld.pickV rfl rfl rfl) ?_ | refine WL.gno rfl rfl rfl rfl ?_ | refine WL.gyes rfl rfl rfl rfl (Yld.sub rfl rfl (by simp only [In]; omega)) ?_ | refine WL.gyes rfl rfl rfl rfl (Yld.pure tab_ok rfl) ?_)
      refine WL.cut tab_ok hR2 rfl rfl rfl rfl rfl rfl (by omega) (by omega) (by omega) (fun A2 c2 hR3 hb3 => ?_)
      have he : (j.drop (0 : Int).toNat).take (((j.length : Int) - 1).toNat - (0 : Int).toNat) = j.take (j.length - 1) := by rw [hjt]; simp
      rw [he] at hR3 ⊢
      repeat (first | refine WC.seq ?_ | refine WC.block ?_ | refine WC.region ?_ | refine WL.nil ?_ | refine WX.then_normal ?_ | refine WC.skip ?_ | refine WC.exit ?_ | refine WC.ret ?_ | refine WX.then_exit ?_ | refine WX.then_ret ?_ | refine WX.block_normal ?_ | refine WX.block_ret ?_ | refine WX.block_same ?_ | refine WX.block_other rfl ?_ | refine WC.label ?_ | refine WC.scope ?_ | refine WX.scope_normal ?_ | refine WX.scope_ret ?_ | refine WX.scope_exit ?_ | refine WL.y rfl (Yld.sub rfl rfl (by simp only [In]; omega)) ?_ | refine WL.y rfl (Yld.pure tab_ok rfl) ?_ | refine WL.y rfl (Yld.pickV rfl rfl rfl) ?_ | refine WL.gno rfl rfl rfl rfl ?_ | refine WL.gyes rfl rfl rfl rfl (Yld.sub rfl rfl (by simp only [In]; omega)) ?_ | refine WL.gyes rfl rfl rfl rfl (Yld.pure tab_ok rfl) ?_)
      refine WX.round3 (j.take (j.length - 1)) A2 c2 ⟨hDj.take _, by rw [List.length_take]; omega, ?_, hR3, ?_, fun q e => hbA q (hb3 q e), rfl⟩ (by rw [List.length_take]; omega) (by repeat (first | exact Sub.nil | refine Sub.cons rfl ?_))
      · have e := val_take j (j.length - 1)
        rw [show j.length - 1 + 1 = j.length by omega, List.take_of_length_le (Nat.le_refl _), show j.getD (j.length - 1) 0 = 0 by omega] at e
        omega
      · rcases hgA with h1 | h1
        · exact .inl fun q => h1 (hb3 _ q)
        · subst h1; simp at hb
    · simp only [cond_true, decide_eq_false_iff_not] at h
      have hCj : Can j := fun _ e => h (by rw [e]; rfl)
      repeat (first | refine WC.seq ?_ | refine WC.block ?_ | refine WC.region ?_ | refine WL.nil ?_ | refine WX.then_normal ?_ | refine WC.skip ?_ | refine WC.exit ?_ | refine WC.ret ?_ | refine WX.then_exit ?_ | refine WX.then_ret ?_ | refine WX.block_normal ?_ | refine WX.block_ret ?_ | refine WX.block_same ?_ | refine WX.block_other rfl ?_ | refine WC.label ?_ | refine WC.scope ?_ | refine WX.scope_normal ?_ | refine WX.scope_ret ?_ | refine WX.scope_exit ?_ | refine WL.y rfl (Yld.sub rfl rfl (by simp only [In]; omega)) ?_ | refine WL.y rfl (Yld.pure tab_ok rfl) ?_ | refine WL.y rfl (Yld.pickV rfl rfl rfl) ?_ | refine WL.gno rfl rfl rfl rfl ?_ | refine WL.gyes rfl rfl rfl rfl (Yld.sub rfl rfl (by simp only [In]; omega)) ?_ | refine WL.gyes rfl rfl rfl rfl (Yld.pure tab_ok rfl) ?_)
      cases neg
      · repeat (first | refine WC.seq ?_ | refine WC.block ?_ | refine WC.region ?_ | refine WL.nil ?_ | refine WX.then_normal ?_ | refine WC.skip ?_ | refine WC.exit ?_ | refine WC.ret ?_ | refine WX.then_exit ?_ | refine WX.then_ret ?_ | refine WX.block_normal ?_ | refine WX.block_ret ?_ | refine WX.block_same ?_ | refine WX.block_other rfl ?_ | refine WC.label ?_ | refine WC.scope ?_ | refine WX.scope_normal ?_ | refine WX.scope_ret ?_ | refine WX.scope_exit ?_ | refine WL.y rfl (Yld.sub rfl rfl (by simp only [In]; omega)) ?_ | refine WL.y rfl (Yld.pure tab_ok rfl) ?_ | refine WL.y rfl (Yld.pickV rfl rfl rfl) ?_ | refine WL.gno rfl rfl rfl rfl ?_ | refine WL.gyes rfl rfl rfl rfl (Yld.sub rfl rfl (by simp only [In]; omega)) ?_ | refine WL.gyes rfl rfl rfl rfl (Yld.pure tab_ok rfl) ?_)
        refine WL.y rfl (Yld.struct (us := [.bool (bif false then decide ((0 : Int) < (j.length : Int)) else false), .slice A' j.length c']) zero44 places44 rfl rfl) ?_
        refine WL.storeW (vs := [.bool (bif false then decide ((0 : Int) < (j.length : Int)) else false), .slice A' j.length c']) tab_ok rfl rfl rfl (by intro u hu; simp at hu; rcases hu with rfl | rfl <;> rfl) hB1 rfl rfl (fun w3 hB3 hg3 => ?_)
        repeat (first | refine WC.seq ?_ | refine WC.block ?_ | refine WC.region ?_ | refine WL.nil ?_ | refine WX.then_normal ?_ | refine WC.skip ?_ | refine WC.exit ?_ | refine WC.ret ?_ | refine WX.then_exit ?_ | refine WX.then_ret ?_ | refine WX.block_normal ?_ | refine WX.block_ret ?_ | refine WX.block_same ?_ | refine WX.block_other rfl ?_ | refine WC.label ?_ | refine WC.scope ?_ | refine WX.scope_normal ?_ | refine WX.scope_ret ?_ | refine WX.scope_exit ?_ | refine WL.y rfl (Yld.sub rfl rfl (by simp only [In]; omega)) ?_ | refine WL.y rfl (Yld.pure tab_ok rfl) ?_ | refine WL.y rfl (Yld.pickV rfl rfl rfl) ?_ | refine WL.gno rfl rfl rfl rfl ?_ | refine WL.gyes rfl rfl rfl rfl (Yld.sub rfl rfl (by simp only [In]; omega)) ?_ | refine WL.gyes rfl rfl rfl rfl (Yld.pure tab_ok rfl) ?_)
        exact WX.retc tab_ok rfl rfl rfl hB3 rfl ⟨made_end hR2 hg3 hgA hDj hCj (by first | exact hk | simp) hv, gr_new hg1 hg3 hl1, Lies.mk hbA⟩
      · repeat (first | refine WC.seq ?_ | refine WC.block ?_ | refine WC.region ?_ | refine WL.nil ?_ | refine WX.then_normal ?_ | refine WC.skip ?_ | refine WC.exit ?_ | refine WC.ret ?_ | refine WX.then_exit ?_ | refine WX.then_ret ?_ | refine WX.block_normal ?_ | refine WX.block_ret ?_ | refine WX.block_same ?_ | refine WX.block_other rfl ?_ | refine WC.label ?_ | refine WC.scope ?_ | refine WX.scope_normal ?_ | refine WX.scope_ret ?_ | refine WX.scope_exit ?_ | refine WL.y rfl (Yld.sub rfl rfl (by simp only [In]; omega)) ?_ | refine WL.y rfl (Yld.pure tab_ok rfl) ?_ | refine WL.y rfl (Yld.pickV rfl rfl rfl) ?_ | refine WL.gno rfl rfl rfl rfl ?_ | refine WL.gyes rfl rfl rfl rfl (Yld.sub rfl rfl (by simp only [In]; omega)) ?_ | refine WL.gyes rfl rfl rfl rfl (Yld.pure tab_ok rfl) ?_)
        refine WL.y rfl (Yld.struct (us := [.bool (bif true then decide ((0 : Int) < (j.length : Int)) else false), .slice A' j.length c']) zero44 places44 rfl rfl) ?_
        refine WL.storeW (vs := [.bool (bif true then decide ((0 : Int) < (j.length : Int)) else false), .slice A' j.length c']) tab_ok rfl rfl rfl (by intro u hu; simp at hu; rcases hu with rfl | rfl <;> rfl) hB1 rfl rfl (fun w3 hB3 hg3 => ?_)
        repeat (first | refine WC.seq ?_ | refine WC.block ?_ | refine WC.region ?_ | refine WL.nil ?_ | refine WX.then_normal ?_ | refine WC.skip ?_ | refine WC.exit ?_ | refine WC.ret ?_ | refine WX.then_exit ?_ | refine WX.then_ret ?_ | refine WX.block_normal ?_ | refine WX.block_ret ?_ | refine WX.block_same ?_ | refine WX.block_other rfl ?_ | refine WC.label ?_ | refine WC.scope ?_ | refine WX.scope_normal ?_ | refine WX.scope_ret ?_ | refine WX.scope_exit ?_ | refine WL.y rfl (Yld.sub rfl rfl (by simp only [In]; omega)) ?_ | refine WL.y rfl (Yld.pure tab_ok rfl) ?_ | refine WL.y rfl (Yld.pickV rfl rfl rfl) ?_ | refine WL.gno rfl rfl rfl rfl ?_ | refine WL.gyes rfl rfl rfl rfl (Yld.sub rfl rfl (by simp only [In]; omega)) ?_ | refine WL.gyes rfl rfl rfl rfl (Yld.pure tab_ok rfl) ?_)
        exact WX.retc tab_ok rfl rfl rfl hB3 rfl ⟨made_end hR2 hg3 hgA hDj hCj (by first | exact hk | simp) hv, gr_new hg1 hg3 hl1, Lies.mk hbA⟩
theorem made_fn (neg : Bool) (A : Option Addr) (c : Nat) (l : List Nat) (w : World) (hR : Rd vd w A c l) (hD : Dg l) (hl : l.length ≤ 1000000) :
    Fn Tryd.prog 69 ⟨[.bool neg, .slice A l.length c]⟩ w fun v w' => Nm w' v (bif neg then -(val l : Int) else (val l : Int)) l.length ∧ w.grownBy w' none := (made_fn' neg A c l w hR hD hl).mono fun _ _ h => ⟨h.1, h.2.1⟩
end Go.Proofs.YtilphcippnfklaaDoor
 /- Decimal digits, plainly. -/
namespace Go.Proofs.YtilphcippnfklaaDoor
open Go Go.RowKit
/-- a digit's byte -/
def dc (n : Nat) : UInt8 := UInt8.ofNat (48 + n % 10)
theorem dc_toNat (n : Nat) : (dc n).toNat = 48 + n % 10 := by unfold dc; simp; omega
/-- k digits, the lowest first -/
def pd : Nat → Nat → List UInt8
  | 0, _ => []
  | k + 1, n => dc n :: pd k (n / 10)
/-- the digits of a number without needless ones, the lowest first -/
def dd (n : Nat) : List UInt8 := if h : n = 0 then [] else dc n :: dd (n / 10)
 decreasing_by omega
theorem dd_zero : dd 0 = [] := by rw [dd]; simp
theorem dd_pos {n : Nat} (h : 0 < n) : dd n = dc n :: dd (n / 10) := by rw [dd]; simp [Nat.ne_of_gt h]
theorem pd_dd : ∀ (k x y : Nat), x < 10 ^ k → 0 < y → dd (x + 10 ^ k * y) = pd k x ++ dd y
  | 0, x, y, hx, _ => by
    have : x = 0 := by simpa using hx
    subst this; simp [pd]
  | k + 1, x, y, hx, hy => by
    have hp : 0 < 10 ^ k := Nat.pow_pos (by omega)
    have h1 : 0 < x + 10 ^ (k + 1) * y := by
      have : 0 < 10 ^ (k + 1) * y := Nat.mul_pos (Nat.pow_pos (by omega)) hy
      omega
    have e : 10 ^ (k + 1) * y = 10 * (10 ^ k * y) := by rw [Nat.pow_succ]; grind
    rw [dd_pos h1, e]
    have h2 : (x + 10 * (10 ^ k * y)) / 10 = x / 10 + 10 ^ k * y := by omega
    have h3 : dc (x + 10 * (10 ^ k * y)) = dc x := by unfold dc; congr 2; omega
    rw [h2, h3, pd_dd k (x / 10) y (by rw [Nat.pow_succ] at hx; omega) hy]
    rfl
/-- what is still to come of a number whose lower part is v (of 9 - k digits), the upper one y -/
def rest (k v y : Nat) : List UInt8 := if y = 0 then dd v else pd (9 - k) v ++ dd y
theorem rest_start (x y : Nat) (hx : x < 1000000000) : dd (x + 1000000000 * y) = rest 0 x y := by
  unfold rest
  split
  · rename_i h; subst h; simp
  · exact pd_dd 9 x y (by omega) (by omega)
theorem rest_step (k v y : Nat) (hk : k < 9) (h : 0 < v ∨ 0 < y) : rest k v y = dc v :: rest (k + 1) (v / 10) y := by
  unfold rest
  split
  · exact dd_pos (by omega)
  · rw [show 9 - k = (9 - (k + 1)) + 1 by omega]; rfl
theorem rest_end (k v y : Nat) (hk : k ≤ 9) (hv : v < 10 ^ (9 - k)) (h : ¬ (k < 9 ∧ (0 < v ∨ 0 < y))) : rest k v y = dd y := by
  unfold rest
  rcases Nat.lt_or_ge k 9 with h9 | h9
  · have : v = 0 ∧ y = 0 := by omega
    rw [this.1, this.2]; simp
  · obtain rfl : k = 9 := by omega
    have : v = 0 := by simpa using hv
    subst this
    split
    · rename_i h; rw [h]
    · simp [pd]
theorem drop_cons' (l : List Nat) (i : Nat) (h : i < l.length) : val (l.drop i) = l.getD i 0 + 1000000000 * val (l.drop (i + 1)) := by
  rw [List.drop_eq_getElem_cons h]; simp [List.getD, h, val]
theorem drop_pos {l : List Nat} (hC : Can l) (i : Nat) : i < l.length ↔ 0 < val (l.drop i) := by
  constructor
  · intro h
    have hne : l.drop i ≠ [] := by intro e; have := congrArg List.length e; simp at this; omega
    have hC2 : Can (l.drop i) := fun _ => by
      have h1 := hC (by intro e; subst e; simp at h)
      rw [List.length_drop]
      have : (l.drop i).getD (l.length - i - 1) 0 = l.getD (l.length - 1) 0 := by
        simp only [List.getD, List.getElem?_drop]; congr 2; omega
      rw [this]; exact h1
    have := (val_zero hC2)
    rcases Nat.eq_zero_or_pos (val (l.drop i)) with e | e
    · exact absurd (this.mp e) hne
    · exact e
  · intro h
    rcases Nat.lt_or_ge i l.length with h1 | h1
    · exact h1
    · rw [List.drop_eq_nil_of_le h1] at h; simp [val] at h
/-- a number's text -/
def txt (x : Int) : List UInt8 := if x = 0 then [48] else (if x < 0 then [45] else []) ++ (dd x.natAbs).reverse
theorem dd_len : ∀ (m n : Nat), n < 10 ^ m → (dd n).length ≤ m
  | 0, n, h => by
    have : n = 0 := by simpa using h
    subst this; simp [dd_zero]
  | m + 1, n, h => by
    rcases Nat.eq_zero_or_pos n with e | e
    · subst e; simp [dd_zero]
    · rw [dd_pos e]
      have := dd_len m (n / 10) (by rw [Nat.pow_succ] at h; omega)
      simp; omega
end Go.Proofs.YtilphcippnfklaaDoor
 namespace Go.Proofs.YtilphcippnfklaaDoor
open Go Go.RowKit
attribute [local irreducible] WL WC WX WQ WK WJ Yld Eff Ef0 Fn
/-- does s begin with p? -/
def isPre (p s : List UInt8) : Bool := decide (p.length ≤ s.length ∧ s.take p.length = p)
theorem hasPrefix_fn (s p : List UInt8) (w : World) (hs : s.length ≤ maxLen) : Fn Tryd.prog 126 ⟨[vs s, vs p]⟩ w fun v w' => v = .bool (isPre p s) ∧ w' = w := by
  refine Fn.enter (by kernel_rfl) Tryd.func126 rfl Tryd.ntmps126 rfl ?_
  simp only [maxLen] at hs
  repeat (first | refine WC.seq ?_ | refine WC.block ?_ | refine WC.region ?_ | refine WL.nil ?_ | refine WX.then_normal ?_ | refine WC.skip ?_ | refine WC.exit ?_ | refine WC.ret ?_ | refine WX.then_exit ?_ | refine WX.then_ret ?_ | refine WX.block_normal ?_ | refine WX.block_ret ?_ | refine WX.block_same ?_ | refine WX.block_other rfl ?_ | refine WC.label ?_ | refine WC.scope ?_ | refine WX.scope_normal ?_ | refine WX.scope_ret ?_ | refine WX.scope_exit ?_ | refine WL.y rfl (Yld.add rfl rfl (by simp only [In]; omega)) ?_ | refine WL.y rfl (Yld.sub rfl rfl (by simp only [In]; omega)) ?_ | refine WL.y rfl (Yld.mul rfl rfl (by simp only [In]; omega)) ?_ | refine WL.y rfl (Yld.convB tab_ok rfl rfl rfl rfl) ?_ | refine WL.y rfl (Yld.conv tab_ok rfl rfl rfl (by simp only [In]; omega)) ?_ | refine WL.y rfl (Yld.quo rfl rfl (by omega) (by omega) (by simp only [In]; omega)) ?_ | refine WL.y rfl (Yld.rem rfl rfl (by omega) (by omega)) ?_ | refine WL.y rfl (Yld.shl rfl rfl (by omega)) ?_ | refine WL.y rfl (Yld.shr rfl rfl (by omega)) ?_ | refine WL.y rfl (Yld.pure tab_ok rfl) ?_ | refine WL.y rfl (Yld.fld flds_ok rfl rfl rfl) ?_ | refine WL.y rfl (Yld.max2 rfl rfl) ?_ | refine WL.y rfl (Yld.min2 rfl rfl) ?_ | refine WL.y rfl (Yld.pickV rfl rfl rfl) ?_ | refine WL.gno rfl rfl rfl rfl ?_ | refine WL.gyes rfl rfl rfl rfl (Yld.add rfl rfl (by simp only [In]; omega)) ?_ | refine WL.gyes rfl rfl rfl rfl (Yld.sub rfl rfl (by simp only [In]; omega)) ?_ | refine WL.gyes rfl rfl rfl rfl (Yld.mul rfl rfl (by simp only [In]; omega)) ?_ | refine WL.gyes rfl rfl rfl rfl (Yld.convB tab_ok rfl rfl rfl rfl) ?_ | refine WL.gyes rfl rfl rfl rfl (Yld.conv tab_ok rfl rfl rfl (by simp only [In]; omega)) ?_ | refine WL.gyes rfl rfl rfl rfl (Yld.quo rfl rfl (by omega) (by omega) (by simp only [In]; omega)) ?_ | refine WL.gyes rfl rfl rfl rfl (Yld.rem rfl rfl (by omega) (by omega)) ?_ | refine WL.gyes rfl rfl rfl rfl (Yld.shl rfl rfl (by omega)) ?_ | refine WL.gyes rfl rfl rfl rfl (Yld.shr rfl rfl (by omega)) ?_ | refine WL.gyes rfl rfl rfl rfl (Yld.pure tab_ok rfl) ?_ | refine WL.gyes rfl rfl rfl rfl (Yld.fld flds_ok rfl rfl rfl) ?_ | refine WL.gyes rfl rfl rfl rfl (Yld.max2 rfl rfl) ?_ | refine WL.gyes rfl rfl rfl rfl (Yld.min2 rfl rfl) ?_ | refine WL.gyes rfl rfl rfl rfl (Yld.pickV rfl rfl rfl) ?_ | refine WL.gun rfl rfl rfl rfl ?_)
  rcases Nat.lt_or_ge s.length p.length with h | h
  · have e : decide ((p.length : Int) ≤ (s.length : Int)) = false := decide_eq_false (by omega)
    have e2 : isPre p s = false := decide_eq_false (by omega)
    rw [e]
    repeat (first | refine WC.seq ?_ | refine WC.block ?_ | refine WC.region ?_ | refine WL.nil ?_ | refine WX.then_normal ?_ | refine WC.skip ?_ | refine WC.exit ?_ | refine WC.ret ?_ | refine WX.then_exit ?_ | refine WX.then_ret ?_ | refine WX.block_normal ?_ | refine WX.block_ret ?_ | refine WX.block_same ?_ | refine WX.block_other rfl ?_ | refine WC.label ?_ | refine WC.scope ?_ | refine WX.scope_normal ?_ | refine WX.scope_ret ?_ | refine WX.scope_exit ?_ | refine WL.y rfl (Yld.add rfl rfl (by simp only [In]; omega)) ?_ | refine WL.y rfl (Yld.sub rfl rfl (by simp only [In]; omega)) ?_ | refine WL.y rfl (Yld.mul rfl rfl (by simp only [In]; omega)) ?_ | refine WL.y rfl (Yld.convB tab_ok rfl rfl rfl rfl) ?_ | refine WL.y rfl (Yld.conv tab_ok rfl rfl rfl (by simp only [In]; omega)) ?_ | refine WL.y rfl (Yld.quo rfl rfl (by omega) (by omega) (by simp only [In]; omega)) ?_ | refine WL.y rfl (Yld.rem rfl rfl (by omega) (by omega)) ?_ | refine WL.y rfl (Yld.shl rfl rfl (by omega)) ?_ | refine WL.y rfl (Yld.shr rfl rfl (by omega)) ?_ | refine WL.y rfl (Yld.pure tab_ok rfl) ?_ | refine WL.y rfl (Yld.fld flds_ok rfl rfl rfl) ?_ | refine WL.y rfl (Yld.max2 rfl rfl) ?_ | refine WL.y rfl (Yld.min2 rfl rfl) ?_ | refine WL.y rfl (Yld.pickV rfl rfl rfl) ?_ | refine WL.gno rfl rfl rfl rfl ?_ | refine WL.gyes rfl rfl rfl rfl (Yld.add rfl rfl (by simp only [In]; omega)) ?_ | refine WL.gyes rfl rfl rfl rfl (Yld.sub rfl rfl (by simp only [In]; omega)) ?_ | refine WL.gyes rfl rfl rfl rfl (Yld.mul rfl rfl (by simp only [In]; omega)) ?_ | refine WL.gyes rfl rfl rfl rfl (Yld.convB tab_ok rfl rfl rfl rfl) ?_ | refine WL.gyes rfl rfl rfl rfl (Yld.conv tab_ok rfl rfl rfl (by simp only [In]; omega)) ?_ | refine WL.gyes rfl rfl rfl rfl (Yld.quo rfl rfl (by omega) (by omega) (by simp only [In]; omega)) ?_ | refine WL.gyes rfl rfl rfl rfl (Yld.rem rfl rfl (by omega) (by omega)) ?_ | refine WL.gyes rfl rfl rfl rfl (Yld.shl rfl rfl (by omega)) ?_ | refine WL.gyes rfl rfl rfl rfl (Yld.shr rfl rfl (by omega)) ?_ | refine WL.gyes rfl rfl rfl rfl (Yld.pure tab_ok rfl) ?_ | refine WL.gyes rfl rfl rfl rfl (Yld.fld flds_ok rfl rfl rfl) ?_ | refine WL.gyes rfl rfl rfl rfl (Yld.max2 rfl rfl) ?_ | refine WL.gyes rfl rfl rfl rfl (Yld.min2 rfl rfl) ?_ | refine WL.gyes rfl rfl rfl rfl (Yld.pickV rfl rfl rfl) ?_ | refine WL.gun rfl rfl rfl rfl ?_)
    exact WX.ret1 rfl rfl ⟨by rw [e2]; rfl, rfl⟩
  · have e : decide ((p.length : Int) ≤ (s.length : Int)) = true := decide_eq_true (by omega)
    have e2 : isPre p s = decide (s.take p.length = p) := by unfold isPre; rw [decide_eq_decide]; simp [h]
    rw [e]
    repeat (first | refine WL.gyes rfl rfl rfl rfl (Yld.scut tab_ok rfl rfl rfl rfl (by omega) (by omega) (by omega)) ?_ | refine WC.seq ?_ | refine WC.block ?_ | refine WC.region ?_ | refine WL.nil ?_ | refine WX.then_normal ?_ | refine WC.skip ?_ | refine WC.exit ?_ | refine WC.ret ?_ | refine WX.then_exit ?_ | refine WX.then_ret ?_ | refine WX.block_normal ?_ | refine WX.block_ret ?_ | refine WX.block_same ?_ | refine WX.block_other rfl ?_ | refine WC.label ?_ | refine WC.scope ?_ | refine WX.scope_normal ?_ | refine WX.scope_ret ?_ | refine WX.scope_exit ?_ | refine WL.y rfl (Yld.add rfl rfl (by simp only [In]; omega)) ?_ | refine WL.y rfl (Yld.sub rfl rfl (by simp only [In]; omega)) ?_ | refine WL.y rfl (Yld.mul rfl rfl (by simp only [In]; omega)) ?_ | refine WL.y rfl (Yld.convB tab_ok rfl rfl rfl rfl) ?_ | refine WL.y rfl (Yld.conv tab_ok rfl rfl rfl (by simp only [In]; omega)) ?_ | refine WL.y rfl (Yld.quo rfl rfl (by omega) (by omega) (by simp only [In]; omega)) ?_ | refine WL.y rfl (Yld.rem rfl rfl (by omega) (by omega)) ?_ | refine WL.y rfl (Yld.shl rfl rfl (by omega)) ?_ | refine WL.y rfl (Yld.shr rfl rfl (by omega)) ?_ | refine WL.y rfl (Yld.pure tab_ok rfl) ?_ | refine WL.y rfl (Yld.fld flds_ok rfl rfl rfl) ?_ | refine WL.y rfl (Yld.max2 rfl rfl) ?_ | refine WL.y rfl (Yld.min2 rfl rfl) ?_ | refine WL.y rfl (Yld.pickV rfl rfl rfl) ?_ | refine WL.gno rfl rfl rfl rfl ?_ | refine WL.gyes rfl rfl rfl rfl (Yld.add rfl rfl (by simp only [In]; omega)) ?_ | refine WL.gyes rfl rfl rfl rfl (Yld.sub rfl rfl (by simp only [In]; omega)) ?_ | refine WL.gyes rfl rfl rfl rfl (Yld.mul rfl rfl (by simp only [In]; omega)) ?_ | refine WL.gyes rfl rfl rfl rfl (Yld.convB tab_ok rfl rfl rfl rfl) ?_ | refine WL.gyes rfl rfl rfl rfl (Yld.conv tab_ok rfl rfl rfl (by simp only [In]; omega)) ?_ | refine WL.gyes rfl rfl rfl rfl (Yld.quo rfl rfl (by omega) (by omega) (by simp only [In]; omega)) ?_ | refine WL.gyes rfl rfl rfl rfl (Yld.rem rfl rfl (by omega) (by omega)) ?_ | refine WL.gyes rfl rfl rfl rfl (Yld.shl rfl rfl (by omega)) ?_ | refine WL.gyes rfl rfl rfl rfl (Yld.shr rfl rfl (by omega)) ?_ | refine WL.gyes rfl rfl rfl rfl (Yld.pure tab_ok rfl) ?_ | refine WL.gyes rfl rfl rfl rfl (Yld.fld flds_ok rfl rfl rfl) ?_ | refine WL.gyes rfl rfl rfl rfl (Yld.max2 rfl rfl) ?_ | refine WL.gyes rfl rfl rfl rfl (Yld.min2 rfl rfl) ?_ | refine WL.gyes rfl rfl rfl rfl (Yld.pickV rfl rfl rfl) ?_ | refine WL.gun rfl rfl rfl rfl ?_)
    refine WX.ret1 rfl rfl ⟨?_, rfl⟩
    rw [e2]
    simp
theorem cutPrefix_fn (s p : List UInt8) (w : World) (hs : s.length ≤ maxLen) : Fn Tryd.prog 104 ⟨[vs s, vs p]⟩ w fun v w' => v = .tuple #[vs (if isPre p s then s.drop p.length else s), .bool (isPre p s)] ∧ w' = w := by
  have hs' := hs
  simp only [maxLen] at hs'
  refine Fn.enter (by kernel_rfl) Tryd.func104 rfl Tryd.ntmps104 rfl ?_
  repeat (first | refine WC.seq ?_ | refine WC.block ?_ | refine WC.region ?_ | refine WL.nil ?_ | refine WX.then_normal ?_ | refine WC.skip ?_ | refine WC.exit ?_ | refine WC.ret ?_ | refine WX.then_exit ?_ | refine WX.then_ret ?_ | refine WX.block_normal ?_ | refine WX.block_ret ?_ | refine WX.block_same ?_ | refine WX.block_other rfl ?_ | refine WC.label ?_ | refine WC.scope ?_ | refine WX.scope_normal ?_ | refine WX.scope_ret ?_ | refine WX.scope_exit ?_ | refine WL.y rfl (Yld.add rfl rfl (by simp only [In]; omega)) ?_ | refine WL.y rfl (Yld.sub rfl rfl (by simp only [In]; omega)) ?_ | refine WL.y rfl (Yld.mul rfl rfl (by simp only [In]; omega)) ?_ | refine WL.y rfl (Yld.convB tab_ok rfl rfl rfl rfl) ?_ | refine WL.y rfl (Yld.conv tab_ok rfl rfl rfl (by simp only [In]; omega)) ?_ | refine WL.y rfl (Yld.quo rfl rfl (by omega) (by omega) (by simp only [In]; omega)) ?_ | refine WL.y rfl (Yld.rem rfl rfl (by omega) (by omega)) ?_ | refine WL.y rfl (Yld.shl rfl rfl (by omega)) ?_ | refine WL.y rfl (Yld.shr rfl rfl (by omega)) ?_ | refine WL.y rfl (Yld.pure tab_ok rfl) ?_ | refine WL.y rfl (Yld.fld flds_ok rfl rfl rfl) ?_ | refine WL.y rfl (Yld.max2 rfl rfl) ?_ | refine WL.y rfl (Yld.min2 rfl rfl) ?_ | refine WL.y rfl (Yld.pickV rfl rfl rfl) ?_ | refine WL.gno rfl rfl rfl rfl ?_ | refine WL.gyes rfl rfl rfl rfl (Yld.add rfl rfl (by simp only [In]; omega)) ?_ | refine WL.gyes rfl rfl rfl rfl (Yld.sub rfl rfl (by simp only [In]; omega)) ?_ | refine WL.gyes rfl rfl rfl rfl (Yld.mul rfl rfl (by simp only [In]; omega)) ?_ | refine WL.gyes rfl rfl rfl rfl (Yld.convB tab_ok rfl rfl rfl rfl) ?_ | refine WL.gyes rfl rfl rfl rfl (Yld.conv tab_ok rfl rfl rfl (by simp only [In]; omega)) ?_ | refine WL.gyes rfl rfl rfl rfl (Yld.quo rfl rfl (by omega) (by omega) (by simp only [In]; omega)) ?_ | refine WL.gyes rfl rfl rfl rfl (Yld.rem rfl rfl (by omega) (by omega)) ?_ | refine WL.gyes rfl rfl rfl rfl (Yld.shl rfl rfl (by omega)) ?_ | refine WL.gyes rfl rfl rfl rfl (Yld.shr rfl rfl (by omega)) ?_ | refine WL.gyes rfl rfl rfl rfl (Yld.pure tab_ok rfl) ?_ | refine WL.gyes rfl rfl rfl rfl (Yld.fld flds_ok rfl rfl rfl) ?_ | refine WL.gyes rfl rfl rfl rfl (Yld.max2 rfl rfl) ?_ | refine WL.gyes rfl rfl rfl rfl (Yld.min2 rfl rfl) ?_ | refine WL.gyes rfl rfl rfl rfl (Yld.pickV rfl rfl rfl) ?_ | refine WL.gun rfl rfl rfl rfl ?_)
  refine WL.call rfl rfl (hasPrefix_fn s p w hs) ?_
  rintro _ w1 ⟨rfl, hw⟩
  have hw2 := hw.symm
  subst hw2
  repeat (first | refine WC.seq ?_ | refine WC.block ?_ | refine WC.region ?_ | refine WL.nil ?_ | refine WX.then_normal ?_ | refine WC.skip ?_ | refine WC.exit ?_ | refine WC.ret ?_ | refine WX.then_exit ?_ | refine WX.then_ret ?_ | refine WX.block_normal ?_ | refine WX.block_ret ?_ | refine WX.block_same ?_ | refine WX.block_other rfl ?_ | refine WC.label ?_ | refine WC.scope ?_ | refine WX.scope_normal ?_ | refine WX.scope_ret ?_ | refine WX.scope_exit ?_ | refine WL.y rfl (Yld.add rfl rfl (by simp only [In]; omega)) ?_ | refine WL.y rfl (Yld.sub rfl rfl (by simp only [In]; omega)) ?_ | refine WL.y rfl (Yld.mul rfl rfl (by simp only [In]; omega)) ?_ | refine WL.y rfl (Yld.convB tab_ok rfl rfl rfl rfl) ?_ | refine WL.y rfl (Yld.conv tab_ok rfl rfl rfl (by simp only [In]; omega)) ?_ | refine WL.y rfl (Yld.quo rfl rfl (by omega) (by omega) (by simp only [In]; omega)) ?_ | refine WL.y rfl (Yld.rem rfl rfl (by omega) (by omega)) ?_ | refine WL.y rfl (Yld.shl rfl rfl (by omega)) ?_ | refine WL.y rfl (Yld.shr rfl rfl (by omega)) ?_ | refine WL.y rfl (Yld.pure tab_ok rfl) ?_ | refine WL.y rfl (Yld.fld flds_ok rfl rfl rfl) ?_ | refine WL.y rfl (Yld.max2 rfl rfl) ?_ | refine WL.y rfl (Yld.min2 rfl rfl) ?_ | refine WL.y rfl (Yld.pickV rfl rfl rfl) ?_ | refine WL.gno rfl rfl rfl rfl ?_ | refine WL.gyes rfl rfl rfl rfl (Yld.add rfl rfl (by simp only [In]; omega)) ?_ | refine WL.gyes rfl rfl rfl rfl (Yld.sub rfl rfl (by simp only [In]; omega)) ?_ | refine WL.gyes rfl rfl rfl rfl (Yld.mul rfl rfl (by simp only [In]; omega)) ?_ | refine WL.gyes rfl rfl rfl rfl (Yld.convB tab_ok rfl rfl rfl rfl) ?_ | refine WL.gyes rfl rfl rfl rfl (Yld.conv tab_ok rfl rfl rfl (by simp only [In]; omega)) ?_ | refine WL.gyes rfl rfl rfl rfl (Yld.quo rfl rfl (by omega) (by omega) (by simp only [In]; omega)) ?_ | refine WL.gyes rfl rfl rfl rfl (Yld.rem rfl rfl (by omega) (by omega)) ?_ | refine WL.gyes rfl rfl rfl rfl (Yld.shl rfl rfl (by omega)) ?_ | refine WL.gyes rfl rfl rfl rfl (Yld.shr rfl rfl (by omega)) ?_ | refine WL.gyes rfl rfl rfl rfl (Yld.pure tab_ok rfl) ?_ | refine WL.gyes rfl rfl rfl rfl (Yld.fld flds_ok rfl rfl rfl) ?_ | refine WL.gyes rfl rfl rfl rfl (Yld.max2 rfl rfl) ?_ | refine WL.gyes rfl rfl rfl rfl (Yld.min2 rfl rfl) ?_ | refine WL.gyes rfl rfl rfl rfl (Yld.pickV rfl rfl rfl) ?_ | refine WL.gun rfl rfl rfl rfl ?_)
  refine WC.cond rfl (fun h => ?_) (fun h => ?_)
  · have h' : isPre p s = false := by simpa using h
    repeat (first | refine WC.seq ?_ | refine WC.block ?_ | refine WC.region ?_ | refine WL.nil ?_ | refine WX.then_normal ?_ | refine WC.skip ?_ | refine WC.exit ?_ | refine WC.ret ?_ | refine WX.then_exit ?_ | refine WX.then_ret ?_ | refine WX.block_normal ?_ | refine WX.block_ret ?_ | refine WX.block_same ?_ | refine WX.block_other rfl ?_ | refine WC.label ?_ | refine WC.scope ?_ | refine WX.scope_normal ?_ | refine WX.scope_ret ?_ | refine WX.scope_exit ?_ | refine WL.y rfl (Yld.add rfl rfl (by simp only [In]; omega)) ?_ | refine WL.y rfl (Yld.sub rfl rfl (by simp only [In]; omega)) ?_ | refine WL.y rfl (Yld.mul rfl rfl (by simp only [In]; omega)) ?_ | refine WL.y rfl (Yld.convB tab_ok rfl rfl rfl rfl) ?_ | refine WL.y rfl (Yld.conv tab_ok rfl rfl rfl (by simp only [In]; omega)) ?_ | refine WL.y rfl (Yld.quo rfl rfl (by omega) (by omega) (by simp only [In]; omega)) ?_ | refine WL.y rfl (Yld.rem rfl rfl (by omega) (by omega)) ?_ | refine WL.y rfl (Yld.shl rfl rfl (by omega)) ?_ | refine WL.y rfl (Yld.shr rfl rfl (by omega)) ?_ | refine WL.y rfl (Yld.pure tab_ok rfl) ?_ | refine WL.y rfl (Yld.fld flds_ok rfl rfl rfl) ?_ | refine WL.y rfl (Yld.max2 rfl rfl) ?_ | refine WL.y rfl (Yld.min2 rfl rfl) ?_ | refine WL.y rfl (Yld.pickV rfl rfl rfl) ?_ | refine WL.gno rfl rfl rfl rfl ?_ | refine WL.gyes rfl rfl rfl rfl (Yld.add rfl rfl (by simp only [In]; omega)) ?_ | refine WL.gyes rfl rfl rfl rfl (Yld.sub rfl rfl (by simp only [In]; omega)) ?_ | refine WL.gyes rfl rfl rfl rfl (Yld.mul rfl rfl (by simp only [In]; omega)) ?_ | refine WL.gyes rfl rfl rfl rfl (Yld.convB tab_ok rfl rfl rfl rfl) ?_ | refine WL.gyes rfl rfl rfl rfl (Yld.conv tab_ok rfl rfl rfl (by simp only [In]; omega)) ?_ | refine WL.gyes rfl rfl rfl rfl (Yld.quo rfl rfl (by omega) (by omega) (by simp only [In]; omega)) ?_ | refine WL.gyes rfl rfl rfl rfl (Yld.rem rfl rfl (by omega) (by omega)) ?_ | refine WL.gyes rfl rfl rfl rfl (Yld.shl rfl rfl (by omega)) ?_ | refine WL.gyes rfl rfl rfl rfl (Yld.shr rfl rfl (by omega)) ?_ | refine WL.gyes rfl rfl rfl rfl (Yld.pure tab_ok rfl) ?_ | refine WL.gyes rfl rfl rfl rfl (Yld.fld flds_ok rfl rfl rfl) ?_ | refine WL.gyes rfl rfl rfl rfl (Yld.max2 rfl rfl) ?_ | refine WL.gyes rfl rfl rfl rfl (Yld.min2 rfl rfl) ?_ | refine WL.gyes rfl rfl rfl rfl (Yld.pickV rfl rfl rfl) ?_ | refine WL.gun rfl rfl rfl rfl ?_)
    exact WX.ret2 rfl rfl rfl ⟨by rw [h']; rfl, rfl⟩
  · have h' : isPre p s = true := by simpa using h
    have hl : p.length ≤ s.length := (of_decide_eq_true h').1
    repeat (first | refine WL.y rfl (Yld.scut tab_ok rfl rfl rfl rfl (by omega) (by omega) (by omega)) ?_ | refine WC.seq ?_ | refine WC.block ?_ | refine WC.region ?_ | refine WL.nil ?_ | refine WX.then_normal ?_ | refine WC.skip ?_ | refine WC.exit ?_ | refine WC.ret ?_ | refine WX.then_exit ?_ | refine WX.then_ret ?_ | refine WX.block_normal ?_ | refine WX.block_ret ?_ | refine WX.block_same ?_ | refine WX.block_other rfl ?_ | refine WC.label ?_ | refine WC.scope ?_ | refine WX.scope_normal ?_ | refine WX.scope_ret ?_ | refine WX.scope_exit ?_ | refine WL.y rfl (Yld.add rfl rfl (by simp only [In]; omega)) ?_ | refine WL.y rfl (Yld.sub rfl rfl (by simp only [In]; omega)) ?_ | refine WL.y rfl (Yld.mul rfl rfl (by simp only [In]; omega)) ?_ | refine WL.y rfl (Yld.convB tab_ok rfl rfl rfl rfl) ?_ | refine WL.y rfl (Yld.conv tab_ok rfl rfl rfl (by simp only [In]; omega)) ?_ | refine WL.y rfl (Yld.quo rfl rfl (by omega) (by omega) (by simp only [In]; omega)) ?_ | refine WL.y rfl (Yld.rem rfl rfl (by omega) (by omega)) ?_ | refine WL.y rfl (Yld.shl rfl rfl (by omega)) ?_ | refine WL.y rfl (Yld.shr rfl rfl (by omega)) ?_ | refine WL.y rfl (Yld.pure tab_ok rfl) ?_ | refine WL.y rfl (Yld.fld flds_ok rfl rfl rfl) ?_ | refine WL.y rfl (Yld.max2 rfl rfl) ?_ | refine WL.y rfl (Yld.min2 rfl rfl) ?_ | refine WL.y rfl (Yld.pickV rfl rfl rfl) ?_ | refine WL.gno rfl rfl rfl rfl ?_ | refine WL.gyes rfl rfl rfl rfl (Yld.add rfl rfl (by simp only [In]; omega)) ?_ | refine WL.gyes rfl rfl rfl rfl (Yld.sub rfl rfl (by simp only [In]; omega)) ?_ | refine WL.gyes rfl rfl rfl rfl (Yld.mul rfl rfl (by simp only [In]; omega)) ?_ | refine WL.gyes rfl rfl rfl rfl (Yld.convB tab_ok rfl rfl rfl rfl) ?_ | refine WL.gyes rfl rfl rfl rfl (Yld.conv tab_ok rfl rfl rfl (by simp only [In]; omega)) ?_ | refine WL.gyes rfl rfl rfl rfl (Yld.quo rfl rfl (by omega) (by omega) (by simp only [In]; omega)) ?_ | refine WL.gyes rfl rfl rfl rfl (Yld.rem rfl rfl (by omega) (by omega)) ?_ | refine WL.gyes rfl rfl rfl rfl (Yld.shl rfl rfl (by omega)) ?_ | refine WL.gyes rfl rfl rfl rfl (Yld.shr rfl rfl (by omega)) ?_ | refine WL.gyes rfl rfl rfl rfl (Yld.pure tab_ok rfl) ?_ | refine WL.gyes rfl rfl rfl rfl (Yld.fld flds_ok rfl rfl rfl) ?_ | refine WL.gyes rfl rfl rfl rfl (Yld.max2 rfl rfl) ?_ | refine WL.gyes rfl rfl rfl rfl (Yld.min2 rfl rfl) ?_ | refine WL.gyes rfl rfl rfl rfl (Yld.pickV rfl rfl rfl) ?_ | refine WL.gun rfl rfl rfl rfl ?_)
    refine WX.ret2 rfl rfl rfl ⟨?_, rfl⟩
    rw [h', if_pos rfl]
    congr 2
    simp [vs]
    rw [List.take_of_length_le (by simp)]
theorem scutPrefix_fn (s p : List UInt8) (w : World) (hs : s.length ≤ maxLen) : Fn Tryd.prog 68 ⟨[vs s, vs p]⟩ w fun v w' => v = .tuple #[vs (if isPre p s then s.drop p.length else s), .bool (isPre p s)] ∧ w' = w := by
  refine Fn.enter (by kernel_rfl) Tryd.func68 rfl Tryd.ntmps68 rfl ?_
  repeat (first | refine WC.seq ?_ | refine WC.block ?_ | refine WC.region ?_ | refine WL.nil ?_ | refine WX.then_normal ?_ | refine WC.skip ?_ | refine WC.exit ?_ | refine WC.ret ?_ | refine WX.then_exit ?_ | refine WX.then_ret ?_ | refine WX.block_normal ?_ | refine WX.block_ret ?_ | refine WX.block_same ?_ | refine WX.block_other rfl ?_ | refine WC.label ?_ | refine WC.scope ?_ | refine WX.scope_normal ?_ | refine WX.scope_ret ?_ | refine WX.scope_exit ?_ | refine WL.y rfl (Yld.add rfl rfl (by simp only [In]; omega)) ?_ | refine WL.y rfl (Yld.sub rfl rfl (by simp only [In]; omega)) ?_ | refine WL.y rfl (Yld.mul rfl rfl (by simp only [In]; omega)) ?_ | refine WL.y rfl (Yld.convB tab_ok rfl rfl rfl rfl) ?_ | refine WL.y rfl (Yld.conv tab_ok rfl rfl rfl (by simp only [In]; omega)) ?_ | refine WL.y rfl (Yld.quo rfl rfl (by omega) (by omega) (by simp only [In]; omega)) ?_ | refine WL.y rfl (Yld.rem rfl rfl (by omega) (by omega)) ?_ | refine WL.y rfl (Yld.shl rfl rfl (by omega)) ?_ | refine WL.y rfl (Yld.shr rfl rfl (by omega)) ?_ | refine WL.y rfl (Yld.pure tab_ok rfl) ?_ | refine WL.y rfl (Yld.fld flds_ok rfl rfl rfl) ?_ | refine WL.y rfl (Yld.max2 rfl rfl) ?_ | refine WL.y rfl (Yld.min2 rfl rfl) ?_ | refine WL.y rfl (Yld.pickV rfl rfl rfl) ?_ | refine WL.gno rfl rfl rfl rfl ?_ | refine WL.gyes rfl rfl rfl rfl (Yld.add rfl rfl (by simp only [In]; omega)) ?_ | refine WL.gyes rfl rfl rfl rfl (Yld.sub rfl rfl (by simp only [In]; omega)) ?_ | refine WL.gyes rfl rfl rfl rfl (Yld.mul rfl rfl (by simp only [In]; omega)) ?_ | refine WL.gyes rfl rfl rfl rfl (Yld.convB tab_ok rfl rfl rfl rfl) ?_ | refine WL.gyes rfl rfl rfl rfl (Yld.conv tab_ok rfl rfl rfl (by simp only [In]; omega)) ?_ | refine WL.gyes rfl rfl rfl rfl (Yld.quo rfl rfl (by omega) (by omega) (by simp only [In]; omega)) ?_ | refine WL.gyes rfl rfl rfl rfl (Yld.rem rfl rfl (by omega) (by omega)) ?_ | refine WL.gyes rfl rfl rfl rfl (Yld.shl rfl rfl (by omega)) ?_ | refine WL.gyes rfl rfl rfl rfl (Yld.shr rfl rfl (by omega)) ?_ | refine WL.gyes rfl rfl rfl rfl (Yld.pure tab_ok rfl) ?_ | refine WL.gyes rfl rfl rfl rfl (Yld.fld flds_ok rfl rfl rfl) ?_ | refine WL.gyes rfl rfl rfl rfl (Yld.max2 rfl rfl) ?_ | refine WL.gyes rfl rfl rfl rfl (Yld.min2 rfl rfl) ?_ | refine WL.gyes rfl rfl rfl rfl (Yld.pickV rfl rfl rfl) ?_ | refine WL.gun rfl rfl rfl rfl ?_)
  refine WL.call rfl rfl (cutPrefix_fn s p w hs) ?_
  rintro _ w1 ⟨rfl, hw⟩
  have hw2 := hw.symm
  subst hw2
  repeat (first | refine WC.seq ?_ | refine WC.block ?_ | refine WC.region ?_ | refine WL.nil ?_ | refine WX.then_normal ?_ | refine WC.skip ?_ | refine WC.exit ?_ | refine WC.ret ?_ | refine WX.then_exit ?_ | refine WX.then_ret ?_ | refine WX.block_normal ?_ | refine WX.block_ret ?_ | refine WX.block_same ?_ | refine WX.block_other rfl ?_ | refine WC.label ?_ | refine WC.scope ?_ | refine WX.scope_normal ?_ | refine WX.scope_ret ?_ | refine WX.scope_exit ?_ | refine WL.y rfl (Yld.add rfl rfl (by simp only [In]; omega)) ?_ | refine WL.y rfl (Yld.sub rfl rfl (by simp only [In]; omega)) ?_ | refine WL.y rfl (Yld.mul rfl rfl (by simp only [In]; omega)) ?_ | refine WL.y rfl (Yld.convB tab_ok rfl rfl rfl rfl) ?_ | refine WL.y rfl (Yld.conv tab_ok rfl rfl rfl (by simp only [In]; omega)) ?_ | refine WL.y rfl (Yld.quo rfl rfl (by omega) (by omega) (by simp only [In]; omega)) ?_ | refine WL.y rfl (Yld.rem rfl rfl (by omega) (by omega)) ?_ | refine WL.y rfl (Yld.shl rfl rfl (by omega)) ?_ | refine WL.y rfl (Yld.shr rfl rfl (by omega)) ?_ | refine WL.y rfl (Yld.pure tab_ok rfl) ?_ | refine WL.y rfl (Yld.fld flds_ok rfl rfl rfl) ?_ | refine WL.y rfl (Yld.max2 rfl rfl) ?_ | refine WL.y rfl (Yld.min2 rfl rfl) ?_ | refine WL.y rfl (Yld.pickV rfl rfl rfl) ?_ | refine WL.gno rfl rfl rfl rfl ?_ | refine WL.gyes rfl rfl rfl rfl (Yld.add rfl rfl (by simp only [In]; omega)) ?_ | refine WL.gyes rfl rfl rfl rfl (Yld.sub rfl rfl (by simp only [In]; omega)) ?_ | refine WL.gyes rfl rfl rfl rfl (Yld.mul rfl rfl (by simp only [In]; omega)) ?_ | refine WL.gyes rfl rfl rfl rfl (Yld.convB tab_ok rfl rfl rfl rfl) ?_ | refine WL.gyes rfl rfl rfl rfl (Yld.conv tab_ok rfl rfl rfl (by simp only [In]; omega)) ?_ | refine WL.gyes rfl rfl rfl rfl (Yld.quo rfl rfl (by omega) (by omega) (by simp only [In]; omega)) ?_ | refine WL.gyes rfl rfl rfl rfl (Yld.rem rfl rfl (by omega) (by omega)) ?_ | refine WL.gyes rfl rfl rfl rfl (Yld.shl rfl rfl (by omega)) ?_ | refine WL.gyes rfl rfl rfl rfl (Yld.shr rfl rfl (by omega)) ?_ | refine WL.gyes rfl rfl rfl rfl (Yld.pure tab_ok rfl) ?_ | refine WL.gyes rfl rfl rfl rfl (Yld.fld flds_ok rfl rfl rfl) ?_ | refine WL.gyes rfl rfl rfl rfl (Yld.max2 rfl rfl) ?_ | refine WL.gyes rfl rfl rfl rfl (Yld.min2 rfl rfl) ?_ | refine WL.gyes rfl rfl rfl rfl (Yld.pickV rfl rfl rfl) ?_ | refine WL.gun rfl rfl rfl rfl ?_)
  exact WX.ret2 rfl rfl rfl ⟨rfl, rfl⟩
theorem trimPrefix_fn (s p : List UInt8) (w : World) (hs : s.length ≤ maxLen) : Fn Tryd.prog 107 ⟨[vs s, vs p]⟩ w fun v w' => v = vs (if isPre p s then s.drop p.length else s) ∧ w' = w := by
  have hs' := hs
  simp only [maxLen] at hs'
  refine Fn.enter (by kernel_rfl) Tryd.func107 rfl Tryd.ntmps107 rfl ?_
  repeat (first | refine WC.seq ?_ | refine WC.block ?_ | refine WC.region ?_ | refine WL.nil ?_ | refine WX.then_normal ?_ | refine WC.skip ?_ | refine WC.exit ?_ | refine WC.ret ?_ | refine WX.then_exit ?_ | refine WX.then_ret ?_ | refine WX.block_normal ?_ | refine WX.block_ret ?_ | refine WX.block_same ?_ | refine WX.block_other rfl ?_ | refine WC.label ?_ | refine WC.scope ?_ | refine WX.scope_normal ?_ | refine WX.scope_ret ?_ | refine WX.scope_exit ?_ | refine WL.y rfl (Yld.add rfl rfl (by simp only [In]; omega)) ?_ | refine WL.y rfl (Yld.sub rfl rfl (by simp only [In]; omega)) ?_ | refine WL.y rfl (Yld.mul rfl rfl (by simp only [In]; omega)) ?_ | refine WL.y rfl (Yld.convB tab_ok rfl rfl rfl rfl) ?_ | refine WL.y rfl (Yld.conv tab_ok rfl rfl rfl (by simp only [In]; omega)) ?_ | refine WL.y rfl (Yld.quo rfl rfl (by omega) (by omega) (by simp only [In]; omega)) ?_ | refine WL.y rfl (Yld.rem rfl rfl (by omega) (by omega)) ?_ | refine WL.y rfl (Yld.shl rfl rfl (by omega)) ?_ | refine WL.y rfl (Yld.shr rfl rfl (by omega)) ?_ | refine WL.y rfl (Yld.pure tab_ok rfl) ?_ | refine WL.y rfl (Yld.fld flds_ok rfl rfl rfl) ?_ | refine WL.y rfl (Yld.max2 rfl rfl) ?_ | refine WL.y rfl (Yld.min2 rfl rfl) ?_ | refine WL.y rfl (Yld.pickV rfl rfl rfl) ?_ | refine WL.gno rfl rfl rfl rfl ?_ | refine WL.gyes rfl rfl rfl rfl (Yld.add rfl rfl (by simp only [In]; omega)) ?_ | refine WL.gyes rfl rfl rfl rfl (Yld.sub rfl rfl (by simp only [In]; omega)) ?_ | refine WL.gyes rfl rfl rfl rfl (Yld.mul rfl rfl (by simp only [In]; omega)) ?_ | refine WL.gyes rfl rfl rfl rfl (Yld.convB tab_ok rfl rfl rfl rfl) ?_ | refine WL.gyes rfl rfl rfl rfl (Yld.conv tab_ok rfl rfl rfl (by simp only [In]; omega)) ?_ | refine WL.gyes rfl rfl rfl rfl (Yld.quo rfl rfl (by omega) (by omega) (by simp only [In]; omega)) ?_ | refine WL.gyes rfl rfl rfl rfl (Yld.rem rfl rfl (by omega) (by omega)) ?_ | refine WL.gyes rfl rfl rfl rfl (Yld.shl rfl rfl (by omega)) ?_ | refine WL.gyes rfl rfl rfl rfl (Yld.shr rfl rfl (by omega)) ?_ | refine WL.gyes rfl rfl rfl rfl (Yld.pure tab_ok rfl) ?_ | refine WL.gyes rfl rfl rfl rfl (Yld.fld flds_ok rfl rfl rfl) ?_ | refine WL.gyes rfl rfl rfl rfl (Yld.max2 rfl rfl) ?_ | refine WL.gyes rfl rfl rfl rfl (Yld.min2 rfl rfl) ?_ | refine WL.gyes rfl rfl rfl rfl (Yld.pickV rfl rfl rfl) ?_ | refine WL.gun rfl rfl rfl rfl ?_)
  refine WL.call rfl rfl (hasPrefix_fn s p w hs) ?_
  rintro _ w1 ⟨rfl, hw⟩
  have hw2 := hw.symm
  subst hw2
  repeat (first | refine WC.seq ?_ | refine WC.block ?_ | refine WC.region ?_ | refine WL.nil ?_ | refine WX.then_normal ?_ | refine WC.skip ?_ | refine WC.exit ?_ | refine WC.ret ?_ | refine WX.then_exit ?_ | refine WX.then_ret ?_ | refine WX.block_normal ?_ | refine WX.block_ret ?_ | refine WX.block_same ?_ | refine WX.block_other rfl ?_ | refine WC.label ?_ | refine WC.scope ?_ | refine WX.scope_normal ?_ | refine WX.scope_ret ?_ | refine WX.scope_exit ?_ | refine WL.y rfl (Yld.add rfl rfl (by simp only [In]; omega)) ?_ | refine WL.y rfl (Yld.sub rfl rfl (by simp only [In]; omega)) ?_ | refine WL.y rfl (Yld.mul rfl rfl (by simp only [In]; omega)) ?_ | refine WL.y rfl (Yld.convB tab_ok rfl rfl rfl rfl) ?_ | refine WL.y rfl (Yld.conv tab_ok rfl rfl rfl (by simp only [In]; omega)) ?_ | refine WL.y rfl (Yld.quo rfl rfl (by omega) (by omega) (by simp only [In]; omega)) ?_ | refine WL.y rfl (Yld.rem rfl rfl (by omega) (by omega)) ?_ | refine WL.y rfl (Yld.shl rfl rfl (by omega)) ?_ | refine WL.y rfl (Yld.shr rfl rfl (by omega)) ?_ | refine WL.y rfl (Yld.pure tab_ok rfl) ?_ | refine WL.y rfl (Yld.fld flds_ok rfl rfl rfl) ?_ | refine WL.y rfl (Yld.max2 rfl rfl) ?_ | refine WL.y rfl (Yld.min2 rfl rfl) ?_ | refine WL.y rfl (Yld.pickV rfl rfl rfl) ?_ | refine WL.gno rfl rfl rfl rfl ?_ | refine WL.gyes rfl rfl rfl rfl (Yld.add rfl rfl (by simp only [In]; omega)) ?_ | refine WL.gyes rfl rfl rfl rfl (Yld.sub rfl rfl (by simp only [In]; omega)) ?_ | refine WL.gyes rfl rfl rfl rfl (Yld.mul rfl rfl (by simp only [In]; omega)) ?_ | refine WL.gyes rfl rfl rfl rfl (Yld.convB tab_ok rfl rfl rfl rfl) ?_ | refine WL.gyes rfl rfl rfl rfl (Yld.conv tab_ok rfl rfl rfl (by simp only [In]; omega)) ?_ | refine WL.gyes rfl rfl rfl rfl (Yld.quo rfl rfl (by omega) (by omega) (by simp only [In]; omega)) ?_ | refine WL.gyes rfl rfl rfl rfl (Yld.rem rfl rfl (by omega) (by omega)) ?_ | refine WL.gyes rfl rfl rfl rfl (Yld.shl rfl rfl (by omega)) ?_ | refine WL.gyes rfl rfl rfl rfl (Yld.shr rfl rfl (by omega)) ?_ | refine WL.gyes rfl rfl rfl rfl (Yld.pure tab_ok rfl) ?_ | refine WL.gyes rfl rfl rfl rfl (Yld.fld flds_ok rfl rfl rfl) ?_ | refine WL.gyes rfl rfl rfl rfl (Yld.max2 rfl rfl) ?_ | refine WL.gyes rfl rfl rfl rfl (Yld.min2 rfl rfl) ?_ | refine WL.gyes rfl rfl rfl rfl (Yld.pickV rfl rfl rfl) ?_ | refine WL.gun rfl rfl rfl rfl ?_)
  refine WC.cond rfl (fun h => ?_) (fun h => ?_)
  · have hl : p.length ≤ s.length := (of_decide_eq_true h).1
    repeat (first | refine WL.y rfl (Yld.scut tab_ok rfl rfl rfl rfl (by omega) (by omega) (by omega)) ?_ | refine WC.seq ?_ | refine WC.block ?_ | refine WC.region ?_ | refine WL.nil ?_ | refine WX.then_normal ?_ | refine WC.skip ?_ | refine WC.exit ?_ | refine WC.ret ?_ | refine WX.then_exit ?_ | refine WX.then_ret ?_ | refine WX.block_normal ?_ | refine WX.block_ret ?_ | refine WX.block_same ?_ | refine WX.block_other rfl ?_ | refine WC.label ?_ | refine WC.scope ?_ | refine WX.scope_normal ?_ | refine WX.scope_ret ?_ | refine WX.scope_exit ?_ | refine WL.y rfl (Yld.add rfl rfl (by simp only [In]; omega)) ?_ | refine WL.y rfl (Yld.sub rfl rfl (by simp only [In]; omega)) ?_ | refine WL.y rfl (Yld.mul rfl rfl (by simp only [In]; omega)) ?_ | refine WL.y rfl (Yld.convB tab_ok rfl rfl rfl rfl) ?_ | refine WL.y rfl (Yld.conv tab_ok rfl rfl rfl (by simp only [In]; omega)) ?_ | refine WL.y rfl (Yld.quo rfl rfl (by omega) (by omega) (by simp only [In]; omega)) ?_ | refine WL.y rfl (Yld.rem rfl rfl (by omega) (by omega)) ?_ | refine WL.y rfl (Yld.shl rfl rfl (by omega)) ?_ | refine WL.y rfl (Yld.shr rfl rfl (by omega)) ?_ | refine WL.y rfl (Yld.pure tab_ok rfl) ?_ | refine WL.y rfl (Yld.fld flds_ok rfl rfl rfl) ?_ | refine WL.y rfl (Yld.max2 rfl rfl) ?_ | refine WL.y rfl (Yld.min2 rfl rfl) ?_ | refine WL.y rfl (Yld.pickV rfl rfl rfl) ?_ | refine WL.gno rfl rfl rfl rfl ?_ | refine WL.gyes rfl rfl rfl rfl (Yld.add rfl rfl (by simp only [In]; omega)) ?_ | refine WL.gyes rfl rfl rfl rfl (Yld.sub rfl rfl (by simp only [In]; omega)) ?_ | refine WL.gyes rfl rfl rfl rfl (Yld.mul rfl rfl (by simp only [In]; omega)) ?_ | refine WL.gyes rfl rfl rfl rfl (Yld.convB tab_ok rfl rfl rfl rfl) ?_ | refine WL.gyes rfl rfl rfl rfl (Yld.conv tab_ok rfl rfl rfl (by simp only [In]; omega)) ?_ | refine WL.gyes rfl rfl rfl rfl (Yld.quo rfl rfl (by omega) (by omega) (by simp only [In]; omega)) ?_ | refine WL.gyes rfl rfl rfl rfl (Yld.rem rfl rfl (by omega) (by omega)) ?_ | refine WL.gyes rfl rfl rfl rfl (Yld.shl rfl rfl (by omega)) ?_ | refine WL.gyes rfl rfl rfl rfl (Yld.shr rfl rfl (by omega)) ?_ | refine WL.gyes rfl rfl rfl rfl (Yld.pure tab_ok rfl) ?_ | refine WL.gyes rfl rfl rfl rfl (Yld.fld flds_ok rfl rfl rfl) ?_ | refine WL.gyes rfl rfl rfl rfl (Yld.max2 rfl rfl) ?_ | refine WL.gyes rfl rfl rfl rfl (Yld.min2 rfl rfl) ?_ | refine WL.gyes rfl rfl rfl rfl (Yld.pickV rfl rfl rfl) ?_ | refine WL.gun rfl rfl rfl rfl ?_)
    refine WX.ret1 rfl rfl ⟨?_, rfl⟩
    rw [h, if_pos rfl]
    simp [vs]
    rw [List.take_of_length_le (by simp)]
  · repeat (first | refine WC.seq ?_ | refine WC.block ?_ | refine WC.region ?_ | refine WL.nil ?_ | refine WX.then_normal ?_ | refine WC.skip ?_ | refine WC.exit ?_ | refine WC.ret ?_ | refine WX.then_exit ?_ | refine WX.then_ret ?_ | refine WX.block_normal ?_ | refine WX.block_ret ?_ | refine WX.block_same ?_ | refine WX.block_other rfl ?_ | refine WC.label ?_ | refine WC.scope ?_ | refine WX.scope_normal ?_ | refine WX.scope_ret ?_ | refine WX.scope_exit ?_ | refine WL.y rfl (Yld.add rfl rfl (by simp only [In]; omega)) ?_ | refine WL.y rfl (Yld.sub rfl rfl (by simp only [In]; omega)) ?_ | refine WL.y rfl (Yld.mul rfl rfl (by simp only [In]; omega)) ?_ | refine WL.y rfl (Yld.convB tab_ok rfl rfl rfl rfl) ?_ | refine WL.y rfl (Yld.conv tab_ok rfl rfl rfl (by simp only [In]; omega)) ?_ | refine WL.y rfl (Yld.quo rfl rfl (by omega) (by omega) (by simp only [In]; omega)) ?_ | refine WL.y rfl (Yld.rem rfl rfl (by omega) (by omega)) ?_ | refine WL.y rfl (Yld.shl rfl rfl (by omega)) ?_ | refine WL.y rfl (Yld.shr rfl rfl (by omega)) ?_ | refine WL.y rfl (Yld.pure tab_ok rfl) ?_ | refine WL.y rfl (Yld.fld flds_ok rfl rfl rfl) ?_ | refine WL.y rfl (Yld.max2 rfl rfl) ?_ | refine WL.y rfl (Yld.min2 rfl rfl) ?_ | refine WL.y rfl (Yld.pickV rfl rfl rfl) ?_ | refine WL.gno rfl rfl rfl rfl ?_ | refine WL.gyes rfl rfl rfl rfl (Yld.add rfl rfl (by simp only [In]; omega)) ?_ | refine WL.gyes rfl rfl rfl rfl (Yld.sub rfl rfl (by simp only [In]; omega)) ?_ | refine WL.gyes rfl rfl rfl rfl (Yld.mul rfl rfl (by simp only [In]; omega)) ?_ | refine WL.gyes rfl rfl rfl rfl (Yld.convB tab_ok rfl rfl rfl rfl) ?_ | refine WL.gyes rfl rfl rfl rfl (Yld.conv tab_ok rfl rfl rfl (by simp only [In]; omega)) ?_ | refine WL.gyes rfl rfl rfl rfl (Yld.quo rfl rfl (by omega) (by omega) (by simp only [In]; omega)) ?_ | refine WL.gyes rfl rfl rfl rfl (Yld.rem rfl rfl (by omega) (by omega)) ?_ | refine WL.gyes rfl rfl rfl rfl (Yld.shl rfl rfl (by omega)) ?_ | refine WL.gyes rfl rfl rfl rfl (Yld.shr rfl rfl (by omega)) ?_ | refine WL.gyes rfl rfl rfl rfl (Yld.pure tab_ok rfl) ?_ | refine WL.gyes rfl rfl rfl rfl (Yld.fld flds_ok rfl rfl rfl) ?_ | refine WL.gyes rfl rfl rfl rfl (Yld.max2 rfl rfl) ?_ | refine WL.gyes rfl rfl rfl rfl (Yld.min2 rfl rfl) ?_ | refine WL.gyes rfl rfl rfl rfl (Yld.pickV rfl rfl rfl) ?_ | refine WL.gun rfl rfl rfl rfl ?_)
    exact WX.ret1 rfl rfl ⟨by rw [h]; rfl, rfl⟩
theorem strimPrefix_fn (s p : List UInt8) (w : World) (hs : s.length ≤ maxLen) : Fn Tryd.prog 83 ⟨[vs s, vs p]⟩ w fun v w' => v = vs (if isPre p s then s.drop p.length else s) ∧ w' = w := by
  refine Fn.enter (by kernel_rfl) Tryd.func83 rfl Tryd.ntmps83 rfl ?_
  repeat (first | refine WC.seq ?_ | refine WC.block ?_ | refine WC.region ?_ | refine WL.nil ?_ | refine WX.then_normal ?_ | refine WC.skip ?_ | refine WC.exit ?_ | refine WC.ret ?_ | refine WX.then_exit ?_ | refine WX.then_ret ?_ | refine WX.block_normal ?_ | refine WX.block_ret ?_ | refine WX.block_same ?_ | refine WX.block_other rfl ?_ | refine WC.label ?_ | refine WC.scope ?_ | refine WX.scope_normal ?_ | refine WX.scope_ret ?_ | refine WX.scope_exit ?_ | refine WL.y rfl (Yld.add rfl rfl (by simp only [In]; omega)) ?_ | refine WL.y rfl (Yld.sub rfl rfl (by simp only [In]; omega)) ?_ | refine WL.y rfl (Yld.mul rfl rfl (by simp only [In]; omega)) ?_ | refine WL.y rfl (Yld.convB tab_ok rfl rfl rfl rfl) ?_ | refine WL.y rfl (Yld.conv tab_ok rfl rfl rfl (by simp only [In]; omega)) ?_ | refine WL.y rfl (Yld.quo rfl rfl (by omega) (by omega) (by simp only [In]; omega)) ?_ | refine WL.y rfl (Yld.rem rfl rfl (by omega) (by omega)) ?_ | refine WL.y rfl (Yld.shl rfl rfl (by omega)) ?_ | refine WL.y rfl (Yld.shr rfl rfl (by omega)) ?_ | refine WL.y rfl (Yld.pure tab_ok rfl) ?_ | refine WL.y rfl (Yld.fld flds_ok rfl rfl rfl) ?_ | refine WL.y rfl (Yld.max2 rfl rfl) ?_ | refine WL.y rfl (Yld.min2 rfl rfl) ?_ | refine WL.y rfl (Yld.pickV rfl rfl rfl) ?_ | refine WL.gno rfl rfl rfl rfl ?_ | refine WL.gyes rfl rfl rfl rfl (Yld.add rfl rfl (by simp only [In]; omega)) ?_ | refine WL.gyes rfl rfl rfl rfl (Yld.sub rfl rfl (by simp only [In]; omega)) ?_ | refine WL.gyes rfl rfl rfl rfl (Yld.mul rfl rfl (by simp only [In]; omega)) ?_ | refine WL.gyes rfl rfl rfl rfl (Yld.convB tab_ok rfl rfl rfl rfl) ?_ | refine WL.gyes rfl rfl rfl rfl (Yld.conv tab_ok rfl rfl rfl (by simp only [In]; omega)) ?_ | refine WL.gyes rfl rfl rfl rfl (Yld.quo rfl rfl (by omega) (by omega) (by simp only [In]; omega)) ?_ | refine WL.gyes rfl rfl rfl rfl (Yld.rem rfl rfl (by omega) (by omega)) ?_ | refine WL.gyes rfl rfl rfl rfl (Yld.shl rfl rfl (by omega)) ?_ | refine WL.gyes rfl rfl rfl rfl (Yld.shr rfl rfl (by omega)) ?_ | refine WL.gyes rfl rfl rfl rfl (Yld.pure tab_ok rfl) ?_ | refine WL.gyes rfl rfl rfl rfl (Yld.fld flds_ok rfl rfl rfl) ?_ | refine WL.gyes rfl rfl rfl rfl (Yld.max2 rfl rfl) ?_ | refine WL.gyes rfl rfl rfl rfl (Yld.min2 rfl rfl) ?_ | refine WL.gyes rfl rfl rfl rfl (Yld.pickV rfl rfl rfl) ?_ | refine WL.gun rfl rfl rfl rfl ?_)
  refine WL.call rfl rfl (trimPrefix_fn s p w hs) ?_
  rintro _ w1 ⟨rfl, hw⟩
  have hw2 := hw.symm
  subst hw2
  repeat (first | refine WC.seq ?_ | refine WC.block ?_ | refine WC.region ?_ | refine WL.nil ?_ | refine WX.then_normal ?_ | refine WC.skip ?_ | refine WC.exit ?_ | refine WC.ret ?_ | refine WX.then_exit ?_ | refine WX.then_ret ?_ | refine WX.block_normal ?_ | refine WX.block_ret ?_ | refine WX.block_same ?_ | refine WX.block_other rfl ?_ | refine WC.label ?_ | refine WC.scope ?_ | refine WX.scope_normal ?_ | refine WX.scope_ret ?_ | refine WX.scope_exit ?_ | refine WL.y rfl (Yld.add rfl rfl (by simp only [In]; omega)) ?_ | refine WL.y rfl (Yld.sub rfl rfl (by simp only [In]; omega)) ?_ | refine WL.y rfl (Yld.mul rfl rfl (by simp only [In]; omega)) ?_ | refine WL.y rfl (Yld.convB tab_ok rfl rfl rfl rfl) ?_ | refine WL.y rfl (Yld.conv tab_ok rfl rfl rfl (by simp only [In]; omega)) ?_ | refine WL.y rfl (Yld.quo rfl rfl (by omega) (by omega) (by simp only [In]; omega)) ?_ | refine WL.y rfl (Yld.rem rfl rfl (by omega) (by omega)) ?_ | refine WL.y rfl (Yld.shl rfl rfl (by omega)) ?_ | refine WL.y rfl (Yld.shr rfl rfl (by omega)) ?_ | refine WL.y rfl (Yld.pure tab_ok rfl) ?_ | refine WL.y rfl (Yld.fld flds_ok rfl rfl rfl) ?_ | refine WL.y rfl (Yld.max2 rfl rfl) ?_ | refine WL.y rfl (Yld.min2 rfl rfl) ?_ | refine WL.y rfl (Yld.pickV rfl rfl rfl) ?_ | refine WL.gno rfl rfl rfl rfl ?_ | refine WL.gyes rfl rfl rfl rfl (Yld.add rfl rfl (by simp only [In]; omega)) ?_ | refine WL.gyes rfl rfl rfl rfl (Yld.sub rfl rfl (by simp only [In]; omega)) ?_ | refine WL.gyes rfl rfl rfl rfl (Yld.mul rfl rfl (by simp only [In]; omega)) ?_ | refine WL.gyes rfl rfl rfl rfl (Yld.convB tab_ok rfl rfl rfl rfl) ?_ | refine WL.gyes rfl rfl rfl rfl (Yld.conv tab_ok rfl rfl rfl (by simp only [In]; omega)) ?_ | refine WL.gyes rfl rfl rfl rfl (Yld.quo rfl rfl (by omega) (by omega) (by simp only [In]; omega)) ?_ | refine WL.gyes rfl rfl rfl rfl (Yld.rem rfl rfl (by omega) (by omega)) ?_ | refine WL.gyes rfl rfl rfl rfl (Yld.shl rfl rfl (by omega)) ?_ | refine WL.gyes rfl rfl rfl rfl (Yld.shr rfl rfl (by omega)) ?_ | refine WL.gyes rfl rfl rfl rfl (Yld.pure tab_ok rfl) ?_ | refine WL.gyes rfl rfl rfl rfl (Yld.fld flds_ok rfl rfl rfl) ?_ | refine WL.gyes rfl rfl rfl rfl (Yld.max2 rfl rfl) ?_ | refine WL.gyes rfl rfl rfl rfl (Yld.min2 rfl rfl) ?_ | refine WL.gyes rfl rfl rfl rfl (Yld.pickV rfl rfl rfl) ?_ | refine WL.gun rfl rfl rfl rfl ?_)
  exact WX.ret1 rfl rfl ⟨rfl, rfl⟩
end Go.Proofs.YtilphcippnfklaaDoor
 /- A number's text, read. -/
namespace Go.Proofs.YtilphcippnfklaaDoor
open Go Go.RowKit
/-- what digits say, the highest first -/
def dval : List UInt8 → Nat := fun t => t.foldl (fun v c => v * 10 + (c.toNat - 48)) 0
theorem dval_from (b : List UInt8) : ∀ v, b.foldl (fun v c => v * 10 + (c.toNat - 48)) v = v * 10 ^ b.length + dval b := by
  induction b with
  | nil => intro v; simp [dval]
  | cons c b ih =>
    intro v
    have h1 := ih (v * 10 + (c.toNat - 48))
    have h2 := ih (0 * 10 + (c.toNat - 48))
    simp only [List.foldl_cons, List.length_cons, dval] at *
    rw [h1, h2, Nat.pow_succ]
    grind
theorem dval_app (a b : List UInt8) : dval (a ++ b) = dval a * 10 ^ b.length + dval b := by
  have := dval_from b (dval a)
  rw [← this]
  simp [dval]
theorem dval_push (a : List UInt8) (c : UInt8) : dval (a ++ [c]) = dval a * 10 + (c.toNat - 48) := by simp [dval]
def digB (c : UInt8) : Bool := decide (48 ≤ c.toNat ∧ c.toNat ≤ 57)
theorem dval_lt : ∀ {b : List UInt8}, b.all digB = true → dval b < 10 ^ b.length := by
  intro b
  induction b with
  | nil => intro _; simp [dval]
  | cons c b ih =>
    intro h
    simp only [List.all_cons, Bool.and_eq_true] at h
    have h1 := ih h.2
    have h2 := of_decide_eq_true h.1
    have := dval_app [c] b
    simp only [List.singleton_append] at this
    rw [this, List.length_cons, Nat.pow_succ]
    have e : dval [c] = c.toNat - 48 := by simp [dval]
    rw [e]
    have : (c.toNat - 48) * 10 ^ b.length ≤ 9 * 10 ^ b.length := Nat.mul_le_mul_right _ (by omega)
    omega
/-- a text's sign and its digits -/
def cutm (s : List UInt8) : List UInt8 := if isPre [45] s then s.drop 1 else s
def lead (t : List UInt8) (neg : Bool) : Bool := decide (t = [] ∨ (t.getD 0 0 = 48 ∧ (1 < t.length ∨ neg = true)))
def shape (s : List UInt8) : Bool := !lead (cutm s) (isPre [45] s) && (cutm s).all digB
def sval (s : List UInt8) : Int := bif isPre [45] s then -(dval (cutm s) : Int) else (dval (cutm s) : Int)
/-- the limb below e, and what is above -/
theorem limb_cut (t : List UInt8) (e : Nat) (he : e ≤ t.length) : dval (t.take e) = dval ((t.take e).drop (e - 9)) + (if 9 < e then 1000000000 * dval (t.take (e - 9)) else 0) := by
  split
  · rename_i h
    have h1 := dval_app (t.take (e - 9)) ((t.take e).drop (e - 9))
    have h2 : t.take (e - 9) ++ (t.take e).drop (e - 9) = t.take e := by
      have := List.take_append_drop (e - 9) (t.take e)
      rw [List.take_take, Nat.min_eq_left (by omega)] at this
      exact this
    rw [h2] at h1
    rw [h1]
    have h3 : ((t.take e).drop (e - 9)).length = 9 := by simp; omega
    rw [h3]; omega
  · rename_i h
    have h1 := dval_app (t.take (e - 9)) ((t.take e).drop (e - 9))
    have h2 : t.take (e - 9) ++ (t.take e).drop (e - 9) = t.take e := by
      have := List.take_append_drop (e - 9) (t.take e)
      rw [List.take_take, Nat.min_eq_left (by omega)] at this
      exact this
    rw [h2] at h1
    rcases Nat.lt_or_ge e 9 with h9 | h9
    · rw [show e - 9 = 0 by omega] at h1 ⊢
      simp
    · obtain rfl : e = 9 := by omega
      simp
end Go.Proofs.YtilphcippnfklaaDoor
 /- A number's text and what it says: there and back. -/
namespace Go.Proofs.YtilphcippnfklaaDoor
open Go Go.RowKit
theorem dc_of {v : Nat} {c : UInt8} (h : digB c = true) : dc (v * 10 + (c.toNat - 48)) = c := by
  have h' := of_decide_eq_true h
  unfold dc
  apply UInt8.toNat_inj.mp
  rw [UInt8.toNat_ofNat']
  omega
theorem dd_dval : ∀ (k : Nat) (t : List UInt8), t.length = k → t.all digB = true → t.head? ≠ some 48 → dd (dval t) = t.reverse := by
  intro k
  induction k with
  | zero => intro t ht _ _; obtain rfl : t = [] := List.length_eq_zero_iff.mp ht; simp [dval, dd_zero]
  | succ k ih =>
    intro t ht hall hh
    have hne : t ≠ [] := by intro e; subst e; simp at ht
    obtain ⟨s, c, rfl⟩ : ∃ s c, t = s ++ [c] := ⟨t.dropLast, t.getLast hne, (List.dropLast_concat_getLast hne).symm⟩
    simp only [List.all_append, List.all_cons, List.all_nil, Bool.and_true, Bool.and_eq_true] at hall
    have hs : s.length = k := by simpa using ht
    have hc := of_decide_eq_true hall.2
    rw [dval_push, List.reverse_append]
    simp only [List.reverse_cons, List.reverse_nil, List.nil_append, List.singleton_append]
    by_cases he : s = []
    · subst he
      have h0 : c ≠ 48 := by intro e; subst e; simp at hh
      have h1 : c.toNat ≠ 48 := fun e => h0 (UInt8.toNat_inj.mp (by rw [e]; rfl))
      have : dval [] = 0 := rfl
      rw [dd_pos (by omega), dc_of hall.2, this, show (0 * 10 + (c.toNat - 48)) / 10 = 0 by omega, dd_zero]
      rfl
    · have hh' : s.head? ≠ some 48 := by
        cases s with
        | nil => exact absurd rfl he
        | cons x s => simpa using hh
      have h2 := ih s hs hall.1 hh'
      have h3 : dval s ≠ 0 := fun e => by
        rw [e, dd_zero] at h2
        exact he (List.reverse_eq_nil_iff.mp h2.symm)
      rw [dd_pos (by omega), dc_of hall.2, show (dval s * 10 + (c.toNat - 48)) / 10 = dval s by omega, h2]
theorem lead_head {t : List UInt8} {neg : Bool} (h : lead t neg = false) : t ≠ [] ∧ (t.head? ≠ some 48 ∨ (t = [48] ∧ neg = false)) := by
  have h1 := of_decide_eq_false h
  have h2 : t ≠ [] := fun e => h1 (.inl e)
  refine ⟨h2, ?_⟩
  cases t with
  | nil => exact absurd rfl h2
  | cons c t =>
    by_cases hc : c = 48
    · right
      subst hc
      have h3 : ¬ (1 < (48 :: t).length ∨ neg = true) := fun h => h1 (.inr ⟨by simp, h⟩)
      constructor
      · cases t with
        | nil => rfl
        | cons d t => exact absurd (.inl (by simp)) h3
      · cases neg with
        | false => rfl
        | true => exact absurd (.inr rfl) h3
    · left; simpa using hc
theorem txt_sval {s : List UInt8} (h : shape s = true) : txt (sval s) = s := by
  unfold shape at h
  simp only [Bool.and_eq_true, Bool.not_eq_true'] at h
  obtain ⟨hl, hall⟩ := h
  obtain ⟨hne, hh⟩ := lead_head hl
  have hs : (bif isPre [45] s then [45] ++ cutm s else cutm s) = s := by
    unfold cutm
    cases hp : isPre [45] s with
    | false => simp
    | true =>
      have hp' := of_decide_eq_true hp
      simp only [cond_true, if_true]
      have := List.take_append_drop 1 s
      rw [show s.take 1 = [45] from hp'.2] at this
      exact this
  unfold sval
  rcases hh with hh | ⟨he, hn⟩
  · have hd := dd_dval _ _ rfl hall hh
    have h3 : dval (cutm s) ≠ 0 := fun e => by
      rw [e, dd_zero] at hd
      exact hne (List.reverse_eq_nil_iff.mp hd.symm)
    cases hp : isPre [45] s with
    | false =>
      rw [hp] at hs
      simp only [cond_false] at hs ⊢
      unfold txt
      rw [if_neg (by omega), if_neg (by omega), Int.natAbs_natCast, hd, List.reverse_reverse]
      exact hs
    | true =>
      rw [hp] at hs
      simp only [cond_true] at hs ⊢
      unfold txt
      rw [if_neg (by omega), if_pos (by omega), Int.natAbs_neg, Int.natAbs_natCast, hd, List.reverse_reverse]
      exact hs
  · rw [hn] at hs ⊢
    rw [he] at hs ⊢
    simp only [cond_false] at hs ⊢
    rw [← hs]
    rfl
theorem dval_zeros (k : Nat) : dval (List.replicate k 48) = 0 := by
  induction k with
  | zero => rfl
  | succ k ih => rw [List.replicate_succ', dval_push, ih]; rfl
theorem dval_nines (k : Nat) : dval (List.replicate k 57) + 1 = 10 ^ k := by
  induction k with
  | zero => rfl
  | succ k ih => rw [List.replicate_succ', dval_push, Nat.pow_succ]; have : (57 : UInt8).toNat - 48 = 9 := rfl; omega
theorem dval_ten (k : Nat) : dval (49 :: List.replicate k 48) = 10 ^ k := by
  have := dval_app [49] (List.replicate k 48)
  simp only [List.singleton_append, List.length_replicate, dval_zeros] at this
  rw [this]
  have h1 : dval [49] = 1 := rfl
  rw [h1]; simp
end Go.Proofs.YtilphcippnfklaaDoor
 /- Limbs to base 10000, the lowest first: plain. -/
namespace Go.Proofs.YtilphcippnfklaaDoor
open Go Go.RowKit
/-- what limbs say -/
def lv : List Int → Int
  | [] => 0
  | x :: l => x + 10000 * lv l
def Lb (l : List Int) : Prop := ∀ x ∈ l, 0 ≤ x ∧ x < 10000
def Cn (l : List Int) : Prop := Lb l ∧ (l = [] ∨ l.getD (l.length - 1) 0 ≠ 0)
theorem lpow_succ (n : Nat) : (10000 : Int) ^ (n + 1) = 10000 * 10000 ^ n := by rw [Int.pow_succ, Int.mul_comm]
theorem lpow_pos (n : Nat) : (0 : Int) < 10000 ^ n := by
  induction n with
  | zero => decide
  | succ n ih => rw [lpow_succ]; omega
theorem lpow_mono {m n : Nat} (h : m ≤ n) : (10000 : Int) ^ m ≤ 10000 ^ n := by
  induction n with
  | zero => rw [Nat.le_zero.1 h]; exact Int.le_refl _
  | succ n ih =>
    rcases Nat.lt_or_ge m (n + 1) with h1 | h1
    · have := ih (by omega)
      have := lpow_pos n
      rw [lpow_succ]; omega
    · obtain rfl : m = n + 1 := by omega
      exact Int.le_refl _
theorem lv_append (a b : List Int) : lv (a ++ b) = lv a + 10000 ^ a.length * lv b := by
  induction a with
  | nil => simp [lv]
  | cons x a ih => simp only [List.cons_append, lv, ih, List.length_cons, lpow_succ]; grind
theorem lv_push (a : List Int) (x : Int) : lv (a ++ [x]) = lv a + 10000 ^ a.length * x := by
  rw [lv_append]; simp [lv]
theorem Lb.nil : Lb [] := fun _ h => by cases h
theorem Lb.push {a : List Int} {x : Int} (ha : Lb a) (h0 : 0 ≤ x) (h1 : x < 10000) : Lb (a ++ [x]) := fun y h => by
  rcases List.mem_append.1 h with h | h
  · exact ha y h
  · simp at h; subst h; exact ⟨h0, h1⟩
theorem Lb.cons {a : List Int} {x : Int} (ha : Lb a) (h0 : 0 ≤ x) (h1 : x < 10000) : Lb (x :: a) := fun y h => by
  rcases List.mem_cons.1 h with h | h
  · subst h; exact ⟨h0, h1⟩
  · exact ha y h
theorem Lb.take {a : List Int} (ha : Lb a) (n : Nat) : Lb (a.take n) := fun x h => ha x (List.mem_of_mem_take h)
theorem Lb.drop {a : List Int} (ha : Lb a) (n : Nat) : Lb (a.drop n) := fun x h => ha x (List.mem_of_mem_drop h)
theorem Lb.getD {l : List Int} (h : Lb l) (i : Nat) : 0 ≤ l.getD i 0 ∧ l.getD i 0 < 10000 := by
  rcases Nat.lt_or_ge i l.length with h1 | h1
  · have := h _ (List.getElem_mem h1)
    simpa [List.getD, h1] using this
  · simp [List.getD, List.getElem?_eq_none h1]
theorem Lb.set {l : List Int} (h : Lb l) (i : Nat) {x : Int} (h0 : 0 ≤ x) (h1 : x < 10000) : Lb (l.set i x) := fun y hy => by
  rcases List.mem_or_eq_of_mem_set hy with h2 | h2
  · exact h y h2
  · subst h2; exact ⟨h0, h1⟩
theorem Lb.zeros (n : Nat) : Lb (List.replicate n 0) := fun x h => by
  have := List.eq_of_mem_replicate h
  subst this; decide
theorem lv_zeros (n : Nat) : lv (List.replicate n 0) = 0 := by
  induction n with
  | zero => rfl
  | succ n ih => rw [List.replicate_succ]; simp [lv, ih]
theorem lv_nonneg : ∀ {l : List Int}, Lb l → 0 ≤ lv l
  | [], _ => by simp [lv]
  | x :: l, h => by
    have h1 := h x (by simp)
    have h2 := lv_nonneg (l := l) fun y hy => h y (by simp [hy])
    simp only [lv]; omega
theorem lv_take_succ : ∀ (l : List Int) (i : Nat), lv (l.take (i + 1)) = lv (l.take i) + 10000 ^ i * l.getD i 0
  | [], i => by simp [lv]
  | x :: l, 0 => by simp [lv]
  | x :: l, i + 1 => by
    have ih := lv_take_succ l i
    simp only [List.take_succ_cons, lv, List.getD_cons_succ, lpow_succ] at ih ⊢
    rw [ih]; grind
theorem lv_split : ∀ (l : List Int) (i : Nat), lv l = lv (l.take i) + 10000 ^ i * lv (l.drop i)
  | [], i => by simp [lv]
  | x :: l, 0 => by simp [lv]
  | x :: l, i + 1 => by
    have ih := lv_split l i
    simp only [List.take_succ_cons, List.drop_succ_cons, lv, lpow_succ] at ih ⊢
    grind
theorem lv_drop : ∀ (l : List Int) (i : Nat), lv (l.drop i) = l.getD i 0 + 10000 * lv (l.drop (i + 1))
  | [], i => by simp [lv]
  | x :: l, 0 => by simp [lv]
  | x :: l, i + 1 => by
    have ih := lv_drop l i
    simpa using ih
theorem lv_take_lt {l : List Int} (h : Lb l) (i : Nat) : lv (l.take i) < 10000 ^ i := by
  induction i with
  | zero => simp [lv]
  | succ i ih =>
    have h1 := h.getD i
    have h2 := lpow_pos i
    rw [lv_take_succ, lpow_succ]
    have : (10000 : Int) ^ i * l.getD i 0 ≤ 10000 ^ i * 9999 := Int.mul_le_mul_of_nonneg_left (by omega) (by omega)
    omega
theorem lv_lt {l : List Int} (h : Lb l) : lv l < 10000 ^ l.length := by
  have := lv_take_lt h l.length
  rwa [List.take_length] at this
theorem lv_set : ∀ (l : List Int) (i : Nat) (x : Int), i < l.length → lv (l.set i x) = lv l + 10000 ^ i * (x - l.getD i 0)
  | [], i, x, h => by simp at h
  | y :: l, 0, x, _ => by simp [lv]; omega
  | y :: l, i + 1, x, h => by
    have ih := lv_set l i x (by simpa using h)
    simp only [List.set_cons_succ, lv, ih, List.getD_cons_succ, lpow_succ]
    grind
theorem Cn.ge {l : List Int} (h : Cn l) (hne : l ≠ []) : (10000 : Int) ^ (l.length - 1) ≤ lv l := by
  have hl : 0 < l.length := List.length_pos_iff.2 hne
  have h1 := h.2.resolve_left hne
  have h2 := h.1.getD (l.length - 1)
  have h3 := lv_take_succ l (l.length - 1)
  rw [show l.length - 1 + 1 = l.length by omega, List.take_length] at h3
  have h4 := lv_nonneg (h.1.take (l.length - 1))
  have h5 : (10000 : Int) ^ (l.length - 1) * 1 ≤ 10000 ^ (l.length - 1) * l.getD (l.length - 1) 0 := Int.mul_le_mul_of_nonneg_left (by omega) (Int.le_of_lt (lpow_pos _))
  omega
theorem Cn.nil : Cn [] := ⟨Lb.nil, .inl rfl⟩
theorem Cn.zero {l : List Int} (h : Cn l) : lv l = 0 ↔ l = [] := by
  constructor
  · intro h1
    rcases Decidable.em (l = []) with h2 | h2
    · exact h2
    · have := h.ge h2
      have := lpow_pos (l.length - 1)
      omega
  · rintro rfl; rfl
theorem Cn.len_lt {a b : List Int} (ha : Cn a) (hb : Cn b) (h : a.length < b.length) : lv a < lv b := by
  have h1 := lv_lt ha.1
  have h2 := hb.ge (by intro e; subst e; simp at h)
  have h3 := lpow_mono (m := a.length) (n := b.length - 1) (by omega)
  omega
theorem Cn.le_len {a b : List Int} (ha : Cn a) (hb : Cn b) (h : lv a ≤ lv b) : a.length ≤ b.length := by
  rcases Nat.lt_or_ge b.length a.length with h1 | h1
  · have := hb.len_lt ha h1; omega
  · exact h1
/-- one limb tells, where those above are the same -/
theorem dig_lt {a b : List Int} (ha : Lb a) (hb : Lb b) (i : Nat) (hd : a.drop (i + 1) = b.drop (i + 1)) (h : a.getD i 0 < b.getD i 0) : lv a < lv b := by
  have h1 := lv_split a i
  have h2 := lv_split b i
  have h3 := lv_take_lt ha i
  have h4 := lv_nonneg (hb.take i)
  rw [lv_drop] at h1 h2
  rw [hd] at h1
  have h5 : (10000 : Int) ^ i * (a.getD i 0 + 10000 * lv (b.drop (i + 1)) + 1) ≤ 10000 ^ i * (b.getD i 0 + 10000 * lv (b.drop (i + 1))) := Int.mul_le_mul_of_nonneg_left (by omega) (Int.le_of_lt (lpow_pos _))
  rw [Int.mul_add, Int.mul_one] at h5
  omega
end Go.Proofs.YtilphcippnfklaaDoor
 /- Limbs to base 10000 and their digits: plain. -/
namespace Go.Proofs.YtilphcippnfklaaDoor
open Go Go.RowKit
/-- a limb's four digits -/
def fourB (x : Int) : List UInt8 := [dc (x.toNat / 1000), dc (x.toNat / 100), dc (x.toNat / 10), dc x.toNat]
/-- the digits of limbs, the highest first -/
def tops : List Int → List UInt8
  | [] => []
  | x :: l => tops l ++ fourB x
theorem dval_four (s : List UInt8) {x : Int} (h0 : 0 ≤ x) (h1 : x < 10000) : (dval (s ++ fourB x) : Int) = dval s * 10000 + x := by
  have e : s ++ fourB x = (((s ++ [dc (x.toNat / 1000)]) ++ [dc (x.toNat / 100)]) ++ [dc (x.toNat / 10)]) ++ [dc x.toNat] := by simp [fourB]
  rw [e, dval_push, dval_push, dval_push, dval_push, dc_toNat, dc_toNat, dc_toNat, dc_toNat]
  omega
theorem dig_dc (n : Nat) : digB (dc n) = true := by
  unfold digB
  rw [dc_toNat, decide_eq_true_eq]
  omega
theorem tops_spec : ∀ {l : List Int}, Lb l → (dval (tops l) : Int) = lv l ∧ (tops l).all digB = true
  | [], _ => ⟨rfl, rfl⟩
  | x :: l, h => by
    have hx := h x (by simp)
    obtain ⟨h1, h2⟩ := tops_spec (l := l) fun y hy => h y (by simp [hy])
    refine ⟨?_, ?_⟩
    · rw [tops, dval_four _ hx.1 hx.2, h1, lv]
      omega
    · rw [tops, List.all_append, h2]
      simp [fourB, dig_dc]
theorem tops_len : ∀ l : List Int, (tops l).length = 4 * l.length
  | [] => rfl
  | x :: l => by rw [tops, List.length_append, tops_len l]; simp [fourB]; omega
theorem tops_drop (l : List Int) {i : Nat} (h : i < l.length) : tops (l.drop i) = tops (l.drop (i + 1)) ++ fourB (l.getD i 0) := by
  rw [List.drop_eq_getElem_cons h, tops]
  simp [List.getD, h]
theorem dval_zero_cons (s : List UInt8) : dval (48 :: s) = dval s := by simp [dval]
theorem dval_drop_zeros : ∀ (k : Nat) (s : List UInt8), (∀ j, j < k → s.getD j 0 = 48) → k ≤ s.length → dval (s.drop k) = dval s
  | 0, s, _, _ => rfl
  | k + 1, [], _, h => by simp at h
  | k + 1, c :: s, h, hl => by
    have hc : c = 48 := h 0 (by omega)
    subst hc
    rw [List.drop_succ_cons, dval_zero_cons]
    exact dval_drop_zeros k s (fun j hj => by simpa using h (j + 1) (by omega)) (by simpa using hl)
/-- what a number's text is, from its digits behind the zeros -/
theorem txt_of_digits {s : List UInt8} (hd : s.all digB = true) (hh : s.head? ≠ some 48) (neg : Bool) : txt (if neg then -(dval s : Int) else dval s) = if s = [] then [48] else if neg then 45 :: s else s := by
  by_cases e : s = []
  · subst e
    cases neg <;> rfl
  · rw [if_neg e]
    have hdd := dd_dval s.length s rfl hd hh
    have hpos : 0 < dval s := by
      rcases Nat.eq_zero_or_pos (dval s) with h0 | h0
      · rw [h0, dd_zero] at hdd
        exact absurd (by simpa using hdd.symm) e
      · exact h0
    unfold txt
    cases neg with
    | true => rw [if_neg (by simp; omega), if_pos (by simp; omega)]; simp [hdd]
    | false => rw [if_neg (by simp; omega), if_neg (by simp)]; simp [hdd]
/-! the top zeros taken away -/
theorem trim_spec {l : List Int} (h : Lb l) {n : Nat} (hn : n ≤ l.length) (hz : ∀ j, n ≤ j → l.getD j 0 = 0) (ht : n = 0 ∨ l.getD (n - 1) 0 ≠ 0) : Cn (l.take n) ∧ lv (l.take n) = lv l := by
  refine ⟨⟨h.take n, ?_⟩, ?_⟩
  · rcases ht with rfl | ht
    · exact .inl rfl
    · by_cases e : n = 0
      · subst e; exact .inl rfl
      · refine .inr ?_
        rw [List.length_take, Nat.min_eq_left hn]
        simp only [List.getD, List.getElem?_take] at ht ⊢
        rw [if_pos (by omega)]
        exact ht
  · have : ∀ k, lv (l.take (n + k)) = lv (l.take n) := by
      intro k
      induction k with
      | zero => rfl
      | succ k ih => rw [← Nat.add_assoc, lv_take_succ, hz _ (by omega), ih]; simp
    have h2 := this (l.length - n)
    rw [show n + (l.length - n) = l.length by omega, List.take_length] at h2
    exact h2.symm
theorem push_step (l : List Int) (x : Int) {i : Nat} (hi : l.length = i) : lv (l ++ [x % 10000]) + 10000 ^ (i + 1) * (x / 10000) = lv l + 10000 ^ i * x := by
  rw [lv_push, lpow_succ, hi]
  have e : x = x % 10000 + 10000 * (x / 10000) := by omega
  generalize x % 10000 = u at *
  generalize x / 10000 = v at *
  subst e
  grind
theorem Lb.pushm {a : List Int} (ha : Lb a) (x : Int) : Lb (a ++ [x % 10000]) := ha.push (by omega) (by omega)
end Go.Proofs.YtilphcippnfklaaDoor
 