/- Texts of this claim, joined by a program: Chain4, More6, Fast, Vg, Eq, Err, Laid, Row2, GSa, Sent, GSb, K, K2, Sha0, Sha1. -/
import Derived.Test.YtilphcippnfklaaDoorJ1
import Derived.LaidEql
import Derived.Lib.LaidTab
import Derived.Lib.ItoaNum
import Derived.Lib.SmallJoins
import Derived.ChangeMaps5
import Derived.Test.YtilphcippnfklaaDoorRows
/- Chain regions where what a float reads need stay only as_ long as_ the float may still come. -/
namespace Go.Proofs.YtilphcippnfklaaDoor
open Go Go.RowKit
section
variable {P : Program} {ops : Array Oper} {md : Region.Mode} {fl : Nat → Bool} {D : Nat → World → Prop} {Q : Act → World → Prop}
def DD (md : Region.Mode) (ops : Array Oper) (fl : Nat → Bool) (D : Nat → World → Prop) (j : Nat) (w : World) : Prop := ∀ k, fl k = true → reach md ops ops.size j k = false → D k w
def Hold (fl : Nat → Bool) (D : Nat → World → Prop) (listed : Array Bool) (w : World) : Prop := ∀ k, fl k = true → listed.getD k true = false → D k w
theorem Hold.set {listed : Array Bool} {w : World} (h : Hold fl D listed w) (j : Nat) : Hold fl D (listed.setIfInBounds j true) w := fun k hk hl => h k hk (by
  by_cases hjk : j = k
  · subst hjk
    rcases Nat.lt_or_ge j listed.size with h' | h'
    · simp [h'] at hl
    · simp at hl
  · rw [getD_set_ne true hjk] at hl; exact hl)
theorem DD.hold {listed : Array Bool} {w : World} {j : Nat} (h : DD md ops fl D j w) (hcl : Closed md ops listed) (hj : j ∈ Region.ready md ops listed) : Hold fl D (listed.setIfInBounds j true) w := fun k hk hl => by
  obtain ⟨hjun, oj, hoj, hall⟩ := mem_ready.1 hj
  have hku : listed.getD k true = false := by
    by_cases hjk : j = k
    · subst hjk
      rcases Nat.lt_or_ge j listed.size with h' | h'
      · simp [h'] at hl
      · simp at hl
    · rw [getD_set_ne true hjk] at hl; exact hl
  refine h k hk ?_
  cases hq : reach md ops ops.size j k with
  | false => rfl
  | true => exact absurd hall (not_listed_of_reach hcl (getD_both hku) ops.size j hq oj hoj)
theorem sRun_some2 {E : World → Prop} {o : Oper} {a : Act} {w : World} {K : Act → World → Prop} (hh : sRun P ops E o a w K) : ∃ u w', (E w' ∨ w' = w) ∧ K (a.put o.dst u) w' := by
  unfold sRun at hh
  split at hh
  · generalize (execOp a.eval o).run P w = r at hh
    cases r with
    | halt => exact hh.elim
    | ok x w' => cases x with
      | value v => exact ⟨v, w', .inl hh.1, hh.2⟩
      | skip => exact ⟨undef, w', .inl hh.1, hh.2⟩
      | enter f args =>
        obtain ⟨e, w2, fr, ⟨v, _, d, k⟩, _⟩ := hh []
        exact ⟨v, w2, .inl d, k⟩
      | _ => exact hh.elim
  · exact ⟨undef, w, .inr rfl, hh⟩
theorem sRun_mono2 {E : World → Prop} {o : Oper} {a : Act} {w : World} {K K' : Act → World → Prop} (h : ∀ a w, E w → K a w → K' a w) (h2 : ∀ a, K a w → K' a w) (hh : sRun P ops E o a w K) : sRun P ops E o a w K' := by
  unfold sRun at hh ⊢
  split
  · rename_i hw'
    rw [if_pos hw'] at hh
    generalize (execOp a.eval o).run P w = r at hh ⊢
    cases r with
    | halt => exact hh.elim
    | ok x w' => cases x with
      | value v => exact ⟨hh.1, h _ _ hh.1 hh.2⟩
      | skip => exact ⟨hh.1, h _ _ hh.1 hh.2⟩
      | enter f args => exact Calls.mono hh fun e w'' ⟨v, e1, d, k⟩ => ⟨v, e1, d, h _ _ d k⟩
      | _ => exact hh.elim
  · rename_i hw'
    rw [if_neg hw'] at hh
    exact h2 _ hh
def anyJ (P : Program) (md : Region.Mode) (ops : Array Oper) (fl : Nat → Bool) (D : Nat → World → Prop) (Q : Act → World → Prop) : Nat → Array Bool → Act → World → Prop
  | 0, listed, a, w => Region.ready md ops listed = [] ∧ Q a w
  | f + 1, listed, a, w => (Region.ready md ops listed = [] → Q a w) ∧ ∀ i ∈ Region.ready md ops listed, ∃ o, ops[i]? = some o ∧
      ((fl i = true ∧ ∃ v, fYld P ops (D i) o a v ∧ anyJ P md ops fl D Q f (listed.setIfInBounds i true) (a.put o.dst v) w) ∨
       (fl i = false ∧ sRun P ops (DD md ops fl D i) o a w fun a' w' => anyJ P md ops fl D Q f (listed.setIfInBounds i true) a' w'))
theorem any_of_anyJ {Q' : Post} (hQ : ∀ a w, Q a w → Q' .normal a w) : ∀ (f : Nat) (listed : Array Bool) (a : Act) (w : World), Hold fl D listed w → Closed md ops listed → anyJ P md ops fl D Q f listed a w → wpAny P md ops Q' f listed a w := by
  intro f
  induction f with
  | zero => intro listed a w _ _ h; exact ⟨h.1, hQ _ _ h.2⟩
  | succ f ih =>
    intro listed a w hw hcl h
    refine ⟨fun h0 => hQ _ _ (h.1 h0), fun i hi => ?_⟩
    obtain ⟨o, ho, h1⟩ := h.2 i hi
    rcases h1 with ⟨hf, v, hy, hn⟩ | ⟨_, hs⟩
    · unfold wpOp
      simp only [ho]
      rcases hy with ⟨hwn, hv⟩ | ⟨hwn, hv⟩
      · rw [if_pos hwn]
        refine .inl ?_
        unfold Oper.wp
        rw [hv w (hw i hf (mem_ready.1 hi).1)]
        exact ih _ _ _ (hw.set i) (hcl.set hi) hn
      · rw [if_neg (by simp [hwn])]
        subst hv
        exact ih _ _ _ (hw.set i) (hcl.set hi) hn
    · exact wp_of_sRun (D := DD md ops fl D i) ho (sRun_mono2 (fun a' w' hw' h' => ih _ _ _ (hw'.hold hcl hi) (hcl.set hi) h') (fun a' h' => ih _ _ _ (hw.set i) (hcl.set hi) h') hs)
theorem float_firstJ {i : Nat} {oi : Oper} {v : Value} (hi : ops[i]? = some oi) (hf : fl i = true) (hsel : ∀ (j : Nat) (o : Oper) cs b, ops[j]? = some o → o.op ≠ .select cs b) :
    ∀ (f : Nat) (listed : Array Bool) (a : Act) (w : World), Hold fl D listed w → Closed md ops listed →
      (∀ j oj, ops[j]? = some oj → j ≠ i → listed.getD j true = false → (∀ e ∈ oj.after, Region.binds md e = true → e.on ≠ i) → oi.apart ops oj = true) →
      i ∈ Region.ready md ops listed → fYld P ops (D i) oi a v → anyJ P md ops fl D Q f (listed.setIfInBounds i true) (a.put oi.dst v) w → anyJ P md ops fl D Q (f + 1) listed a w := by
  intro f
  induction f with
  | zero =>
    intro listed a w _ _ _ hr hy H
    refine ⟨fun h => (by rw [h] at hr; cases hr), fun j hj => ?_⟩
    by_cases hji : j = i
    · subst hji; exact ⟨oi, hi, .inl ⟨hf, v, hy, H⟩⟩
    · have := ready_mono hj hji
      rw [H.1] at this
      cases this
  | succ f ih =>
    intro listed a w hw hcl hfree hr hy H
    refine ⟨fun h => (by rw [h] at hr; cases hr), fun j hj => ?_⟩
    by_cases hji : j = i
    · subst hji; exact ⟨oi, hi, .inl ⟨hf, v, hy, H⟩⟩
    · obtain ⟨oj, hoj, h1⟩ := H.2 j (ready_mono hj hji)
      obtain ⟨hjun, oj', hoj', hall⟩ := mem_ready.1 hj
      obtain rfl : oj' = oj := Option.some.inj (hoj'.symm.trans hoj)
      have hnot : ∀ e ∈ oj'.after, Region.binds md e = true → e.on ≠ i := fun e he hb heq => by
        have := hall e he hb
        rw [heq, getD_both (mem_ready.1 hr).1] at this
        cases this
      have hap := hfree j oj' hoj hji hjun hnot
      have hfree' : ∀ k ok, ops[k]? = some ok → k ≠ i → (listed.setIfInBounds j true).getD k true = false → (∀ e ∈ ok.after, Region.binds md e = true → e.on ≠ i) → oi.apart ops ok = true := fun k ok hk hki hun hno => by
        refine hfree k ok hk hki ?_ hno
        by_cases hjk : j = k
        · subst hjk; exact hjun
        · rw [getD_set_ne true hjk] at hun; exact hun
      have hr' := ready_mono hr (Ne.symm hji)
      refine ⟨oj', hoj, ?_⟩
      rcases h1 with ⟨hfj, u, hyj, hn⟩ | ⟨hfj, hs⟩
      · refine .inl ⟨hfj, u, (fYld_put hap (fun cs b => hsel j oj' cs b hoj)).1 hyj, ih _ _ w (hw.set j) (hcl.set hj) hfree' hr' ((fYld_put' hap (fun cs b => hsel i oi cs b hi)).2 hy) ?_⟩
        rw [Array.setIfInBounds_comm _ _ hji, ← apart_symm_dst hap]
        exact hn
      · refine .inr ⟨hfj, ?_⟩
        have hs' := (sRun_put hap (fun cs b => hsel j oj' cs b hoj)).1 hs
        have key : ∀ a' w', Hold fl D (listed.setIfInBounds j true) w' → fYld P ops (D i) oi a' v → anyJ P md ops fl D Q f ((listed.setIfInBounds i true).setIfInBounds j true) (a'.put oi.dst v) w' → anyJ P md ops fl D Q (f + 1) (listed.setIfInBounds j true) a' w' := fun a' w' hw' hy' h' =>
          ih _ _ w' hw' (hcl.set hj) hfree' hr' hy' (by rw [Array.setIfInBounds_comm _ _ hji]; exact h')
        -- every outcome's frame is a with j's slot written
        have hput : ∀ u, fYld P ops (D i) oi (a.put oj'.dst u) v := fun u => (fYld_put' hap (fun cs b => hsel i oi cs b hi)).2 hy
        unfold sRun at hs' ⊢
        split
        · rename_i hwn
          rw [if_pos hwn] at hs'
          generalize (execOp a.eval oj').run P w = r at hs' ⊢
          cases r with
          | halt => exact hs'.elim
          | ok x w' => cases x with
            | value u => exact ⟨hs'.1, key _ _ (hs'.1.hold hcl hj) (hput u) hs'.2⟩
            | skip => exact ⟨hs'.1, key _ _ (hs'.1.hold hcl hj) (hput _) hs'.2⟩
            | enter g args => exact Calls.mono hs' fun e w'' ⟨u, e1, d, k⟩ => ⟨u, e1, d, key _ _ (d.hold hcl hj) (hput u) k⟩
            | _ => exact hs'.elim
        · rename_i hwn
          rw [if_neg hwn] at hs'
          exact key _ _ (hw.set j) (hput _) hs'

theorem seq_firstJ {i : Nat} {oi : Oper} (hi : ops[i]? = some oi) (hf : fl i = false) (hsel : ∀ (j : Nat) (o : Oper) cs b, ops[j]? = some o → o.op ≠ .select cs b) :
    ∀ (f : Nat) (listed : Array Bool) (a : Act) (w : World), Hold fl D listed w → Closed md ops listed →
      (∀ j oj, ops[j]? = some oj → j ≠ i → listed.getD j true = false → (∀ e ∈ oj.after, Region.binds md e = true → e.on ≠ i) → oi.apart ops oj = true) →
      (∀ j oj, ops[j]? = some oj → j ≠ i → listed.getD j true = false → fl j = true ∨ reach md ops ops.size j i = true) →
      i ∈ Region.ready md ops listed → sRun P ops (DD md ops fl D i) oi a w (fun a' w' => anyJ P md ops fl D Q f (listed.setIfInBounds i true) a' w') → anyJ P md ops fl D Q (f + 1) listed a w := by
  intro f
  induction f with
  | zero =>
    intro listed a w hw _ _ _ hr H
    refine ⟨fun h => (by rw [h] at hr; cases hr), fun j hj => ?_⟩
    by_cases hji : j = i
    · subst hji; exact ⟨oi, hi, .inr ⟨hf, H⟩⟩
    · obtain ⟨u, w', _, h⟩ := sRun_some2 H
      have := ready_mono hj hji
      rw [h.1] at this
      cases this
  | succ f ih =>
    intro listed a w hw hcl hfree hseq hr H
    refine ⟨fun h => (by rw [h] at hr; cases hr), fun j hj => ?_⟩
    by_cases hji : j = i
    · subst hji; exact ⟨oi, hi, .inr ⟨hf, H⟩⟩
    · obtain ⟨hjun, oj, hoj, hall⟩ := mem_ready.1 hj
      have hiun := getD_both (mem_ready.1 hr).1
      have hfj : fl j = true := by
        rcases hseq j oj hoj hji hjun with h | h
        · exact h
        · exact absurd hall (not_listed_of_reach hcl hiun ops.size j h oj hoj)
      have hnot : ∀ e ∈ oj.after, Region.binds md e = true → e.on ≠ i := fun e he hb heq => by
        have := hall e he hb
        rw [heq, hiun] at this
        cases this
      have hap := hfree j oj hoj hji hjun hnot
      have hsi := fun cs b => hsel i oi cs b hi
      have hsj := fun cs b => hsel j oj cs b hoj
      obtain ⟨u, w', hw', h⟩ := sRun_some2 H
      obtain ⟨oj2, hoj2, h2⟩ := h.2 j (ready_mono hj hji)
      obtain rfl : oj2 = oj := Option.some.inj (hoj2.symm.trans hoj)
      rcases h2 with ⟨_, v, hy, _⟩ | ⟨hno, _⟩
      · have hya : fYld P ops (D j) oj2 a v := (fYld_put hap hsj).1 hy
        refine ⟨oj2, hoj, .inl ⟨hfj, v, hya, ih _ _ w (hw.set j) (hcl.set hj) (fun k ok hk hki hun hno => hfree k ok hk hki ?_ hno) (fun k ok hk hki hun => hseq k ok hk hki ?_) (ready_mono hr (Ne.symm hji)) ?_⟩⟩
        · by_cases hjk : j = k
          · subst hjk; exact hjun
          · rw [getD_set_ne true hjk] at hun; exact hun
        · by_cases hjk : j = k
          · subst hjk; exact hjun
          · rw [getD_set_ne true hjk] at hun; exact hun
        · -- the others' run, with j's value already laid
          obtain ⟨g1, g2, g3⟩ := Oper.apart_spec hap
          have hc : ∀ u, (a.put oi.dst u).put oj2.dst v = (a.put oj2.dst v).put oi.dst u := fun u => Act.put_comm a u v g2
          have huniq : ∀ u2, fYld P ops (D j) oj2 (a.put oi.dst u2) v := fun u2 => (fYld_put hap hsj).2 hya
          have hnr : reach md ops ops.size i j = false := by
            cases hq : reach md ops ops.size i j with
            | false => rfl
            | true => exact absurd (mem_ready.1 hr).2 (fun ⟨oi', hoi', hall'⟩ => not_listed_of_reach hcl (getD_both hjun) ops.size i hq oi' hoi' hall')
          have key : ∀ u2 w2, D j w2 → anyJ P md ops fl D Q (f + 1) (listed.setIfInBounds i true) (a.put oi.dst u2) w2 → anyJ P md ops fl D Q f ((listed.setIfInBounds j true).setIfInBounds i true) ((a.put oj2.dst v).put oi.dst u2) w2 := fun u2 w2 hw2 hh => by
            obtain ⟨oj3, hoj3, h3⟩ := hh.2 j (ready_mono hj hji)
            obtain rfl : oj3 = oj2 := Option.some.inj (hoj3.symm.trans hoj)
            rcases h3 with ⟨_, v2, hy2, hn2⟩ | ⟨hno, _⟩
            · have hv : v2 = v := by
                have hu := huniq u2
                rcases hy2 with ⟨p1, p2⟩ | ⟨p1, p2⟩ <;> rcases hu with ⟨q1, q2⟩ | ⟨q1, q2⟩
                · have := (p2 w2 hw2).symm.trans (q2 w2 hw2)
                  simpa using this
                · rw [p1] at q1; cases q1
                · rw [p1] at q1; cases q1
                · rw [p2, q2]
              subst hv
              rw [Array.setIfInBounds_comm _ _ hji, ← hc]
              exact hn2
            · rw [hfj] at hno; cases hno
          unfold sRun at H ⊢
          rw [execOp_put oi hsi a oj2.dst v g3, wanted_put oi a oj2.dst v g3]
          split
          · rename_i hwn
            rw [if_pos hwn] at H
            generalize (execOp a.eval oi).run P w = r at H ⊢
            cases r with
            | halt => exact H.elim
            | ok x w' => cases x with
              | value u => exact ⟨H.1, key _ _ (H.1 j hfj hnr) H.2⟩
              | skip => exact ⟨H.1, key _ _ (H.1 j hfj hnr) H.2⟩
              | enter g args => exact Calls.mono H fun e w'' ⟨u, e1, d, k⟩ => ⟨u, e1, d, key _ _ (d j hfj hnr) k⟩
              | _ => exact H.elim
          · rename_i hwn
            rw [if_neg hwn] at H
            exact key _ _ (hw j hfj hjun) H
      · rw [hfj] at hno; cases hno

def wpJ (P : Program) (md : Region.Mode) (ops : Array Oper) (fl : Nat → Bool) (D : Nat → World → Prop) (Q : Act → World → Prop) : List Oper → Nat → Act → World → Prop
  | [], _, a, w => Q a w
  | o :: rest, k, a, w => bif fl k then ∃ v, fYld P ops (D k) o a v ∧ wpJ P md ops fl D Q rest (k + 1) (a.put o.dst v) w else sRun P ops (DD md ops fl D k) o a w fun a' w' => wpJ P md ops fl D Q rest (k + 1) a' w'
theorem anyJ_lex (hsel : Region.noSelect ops = true) : ∀ (l : List Oper) (k : Nat) (listed : Array Bool) (a : Act) (w : World), Hold fl D listed w → (∀ j, l[j]? = ops[k + j]?) → Closed md ops listed →
    Region.lexC md ops fl l.length k listed = true → wpJ P md ops fl D Q l k a w → anyJ P md ops fl D Q l.length listed a w := by
  intro l
  induction l with
  | nil =>
    intro k listed a w _ _ _ hB h
    exact ⟨by simpa [Region.lexC] using hB, h⟩
  | cons o l ih =>
    intro k listed a w hw hl hcl hB h
    have h0 : ops[k]? = some o := by simpa using (hl 0).symm
    have hl' : ∀ j, l[j]? = ops[(k + 1) + j]? := fun j => by have := hl (j + 1); simpa [Nat.add_assoc, Nat.add_comm 1 j] using this
    simp only [List.length_cons, Region.lexC, Bool.and_eq_true] at hB
    obtain ⟨⟨⟨hr, hf⟩, hs⟩, hB'⟩ := hB
    have hr' : k ∈ Region.ready md ops listed := by simpa using hr
    unfold wpJ at h
    cases hfl : fl k with
    | true =>
      rw [hfl] at h
      obtain ⟨v, hy, hn⟩ := h
      exact float_firstJ h0 hfl (Region.noSelect_spec hsel) l.length listed a w hw hcl (Region.free_spec h0 hf) hr' hy (ih (k + 1) _ _ w (hw.set k) hl' (hcl.set hr') hB' hn)
    | false =>
      rw [hfl] at h
      refine seq_firstJ h0 hfl (Region.noSelect_spec hsel) l.length listed a w hw hcl (Region.free_spec h0 hf) (fun j oj hj hji hun => ?_) hr' (sRun_mono2 (fun a' w' hw' h' => ih (k + 1) _ a' w' (hw'.hold hcl hr') hl' (hcl.set hr') hB' h') (fun a' h' => ih (k + 1) _ a' w (hw.set k) hl' (hcl.set hr') hB' h') h)
      rw [hfl] at hs
      simp only [Bool.false_or] at hs
      have hjl : j < ops.size := (Array.getElem?_eq_some_iff.1 hj).1
      have := List.all_eq_true.1 hs j (List.mem_range.2 hjl)
      simp only [Bool.or_eq_true] at this
      rcases this with ((h1 | h1) | h1) | h1
      · exact absurd (Nat.eq_of_beq_eq_true h1) hji
      · rw [hun] at h1; cases h1
      · exact .inl h1
      · exact .inr h1
theorem wp_region_chainJ {id : Nat} {Q' : Post} {a : Act} {w : World} {l : List Oper} (fl : Nat → Bool) (D : Nat → World → Prop) (hm : P.follows .mixedOrders = true) (hB : Region.chainOk .any l.toArray fl = true) (hD : ∀ k, fl k = true → D k { w with drawn := w.drawn + 1 })
    (h : wpJ P .any l.toArray fl D (fun a' w' => Q' .normal a' w') l 0 a { w with drawn := w.drawn + 1 }) : (Code.region id l.toArray true).wp P Q' a w := by
  simp only [Region.chainOk, Bool.and_eq_true] at hB
  refine wp_region_any hm ?_
  have hcl : Closed .any l.toArray (Array.replicate l.toArray.size false) := fun j oj _ hl => (by rw [getD_replicate_false] at hl; cases hl)
  have hh : Hold fl D (Array.replicate l.toArray.size false) { w with drawn := w.drawn + 1 } := fun k hk _ => hD k hk
  have := anyJ_lex (md := .any) (D := D) hB.1 l 0 (Array.replicate l.toArray.size false) a _ hh (by simp) hcl (by simpa using hB.2) h
  have h2 := any_of_anyJ (Q' := Q') (fun _ _ hq => hq) _ _ _ _ hh hcl this
  simpa using h2
end
/-! ## the judgement -/
def WJ (P : Program) (N : Nat) (ops : Array Oper) (fl : Nat → Bool) (D : Nat → World → Prop) (Q : Post) (l : List Oper) (k : Nat) (L : Slots) (w : World) : Prop :=
  ∀ a w1, Eqv w w1 → Has N L a → wpJ P .any ops fl D (fun a' w' => Q .normal a' w') l k a w1
section
variable {P : Program} {N : Nat} {ops : Array Oper} {fl : Nat → Bool} {D : Nat → World → Prop} {Q : Post} {L : Slots} {w : World} {k d : Nat} {op : Op} {ty : TypeId} {pos : String} {af : Array Edge} {rest : List Oper} {gd : Option (Nat × Bool)}
theorem WC.chainJ {i : Nat} {l : List Oper} (fl : Nat → Bool) (D : Nat → World → Prop) (hm : P.follows .mixedOrders = true) (hB : Region.chainOk .any l.toArray fl = true) (hE : ∀ k w', Eqv w w' → D k w') (h : WJ P N l.toArray fl D Q l 0 L w) : WC P N Q (.region i l.toArray true) L w := fun a _ e ha =>
  wp_region_chainJ fl D hm hB (fun k _ => hE k _ (e.drawn _)) (h a _ (e.drawn _) ha)
theorem WJ.nil (h : WX N Q .normal L w) : WJ P N ops fl D Q [] k L w := fun a w1 e ha => h a w1 e ha
theorem WJ.yw {v : Value} (hf : fl k = true) (hg : Wants N ops L gd) (hd : Nat.blt d N = true) (hy : ∀ w', D k w' → Yld P N w' ⟨some d, op, ty, pos, af, none⟩ L v) (h : WJ P N ops fl D Q rest (k + 1) ((d, v) :: L) w) :
    WJ P N ops fl D Q (⟨some d, op, ty, pos, af, gd⟩ :: rest) k L w := fun a w1 e ha => by
  unfold wpJ
  rw [hf]
  exact ⟨v, .inl ⟨Wants.wanted (o := ⟨some d, op, ty, pos, af, gd⟩) hg ha, fun w' hw' => hy w' hw' a w' (Eqv.refl _) ha⟩, h _ _ e (ha.put hd v)⟩
theorem WJ.y {v : Value} (hf : fl k = true) (hd : Nat.blt d N = true) (hy : ∀ w', D k w' → Yld P N w' ⟨some d, op, ty, pos, af, none⟩ L v) (h : WJ P N ops fl D Q rest (k + 1) ((d, v) :: L) w) :
    WJ P N ops fl D Q (⟨some d, op, ty, pos, af, none⟩ :: rest) k L w := WJ.yw hf wants_none hd hy h
theorem WJ.putw {R : Value → World → Prop} (hf : fl k = false) (hg : Wants N ops L gd) (hd : Nat.blt d N = true) (hr : Eff P N w ⟨some d, op, ty, pos, af, none⟩ L R) (hD : ∀ v w', R v w' → DD .any ops fl D k w')
    (hk : ∀ v w', R v w' → WJ P N ops fl D Q rest (k + 1) ((d, v) :: L) w') : WJ P N ops fl D Q (⟨some d, op, ty, pos, af, gd⟩ :: rest) k L w := fun a w1 e ha => by
  unfold wpJ
  rw [hf]
  show sRun _ _ _ _ _ _ _
  unfold sRun
  rw [if_pos (Wants.wanted (o := ⟨some d, op, ty, pos, af, gd⟩) hg ha)]
  obtain ⟨v, w', h, hR⟩ := hr a w1 e ha
  have h' : (execOp a.eval ⟨some d, op, ty, pos, af, gd⟩).run P w1 = .ok (.value v) w' := h
  rw [h']
  exact ⟨hD v w' hR, hk v w' hR _ w' (Eqv.refl _) (ha.put hd v)⟩
theorem WJ.call {R : Value → World → Prop} {g : FuncId} {as_ : List Operand} {ts : Array TypeId} {vs : List Value} (hf : fl k = false) (hg : Wants N ops L gd) (hd : Nat.blt d N = true) (hv : opvs L as_ = some vs) (hc : Fn P g ⟨vs⟩ w R) (hD : ∀ v w', R v w' → ∀ w2, Eqv w' w2 → DD .any ops fl D k w2)
    (hk : ∀ v w', R v w' → WJ P N ops fl D Q rest (k + 1) ((d, v) :: L) w') : WJ P N ops fl D Q (⟨some d, .call ⟨.value (.func g), ⟨as_⟩, ts⟩, ty, pos, af, gd⟩ :: rest) k L w := fun a w1 e ha => by
  unfold wpJ
  rw [hf]
  show sRun _ _ _ _ _ _ _
  unfold sRun
  rw [if_pos (Wants.wanted (o := ⟨some d, .call ⟨.value (.func g), ⟨as_⟩, ts⟩, ty, pos, af, gd⟩) hg ha), run_enter ha hv hc.1]
  refine (hc.2 w1 e).mono ?_
  rintro en w' ⟨v, w0, rfl, h0, hR⟩
  exact ⟨v, rfl, hD v w0 hR w' h0, hk v w0 hR _ w' h0 (ha.put hd v)⟩
theorem WJ.no {j d' : Nat} {t : Bool} (hj : (ops[j]?).bind (·.dst) = some d') (hN : Nat.blt d' N = true) (hb : lk L d' = some (.bool (!t))) (hd : Nat.blt d N = true) (h : WJ P N ops fl D Q rest (k + 1) ((d, undef) :: L) w) :
    WJ P N ops fl D Q (⟨some d, op, ty, pos, af, some (j, t)⟩ :: rest) k L w := fun a w1 e ha => by
  have hno : Region.wanted ⟨some d, op, ty, pos, af, some (j, t)⟩ (yielded ops a.tmps) = false := by
    have := yielded_of ha hj hN hb
    simp [Region.wanted, this]
  unfold wpJ
  cases hf : fl k with
  | true => exact ⟨undef, .inr ⟨hno, rfl⟩, h _ _ e (ha.put hd undef)⟩
  | false =>
    show sRun _ _ _ _ _ _ _
    unfold sRun
    rw [if_neg (by rw [hno]; simp)]
    exact h _ _ e (ha.put hd undef)
theorem WJ.eff {R : World → Prop} (hf : fl k = false) (hr : Ef0 P N w ⟨none, op, ty, pos, af, none⟩ L R) (hD : ∀ w', R w' → DD .any ops fl D k w') (hk : ∀ w', R w' → WJ P N ops fl D Q rest (k + 1) L w') :
    WJ P N ops fl D Q (⟨none, op, ty, pos, af, none⟩ :: rest) k L w := fun a w1 e ha => by
  unfold wpJ
  rw [hf]
  show sRun _ _ _ _ _ _ _
  unfold sRun
  rw [if_pos (by simp [Region.wanted])]
  obtain ⟨w', h, hR⟩ := hr a w1 e ha
  rw [h]
  exact ⟨hD w' hR, hk w' hR _ w' (Eqv.refl _) ha⟩
/-- the floats of lo read what I tells of -/
def LD (lo : List Nat) (I : World → Prop) (k : Nat) (w : World) : Prop := lo.contains k = true → I w
theorem DD.past {lo : List Nat} {I : World → Prop} {w' : World} (h : lo.all (fun k => reach .any ops ops.size d k) = true) : DD .any ops fl (LD lo I) d w' := fun k _ hr hk => by
  have := List.all_eq_true.1 h k (by simpa using hk)
  rw [hr] at this
  cases this
theorem DD.keep {lo : List Nat} {I : World → Prop} {w' : World} (h : I w') : DD .any ops fl (LD lo I) d w' := fun _ _ _ _ => h
end
end Go.Proofs.YtilphcippnfklaaDoor
 /- An element's address: in whatever world. -/
namespace Go.Proofs.YtilphcippnfklaaDoor
open Go Go.RowKit
section
variable {P : Program} {T : Tab} {N : Nat} {L : Slots} {w w0 : World} {ty : TypeId} {pos : String} {af : Array Edge} {t : TypeId} {x i : Operand} {k : IntKind} {q : Int} {α : Type} {f : α → Value} {A : Option Addr} {c n : Nat} {xs : List α}
theorem Yld.iaddrW {dd : Option Tmp} {e : TypeId} (hT : T.Ok P) (hR : Rd f w0 A c xs) (hs : nk T.sl t = some (e, 1)) (hx : opv L x = some (.slice A n c)) (hn : n = xs.length) (hi : opv L i = some (.int k q)) (h0 : 0 ≤ q) (h1 : q < n) :
    Yld P N w ⟨dd, .indexAddr t x i, ty, pos, af, none⟩ L (.pointer (A.map (·.add q.toNat))) := fun a w1 _ ha => by
  obtain ⟨hu, j, hj, hj1⟩ := hT.sl hs
  obtain ⟨ad, rfl, _⟩ := hR.cells (fun e => by rw [e] at hn; simp at hn; omega)
  unfold execOp
  simp [ha.ev hx, ha.ev hi, Instr.indexAt, run_underlying hu, asIntOf, h0, h1, sizeOf, typeInfo, hj, hj1]
theorem Yld.iaddrNW {dd : Option Tmp} {e : TypeId} {j : Nat} (hT : T.Ok P) (hR : Rd f w0 A c xs) (hs : nk T.sl t = some (e, 1)) (hx : opv L x = some (.slice A n c)) (hn : n = xs.length) (hi : opv L i = some (.int k (j : Int))) (h1 : j < n) :
    Yld P N w ⟨dd, .indexAddr t x i, ty, pos, af, none⟩ L (.pointer (A.map (·.add j))) := by
  have := Yld.iaddrW (N := N) (w := w) (dd := dd) (ty := ty) (pos := pos) (af := af) hT hR hs hx hn hi (by omega) (by omega)
  rwa [Int.toNat_natCast] at this
variable {y : Operand} {us : List Value} {e : TypeId} {B : Nat}
theorem Ef0.store1 {g o : Nat} {u : Value} (h1 : sz1 P t = true) (hx : opv L x = some (.pointer (some ⟨g, o, none⟩))) (hy : opv L y = some u) (hu : u.oneCell' = true) (hB : Bl w g e us) (ho : o < us.length) :
    Ef0 P N w ⟨none, .store t x y, ty, pos, af, none⟩ L (fun w' => Bl w' g e (us.set o u) ∧ w.grownBy w' (some g)) := fun a w1 hw ha => by
  have hB1 := bl_eqv hw hB
  unfold sz1 at h1
  split at h1
  · rename_i j hj
    refine ⟨_, ?_, bl_set (o := o) (u := u) hB1, eqv_gr hw (gr_set w1 ⟨g, o, none⟩ u)⟩
    unfold execOp
    simp only [ha.ev hx, ha.ev hy, Sem.run_bind, run_store1 hB1 ho hu hj (Nat.eq_of_beq_eq_true h1), Result.andThen_ok, Sem.run_pure]
  · cases h1
theorem Ef0.ostore {j : Nat} {v : α} (h1 : sz1 P t = true) (hf : One f) (hO : Own f w B e A c xs) (hx : opv L x = some (.pointer (A.map (·.add j)))) (hy : opv L y = some (f v)) (hj : j < xs.length) :
    Ef0 P N w ⟨none, .store t x y, ty, pos, af, none⟩ L (fun w' => Own f w' B e A c (xs.set j v) ∧ w.grownBy w' (blk A)) := fun a w1 hw ha => by
  unfold Own at hO
  rcases hO.2 with ⟨hv, hn⟩ | ⟨g, cap, cur, hv, hb, hg, hnc, hcm, hcs, htake⟩
  · omega
  · simp only [Value.slice.injEq] at hv
    obtain ⟨rfl, _, rfl⟩ := hv
    obtain ⟨w', hr, hB', hgr⟩ := Ef0.store1 (P := P) (N := N) (ty := ty) (pos := pos) (af := af) (g := g) (o := j) (e := e) (us := cur.toList) (u := f v) h1 (by rw [hx]; simp [Addr.add_mid]) hy (hf v) (by unfold Bl; exact hg) (by have : cur.size = c * 1 := hcs; rw [Array.length_toList]; omega) a w1 hw ha
    refine ⟨w', hr, ?_, hgr⟩
    unfold Own
    refine ⟨by simp, .inr ⟨g, c, _, by simp, hb, hB', by simpa using hnc, hcm, by simpa using hcs, ?_⟩⟩
    simp only [List.length_set, List.map_set]
    rw [List.take_set, ← htake]
end
section
variable {P : Program} {N : Nat} {ops : Array Oper} {Q : Post} {L : Slots} {w : World} {ty : TypeId} {pos : String} {af : Array Edge} {rest : List Oper} {op : Op} {j d' d k : Nat} {t : Bool}
theorem not_wanted_undef {o : Oper} {a : Act} (hg : o.guard = some (j, t)) (hj : (ops[j]?).bind (·.dst) = some d') (hN : Nat.blt d' N = true) (hb : lk L d' = some undef) (ha : Has N L a) : Region.wanted o (yielded ops a.tmps) = false := by
  have h1 : d' < a.tmps.size := by rw [ha.size]; simpa [Nat.blt_eq] using hN
  have h2 := ha.get d' _ hb
  have h3 : a.tmps[d'] = undef := by rw [← h2]; simp [Array.getD, h1]
  have h4 : yielded ops a.tmps j = none := by
    unfold yielded
    rw [hj]
    simp only [Option.bind_some, Array.getElem?_eq_getElem h1, h3]
    rfl
  simp [Region.wanted, hg, h4]
/-- the guard itself was not reached -/
theorem WL.gun (hj : (ops[j]?).bind (·.dst) = some d') (hN : Nat.blt d' N = true) (hb : lk L d' = some undef) (hd : Nat.blt d N = true) (h : WL P N ops Q rest ((d, undef) :: L) w) :
    WL P N ops Q (⟨some d, op, ty, pos, af, some (j, t)⟩ :: rest) L w := fun a w1 e ha => by
  refine wpList_step fun K hK => ?_
  rw [if_neg (by rw [not_wanted_undef (o := ⟨some d, op, ty, pos, af, some (j, t)⟩) rfl hj hN hb ha]; simp)]
  exact hK _ _ (h _ _ e (ha.put hd undef))
theorem WQ.gun {K : Act → Prop} (hj : (ops[j]?).bind (·.dst) = some d') (hN : Nat.blt d' N = true) (hb : lk L d' = some undef) (hd : Nat.blt d N = true) (h : WQ P N ops K rest ((d, undef) :: L) w) :
    WQ P N ops K (⟨some d, op, ty, pos, af, some (j, t)⟩ :: rest) L w := fun a ha => by
  refine wpQuiet_step fun K' hK => ?_
  rw [if_neg (by rw [not_wanted_undef (o := ⟨some d, op, ty, pos, af, some (j, t)⟩) rfl hj hN hb ha]; simp)]
  exact hK _ (h _ (ha.put hd undef))
theorem WJ.gun {fl : Nat → Bool} {D : Nat → World → Prop} (hj : (ops[j]?).bind (·.dst) = some d') (hN : Nat.blt d' N = true) (hb : lk L d' = some undef) (hd : Nat.blt d N = true) (h : WJ P N ops fl D Q rest (k + 1) ((d, undef) :: L) w) :
    WJ P N ops fl D Q (⟨some d, op, ty, pos, af, some (j, t)⟩ :: rest) k L w := fun a w1 e ha => by
  have hno := not_wanted_undef (o := ⟨some d, op, ty, pos, af, some (j, t)⟩) rfl hj hN hb ha
  unfold wpJ
  cases hf : fl k with
  | true => exact ⟨undef, .inr ⟨hno, rfl⟩, h _ _ e (ha.put hd undef)⟩
  | false =>
    show sRun _ _ _ _ _ _ _
    unfold sRun
    rw [if_neg (by rw [hno]; simp)]
    exact h _ _ e (ha.put hd undef)
end
theorem WL.weaken {P : Program} {N : Nat} {ops : Array Oper} {Q : Post} {L L' : Slots} {w : World} {l : List Oper} (hs : Sub L L') (h : WL P N ops Q l L' w) : WL P N ops Q l L w := fun a w1 e ha => h a w1 e (ha.sub hs)
/-- a piece of code that comes to one frame in the same world: what stands behind is walked once -/
theorem WC.seqW {P : Program} {N : Nat} {Q : Post} {L : Slots} {w : World} {x y : Code} (L' : Slots) (h1 : ∀ Q' : Post, WX N Q' .normal L' w → WC P N Q' x L w) (h2 : WC P N Q y L' w) : WC P N Q (.seq x y) L w := WC.seq (h1 _ (WX.then_normal h2))
/-- .. or to one kind of frame and world -/
theorem WC.seqI {P : Program} {N : Nat} {Q : Post} {L : Slots} {w : World} {x y : Code} {S : Type} (Ls : S → Slots) (I : S → World → Prop) (h1 : ∀ Q' : Post, (∀ s w', I s w' → WX N Q' .normal (Ls s) w') → WC P N Q' x L w) (h2 : ∀ s w', I s w' → WC P N Q y (Ls s) w') : WC P N Q (.seq x y) L w := WC.seq (h1 _ fun s w' h => WX.then_normal (h2 s w' h))
end Go.Proofs.YtilphcippnfklaaDoor
 /- A quick check of a drawn region's chain: who waits for whom, as_ sets of bits. -/
namespace Go.Proofs.YtilphcippnfklaaDoor
open Go Go.RowKit
theorem reach_mono {md : Region.Mode} {ops : Array Oper} : ∀ (f g j k : Nat), f ≤ g → reach md ops f j k = true → reach md ops g j k = true
  | 0, _, _, _, _, h => by simp [reach] at h
  | f + 1, 0, _, _, hg, _ => by omega
  | f + 1, g + 1, j, k, hg, h => by
    unfold reach at h ⊢
    cases ho : ops[j]? with
    | none => rw [ho] at h; cases h
    | some oj =>
      rw [ho] at h
      simp only at h ⊢
      obtain ⟨e, he, h2⟩ := Array.any_eq_true'.1 h
      refine Array.any_eq_true'.2 ⟨e, he, ?_⟩
      simp only [Bool.and_eq_true, Bool.or_eq_true] at h2 ⊢
      exact ⟨h2.1, h2.2.imp id (fun h3 => reach_mono f g _ _ (by omega) h3)⟩
def emask (md : Region.Mode) (acc : List Nat) : List Edge → Nat
  | [] => 0
  | e :: es => bif Region.binds md e then Nat.lor (Nat.lor (Nat.shiftLeft 1 e.on) (acc.getD e.on 0)) (emask md acc es) else emask md acc es
def maskL (md : Region.Mode) : List Oper → List Nat → List Nat
  | [], acc => acc
  | o :: l, acc => maskL md l (acc ++ [emask md acc o.after.toList])
theorem emask_spec {md : Region.Mode} {acc : List Nat} : ∀ {es : List Edge} {k : Nat}, (emask md acc es).testBit k = true → ∃ e ∈ es, Region.binds md e = true ∧ (e.on = k ∨ (acc.getD e.on 0).testBit k = true)
  | [], k, h => by simp [emask] at h
  | e :: es, k, h => by
    unfold emask at h
    cases hb : Region.binds md e with
    | false =>
      rw [hb] at h
      obtain ⟨e', he', h'⟩ := emask_spec (by simpa using h)
      exact ⟨e', by simp [he'], h'⟩
    | true =>
      rw [hb] at h
      simp only [cond_true] at h
      have h : ((1 <<< e.on ||| acc.getD e.on 0) ||| emask md acc es).testBit k = true := h
      rw [Nat.testBit_or, Nat.testBit_or, Bool.or_eq_true, Bool.or_eq_true] at h
      rcases h with (h | h) | h
      · refine ⟨e, by simp, hb, .inl ?_⟩
        rw [Nat.testBit_shiftLeft] at h
        simp only [Bool.and_eq_true, decide_eq_true_eq, ge_iff_le] at h
        have h2 := h.2
        rw [Nat.testBit_one_eq_true_iff_self_eq_zero] at h2
        omega
      · exact ⟨e, by simp, hb, .inr h⟩
      · obtain ⟨e', he', h'⟩ := emask_spec h
        exact ⟨e', by simp [he'], h'⟩
def MaskOk (md : Region.Mode) (ops : Array Oper) (acc : List Nat) : Prop := ∀ j k, (acc.getD j 0).testBit k = true → reach md ops (j + 1) j k = true
def backL (md : Region.Mode) : Nat → List Oper → Bool
  | _, [] => true
  | k, o :: l => o.after.toList.all (fun e => !Region.binds md e || Nat.blt e.on k) && backL md (k + 1) l
theorem maskL_ok {md : Region.Mode} {ops : Array Oper} : ∀ (l : List Oper) (acc : List Nat), (∀ j, l[j]? = ops[acc.length + j]?) → backL md acc.length l = true → MaskOk md ops acc → MaskOk md ops (maskL md l acc) ∧ (maskL md l acc).length = acc.length + l.length
  | [], acc, _, _, h => ⟨h, by simp [maskL]⟩
  | o :: l, acc, hl, hb, h => by
    have h0 : ops[acc.length]? = some o := by simpa using (hl 0).symm
    simp only [backL, Bool.and_eq_true] at hb
    have ih := maskL_ok l (acc ++ [emask md acc o.after.toList]) (fun j => by
      have := hl (j + 1)
      simp only [List.getElem?_cons_succ, List.length_append, List.length_singleton] at this ⊢
      rw [this]; congr 1; omega) (by simpa using hb.2) (fun j k hj => by
      rcases Nat.lt_trichotomy j acc.length with hlt | heq | hgt
      · rw [List.getD_eq_getElem?_getD, List.getElem?_append_left hlt, ← List.getD_eq_getElem?_getD] at hj
        exact h j k hj
      · subst heq
        have : (acc ++ [emask md acc o.after.toList]).getD acc.length 0 = emask md acc o.after.toList := by simp [List.getD]
        rw [this] at hj
        obtain ⟨e, he, hbind, h3⟩ := emask_spec hj
        unfold reach
        rw [h0]
        refine Array.any_eq_true'.2 ⟨e, by simpa using he, ?_⟩
        simp only [Bool.and_eq_true, Bool.or_eq_true]
        refine ⟨hbind, h3.imp (fun h => by rw [h]; exact Nat.beq_refl _) (fun h3 => ?_)⟩
        have hlt : e.on < acc.length := by
          have := List.all_eq_true.1 hb.1 e he
          simpa [hbind, Nat.blt_eq] using this
        exact reach_mono _ _ _ _ (by omega) (h e.on k h3)
      · rw [List.getD_eq_getElem?_getD, List.getElem?_eq_none (by simp; omega)] at hj
        simp at hj)
    refine ⟨ih.1, ?_⟩
    have h5 := ih.2
    have e5 : maskL md (o :: l) acc = maskL md l (acc ++ [emask md acc o.after.toList]) := rfl
    rw [e5, h5]
    simp only [List.length_append, List.length_cons, List.length_nil]
    omega
def flAll (fl : Nat → Bool) (k : Nat) : Nat → List Nat → Bool
  | _, [] => true
  | j, m :: ms => (fl j || Nat.testBit m k) && flAll fl k (j + 1) ms
theorem flAll_spec {fl : Nat → Bool} {k : Nat} : ∀ {ms : List Nat} {j i : Nat}, flAll fl k j ms = true → i < ms.length → fl (j + i) = true ∨ (ms.getD i 0).testBit k = true
  | [], _, _, _, h => by simp at h
  | m :: ms, j, 0, h, _ => by simp only [flAll, Bool.and_eq_true, Bool.or_eq_true] at h; simpa using h.1
  | m :: ms, j, i + 1, h, hi => by
    simp only [flAll, Bool.and_eq_true, Bool.or_eq_true] at h
    have := flAll_spec h.2 (i := i) (by simpa using hi)
    rw [show j + (i + 1) = j + 1 + i by omega]
    simpa using this
def lex2 (md : Region.Mode) (ops : Array Oper) (fl : Nat → Bool) : Nat → List Oper → List Nat → Bool
  | _, [], [] => true
  | k, o :: rest, _ :: ms => rest.all (fun oj => oj.after.any (fun e => Region.binds md e && e.on == k) || o.apart ops oj) && ((fl k || flAll fl k (k + 1) ms) && lex2 md ops fl (k + 1) rest ms)
  | _, _, _ => false
theorem lexC_of {md : Region.Mode} {ops : Array Oper} {fl : Nat → Bool} {M : List Nat} (hM : MaskOk md ops M) (hlen : M.length = ops.size) : ∀ (l : List Oper) (k : Nat) (listed : Array Bool), listed.size = ops.size → (∀ j, j < ops.size → ∀ b, listed.getD j b = decide (j < k)) → (∀ j, l[j]? = ops[k + j]?) → k + l.length = ops.size →
    backL md k l = true → lex2 md ops fl k l (M.drop k) = true → Region.lexC md ops fl l.length k listed = true
  | [], k, listed, hs, hlis, hl, hk, hb, h => by
    simp only [List.length_nil, Region.lexC, Nat.add_zero] at *
    rw [List.isEmpty_iff, Region.ready, List.filter_eq_nil_iff]
    intro i hi
    rw [List.mem_range] at hi
    simp [hlis i hi true, hk, hi]
  | o :: rest, k, listed, hs, hlis, hl, hk, hb, h => by
    have h0 : ops[k]? = some o := by simpa using (hl 0).symm
    have hkn : k < ops.size := by simp at hk; omega
    have hdrop : M.drop k = M.getD k 0 :: M.drop (k + 1) := by
      rw [List.drop_eq_getElem_cons (by omega)]
      simp [List.getD, List.getElem?_eq_getElem (by omega : k < M.length)]
    rw [hdrop] at h
    simp only [lex2, Bool.and_eq_true] at h
    obtain ⟨hap, hfl, hrest⟩ := h
    simp only [backL, Bool.and_eq_true] at hb
    simp only [List.length_cons, Region.lexC, Bool.and_eq_true]
    have hrj : ∀ j, k < j → ∀ oj, ops[j]? = some oj → oj ∈ rest := fun j hj oj hoj => by
      have := hl (j - k)
      rw [show k + (j - k) = j by omega, hoj, show j - k = (j - k - 1) + 1 by omega, List.getElem?_cons_succ] at this
      exact List.mem_of_getElem? this
    refine ⟨⟨⟨?_, ?_⟩, ?_⟩, ?_⟩
    · rw [List.contains_iff_mem, mem_ready]
      refine ⟨by rw [hlis k hkn]; simp, o, h0, fun e he hbe => ?_⟩
      have := List.all_eq_true.1 hb.1 e (by simpa using he)
      simp only [hbe, Bool.not_true, Bool.false_or, Nat.blt_eq] at this
      rw [hlis e.on (by omega)]
      simpa using this
    · simp only [Region.free, h0, List.all_eq_true, List.mem_range]
      intro j hj
      rcases Nat.lt_trichotomy j k with hlt | heq | hgt
      · rw [hlis j hj]; simp [hlt]
      · simp [heq]
      · have hoj : ops[j]? = some ops[j] := Array.getElem?_eq_getElem hj
        rw [hoj]
        have := List.all_eq_true.1 hap _ (hrj j hgt _ hoj)
        show (j == k || listed.getD j true || ((ops[j].after.any fun e => Region.binds md e && e.on == k) || Oper.apart ops o ops[j])) = true
        rw [this]; simp
    · rcases Bool.or_eq_true _ _ ▸ hfl with h1 | h1
      · rw [h1]; rfl
      · rw [Bool.or_eq_true]; right
        rw [List.all_eq_true]
        intro j hj
        rw [List.mem_range] at hj
        rcases Nat.lt_trichotomy j k with hlt | heq | hgt
        · rw [hlis j hj]; simp [hlt]
        · simp [heq]
        · have h3 := flAll_spec h1 (i := j - (k + 1)) (by rw [List.length_drop]; omega)
          rw [show k + 1 + (j - (k + 1)) = j by omega] at h3
          rcases h3 with h3 | h3
          · rw [h3]; simp
          · have h4 : (M.getD j 0).testBit k = true := by
              rw [List.getD_eq_getElem?_getD, List.getElem?_drop, show k + 1 + (j - (k + 1)) = j by omega] at h3
              rwa [List.getD_eq_getElem?_getD]
            rw [reach_mono _ _ _ _ (by omega) (hM j k h4)]; simp
    · refine lexC_of hM hlen rest (k + 1) (listed.setIfInBounds k true) (by simp [hs]) (fun j hj b => ?_) (fun j => ?_) (by simp at hk; omega) hb.2 hrest
      · rcases Nat.lt_trichotomy j k with hlt | heq | hgt
        · rw [getD_set_ne b (by omega), hlis j hj]; simp [hlt]; omega
        · subst heq; simp [Array.getD, hs, hj]
        · rw [getD_set_ne b (by omega), hlis j hj]
          rw [decide_eq_decide]; omega
      · have := hl (j + 1)
        simp only [List.getElem?_cons_succ] at this
        rw [this]; congr 1; omega
def chain2 (md : Region.Mode) (l : List Oper) (fl : Nat → Bool) : Bool := Region.noSelect l.toArray && (backL md 0 l && lex2 md l.toArray fl 0 l (maskL md l []))
theorem chain2_ok {md : Region.Mode} {l : List Oper} {fl : Nat → Bool} (h : chain2 md l fl = true) : Region.chainOk md l.toArray fl = true := by
  simp only [chain2, Bool.and_eq_true] at h
  obtain ⟨h1, h2, h3⟩ := h
  obtain ⟨hM, hlen⟩ := maskL_ok (ops := l.toArray) l [] (fun j => by simp) h2 (fun j k hj => by simp at hj)
  unfold Region.chainOk
  rw [h1, Bool.true_and]
  exact lexC_of (l := l) hM (by simpa using hlen) 0 _ (by simp) (fun j hj b => by simp at hj; simp [Array.getD, hj]) (fun j => by simp) (by simp) h2 (by simpa using h3)
section
variable {P : Program} {N : Nat} {Q : Post} {L : Slots} {w : World}
theorem WC.chainF {i : Nat} {l : List Oper} (fl : Nat → Bool) (D : Nat → World → Prop) (hm : P.follows .mixedOrders = true) (hB : chain2 .any l fl = true) (hE : ∀ k w', Eqv w w' → D k w') (h : WJ P N l.toArray fl D Q l 0 L w) : WC P N Q (.region i l.toArray true) L w := WC.chainJ fl D hm (chain2_ok hB) hE h
end
end Go.Proofs.YtilphcippnfklaaDoor
 /- The generator's rules: joins and loops over any number of ghosts; objects that lie apart; guards by an equation; results in a row. -/
namespace Go.Proofs.YtilphcippnfklaaDoor
open Go Go.RowKit
/-! ## the plain side: loops as_ 'there is an invariant and a measure' -/
def Lp1 {A : Type} (b : A → (A → Prop) → Prop) (a : A) : Prop := ∃ (I : A → Prop) (mu : A → Nat), I a ∧ ∀ a, I a → b a fun a' => I a' ∧ mu a' < mu a
def Lp2 {A B : Type} (b : A → B → (A → B → Prop) → Prop) (x : A) (y : B) : Prop := ∃ (I : A → B → Prop) (mu : A → B → Nat), I x y ∧ ∀ x y, I x y → b x y fun x' y' => I x' y' ∧ mu x' y' < mu x y
def Lp3 {A B C : Type} (b : A → B → C → (A → B → C → Prop) → Prop) (x : A) (y : B) (z : C) : Prop := ∃ (I : A → B → C → Prop) (mu : A → B → C → Nat), I x y z ∧ ∀ x y z, I x y z → b x y z fun x' y' z' => I x' y' z' ∧ mu x' y' z' < mu x y z
def Lp4 {A B C D : Type} (b : A → B → C → D → (A → B → C → D → Prop) → Prop) (x : A) (y : B) (z : C) (u : D) : Prop := ∃ (I : A → B → C → D → Prop) (mu : A → B → C → D → Nat), I x y z u ∧ ∀ x y z u, I x y z u → b x y z u fun x' y' z' u' => I x' y' z' u' ∧ mu x' y' z' u' < mu x y z u
def Lp5 {A B C D E : Type} (b : A → B → C → D → E → (A → B → C → D → E → Prop) → Prop) (x : A) (y : B) (z : C) (u : D) (v : E) : Prop := ∃ (I : A → B → C → D → E → Prop) (mu : A → B → C → D → E → Nat), I x y z u v ∧ ∀ x y z u v, I x y z u v → b x y z u v fun x' y' z' u' v' => I x' y' z' u' v' ∧ mu x' y' z' u' v' < mu x y z u v
def Lp6 {A B C D E F : Type} (b : A → B → C → D → E → F → (A → B → C → D → E → F → Prop) → Prop) (x : A) (y : B) (z : C) (u : D) (v : E) (s : F) : Prop := ∃ (I : A → B → C → D → E → F → Prop) (mu : A → B → C → D → E → F → Nat), I x y z u v s ∧ ∀ x y z u v s, I x y z u v s → b x y z u v s fun x' y' z' u' v' s' => I x' y' z' u' v' s' ∧ mu x' y' z' u' v' s' < mu x y z u v s
def vB (b : Bool) : Value := .bool b
theorem One.B : One vB := fun _ => rfl
/-- what lies at p is not what lies at q -/
def Dj (p q : Option Nat) : Prop := ∀ g, p = some g → q ≠ some g
theorem Dj.symm {p q : Option Nat} (h : Dj p q) : Dj q p := fun g hq hp => h g hp hq
def Dn {α : Type} (xs : List α) (p q : Option Nat) : Prop := xs ≠ [] → Dj p q
theorem Dn.of {α : Type} {xs : List α} {p q : Option Nat} (h : Dj p q) : Dn xs p q := fun _ => h
theorem Dn.sub {α β : Type} {xs : List α} {ys : List β} {p p' q : Option Nat} (h : Dn xs p q) (hx : ys ≠ [] → xs ≠ []) (hb : ∀ g, p' = some g → p = some g) : Dn ys p' q := fun hy g hg => h (hx hy) g (hb g hg)
theorem Dj.nl {q : Option Nat} : Dj none q := fun _ h => by cases h
theorem Dj.nr {q : Option Nat} : Dj q none := fun _ _ h => by cases h
theorem Dn.nr {α : Type} {xs : List α} {q : Option Nat} : Dn xs q none := fun _ => Dj.nr
/-- old and new -/
def Lt (p : Option Nat) (n : Nat) : Prop := ∀ g, p = some g → g < n
def Ge (p : Option Nat) (n : Nat) : Prop := ∀ g, p = some g → n ≤ g
theorem Dj.new {p q : Option Nat} {n : Nat} (h : Lt p n) (k : Ge q n) : Dj p q := fun g hp hq => by have := h g hp; have := k g hq; omega
theorem Dn.new {α : Type} {xs : List α} {p q : Option Nat} {n : Nat} (h : xs ≠ [] → Lt p n) (k : Ge q n) : Dn xs p q := fun hx => Dj.new (h hx) k
/-- what grew of p stays apart from q -/
theorem Dj.app {p p' q : Option Nat} {n : Nat} (h : Dj p q) (hq : Lt q n) (k : ∀ g, p' = some g → p = some g ∨ n ≤ g) : Dj p' q := fun g hp hqg => by
  rcases k g hp with h1 | h1
  · exact h g h1 hqg
  · have := hq g hqg; omega
theorem Dn.app {α : Type} {xs : List α} {r p p' : Option Nat} {n : Nat} (h : Dn xs r p) (hq : xs ≠ [] → Lt r n) (k : ∀ g, p' = some g → p = some g ∨ n ≤ g) : Dn xs r p' := fun hx => ((h hx).symm.app (hq hx) k).symm
theorem Lt.box {g n : Nat} (h : g < n) : Lt (some g) n := fun _ e => by cases e; exact h
theorem Ge.box {g n : Nat} (h : n ≤ g) : Ge (some g) n := fun _ e => by cases e; exact h
section
variable {α : Type} {f : α → Value} {w w' w0 : World} {A : Option Addr} {c B g : Nat} {xs : List α} {e : TypeId} {us : List Value} {row : Option Nat}
theorem Bl.lt' (h : Bl w g e us) : Lt (some g) w.heap.size := Lt.box h.lt
theorem Own.lt' (h : Own f w B e A c xs) : Lt (blk A) w.heap.size := fun _ hg => (h.lt hg).2
theorem Own.ge' (h : Own f w B e A c xs) : Ge (blk A) B := fun _ hg => (h.lt hg).1
theorem Rd.lt' (h : Rd f w A c xs) (hx : xs ≠ []) : Lt (blk A) w.heap.size := fun _ hg => h.lt hx hg
theorem Bl.go (h : Bl w g e us) (hg : w.grownBy w' row) (hd : Dj (some g) row) : Bl w' g e us := h.keep hg fun e => hd g rfl e
theorem Own.go (h : Own f w B e A c xs) (hg : w.grownBy w' row) (hd : Dj (blk A) row) : Own f w' B e A c xs := h.keep hg fun g e k => hd g k e
theorem Rd.go (h : Rd f w A c xs) (hg : w.grownBy w' row) (hd : Dn xs (blk A) row) : Rd f w' A c xs := h.keep' hg fun hx g e k => hd hx g k e
theorem Bl.g0 (h : Bl w g e us) (hg : w.grownBy w' none) : Bl w' g e us := h.keep hg (by simp)
theorem cell_g0 {p : Addr} {v : Value} (h : w.cell? p = some v) (hg : w.grownBy w' none) : w'.cell? p = some v := by
  have hlt := World.block_lt_of_cell? w _ h
  have := hg.block p.block hlt (by simp)
  unfold World.cell? at h ⊢
  rw [this]; exact h
/-- a write to what the call made itself -/
theorem gr_mod (h : w0.grownBy w none) (k : w.grownBy w' row) (hn : Ge row w0.heap.size) : w0.grownBy w' none := by
  cases row with
  | none => exact gr_trans h k
  | some g => exact gr_new h k (hn g rfl)
theorem size_le (h : w.grownBy w' row) : w.heap.size ≤ w'.heap.size := h.size
theorem Ge.none {n : Nat} : Ge Option.none n := fun _ h => by cases h
theorem Ge.le {p : Option Nat} {m n : Nat} (h : Ge p n) (k : m ≤ n) : Ge p m := fun g hg => Nat.le_trans k (h g hg)
end
/-! ## joins and loops -/
section
variable {P : Program} {N : Nat} {Q : Post} {L : Slots} {w : World}
theorem WC.midF {x : Code} (F : Slots → World → Prop) (h2 : ∀ L' w', F L' w' → WX N Q .normal L' w') (h1 : (∀ L' w', F L' w' → WX N Q .normal L' w') → WC P N Q x L w) : WC P N Q x L w := h1 h2
theorem WC.loopF {k : Code} (F : Nat → Slots → World → Prop) (n0 : Nat) (L0 : Slots) (h0 : F n0 L0 w) (hL : Sub L L0)
    (round : ∀ n L w, F n L w → WC P N (Exit.then (fun a' w' => ∃ n' L' w0, F n' L' w0 ∧ Eqv w0 w' ∧ Has N L' a' ∧ n' < n) Q) k L w) : WC P N Q (.loop k) L w :=
  WC.loopG (S := Nat × Slots) (fun s a' w' => ∃ n' L' w0, F n' L' w0 ∧ Eqv w0 w' ∧ Has N L' a' ∧ n' < s.1) (fun s => s.1) (fun s => s.2) (fun s => F s.1 s.2)
    (fun _ _ _ ⟨n', L', w0, h⟩ => ⟨(n', L'), w0, h⟩) (n0, L0) h0 hL (fun s w h => round s.1 s.2 w h)
theorem WX.roundF {F : Nat → Slots → World → Prop} {n n' : Nat} (L' : Slots) (hI : F n' L' w) (hL : Sub L L') (hm : n' < n) :
    WX N (Exit.then (fun a' w' => ∃ n' L' w0, F n' L' w0 ∧ Eqv w0 w' ∧ Has N L' a' ∧ n' < n) Q) .normal L w := fun _ _ e ha => ⟨n', L', w, hI, e, ha.sub hL, hm⟩
theorem WC.cut {c : Code} {L' : Slots} (hs : Sub L L') (h : WC P N Q c L' w) : WC P N Q c L w := h.weaken hs
end
theorem all1n : ∀ u ∈ ([] : List Value), u.oneCell' = true := fun _ h => by cases h
theorem all1c {u : Value} {us : List Value} (h : u.oneCell' = true) (t : ∀ v ∈ us, v.oneCell' = true) : ∀ v ∈ u :: us, v.oneCell' = true := fun v hv => by
  rcases List.mem_cons.1 hv with rfl | hv
  · exact h
  · exact t v hv
/-! ## guards -/
theorem okb {e t : Bool} (h : e = t) : some (Value.bool e) = some (Value.bool t) := by rw [h]
section
variable {P : Program} {T : Tab} {N : Nat} {L : Slots} {w : World} {ty : TypeId} {pos : String} {af : Array Edge} {dd : Option Tmp} {t t' : TypeId} {x y c i : Operand} {k : IntKind} {q : Int}
theorem Yld.pickT {u : Value} (hc : opv L c = some (.bool true)) (hx : opv L x = some u) : Yld P N w ⟨dd, .pick c x y, ty, pos, af, none⟩ L u := fun a w1 _ ha => by
  unfold execOp
  simp only [ha.ev hc, ha.ev hx, Sem.run_bind, asBool, Sem.run_pure, Result.andThen_ok]
  rfl
theorem Yld.pickF {u : Value} (hc : opv L c = some (.bool false)) (hy : opv L y = some u) : Yld P N w ⟨dd, .pick c x y, ty, pos, af, none⟩ L u := fun a w1 _ ha => by
  unfold execOp
  simp only [ha.ev hc, ha.ev hy, Sem.run_bind, asBool, Sem.run_pure, Result.andThen_ok]
  rfl
theorem Yld.scutF (hT : T.Ok P) {lo : Operand} {p : List UInt8} {u : Unit} {l : Int} (ht : nk T.str t = some u) (hx : opv L x = some (.string ⟨⟨p⟩⟩)) (hl : optv L (some lo) 0 = some l) (h0 : 0 ≤ l) (h1 : l ≤ p.length) : Yld P N w ⟨dd, .slice t x (some lo) none none, ty, pos, af, none⟩ L (.string ⟨⟨p.drop l.toNat⟩⟩) := by
  have h := Yld.scut (P := P) (N := N) (w := w) (d := dd) (ty := ty) (pos := pos) (af := af) hT ht hx hl (hi := none) (h := (p.length : Int)) rfl h0 h1 (by omega)
  have e : (p.drop l.toNat).take ((p.length : Int).toNat - l.toNat) = p.drop l.toNat := List.take_of_length_le (by simp)
  rw [e] at h
  exact h
end
section
variable {P : Program} {T : Tab} {N : Nat} {L : Slots} {w : World} {ty : TypeId} {pos : String} {af : Array Edge} {dd : Option Tmp} {t : TypeId} {x : Operand} {k : IntKind} {q : Int}
theorem Yld.neg (hT : T.Ok P) (hx : opv L x = some (.int k q)) (hi : In k (0 - q)) : Yld P N w ⟨dd, .unOp .neg t x, ty, pos, af, none⟩ L (.int k (0 - q)) := by
  have h := Yld.pure (P := P) (T := T) (L := L) (N := N) (w := w) (d := dd) (ty := ty) (pos := pos) (af := af) hT (op := .unOp .neg t x) (v := .int k (k.wrap (0 - q))) (by simp only [pv, hx, o1, pvUn])
  rw [In.wrap hi] at h
  exact h
end
/-! ## small facts -/
theorem nd_true {p : Prop} [Decidable p] (h : (!decide p) = true) : ¬ p := by simpa using h
theorem nd_false {p : Prop} [Decidable p] (h : (!decide p) = false) : p := by simpa using h
theorem iltN {α : Type} {xs : List α} {i : Int} {n : Nat} (h : 0 ≤ i ∧ i < (n : Int)) (hn : n = xs.length) : i.toNat < xs.length := by omega
theorem applen {a b c : Nat} (h : (a + b) * (c + 1) ≤ 140737488355328) : a + b ≤ maxLen := by
  have : (a + b) * 1 ≤ (a + b) * (c + 1) := Nat.mul_le_mul_left _ (by omega)
  simp only [maxLen]; omega
theorem ne_take {α : Type} {xs : List α} {n : Nat} (h : xs.take n ≠ []) : xs ≠ [] := fun e => h (by rw [e]; simp)
theorem ne_drop {α : Type} {xs : List α} {n : Nat} (h : xs.drop n ≠ []) : xs ≠ [] := fun e => h (by rw [e]; simp)
theorem ne_cut {α : Type} {xs : List α} {n m : Nat} (h : (xs.drop n).take m ≠ []) : xs ≠ [] := fun e => h (by rw [e]; simp)
theorem byte_eq {k : IntKind} {e : Int} (h : 0 ≤ e ∧ e ≤ 255) : some (Value.int k e) = some (Value.int k ((UInt8.ofNat e.toNat).toNat : Int)) := by
  have : ((UInt8.ofNat e.toNat).toNat : Int) = e := by rw [UInt8.toNat_ofNat']; omega
  rw [this]
theorem byte_eq' {e : Int} (h : 0 ≤ e ∧ e ≤ 255) : Value.int .u8 e = vb (UInt8.ofNat e.toNat) := by
  have : ((UInt8.ofNat e.toNat).toNat : Int) = e := by rw [UInt8.toNat_ofNat']; omega
  unfold vb; rw [this]
/-! ## where a result lies: new, or where an argument lies -/
def Orig (ne : Prop) (p : Option Nat) (n : Nat) (ps : List (Prop × Option Nat)) : Prop := ne → ∀ g, p = some g → n ≤ g ∨ ∃ x, List.Mem x ps ∧ x.1 ∧ x.2 = some g
def OrAll (Q : Prop → Option Nat → Prop) (ps : List (Prop × Option Nat)) : Prop := ∀ x, List.Mem x ps → Q x.1 x.2
theorem orN {Q : Prop → Option Nat → Prop} : OrAll Q [] := fun _ h => by cases h
theorem orC {Q : Prop → Option Nat → Prop} {a : Prop} {b : Option Nat} {ps : List (Prop × Option Nat)} (h : Q a b) (t : OrAll Q ps) : OrAll Q ((a, b) :: ps) := fun x hx => by
  cases hx with
  | head => exact h
  | tail _ hx => exact t x hx
theorem Orig.apart {α : Type} {ys : List α} {p z : Option Nat} {n : Nat} {ps : List (Prop × Option Nat)} (h : Orig (ys ≠ []) p n ps) (hz : Lt z n) (hs : OrAll (fun ne q => ne → Dj q z) ps) : Dn ys p z := fun hy g hg hzg => by
  rcases h hy g hg with h1 | ⟨x, hx, hne, hxg⟩
  · have := hz g hzg; omega
  · exact hs x hx hne g hxg hzg
theorem Orig.par {ne : Prop} {p : Option Nat} {n : Nat} {ps : List (Prop × Option Nat)} (h : List.Mem (ne, p) ps) : Orig ne p n ps := fun hn _ hg => .inr ⟨_, h, hn, hg⟩
theorem Orig.new {ne : Prop} {p : Option Nat} {n : Nat} {ps : List (Prop × Option Nat)} (h : Ge p n) : Orig ne p n ps := fun _ g hg => .inl (h g hg)
theorem Orig.sub {ne ne' : Prop} {p p' : Option Nat} {n : Nat} {ps : List (Prop × Option Nat)} (h : Orig ne p n ps) (hx : ne' → ne) (hb : ∀ g, p' = some g → p = some g) : Orig ne' p' n ps := fun hn g hg => h (hx hn) g (hb g hg)
theorem Orig.trans {ne : Prop} {p : Option Nat} {n m : Nat} {ps qs : List (Prop × Option Nat)} (h : Orig ne p n qs) (hm : m ≤ n) (hs : OrAll (fun ne q => Orig ne q m ps) qs) : Orig ne p m ps := fun hn g hg => by
  rcases h hn g hg with h1 | ⟨x, hx, hne, hxg⟩
  · exact .inl (by omega)
  · exact hs x hx hne g hxg
section
variable {P : Program} {T : Tab} {N : Nat} {ops : Array Oper} {Q : Post} {L : Slots} {w : World} {rest : List Oper} {d : Nat} {ty : TypeId} {pos : String} {af : Array Edge} {t t' : TypeId} {x y i : Operand} {k k' : IntKind} {q : Int}
variable {α : Type} {f : α → Value} {A : Option Addr} {c n B : Nat} {xs ys : List α} {e : TypeId}
theorem WL.cutF {e : TypeId} {lo : Operand} {l : Int} (hT : T.Ok P) (hR : Rd f w A c xs) (hd : Nat.blt d N = true) (hs : nk T.sl t = some (e, 1)) (hx : opv L x = some (.slice A n c)) (hn : n = xs.length) (hl : optv L (some lo) 0 = some l) (h0 : 0 ≤ l) (h1 : l ≤ (n : Int))
    (hk : ∀ A' c', Rd f w A' c' (xs.drop l.toNat) → (∀ g, blk A' = some g → blk A = some g) → WL P N ops Q rest ((d, .slice A' (xs.drop l.toNat).length c') :: L) w) : WL P N ops Q (⟨some d, .slice t x (some lo) none none, ty, pos, af, none⟩ :: rest) L w := by
  refine WL.cut (h := (n : Int)) hT hR hd hs hx hn hl rfl h0 h1 (Int.le_refl _) (fun A' c' => ?_)
  have e : (xs.drop l.toNat).take ((n : Int).toNat - l.toNat) = xs.drop l.toNat := List.take_of_length_le (by simp; omega)
  rw [e]
  exact hk A' c'
theorem WL.makeZI {q : Int} {z : α} {b : Nat} (hT : T.Ok P) (hd : Nat.blt d N = true) (hs : nk T.ow t = some (e, b)) (hz : zeroOf P e = some [f z]) (hx : opv L x = some (.int k q)) (hy : opv L y = some (.int k' q)) (h0 : 0 ≤ q) (hm : q * (b : Int) ≤ 140737488355328) (h63 : q ≤ 140737488355328) (hB : B ≤ w.heap.size)
    (hk : ∀ g w', Own f w' B e (some ⟨g, 0, none⟩) q.toNat (List.replicate q.toNat z) → w.grownBy w' none → w.heap.size ≤ g → WL P N ops Q rest ((d, .slice (some ⟨g, 0, none⟩) q.toNat q.toNat) :: L) w') :
    WL P N ops Q (⟨some d, .makeSlice t x y, ty, pos, af, none⟩ :: rest) L w := by
  have e1 : ((q.toNat : Nat) : Int) = q := Int.toNat_of_nonneg h0
  have e2 : q.toNat * b ≤ 140737488355328 := by
    have : ((q.toNat * b : Nat) : Int) ≤ 140737488355328 := by rw [Int.natCast_mul, e1]; exact hm
    omega
  exact WL.makeZ hT hd hs hz (by rw [e1]; exact hx) (by rw [e1]; exact hy) e2 (by omega) hB hk
theorem WL.makeCI {q : Int} {b : Nat} (hT : T.Ok P) (hd : Nat.blt d N = true) (hs : nk T.ow t = some (e, b)) (hx : opv L x = some (.int k 0)) (hy : opv L y = some (.int k' q)) (h0 : 0 ≤ q) (hm : q * (b : Int) ≤ 140737488355328) (h63 : q ≤ 140737488355328) (hB : B ≤ w.heap.size)
    (hk : ∀ g w', Own f w' B e (some ⟨g, 0, none⟩) q.toNat [] → w.grownBy w' none → w.heap.size ≤ g → WL P N ops Q rest ((d, .slice (some ⟨g, 0, none⟩) 0 q.toNat) :: L) w') :
    WL P N ops Q (⟨some d, .makeSlice t x y, ty, pos, af, none⟩ :: rest) L w := by
  have e1 : ((q.toNat : Nat) : Int) = q := Int.toNat_of_nonneg h0
  have e2 : q.toNat * b ≤ 140737488355328 := by
    have : ((q.toNat * b : Nat) : Int) ≤ 140737488355328 := by rw [Int.natCast_mul, e1]; exact hm
    omega
  exact WL.makeC hT hd hs hx (by rw [e1]; exact hy) e2 (by omega) hB hk
/-! ## in the midst of a region -/
theorem WL.midF {l : List Oper} (m : Nat) (F : Slots → World → Prop) (h2 : ∀ L' w', F L' w' → WL P N ops Q (l.drop m) L' w') (h1 : (∀ L' w', F L' w' → WL P N ops Q (l.drop m) L' w') → WL P N ops Q l L w) : WL P N ops Q l L w := h1 h2
theorem WQ.midF {K : Act → Prop} {l : List Oper} (m : Nat) (F : Slots → World → Prop) (h2 : ∀ L' w', F L' w' → WQ P N ops K (l.drop m) L' w') (h1 : (∀ L' w', F L' w' → WQ P N ops K (l.drop m) L' w') → WQ P N ops K l L w) : WQ P N ops K l L w := h1 h2
theorem WJ.midF {fl : Nat → Bool} {D : Nat → World → Prop} {l : List Oper} {j : Nat} (m : Nat) (F : Slots → World → Prop) (h2 : ∀ L' w', F L' w' → WJ P N ops fl D Q (l.drop m) (j + m) L' w') (h1 : (∀ L' w', F L' w' → WJ P N ops fl D Q (l.drop m) (j + m) L' w') → WJ P N ops fl D Q l j L w) : WJ P N ops fl D Q l j L w := h1 h2
theorem WQ.weaken {K : Act → Prop} {l : List Oper} {L' : Slots} (hs : Sub L L') (h : WQ P N ops K l L' w) : WQ P N ops K l L w := fun a ha => h a (ha.sub hs)
theorem WJ.weaken {fl : Nat → Bool} {D : Nat → World → Prop} {l : List Oper} {j : Nat} {L' : Slots} (hs : Sub L L') (h : WJ P N ops fl D Q l j L' w) : WJ P N ops fl D Q l j L w := fun a w1 e ha => h a w1 e (ha.sub hs)
end
theorem Bl.cast {w : World} {g : Nat} {e : TypeId} {us vs : List Value} (h : us = vs) (hB : Bl w g e us) : Bl w g e vs := h ▸ hB
theorem lnil {α : Type} {f : α → Value} : ([] : List Value) = [].map f := rfl
theorem lcons {α : Type} {f : α → Value} {v : Value} {l : List Value} {x : α} {xs : List α} (h : v = f x) (t : l = xs.map f) : v :: l = (x :: xs).map f := by rw [h, t]; rfl
end Go.Proofs.YtilphcippnfklaaDoor
 /- A pointer or an interface's value held against nil. -/
namespace Go.Proofs.YtilphcippnfklaaDoor
open Go Go.RowKit
section
variable {P : Program} {N : Nat} {L : Slots} {w : World} {ty : TypeId} {pos : String} {af : Array Edge} {dd : Option Tmp} {t t' : TypeId} {x : Operand}
theorem Yld.peqnil {e : TypeId} {y : Operand} {p : Option Addr} (h : P.underlying t = some (.pointer e)) (hx : opv L x = some (.pointer p)) (hy : opv L y = some (.pointer none)) : Yld P N w ⟨dd, .binOp .eql t x y t', ty, pos, af, none⟩ L (.bool p.isNone) := fun a w1 _ ha => by
  refine exec_bin (ha.ev hx) (ha.ev hy) (by unfold eqGuard; rfl) ?_
  have h : (Op.equal t (.pointer p) (.pointer none)).run P w1 = .ok p.isNone w1 := run_equal_of fun d => by
    cases p <;> simp [Op.equalIn, run_underlying h]
  simp [binOp, h]
theorem Yld.ieqnil0 {ms : Array (String × TypeId)} {y : Value} (h : P.underlying t = some (.interface ms)) (hx : opv L x = some .nilIface) (hy : y = .nilIface) : Yld P N w ⟨dd, .binOp .eql t x (.const y) t', ty, pos, af, none⟩ L (.bool true) := fun a w1 _ ha => by
  subst hy
  refine exec_bin (ha.ev hx) rfl ?_ ?_
  · unfold eqGuard; cases x <;> rfl
  have h : (Op.equal t .nilIface .nilIface).run P w1 = .ok true w1 := run_equal_of fun d => by
    simp [Op.equalIn, run_underlying h]
  have ec : a.eval (.const .nilIface) = .nilIface := rfl
  simp [binOp, h, ec]
theorem Yld.ieqnil1 {ms : Array (String × TypeId)} {y u : Value} {tx : TypeId} (h : P.underlying t = some (.interface ms)) (hx : opv L x = some (.iface tx u)) (hy : y = .nilIface) : Yld P N w ⟨dd, .binOp .eql t x (.const y) t', ty, pos, af, none⟩ L (.bool false) := fun a w1 _ ha => by
  subst hy
  refine exec_bin (ha.ev hx) rfl ?_ ?_
  · unfold eqGuard; cases x <;> rfl
  have h : (Op.equal t (.iface tx u) .nilIface).run P w1 = .ok false w1 := run_equal_of fun d => by
    simp [Op.equalIn, run_underlying h]
  have ec : a.eval (.const .nilIface) = .nilIface := rfl
  simp [binOp, h, ec]
end
end Go.Proofs.YtilphcippnfklaaDoor
 /- Errors, as_ plain data: none, one of api's variables, or one of them with a place. -/
namespace Go.Proofs.YtilphcippnfklaaDoor
open Go Go.RowKit
inductive Er where
  | ok
  | e (n : Nat)
  | at_ (pos : Int) (n : Nat)
  deriving DecidableEq, Inhabited
/-- the variables of api, by their numbers -/
def eglob : List (Option Nat) := [some 6, some 7, some 8, some 9, some 10, some 4, some 11, some 1, some 12, some 13, some 3, some 14, some 0, some 15, some 16, some 17, some 2]
def etext : List (List UInt8) := [[108, 101, 120], [112, 97, 114, 115, 101], [114, 101, 115, 111, 108, 118, 101], [100, 121, 110, 97, 109, 105, 99], [99, 121, 99, 108, 101], [118, 105, 115, 105, 98, 105, 108, 105, 116, 121], [97, 110, 97, 108, 121, 115, 105, 115], [108, 105, 109, 105, 116], [109, 105, 115, 115, 105, 110, 103], [116, 111, 111, 32, 109, 97, 110, 121], [110, 111, 32, 115, 117, 99, 104, 32, 107, 105, 110, 100], [110, 111, 32, 112, 97, 116, 104], [110, 111, 116, 32, 116, 104, 101, 32, 115, 104, 97, 112, 101, 32, 116, 104, 97, 116, 32, 105, 116, 32, 104, 97, 115, 32, 116, 111, 32, 104, 97, 118, 101], [105, 116, 32, 101, 110, 100, 115, 32, 116, 111, 111, 32, 101, 97, 114, 108, 121], [97, 32, 110, 117, 109, 98, 101, 114, 32, 111, 117, 116, 32, 111, 102, 32, 105, 116, 115, 32, 114, 97, 110, 103, 101], [116, 104, 101, 32, 112, 111, 119, 101, 114, 32, 104, 97, 115, 32, 103, 111, 110, 101], [105, 116, 32, 104, 97, 115, 32, 102, 97, 105, 108, 101, 100]]
/-- v is the value of api's variable n -/
structure ErV (w : World) (v : Value) (n : Nat) : Prop where
  ex : ∃ g t a, eglob[n]? = some (some g) ∧ etext[n]? = some t ∧ w.cell? ⟨g, 0, none⟩ = some v ∧ v = .iface 217 (.pointer (some a)) ∧ w.cell? a = some (vs t) ∧ ∃ c e, w.heap[a.block]? = some (.cells c e (0, 0))
def ErrR (S : List Nat) (w : World) (v : Value) : Er → Prop
  | .ok => v = .nilIface
  | .e n => ErV w v n ∧ n ∈ S
  | .at_ pos n => ∃ b u, v = .iface 130 (.pointer (some ⟨b, 0, none⟩)) ∧ Bl w b 132 [.int .i64 pos, u] ∧ ErV w u n ∧ n ∈ S
/-- the variables hold what they were laid with -/
structure GOK (S : List Nat) (w : World) : Prop where
  er : ∀ n ∈ S, n < 17 → ∃ v, ErV w v n
  /-- 100: a variable of the library's own holds some number -/
  ml : 100 ∈ S → ∃ m, w.cell? ⟨5, 0, none⟩ = some (.int .i64 m)
  /-- 101: a table of the library's own is as_ it was laid -/
  p10 : 101 ∈ S → Lib.TabIs Tryd.prog w "internal/strconv.uint64pow10" .u64 Lib.pow10Tab
theorem tab_grown {P : Program} {nm : String} {k : IntKind} {w w' : World} {zs : List Int} (h : Lib.TabIs P w nm k zs) (hg : w.grownBy w' none) : Lib.TabIs P w' nm k zs := by
  unfold Lib.TabIs World.var? at h ⊢
  obtain ⟨o, ho⟩ : ∃ o, P.globalNamed nm = o := ⟨_, rfl⟩
  rw [ho] at h ⊢
  cases o with
  | none => cases h
  | some g =>
    simp only [Option.bind_some] at h ⊢
    have hlt : g < w.heap.size := by
      rcases Nat.lt_or_ge g w.heap.size with h' | h'
      · exact h'
      · rw [Array.getElem?_eq_none h'] at h; cases h
    rw [hg.block g hlt (by simp)]
    exact h
variable {S : List Nat}
theorem ErV.grown {w w' : World} {v : Value} {n : Nat} (h : ErV w v n) (hg : w.grownBy w' none) : ErV w' v n := by
  obtain ⟨g, t, a, h1, h2, h3, h4, h5⟩ := h
  obtain ⟨h5, c, e, h6⟩ := h5
  exact ⟨g, t, a, h1, h2, cell_g0 h3 hg, h4, cell_g0 h5 hg, c, e, (hg.block a.block (World.block_lt_of_cell? w _ h5) (by simp)).trans h6⟩
theorem ErV.uniq {w : World} {u v : Value} {n : Nat} (h : ErV w u n) (k : ErV w v n) : u = v := by
  obtain ⟨g, t, a, h1, h2, h3, h4, h5⟩ := h
  obtain ⟨g', t', a', k1, k2, k3, k4, k5⟩ := k
  have e1 := Option.some.inj (Option.some.inj (h1.symm.trans k1))
  subst e1
  exact Option.some.inj (h3.symm.trans k3)
theorem ErV.lt {w : World} {v : Value} {n : Nat} (h : ErV w v n) : n < 17 := by
  obtain ⟨g, t, a, h1, _⟩ := h
  have := (List.getElem?_eq_some_iff.1 h1).1
  simpa [eglob] using this
/-- two of the variables hold unlike values -/
theorem ErV.inj {w : World} {v : Value} {n m : Nat} (h : ErV w v n) (k : ErV w v m) : n = m := by
  have hn := h.lt
  have hm := k.lt
  obtain ⟨g, t, a, h1, h2, h3, h4, h5⟩ := h
  obtain ⟨g', t', a', k1, k2, k3, k4, k5⟩ := k
  have e := h4.symm.trans k4
  simp only [Value.iface.injEq, true_and, Value.pointer.injEq, Option.some.injEq] at e
  subst e
  have e2 := Option.some.inj (h5.1.symm.trans k5.1)
  simp only [vs, Value.string.injEq, ByteArray.mk.injEq, Array.mk.injEq] at e2
  subst e2
  have key : (List.range 17).all (fun i => (List.range 17).all fun j => !(decide (etext[i]? = etext[j]?)) || decide (i = j)) = true := by decide +kernel
  have k6 := List.all_eq_true.1 (List.all_eq_true.1 key n (by simpa using hn)) m (by simpa using hm)
  rw [h2, k2] at k6
  simpa using k6
theorem ErV.back {w w' : World} {v : Value} {n : Nat} (h : ErV w' v n) (hS : n ∈ S) (hG : GOK S w) (hg : w.grownBy w' none) : ErV w v n := by
  obtain ⟨u, hu⟩ := hG.er n hS h.lt
  rw [ErV.uniq h (hu.grown hg)]
  exact hu
theorem ErV.iface {w : World} {v : Value} {n : Nat} (h : ErV w v n) : ∃ a, v = .iface 217 (.pointer (some a)) := by
  obtain ⟨g, t, a, h1, h2, h3, h4, h5⟩ := h
  exact ⟨a, h4⟩
theorem ErrR.grown {w w' : World} {v : Value} {e : Er} (h : ErrR S w v e) (hg : w.grownBy w' none) : ErrR S w' v e := by
  cases e with
  | ok => exact h
  | e n => exact ⟨ErV.grown h.1 hg, h.2⟩
  | at_ pos n =>
    obtain ⟨b, u, h1, h2, h3, h4⟩ := h
    exact ⟨b, u, h1, h2.g0 hg, h3.grown hg, h4⟩
theorem ErrR.eqv {w w' : World} {v : Value} {e : Er} (h : ErrR S w v e) (hg : Eqv w w') : ErrR S w' v e := h.grown (gr_eqv (gr_refl w none) hg)
/-- behind a write to a block of another kind -/
theorem ErrR.go {w0 w w' : World} {v : Value} {e : Er} {g : Nat} {t : TypeId} {us : List Value} (h : ErrR S w v e) (hG : GOK S w0) (h0 : w0.grownBy w none) (hg : w.grownBy w' (some g)) (h1 : w0.grownBy w' none) (hB : Bl w g t us) (ht : Nat.beq t 132 = false) : ErrR S w' v e := by
  cases e with
  | ok => exact h
  | e n => exact ⟨(ErV.back h.1 h.2 hG h0).grown h1, h.2⟩
  | at_ pos n =>
    obtain ⟨b, u, k1, k2, k3, k4⟩ := h
    refine ⟨b, u, k1, k2.keep hg (fun e => ?_), (ErV.back k3 k4 hG h0).grown h1, k4⟩
    injection e with e
    subst e
    exact Bl.ne k2 hB (fun e => Nat.ne_of_beq_eq_false ht e.symm) rfl
/-- behind a write to a slice of one's own -/
theorem ErrR.goO {α : Type} {f : α → Value} {w0 w w' : World} {v : Value} {e : Er} {t B c : Nat} {A : Option Addr} {xs : List α} (h : ErrR S w v e) (hG : GOK S w0) (h0 : w0.grownBy w none) (hg : w.grownBy w' (blk A)) (h1 : w0.grownBy w' none) (hO : Own f w B t A c xs) (ht : Nat.beq t 132 = false) : ErrR S w' v e := by
  rcases hO.2 with ⟨hv, _⟩ | ⟨g, cap, cur, hv, _, hb, _⟩
  · simp only [Value.slice.injEq] at hv
    obtain ⟨rfl, _⟩ := hv
    exact h.grown hg
  · simp only [Value.slice.injEq] at hv
    obtain ⟨rfl, _⟩ := hv
    exact ErrR.go (g := g) (us := cur.toList) h hG h0 hg h1 hb ht
theorem ErrR.one {w : World} {v : Value} {e : Er} (h : ErrR S w v e) : v.oneCell' = true := by
  cases e with
  | ok => rw [show v = .nilIface from h]; rfl
  | e n => obtain ⟨a, rfl⟩ := ErV.iface h.1; rfl
  | at_ pos n => obtain ⟨b, u, rfl, _⟩ := h; rfl
theorem ErrR.okR {w : World} : ErrR S w .nilIface .ok := rfl
theorem GOK.grown {w w' : World} (h : GOK S w) (hg : w.grownBy w' none) : GOK S w' := ⟨fun n hn hl => by
  obtain ⟨v, hv⟩ := h.er n hn hl
  exact ⟨v, hv.grown hg⟩, fun hn => by
  obtain ⟨m, hm⟩ := h.ml hn
  exact ⟨m, cell_g0 hm hg⟩, fun hn => tab_grown (h.p10 hn) hg⟩
section
variable {P : Program} {N : Nat} {L : Slots} {w w0 : World} {ty : TypeId} {pos : String} {af : Array Edge} {dd : Option Tmp} {t t' : TypeId} {x : Operand}
theorem Yld.inenil0 {ms : Array (String × TypeId)} {y : Value} (h : P.underlying t = some (.interface ms)) (hx : opv L x = some .nilIface) (hy : y = .nilIface) : Yld P N w ⟨dd, .binOp .neq t x (.const y) t', ty, pos, af, none⟩ L (.bool false) := fun a w1 _ ha => by
  subst hy
  refine exec_bin (ha.ev hx) rfl ?_ ?_
  · unfold eqGuard; cases x <;> rfl
  have h : (Op.equal t .nilIface .nilIface).run P w1 = .ok true w1 := run_equal_of fun d => by
    simp [Op.equalIn, run_underlying h]
  have ec : a.eval (.const .nilIface) = .nilIface := rfl
  simp [binOp, h, ec]
theorem Yld.inenil1 {ms : Array (String × TypeId)} {y u : Value} {tx : TypeId} (h : P.underlying t = some (.interface ms)) (hx : opv L x = some (.iface tx u)) (hy : y = .nilIface) : Yld P N w ⟨dd, .binOp .neq t x (.const y) t', ty, pos, af, none⟩ L (.bool true) := fun a w1 _ ha => by
  subst hy
  refine exec_bin (ha.ev hx) rfl ?_ ?_
  · unfold eqGuard; cases x <;> rfl
  have h : (Op.equal t (.iface tx u) .nilIface).run P w1 = .ok false w1 := run_equal_of fun d => by
    simp [Op.equalIn, run_underlying h]
  have ec : a.eval (.const .nilIface) = .nilIface := rfl
  simp [binOp, h, ec]
theorem Yld.erreql {ms : Array (String × TypeId)} {v : Value} {e : Er} (h : P.underlying t = some (.interface ms)) (hE : ErrR S w0 v e) (hx : opv L x = some v) : Yld P N w ⟨dd, .binOp .eql t x (.const .nilIface) t', ty, pos, af, none⟩ L (.bool (decide (e = .ok))) := by
  cases e with
  | ok => rw [show v = .nilIface from hE] at hx; exact Yld.ieqnil0 h hx rfl
  | e n => obtain ⟨a, rfl⟩ := ErV.iface hE.1; exact Yld.ieqnil1 h hx rfl
  | at_ p n => obtain ⟨b, u, rfl, _⟩ := hE; exact Yld.ieqnil1 h hx rfl
theorem Yld.errneq {ms : Array (String × TypeId)} {v : Value} {e : Er} (h : P.underlying t = some (.interface ms)) (hE : ErrR S w0 v e) (hx : opv L x = some v) : Yld P N w ⟨dd, .binOp .neq t x (.const .nilIface) t', ty, pos, af, none⟩ L (.bool (!decide (e = .ok))) := by
  cases e with
  | ok => rw [show v = .nilIface from hE] at hx; exact Yld.inenil0 h hx rfl
  | e n => obtain ⟨a, rfl⟩ := ErV.iface hE.1; exact Yld.inenil1 h hx rfl
  | at_ p n => obtain ⟨b, u, rfl, _⟩ := hE; exact Yld.inenil1 h hx rfl
end
section
variable {P : Program} {N : Nat} {L : Slots} {w w0 : World} {ty : TypeId} {pos : String} {af : Array Edge} {dd : Option Tmp} {t t' ta e0 : TypeId} {x y : Operand}
theorem Yld.assertNo {v : Value} {er : Er} (hu : P.underlying ta = some (.pointer e0)) (hz : ∀ w, (zeroValue ta).run P w = .ok (.pointer none) w) (hE : ErrR S w0 v er) (hx : opv L x = some v) (h1 : Nat.beq 217 ta = false) (h2 : Nat.beq 130 ta = false ∨ ∀ p n, er ≠ .at_ p n) :
    Yld P N w ⟨dd, .typeAssert x t ta true, ty, pos, af, none⟩ L (.tuple #[.pointer none, .bool false]) := fun a w1 _ ha => by
  have hx' := ha.ev hx
  have n1 : ¬ (217 : Nat) = ta := Nat.ne_of_beq_eq_false h1
  cases er with
  | ok =>
    obtain rfl : v = .nilIface := hE
    simp [execOp, Instr.typeAssert, run_underlying hu, hx', hz]
  | e n =>
    obtain ⟨a', rfl⟩ := ErV.iface hE.1
    simp [execOp, Instr.typeAssert, run_underlying hu, hx', hz, n1]
  | at_ p n =>
    obtain ⟨b, u, rfl, _⟩ := hE
    rcases h2 with h2 | h2
    · have n2 : ¬ (130 : Nat) = ta := Nat.ne_of_beq_eq_false h2
      simp [execOp, Instr.typeAssert, run_underlying hu, hx', hz, n2]
    · exact absurd rfl (h2 p n)
theorem Yld.assertYes {v u : Value} (hu : P.underlying ta = some (.pointer e0)) (hx : opv L x = some v) (hv : v = .iface ta u) :
    Yld P N w ⟨dd, .typeAssert x t ta true, ty, pos, af, none⟩ L (.tuple #[u, .bool true]) := fun a w1 _ ha => by
  have hx' := ha.ev hx
  subst hv
  simp [execOp, Instr.typeAssert, run_underlying hu, hx']
theorem Er.atCases (e : Er) : (∃ p n, e = .at_ p n) ∨ ∀ p n, e ≠ .at_ p n := by
  cases e with
  | at_ p n => exact .inl ⟨p, n, rfl⟩
  | ok => right; intro p n h; cases h
  | e k => right; intro p n h; cases h
theorem ErrR.atOut {v : Value} {p : Int} {n : Nat} (h : ErrR S w v (.at_ p n)) : ∃ b u, v = .iface 130 (.pointer (some ⟨b, 0, none⟩)) ∧ Bl w b 132 [.int .i64 p, u] ∧ ErrR S w u (.e n) := by
  obtain ⟨b, u, h1, h2, h3, h4⟩ := h
  exact ⟨b, u, h1, h2, h3, h4⟩
theorem ErrR.mkAt {u : Value} {b : Nat} {p : Int} {n : Nat} (hB : Bl w b 132 [.int .i64 p, u]) (hE : ErrR S w u (.e n)) : ErrR S w (.iface 130 (.pointer (some ⟨b, 0, none⟩))) (.at_ p n) := ⟨b, u, rfl, hB, hE.1, hE.2⟩
/-- two errors held against each other, not both nil, not both with a place -/
theorem Yld.erreq2 {ms : Array (String × TypeId)} {ii ij : TypeInfo} {u v : Value} {d e : Er} (h : P.underlying t = some (.interface ms)) (hp : P.underlying 217 = some (.pointer e0)) (hinfo : P.info? 217 = some ii) (hcomp : ii.comparable = true) (hte : P.info? e0 = some ij) (hsz : ij.size ≠ 0)
    (hD : ErrR S w u d) (hE : ErrR S w v e) (hx : opv L x = some u) (hy : opv L y = some v)
    (h0 : ¬ (d = .ok ∧ e = .ok)) (h1 : (∀ p n, d ≠ .at_ p n) ∨ ∀ p n, e ≠ .at_ p n) : Yld P N w ⟨dd, .binOp .eql t x y t', ty, pos, af, none⟩ L (.bool (decide (d = e))) := by
  have key : ∀ b, (u ≠ .nilIface ∨ v ≠ .nilIface) → ((∃ t1 u1, u = .iface t1 u1) ∨ u = .nilIface) → ((∃ t1 u1, v = .iface t1 u1) ∨ v = .nilIface) → (∀ w1, Eqv w w1 → (binOp .eql t u v).run P w1 = .ok (.bool b) w1) → Yld P N w ⟨dd, .binOp .eql t x y t', ty, pos, af, none⟩ L (.bool b) := fun b hn hu hv hb => fun a w1 hw ha => by
    refine exec_bin (ha.ev hx) (ha.ev hy) ?_ (hb w1 hw)
    unfold eqGuard
    rcases hu with ⟨t1, u1, rfl⟩ | rfl <;> rcases hv with ⟨t2, u2, rfl⟩ | rfl <;> first | rfl | simp at hn
  have nl : ∀ tp q w1, (binOp .eql t .nilIface (.iface tp q)).run P w1 = .ok (.bool false) w1 := fun tp q w1 => run_eql_iface_nil_left w1 tp q h
  have nr : ∀ tp q w1, (binOp .eql t (.iface tp q) .nilIface).run P w1 = .ok (.bool false) w1 := fun tp q w1 => by
    have h2 : (Op.equal t (.iface tp q) .nilIface).run P w1 = .ok false w1 := run_equal_of fun d => by simp [Op.equalIn, run_underlying h]
    simp [binOp, h2]
  have ne : ∀ tp q tp' q' w1, tp ≠ tp' → (binOp .eql t (.iface tp q) (.iface tp' q')).run P w1 = .ok (.bool false) w1 := fun tp q tp' q' w1 hne => by
    have h2 : (Op.equal t (.iface tp q) (.iface tp' q')).run P w1 = .ok false w1 := run_equal_of fun d => by simp [Op.equalIn, run_underlying h, hne]
    simp [binOp, h2]
  have tne : (217 : Nat) ≠ 130 := by decide
  cases d with
  | ok =>
    obtain rfl : u = .nilIface := hD
    cases e with
    | ok => exact absurd ⟨rfl, rfl⟩ h0
    | e n => obtain ⟨a, rfl⟩ := ErV.iface hE.1; exact key false (by simp) (by simp) (by simp) fun w1 _ => nl _ _ w1
    | at_ p n => obtain ⟨b, u, rfl, _⟩ := hE; exact key false (by simp) (by simp) (by simp) fun w1 _ => nl _ _ w1
  | e m =>
    cases e with
    | ok => obtain ⟨a, rfl⟩ := ErV.iface hD.1; obtain rfl : v = .nilIface := hE; exact key false (by simp) (by simp) (by simp) fun w1 _ => nr _ _ w1
    | e n =>
      have hD' := hD.1
      have hE' := hE.1
      obtain ⟨g, tx, a, k1, k2, k3, rfl, k5, c, e', k6⟩ := hD.1
      obtain ⟨g', tx', a', l1, l2, l3, rfl, l5, c', e'', l6⟩ := hE.1
      by_cases haa : a = a'
      · subst haa
        have hmn : m = n := ErV.inj hD' hE'
        subst hmn
        rw [decide_eq_true rfl]
        exact key true (by simp) (by simp) (by simp) fun w1 hw => run_eql_iface_ptr_same w1 a h hp hinfo hcomp hte
      · have hmn : ¬ (Er.e m = Er.e n) := fun hh => by
          cases hh
          have := ErV.uniq hD' hE'
          simp only [Value.iface.injEq, true_and, Value.pointer.injEq, Option.some.injEq] at this
          exact haa this
        rw [decide_eq_false hmn]
        exact key false (by simp) (by simp) (by simp) fun w1 hw => run_eql_iface_ptr_other w1 h hp hinfo hcomp hte hsz haa (by rw [hw.heap]; exact k6) (by rw [hw.heap]; exact l6)
    | at_ p n => obtain ⟨a, rfl⟩ := ErV.iface hD.1; obtain ⟨b, u, rfl, _⟩ := hE; exact key false (by simp) (by simp) (by simp) fun w1 _ => ne _ _ _ _ w1 tne
  | at_ p m =>
    obtain ⟨b, u', rfl, _⟩ := hD
    cases e with
    | ok => obtain rfl : v = .nilIface := hE; exact key false (by simp) (by simp) (by simp) fun w1 _ => nr _ _ w1
    | e n => obtain ⟨a, rfl⟩ := ErV.iface hE.1; exact key false (by simp) (by simp) (by simp) fun w1 _ => ne _ _ _ _ w1 tne.symm
    | at_ p' n => rcases h1 with h1 | h1 <;> exact absurd rfl (h1 _ _)
end
/-- the variable n, read -/
theorem ErV.read {w : World} {v u : Value} {n g : Nat} (h : ErV w v n) (hg : eglob[n]? = some (some g)) (hu : w.cell? ⟨g, 0, none⟩ = some u) : u = v := by
  obtain ⟨g', t, a, h1, h2, h3, h4, h5⟩ := h
  have e1 := Option.some.inj (Option.some.inj (h1.symm.trans hg))
  subst e1
  exact Option.some.inj (hu.symm.trans h3)
theorem GOK.get {w : World} (h : GOK S w) (n g : Nat) (hS : n ∈ S) (hl : Nat.blt n 17 = true) (hg : eglob[n]? = some (some g)) : ∃ v, w.cell? ⟨g, 0, none⟩ = some v ∧ ErrR S w v (.e n) := by
  obtain ⟨v, hv⟩ := h.er n hS (by simpa [Nat.blt_eq] using hl)
  obtain ⟨g', t, a, h1, h2, h3, h4, h5⟩ := id hv
  have e1 := Option.some.inj (Option.some.inj (h1.symm.trans hg))
  subst e1
  exact ⟨v, h3, hv, hS⟩
theorem ErrR.cell {w : World} {v : Value} {n g : Nat} (h : ErrR S w v (.e n)) (hg : eglob[n]? = some (some g)) : w.cell? ⟨g, 0, none⟩ = some v := by
  obtain ⟨⟨g', t, a, h1, h2, h3, h4, h5⟩, _⟩ := h
  have e1 := Option.some.inj (Option.some.inj (h1.symm.trans hg))
  subst e1
  exact h3
theorem noC {u : Value} {us : List Value} (h : ∀ x, u ≠ vd x) (t : ∀ v ∈ us, ∀ x, v ≠ vd x) : ∀ v ∈ u :: us, ∀ x, v ≠ vd x := fun v hv => by
  rcases List.mem_cons.1 hv with rfl | hv
  · exact h
  · exact t v hv
theorem noN : ∀ v ∈ ([] : List Value), ∀ x, v ≠ vd x := fun _ h => by cases h
theorem esCmp : (Tryd.prog.info? 217).map (·.comparable) = some true := by kernel_rfl
theorem esSz : (Tryd.prog.info? 231).map (fun i => Nat.beq i.size 0) = some false := by kernel_rfl
theorem Yld.erreqA {N : Nat} {L : Slots} {w : World} {ty : TypeId} {pos : String} {af : Array Edge} {dd : Option Tmp} {t' : TypeId} {x y : Operand} {u v : Value} {d e : Er} (hD : ErrR S w u d) (hE : ErrR S w v e)
    (h0 : ¬ (d = .ok ∧ e = .ok) ∧ ((∀ p n, d ≠ .at_ p n) ∨ ∀ p n, e ≠ .at_ p n)) (hx : opv L x = some u) (hy : opv L y = some v) : Yld Tryd.prog N w ⟨dd, .binOp .eql 28 x y t', ty, pos, af, none⟩ L (.bool (decide (d = e))) := by
  have h1 := esCmp
  have h2 := esSz
  rw [Option.map_eq_some_iff] at h1 h2
  obtain ⟨i, h1, h3⟩ := h1
  obtain ⟨j, h2, h4⟩ := h2
  exact Yld.erreq2 Tryd.underlying28 Tryd.underlying217 h1 h3 h2 (Nat.ne_of_beq_eq_false h4) hD hE hx hy h0.1 h0.2
end Go.Proofs.YtilphcippnfklaaDoor
 /- What a row's listed variables give: the errors of api, each at its place. -/
namespace Go.Proofs.YtilphcippnfklaaDoor
open Go Go.RowKit Go.WideShapes Go.ChangeShapes Go.ChangeAt
def ename : List String := ["smithy/api.ErrLex", "smithy/api.ErrParse", "smithy/api.ErrResolve", "smithy/api.ErrDynamic", "smithy/api.ErrCycle", "smithy/api.ErrVisibility", "smithy/api.ErrAnalysis", "smithy/api.ErrLimit", "smithy/api.ErrMissing", "smithy/api.ErrMany", "smithy/api.ErrKind", "smithy/api.ErrPath", "smithy/api.ErrShape", "smithy/api.ErrEnd", "smithy/api.ErrRange", "smithy/api.ErrDown", "smithy/api.ErrFail"]
theorem cellsEs : Tryd.prog.cellsOf 231 = 1 := by kernel_rfl
theorem cellsStr : Tryd.prog.cellsOf 9 = 1 := by kernel_rfl
theorem starEs : "*" ++ "errors.errorString" = "*errors.errorString" := by decide
theorem rowEs (u : TypeId) (h : Tryd.prog.typeName? 3 u = some "*errors.errorString") : u = 217 :=
  typeName_ptr_named (nm := "errors.errorString") (by rw [starEs]; kernel_rfl) (by kernel_rfl) (by decide) u (by rw [starEs]; exact h)
set_option maxRecDepth 100000 in
theorem erv_of_vars {W : World} : ∀ {l : List (String × DataW Unit)} {ps : List MemPlace}, DataW.LaidVars Tryd.prog W l ps → (∀ b off, MemPlace.cell b off ∈ ps → (∃ c t, W.heap[b]? = some (.cells c t (0, 0))) ∧ ∀ u v, W.cell? ⟨b, off, none⟩ = some (.iface u v) → Value.okWide Tryd.prog W .any 0 u v) →
    ∀ nm t g, (nm, DataW.iface "*errors.errorString" (.ptr (.agg [.lit (.string t)]))) ∈ l → Tryd.prog.globalNamed nm = some g → (Tryd.prog.globals[g]?).map (·.type) = some 28 → ∃ a, W.cell? ⟨g, 0, none⟩ = some (.iface 217 (.pointer (some a))) ∧ W.cell? a = some (vs t) ∧ ∃ c e, W.heap[a.block]? = some (.cells c e (0, 0))
  | [], _, _, _, _, _, _, h, _, _ => by cases h
  | (n0, d0) :: r, ps, hL, hok, nm, t, g, h, hg, ht => by
    obtain ⟨g0, t0, cs0, f0, p0, q0, hg0, ht0, hv0, hd0, hr, rfl⟩ := hL
    rcases List.mem_cons.1 h with h | h
    · simp only [Prod.mk.injEq] at h
      obtain ⟨rfl, rfl⟩ := h
      obtain rfl := Option.some.inj (hg.symm.trans hg0)
      obtain rfl := Option.some.inj (ht.symm.trans ht0)
      obtain ⟨l0⟩ := cs0
      have ok0 : ∀ u v, l0 = [.iface u v] → Value.okWide Tryd.prog W .any 0 u v := fun u v e => by
        subst e
        exact (hok g 0 (by simp [MemPlace.row])).2 u v (by simpa using World.var?_cell hg0 hv0 0)
      obtain ⟨a0, s0, rfl, hc0, hs0, hz0, rfl⟩ := errorString_of_trod Tryd.underlying28 rowEs Tryd.underlying217 Tryd.underlying231 rfl rfl Tryd.underlying9 cellsEs cellsStr hd0 ok0
      refine ⟨a0, by simpa using World.var?_cell hg0 hv0 0, ?_, (hok a0.block a0.off (by simp [MemPlace.row])).1⟩
      rw [hc0, ← hs0]
      rfl
    · exact erv_of_vars hr (fun b off hb => hok b off (by simp [hb])) nm t g h hg ht
theorem tab_of_vars {P : Program} {W : World} {name : String} {k : IntKind} {zs : List Int} {g : Nat} {t e : TypeId} {n : Nat}
    (hg : P.globalNamed name = some g) (hty : (P.globals[g]?).map (·.type) = some t) (ht : P.underlying t = some (.array n e)) (he : P.underlying e = some (.int k)) (hce : P.cellsOf e = 1) (hct : P.cellsOf t = n) :
    ∀ {l : List (String × DataW Unit)} {ps : List MemPlace}, DataW.LaidVars P W l ps → (name, Lib.tabData k zs) ∈ l → Lib.TabIs P W name k zs
  | [], _, _, h => by cases h
  | (n0, d0) :: r, ps, hL, h => by
    obtain ⟨g0, t0, cs0, f0, p0, q0, hg0, ht0, hv0, hd0, hr, rfl⟩ := hL
    rcases List.mem_cons.1 h with h | h
    · simp only [Prod.mk.injEq] at h
      obtain ⟨rfl, rfl⟩ := h
      obtain rfl := Option.some.inj (hg.symm.trans hg0)
      obtain rfl := Option.some.inj (hty.symm.trans ht0)
      unfold Lib.TabIs
      rw [hv0, ← Lib.cells_of_tab ht he hce hct hd0]
    · exact tab_of_vars hg hty ht he hce hct hr h
theorem tab_of_laid {P : Program} {W : World} {name : String} {k : IntKind} {zs : List Int} {g : Nat} {t e : TypeId} {n : Nat} {l : List (String × DataW Unit)} (h : laidMetH P l W) (hp : (l.all fun x => x.2.handleName?.isNone) = true)
    (hg : P.globalNamed name = some g) (hty : (P.globals[g]?).map (·.type) = some t) (ht : P.underlying t = some (.array n e)) (he : P.underlying e = some (.int k)) (hce : P.cellsOf e = 1) (hct : P.cellsOf t = n) (hm : (name, Lib.tabData k zs) ∈ l) : Lib.TabIs P W name k zs := by
  rw [MakeChecks.laidMetH_plain _ _ _ hp] at h
  obtain ⟨ps, hL, _⟩ := h
  exact tab_of_vars hg hty ht he hce hct hL hm
def errText? : DataW Unit → Option (List UInt8)
  | .iface n (.ptr (.agg [.lit (.string t)])) => if n == "*errors.errorString" then some t else none
  | _ => none
theorem errText_spec {d : DataW Unit} {t : List UInt8} (h : errText? d = some t) : d = .iface "*errors.errorString" (.ptr (.agg [.lit (.string t)])) := by
  unfold errText? at h
  split at h
  · rename_i n t'
    split at h
    · rename_i hn
      have := eq_of_beq hn
      subst this
      cases h
      rfl
    · cases h
  · cases h
def gokB (P : Program) (S : List Nat) (l : List (String × DataW Unit)) : Bool := S.all fun n => match eglob[n]?, etext[n]?, ename[n]? with
  | some (some g), some t, some nm => decide (P.globalNamed nm = some g) && (decide ((P.globals[g]?).map (·.type) = some 28) && l.any fun x => decide (x.1 = nm) && decide (errText? x.2 = some t))
  | _, _, _ => false
set_option maxRecDepth 100000 in
theorem gok_of_laid {S : List Nat} {W : World} {l : List (String × DataW Unit)} (h : laidMetH Tryd.prog l W) (hp : (l.all fun x => x.2.handleName?.isNone) = true) (hB : gokB Tryd.prog (S.filter fun n => Nat.blt n 17) l = true) (hM : 100 ∈ S → ∃ m, W.cell? ⟨5, 0, none⟩ = some (.int .i64 m)) (hP : 101 ∈ S → Lib.TabIs Tryd.prog W "internal/strconv.uint64pow10" .u64 Lib.pow10Tab) : GOK S W := by
  refine ⟨fun n hn hl => ?_, hM, hP⟩
  rw [MakeChecks.laidMetH_plain _ _ _ hp] at h
  obtain ⟨ps, hL, _, hrows⟩ := h
  have hb := List.all_eq_true.1 hB n (by simp [hn, Nat.blt_eq, hl])
  split at hb
  · rename_i g t nm h1 h2 h3
    simp only [Bool.and_eq_true, decide_eq_true_eq, List.any_eq_true] at hb
    obtain ⟨hg, ht, ⟨n', d'⟩, hm, he1, he2⟩ := hb
    simp only at he1 he2
    subst he1
    rw [errText_spec he2] at hm
    obtain ⟨a, k1, k2⟩ := erv_of_vars hL (fun b off hb => hrows b off hb) _ t g hm hg ht
    exact ⟨_, g, t, a, h1, h2, k1, rfl, k2⟩
  · cases hb
end Go.Proofs.YtilphcippnfklaaDoor
 /- More arguments, opened: five and six of them; a struct of two texts. -/
namespace Go.Proofs.YtilphcippnfklaaDoor
open Go Go.RowKit Go.WideShapes Go.ChangeShapes Go.ChangeAt Go.Joins Go.Deep
section
variable {H : Type} {enc : TypeId × Value → H} {P : Program} {w : World} {base : Nat} {spare : Nat → Bool} {held : Bool}
theorem trodAll_five {t0 t1 t2 t3 t4 : TypeId} {args : Array Value} {ds : List (DataW H)} {ps : List MemPlace} (h : DataW.TrodAll enc P w base spare held [t0, t1, t2, t3, t4] args.toList ds ps) :
    ∃ v0 v1 v2 v3 v4 d0 d1 d2 d3 d4 p0 p1 p2 p3 p4, args = #[v0, v1, v2, v3, v4] ∧ ds = [d0, d1, d2, d3, d4] ∧ ps = p0 ++ p1 ++ p2 ++ p3 ++ p4 ∧ DataW.Trod enc P w base spare held t0 v0 d0 p0 ∧ DataW.Trod enc P w base spare held t1 v1 d1 p1 ∧ DataW.Trod enc P w base spare held t2 v2 d2 p2 ∧ DataW.Trod enc P w base spare held t3 v3 d3 p3 ∧ DataW.Trod enc P w base spare held t4 v4 d4 p4 := by
  obtain ⟨v0, u0, d0, e0, p0, q0, hargs, rfl, rfl, h0, k0⟩ := trodAll_cons h
  obtain ⟨v1, u1, d1, e1, p1, q1, rfl, rfl, rfl, h1, k1⟩ := trodAll_cons k0
  obtain ⟨v2, u2, d2, e2, p2, q2, rfl, rfl, rfl, h2, k2⟩ := trodAll_cons k1
  obtain ⟨v3, u3, d3, e3, p3, q3, rfl, rfl, rfl, h3, k3⟩ := trodAll_cons k2
  obtain ⟨v4, u4, d4, e4, p4, q4, rfl, rfl, rfl, h4, k4⟩ := trodAll_cons k3
  obtain ⟨rfl, rfl, rfl⟩ := trodAll_nil k4
  exact ⟨v0, v1, v2, v3, v4, d0, d1, d2, d3, d4, p0, p1, p2, p3, p4, by cases args; simp_all, rfl, by simp, h0, h1, h2, h3, h4⟩
theorem trodAll_six {t0 t1 t2 t3 t4 t5 : TypeId} {args : Array Value} {ds : List (DataW H)} {ps : List MemPlace} (h : DataW.TrodAll enc P w base spare held [t0, t1, t2, t3, t4, t5] args.toList ds ps) :
    ∃ v0 v1 v2 v3 v4 v5 d0 d1 d2 d3 d4 d5 p0 p1 p2 p3 p4 p5, args = #[v0, v1, v2, v3, v4, v5] ∧ ds = [d0, d1, d2, d3, d4, d5] ∧ ps = p0 ++ p1 ++ p2 ++ p3 ++ p4 ++ p5 ∧ DataW.Trod enc P w base spare held t0 v0 d0 p0 ∧ DataW.Trod enc P w base spare held t1 v1 d1 p1 ∧ DataW.Trod enc P w base spare held t2 v2 d2 p2 ∧ DataW.Trod enc P w base spare held t3 v3 d3 p3 ∧ DataW.Trod enc P w base spare held t4 v4 d4 p4 ∧ DataW.Trod enc P w base spare held t5 v5 d5 p5 := by
  obtain ⟨v0, u0, d0, e0, p0, q0, hargs, rfl, rfl, h0, k0⟩ := trodAll_cons h
  obtain ⟨v1, u1, d1, e1, p1, q1, rfl, rfl, rfl, h1, k1⟩ := trodAll_cons k0
  obtain ⟨v2, u2, d2, e2, p2, q2, rfl, rfl, rfl, h2, k2⟩ := trodAll_cons k1
  obtain ⟨v3, u3, d3, e3, p3, q3, rfl, rfl, rfl, h3, k3⟩ := trodAll_cons k2
  obtain ⟨v4, u4, d4, e4, p4, q4, rfl, rfl, rfl, h4, k4⟩ := trodAll_cons k3
  obtain ⟨v5, u5, d5, e5, p5, q5, rfl, rfl, rfl, h5, k5⟩ := trodAll_cons k4
  obtain ⟨rfl, rfl, rfl⟩ := trodAll_nil k5
  exact ⟨v0, v1, v2, v3, v4, v5, d0, d1, d2, d3, d4, d5, p0, p1, p2, p3, p4, p5, by cases args; simp_all, rfl, by simp, h0, h1, h2, h3, h4, h5⟩
theorem open_two {r : Reach} {b0 : Nat} {t : TypeId} {f0 f1 : Field} {v : Value} {d : DataW H} {p : List MemPlace} (hs : P.underlying t = some (.struct #[f0, f1])) (hone : oneCellFields P #[f0, f1] = true) (hC : P.cellsOf t = 2) (h0 : P.underlying f0.type = some .string) (h1 : P.underlying f1.type = some .string)
    (hv : Value.okWide P w r b0 t v) (h : DataW.Trod enc P w base spare held t v d p) : ∃ a b : List UInt8, v = .agg ⟨[vs a, vs b]⟩ ∧ a.length ≤ maxLen ∧ b.length ≤ maxLen := by
  obtain ⟨v0, v1, y0, y1, n, rfl, _, _, k0, k1⟩ := open_agg2 hs hone hC hv h
  obtain ⟨s0, e0, _, l0⟩ := DataW.trod_string h0 k0
  obtain ⟨s1, e1, _, l1⟩ := DataW.trod_string h1 k1
  simp only [List.cons.injEq, and_true] at e0 e1
  subst e0; subst e1
  obtain ⟨⟨a⟩⟩ := s0
  obtain ⟨⟨b⟩⟩ := s1
  exact ⟨a, b, rfl, l0, l1⟩
end
end Go.Proofs.YtilphcippnfklaaDoor
 /- Printed by a program (wip/vg): what the functions mean, plainly, and their walks. -/
namespace Go.Proofs.YtilphcippnfklaaDoor
open Go Go.RowKit
attribute [local irreducible] WL WC WX WQ WK WJ Yld Eff Ef0 Fn
def M_smithysee_Alike (a : Er) (b : Er) (K : Bool → Prop) : Prop :=
 ((((decide (a = Er.ok)) || (decide (b = Er.ok))) = true → K ((decide (a = Er.ok)) && (decide (b = Er.ok)))) ∧
 (((decide (a = Er.ok)) || (decide (b = Er.ok))) = false → (¬ (a = Er.ok ∧ b = Er.ok) ∧ ((∀ p n, a ≠ Er.at_ p n) ∨ ∀ p n, b ≠ Er.at_ p n)) ∧
 K (decide (a = b))))

def M_smithyref_None (K : Int → Bool → Int → Bool → (List UInt8) → Prop) : Prop :=
 K (0 : Int) false (0 : Int) false ([] : List UInt8)

def M_smithyref_Bare (code : Int) (K : Int → Bool → Int → Bool → (List UInt8) → Prop) : Prop :=
 K code false (0 : Int) false ([] : List UInt8)

def M_smithyref_Placed (code : Int) (pos : Int) (K : Int → Bool → Int → Bool → (List UInt8) → Prop) : Prop :=
 ((code = (0 : Int) → M_smithyref_None (fun (t7_Code : Int) (t7_Placed : Bool) (t7_Pos : Int) (t7_Filed : Bool) (t7_File : List UInt8) =>
 K t7_Code t7_Placed t7_Pos t7_Filed t7_File)) ∧
 (¬ (code = (0 : Int)) → K code true pos false ([] : List UInt8)))

def M_smithyref_SameFault (a_Code : Int) (a_Placed : Bool) (a_Pos : Int) (a_Filed : Bool) (a_File : List UInt8) (b_Code : Int) (b_Placed : Bool) (b_Pos : Int) (b_Filed : Bool) (b_File : List UInt8) (K : Bool → Prop) : Prop :=
 K (((((decide (a_Code = b_Code)) && (a_Placed == b_Placed)) && (decide (a_Pos = b_Pos))) && (a_Filed == b_Filed)) && (decide (a_File = b_File)))

set_option maxHeartbeats 8000000 in
theorem W_smithysee_Alike {S : List Nat} {w : World} {v_a : Value} {a : Er} {v_b : Value} {b : Er} {K : Bool → Prop} (ha : ErrR S w v_a a) (hb : ErrR S w v_b b) (H : M_smithysee_Alike a b K) : Fn Tryd.prog 166 ⟨[v_a, v_b]⟩ w (fun v w' => w = w' ∧ ∃ (r : Bool), v = .bool r ∧ K r) := by
  unfold M_smithysee_Alike at H
  refine Fn.enter (by kernel_rfl) Tryd.func166 rfl Tryd.ntmps166 rfl ?_
  refine WC.seq ?_
  refine WC.region ?_
  refine WL.y rfl (Yld.pure tab_ok rfl) ?_
  refine WL.nil (WX.then_normal ?_)
  refine WC.seq ?_
  refine WC.seq ?_
  refine WC.region ?_
  refine WL.y rfl (Yld.pure tab_ok rfl) ?_
  refine WL.y rfl (Yld.erreql Tryd.underlying28 ha rfl) ?_
  refine WL.y rfl (Yld.pure tab_ok rfl) ?_
  refine WL.midF 3 (fun L' w' => ∃ q1 : Bool, L' = [(10, .bool q1), (0, v_a), (1, v_b)] ∧ q1 = ((decide (a = Er.ok)) || (decide (b = Er.ok))) ∧ w = w') ?_ (fun hQ => ?_)
  · rintro _ _ ⟨q1, rfl, rfl, rfl⟩
    refine WL.nil (WX.then_normal ?_)
    refine WC.cond rfl (fun b1 => ?_) (fun b1 => ?_)
    · replace H := H.1 (b1)
      refine WC.seq ?_
      refine WC.region ?_
      refine WL.y rfl (Yld.pure tab_ok rfl) ?_
      refine WL.y rfl (Yld.erreql Tryd.underlying28 ha rfl) ?_
      refine WL.y rfl (Yld.pure tab_ok rfl) ?_
      refine WL.midF 3 (fun L' w' => ∃ q2 : Bool, L' = [(16, .bool q2)] ∧ q2 = ((decide (a = Er.ok)) && (decide (b = Er.ok))) ∧ w = w') ?_ (fun hQ => ?_)
      · rintro _ _ ⟨q2, rfl, rfl, rfl⟩
        refine WL.y rfl (Yld.pure tab_ok rfl) ?_
        refine WL.nil (WX.then_normal ?_)
        refine WC.ret (WX.then_ret ?_)
        exact WX.ret1 rfl rfl ⟨rfl, (decide (a = Er.ok)) && (decide (b = Er.ok)), rfl, H⟩
      · clear H
        rcases Bool.eq_false_or_eq_true (decide (a = Er.ok)) with b2 | b2
        · refine WL.gyes rfl rfl (okb b2) rfl (Yld.pure tab_ok rfl) ?_
          refine WL.gyes rfl rfl (okb b2) rfl (Yld.erreql Tryd.underlying28 hb rfl) ?_
          refine WL.y rfl (Yld.pickT (okb b2) rfl) ?_
          exact WL.weaken (by repeat (first | exact Sub.nil | refine Sub.cons rfl ?_)) (hQ _ _ ⟨decide (b = Er.ok), rfl, by rw [b2] <;> rfl, rfl⟩)
        · refine WL.gno rfl rfl (okb b2) rfl ?_
          refine WL.gno rfl rfl (okb b2) rfl ?_
          refine WL.y rfl (Yld.pickF (okb b2) rfl) ?_
          exact WL.weaken (by repeat (first | exact Sub.nil | refine Sub.cons rfl ?_)) (hQ _ _ ⟨false, rfl, by rw [b2] <;> rfl, rfl⟩)
    · replace H := H.2 (b1)
      refine WC.skip (WX.then_normal ?_)
      refine WC.seq ?_
      refine WC.region ?_
      refine WL.y rfl (Yld.pure tab_ok rfl) ?_
      refine WL.y rfl (Yld.pure tab_ok rfl) ?_
      obtain ⟨h1, H⟩ := H
      refine WL.y rfl (Yld.erreqA ha hb h1 rfl rfl) ?_
      refine WL.y rfl (Yld.pure tab_ok rfl) ?_
      refine WL.nil (WX.then_normal ?_)
      refine WC.ret ?_
      exact WX.ret1 rfl rfl ⟨rfl, decide (a = b), rfl, H⟩
  · clear H
    rcases Bool.eq_false_or_eq_true (decide (a = Er.ok)) with b3 | b3
    · refine WL.gno rfl rfl (okb b3) rfl ?_
      refine WL.gno rfl rfl (okb b3) rfl ?_
      refine WL.y rfl (Yld.pickT (okb b3) rfl) ?_
      exact WL.weaken (by repeat (first | exact Sub.nil | refine Sub.cons rfl ?_)) (hQ _ _ ⟨true, rfl, by rw [b3] <;> rfl, rfl⟩)
    · refine WL.gyes rfl rfl (okb b3) rfl (Yld.pure tab_ok rfl) ?_
      refine WL.gyes rfl rfl (okb b3) rfl (Yld.erreql Tryd.underlying28 hb rfl) ?_
      refine WL.y rfl (Yld.pickF (okb b3) rfl) ?_
      exact WL.weaken (by repeat (first | exact Sub.nil | refine Sub.cons rfl ?_)) (hQ _ _ ⟨decide (b = Er.ok), rfl, by rw [b3] <;> rfl, rfl⟩)

set_option maxHeartbeats 8000000 in
theorem W_smithyref_None {w : World} {K : Int → Bool → Int → Bool → (List UInt8) → Prop} (H : M_smithyref_None  K) : Fn Tryd.prog 49 ⟨[]⟩ w (fun v w' => w.grownBy w' none ∧ ∃ (r_Code : Int), ∃ (r_Placed : Bool), ∃ (r_Pos : Int), ∃ (r_Filed : Bool), ∃ (r_File : List UInt8), v = .agg ⟨[.int .i64 r_Code, .bool r_Placed, .int .i64 r_Pos, .bool r_Filed, vs r_File]⟩ ∧ K r_Code r_Placed r_Pos r_Filed r_File) := by
  unfold M_smithyref_None at H
  refine Fn.enter (by kernel_rfl) Tryd.func49 rfl Tryd.ntmps49 rfl ?_
  refine WC.seq ?_
  refine WC.region ?_
  refine WL.alloc rfl zero79 (fun g1 w1 hB1 hg1 hl1 => ?_)
  have gr1 := hg1
  refine WL.nil (WX.then_normal ?_)
  refine WC.seq ?_
  refine WC.region ?_
  refine WL.y rfl (Yld.struct (us := [.int .i64 (0 : Int), .bool false, .int .i64 (0 : Int), .bool false, vs ([] : List UInt8)]) zero79 places79 rfl rfl) ?_
  refine WL.storeW (vs := [.int .i64 (0 : Int), .bool false, .int .i64 (0 : Int), .bool false, vs ([] : List UInt8)]) tab_ok rfl rfl rfl (all1c rfl (all1c rfl (all1c rfl (all1c rfl (all1c rfl all1n))))) hB1 rfl rfl (fun w2 hB2 hg2 => ?_)
  have gr2 := gr_mod gr1 hg2 (Ge.le (Ge.box hl1) (Nat.le_refl _))
  refine WL.nil (WX.then_normal ?_)
  refine WC.ret ?_
  exact WX.retc tab_ok rfl rfl rfl hB2 rfl ⟨gr2, (0 : Int), false, (0 : Int), false, ([] : List UInt8), rfl, H⟩

set_option maxHeartbeats 8000000 in
theorem W_smithyref_Bare {w : World} {code : Int} {K : Int → Bool → Int → Bool → (List UInt8) → Prop} (H : M_smithyref_Bare code K) : Fn Tryd.prog 66 ⟨[.int .i64 code]⟩ w (fun v w' => w.grownBy w' none ∧ ∃ (r_Code : Int), ∃ (r_Placed : Bool), ∃ (r_Pos : Int), ∃ (r_Filed : Bool), ∃ (r_File : List UInt8), v = .agg ⟨[.int .i64 r_Code, .bool r_Placed, .int .i64 r_Pos, .bool r_Filed, vs r_File]⟩ ∧ K r_Code r_Placed r_Pos r_Filed r_File) := by
  unfold M_smithyref_Bare at H
  refine Fn.enter (by kernel_rfl) Tryd.func66 rfl Tryd.ntmps66 rfl ?_
  refine WC.seq ?_
  refine WC.region ?_
  refine WL.alloc rfl zero79 (fun g1 w1 hB1 hg1 hl1 => ?_)
  have gr1 := hg1
  refine WL.nil (WX.then_normal ?_)
  refine WC.seq ?_
  refine WC.region ?_
  refine WL.y rfl (Yld.pure tab_ok rfl) ?_
  refine WL.y rfl (Yld.struct (us := [.int .i64 code, .bool false, .int .i64 (0 : Int), .bool false, vs ([] : List UInt8)]) zero79 places79 rfl rfl) ?_
  refine WL.storeW (vs := [.int .i64 code, .bool false, .int .i64 (0 : Int), .bool false, vs ([] : List UInt8)]) tab_ok rfl rfl rfl (all1c rfl (all1c rfl (all1c rfl (all1c rfl (all1c rfl all1n))))) hB1 rfl rfl (fun w2 hB2 hg2 => ?_)
  have gr2 := gr_mod gr1 hg2 (Ge.le (Ge.box hl1) (Nat.le_refl _))
  refine WL.nil (WX.then_normal ?_)
  refine WC.ret ?_
  exact WX.retc tab_ok rfl rfl rfl hB2 rfl ⟨gr2, code, false, (0 : Int), false, ([] : List UInt8), rfl, H⟩

set_option maxHeartbeats 8000000 in
theorem W_smithyref_Placed {w : World} {code : Int} {pos : Int} {K : Int → Bool → Int → Bool → (List UInt8) → Prop} (H : M_smithyref_Placed code pos K) : Fn Tryd.prog 51 ⟨[.int .i64 code, .int .i64 pos]⟩ w (fun v w' => w.grownBy w' none ∧ ∃ (r_Code : Int), ∃ (r_Placed : Bool), ∃ (r_Pos : Int), ∃ (r_Filed : Bool), ∃ (r_File : List UInt8), v = .agg ⟨[.int .i64 r_Code, .bool r_Placed, .int .i64 r_Pos, .bool r_Filed, vs r_File]⟩ ∧ K r_Code r_Placed r_Pos r_Filed r_File) := by
  unfold M_smithyref_Placed at H
  refine Fn.enter (by kernel_rfl) Tryd.func51 rfl Tryd.ntmps51 rfl ?_
  refine WC.seq ?_
  refine WC.region ?_
  refine WL.alloc rfl zero79 (fun g1 w1 hB1 hg1 hl1 => ?_)
  have gr1 := hg1
  refine WL.nil (WX.then_normal ?_)
  refine WC.seq ?_
  refine WC.seq ?_
  refine WC.region ?_
  refine WL.y rfl (Yld.pure tab_ok rfl) ?_
  refine WL.y rfl (Yld.pure tab_ok rfl) ?_
  refine WL.nil (WX.then_normal ?_)
  refine WC.cond rfl (fun b1 => ?_) (fun b1 => ?_)
  · replace H := H.1 (of_decide_eq_true b1)
    refine WC.seq ?_
    refine WC.region ?_
    refine WL.call rfl rfl (W_smithyref_None H) ?_
    rintro _ w2 ⟨hg2, t7_Code, t7_Placed, t7_Pos, t7_Filed, t7_File, rfl, H⟩
    have gr2 := gr_trans gr1 hg2
    have k1 := hB1.g0 hg2
    refine WL.storeW (vs := [.int .i64 t7_Code, .bool t7_Placed, .int .i64 t7_Pos, .bool t7_Filed, vs t7_File]) tab_ok rfl rfl rfl (all1c rfl (all1c rfl (all1c rfl (all1c rfl (all1c rfl all1n))))) k1 rfl rfl (fun w3 hB2 hg3 => ?_)
    have gr3 := gr_mod gr2 hg3 (Ge.le (Ge.box hl1) (Nat.le_refl _))
    refine WL.nil (WX.then_normal ?_)
    refine WC.ret (WX.then_ret ?_)
    exact WX.retc tab_ok rfl rfl rfl hB2 rfl ⟨gr3, t7_Code, t7_Placed, t7_Pos, t7_Filed, t7_File, rfl, H⟩
  · replace H := H.2 (of_decide_eq_false b1)
    refine WC.skip (WX.then_normal ?_)
    refine WC.seq ?_
    refine WC.region ?_
    refine WL.y rfl (Yld.pure tab_ok rfl) ?_
    refine WL.y rfl (Yld.pure tab_ok rfl) ?_
    refine WL.y rfl (Yld.struct (us := [.int .i64 code, .bool true, .int .i64 pos, .bool false, vs ([] : List UInt8)]) zero79 places79 rfl rfl) ?_
    refine WL.storeW (vs := [.int .i64 code, .bool true, .int .i64 pos, .bool false, vs ([] : List UInt8)]) tab_ok rfl rfl rfl (all1c rfl (all1c rfl (all1c rfl (all1c rfl (all1c rfl all1n))))) hB1 rfl rfl (fun w4 hB3 hg4 => ?_)
    have gr4 := gr_mod gr1 hg4 (Ge.le (Ge.box hl1) (Nat.le_refl _))
    refine WL.nil (WX.then_normal ?_)
    refine WC.ret ?_
    exact WX.retc tab_ok rfl rfl rfl hB3 rfl ⟨gr4, code, true, pos, false, ([] : List UInt8), rfl, H⟩

set_option maxHeartbeats 8000000 in
theorem W_smithyref_SameFault {w : World} {a_Code : Int} {a_Placed : Bool} {a_Pos : Int} {a_Filed : Bool} {a_File : List UInt8} {b_Code : Int} {b_Placed : Bool} {b_Pos : Int} {b_Filed : Bool} {b_File : List UInt8} {K : Bool → Prop} (H : M_smithyref_SameFault a_Code a_Placed a_Pos a_Filed a_File b_Code b_Placed b_Pos b_Filed b_File K) : Fn Tryd.prog 90 ⟨[.agg ⟨[.int .i64 a_Code, .bool a_Placed, .int .i64 a_Pos, .bool a_Filed, vs a_File]⟩, .agg ⟨[.int .i64 b_Code, .bool b_Placed, .int .i64 b_Pos, .bool b_Filed, vs b_File]⟩]⟩ w (fun v w' => w.grownBy w' none ∧ ∃ (r : Bool), v = .bool r ∧ K r) := by
  unfold M_smithyref_SameFault at H
  refine Fn.enter (by kernel_rfl) Tryd.func90 rfl Tryd.ntmps90 rfl ?_
  refine WC.seq ?_
  refine WC.region ?_
  refine WL.box (us := [.int .i64 a_Code, .bool a_Placed, .int .i64 a_Pos, .bool a_Filed, vs a_File]) rfl rfl rfl (fun g1 w1 hB1 hg1 hl1 => ?_)
  have gr1 := hg1
  refine WL.box (us := [.int .i64 b_Code, .bool b_Placed, .int .i64 b_Pos, .bool b_Filed, vs b_File]) rfl rfl rfl (fun g2 w2 hB2 hg2 hl2 => ?_)
  have gr2 := gr_trans gr1 hg2
  have k1 := hB1.g0 hg2
  refine WL.y rfl (Yld.pure tab_ok rfl) ?_
  refine WL.nil (WX.then_normal ?_)
  refine WC.seq ?_
  refine WC.region ?_
  refine WL.y rfl (Yld.pure tab_ok rfl) ?_
  refine WL.y rfl (Yld.bload tab_ok k1 rfl rfl rfl) ?_
  refine WL.y rfl (Yld.pure tab_ok rfl) ?_
  refine WL.y rfl (Yld.bload tab_ok hB2 rfl rfl rfl) ?_
  refine WL.y rfl (Yld.pure tab_ok rfl) ?_
  refine WL.y rfl (Yld.pure tab_ok rfl) ?_
  refine WL.midF 6 (fun L' w' => ∃ q1 : Bool, L' = [(16, .bool q1), (2, .pointer (some ⟨g1, 0, none⟩)), (3, .pointer (some ⟨g2, 0, none⟩))] ∧ q1 = ((decide (a_Code = b_Code)) && (a_Placed == b_Placed)) ∧ w2 = w') ?_ (fun hQ => ?_)
  · rintro _ _ ⟨q1, rfl, rfl, rfl⟩
    refine WL.y rfl (Yld.pure tab_ok rfl) ?_
    refine WL.midF 6 (fun L' w' => ∃ q2 : Bool, L' = [(23, .bool q2), (2, .pointer (some ⟨g1, 0, none⟩)), (3, .pointer (some ⟨g2, 0, none⟩))] ∧ q2 = (((decide (a_Code = b_Code)) && (a_Placed == b_Placed)) && (decide (a_Pos = b_Pos))) ∧ w2 = w') ?_ (fun hQ => ?_)
    · rintro _ _ ⟨q2, rfl, rfl, rfl⟩
      refine WL.y rfl (Yld.pure tab_ok rfl) ?_
      refine WL.midF 6 (fun L' w' => ∃ q3 : Bool, L' = [(30, .bool q3), (2, .pointer (some ⟨g1, 0, none⟩)), (3, .pointer (some ⟨g2, 0, none⟩))] ∧ q3 = ((((decide (a_Code = b_Code)) && (a_Placed == b_Placed)) && (decide (a_Pos = b_Pos))) && (a_Filed == b_Filed)) ∧ w2 = w') ?_ (fun hQ => ?_)
      · rintro _ _ ⟨q3, rfl, rfl, rfl⟩
        refine WL.y rfl (Yld.pure tab_ok rfl) ?_
        refine WL.midF 6 (fun L' w' => ∃ q4 : Bool, L' = [(37, .bool q4)] ∧ q4 = (((((decide (a_Code = b_Code)) && (a_Placed == b_Placed)) && (decide (a_Pos = b_Pos))) && (a_Filed == b_Filed)) && (decide (a_File = b_File))) ∧ w2 = w') ?_ (fun hQ => ?_)
        · rintro _ _ ⟨q4, rfl, rfl, rfl⟩
          refine WL.y rfl (Yld.pure tab_ok rfl) ?_
          refine WL.nil (WX.then_normal ?_)
          refine WC.ret ?_
          exact WX.ret1 rfl rfl ⟨gr2, ((((decide (a_Code = b_Code)) && (a_Placed == b_Placed)) && (decide (a_Pos = b_Pos))) && (a_Filed == b_Filed)) && (decide (a_File = b_File)), rfl, H⟩
        · clear H
          rcases Bool.eq_false_or_eq_true ((((decide (a_Code = b_Code)) && (a_Placed == b_Placed)) && (decide (a_Pos = b_Pos))) && (a_Filed == b_Filed)) with b1 | b1
          · refine WL.gyes rfl rfl (okb b1) rfl (Yld.pure tab_ok rfl) ?_
            refine WL.gyes rfl rfl (okb b1) rfl (Yld.bload tab_ok k1 rfl rfl rfl) ?_
            refine WL.gyes rfl rfl (okb b1) rfl (Yld.pure tab_ok rfl) ?_
            refine WL.gyes rfl rfl (okb b1) rfl (Yld.bload tab_ok hB2 rfl rfl rfl) ?_
            refine WL.gyes rfl rfl (okb b1) rfl (Yld.pure tab_ok rfl) ?_
            refine WL.y rfl (Yld.pickT (okb b1) rfl) ?_
            exact WL.weaken (by repeat (first | exact Sub.nil | refine Sub.cons rfl ?_)) (hQ _ _ ⟨decide (a_File = b_File), rfl, by rw [b1] <;> rfl, rfl⟩)
          · refine WL.gno rfl rfl (okb b1) rfl ?_
            refine WL.gno rfl rfl (okb b1) rfl ?_
            refine WL.gno rfl rfl (okb b1) rfl ?_
            refine WL.gno rfl rfl (okb b1) rfl ?_
            refine WL.gno rfl rfl (okb b1) rfl ?_
            refine WL.y rfl (Yld.pickF (okb b1) rfl) ?_
            exact WL.weaken (by repeat (first | exact Sub.nil | refine Sub.cons rfl ?_)) (hQ _ _ ⟨false, rfl, by rw [b1] <;> rfl, rfl⟩)
      · clear H
        rcases Bool.eq_false_or_eq_true (((decide (a_Code = b_Code)) && (a_Placed == b_Placed)) && (decide (a_Pos = b_Pos))) with b2 | b2
        · refine WL.gyes rfl rfl (okb b2) rfl (Yld.pure tab_ok rfl) ?_
          refine WL.gyes rfl rfl (okb b2) rfl (Yld.bload tab_ok k1 rfl rfl rfl) ?_
          refine WL.gyes rfl rfl (okb b2) rfl (Yld.pure tab_ok rfl) ?_
          refine WL.gyes rfl rfl (okb b2) rfl (Yld.bload tab_ok hB2 rfl rfl rfl) ?_
          refine WL.gyes rfl rfl (okb b2) rfl (Yld.beql Tryd.underlying4 rfl rfl) ?_
          refine WL.y rfl (Yld.pickT (okb b2) rfl) ?_
          exact WL.weaken (by repeat (first | exact Sub.nil | refine Sub.cons rfl ?_)) (hQ _ _ ⟨a_Filed == b_Filed, rfl, by rw [b2] <;> rfl, rfl⟩)
        · refine WL.gno rfl rfl (okb b2) rfl ?_
          refine WL.gno rfl rfl (okb b2) rfl ?_
          refine WL.gno rfl rfl (okb b2) rfl ?_
          refine WL.gno rfl rfl (okb b2) rfl ?_
          refine WL.gno rfl rfl (okb b2) rfl ?_
          refine WL.y rfl (Yld.pickF (okb b2) rfl) ?_
          exact WL.weaken (by repeat (first | exact Sub.nil | refine Sub.cons rfl ?_)) (hQ _ _ ⟨false, rfl, by rw [b2] <;> rfl, rfl⟩)
    · clear H
      rcases Bool.eq_false_or_eq_true ((decide (a_Code = b_Code)) && (a_Placed == b_Placed)) with b3 | b3
      · refine WL.gyes rfl rfl (okb b3) rfl (Yld.pure tab_ok rfl) ?_
        refine WL.gyes rfl rfl (okb b3) rfl (Yld.bload tab_ok k1 rfl rfl rfl) ?_
        refine WL.gyes rfl rfl (okb b3) rfl (Yld.pure tab_ok rfl) ?_
        refine WL.gyes rfl rfl (okb b3) rfl (Yld.bload tab_ok hB2 rfl rfl rfl) ?_
        refine WL.gyes rfl rfl (okb b3) rfl (Yld.pure tab_ok rfl) ?_
        refine WL.y rfl (Yld.pickT (okb b3) rfl) ?_
        exact WL.weaken (by repeat (first | exact Sub.nil | refine Sub.cons rfl ?_)) (hQ _ _ ⟨decide (a_Pos = b_Pos), rfl, by rw [b3] <;> rfl, rfl⟩)
      · refine WL.gno rfl rfl (okb b3) rfl ?_
        refine WL.gno rfl rfl (okb b3) rfl ?_
        refine WL.gno rfl rfl (okb b3) rfl ?_
        refine WL.gno rfl rfl (okb b3) rfl ?_
        refine WL.gno rfl rfl (okb b3) rfl ?_
        refine WL.y rfl (Yld.pickF (okb b3) rfl) ?_
        exact WL.weaken (by repeat (first | exact Sub.nil | refine Sub.cons rfl ?_)) (hQ _ _ ⟨false, rfl, by rw [b3] <;> rfl, rfl⟩)
  · clear H
    rcases Bool.eq_false_or_eq_true (decide (a_Code = b_Code)) with b4 | b4
    · refine WL.gyes rfl rfl (okb b4) rfl (Yld.pure tab_ok rfl) ?_
      refine WL.gyes rfl rfl (okb b4) rfl (Yld.bload tab_ok k1 rfl rfl rfl) ?_
      refine WL.gyes rfl rfl (okb b4) rfl (Yld.pure tab_ok rfl) ?_
      refine WL.gyes rfl rfl (okb b4) rfl (Yld.bload tab_ok hB2 rfl rfl rfl) ?_
      refine WL.gyes rfl rfl (okb b4) rfl (Yld.beql Tryd.underlying4 rfl rfl) ?_
      refine WL.y rfl (Yld.pickT (okb b4) rfl) ?_
      exact WL.weaken (by repeat (first | exact Sub.nil | refine Sub.cons rfl ?_)) (hQ _ _ ⟨a_Placed == b_Placed, rfl, by rw [b4] <;> rfl, rfl⟩)
    · refine WL.gno rfl rfl (okb b4) rfl ?_
      refine WL.gno rfl rfl (okb b4) rfl ?_
      refine WL.gno rfl rfl (okb b4) rfl ?_
      refine WL.gno rfl rfl (okb b4) rfl ?_
      refine WL.gno rfl rfl (okb b4) rfl ?_
      refine WL.y rfl (Yld.pickF (okb b4) rfl) ?_
      exact WL.weaken (by repeat (first | exact Sub.nil | refine Sub.cons rfl ?_)) (hQ _ _ ⟨false, rfl, by rw [b4] <;> rfl, rfl⟩)

end Go.Proofs.YtilphcippnfklaaDoor
 /- smithysee.sentinel: the number of one of api's variables. -/
namespace Go.Proofs.YtilphcippnfklaaDoor
open Go Go.RowKit
attribute [local irreducible] WL WC WX WQ WK WJ Yld Eff Ef0 Fn
theorem Rd.ofBlV {w : World} {g m : Nat} {e : TypeId} {us : List Value} (h : Bl w g e us) (hm : us.length = m) (hx : m ≤ maxLen) : Rd (fun v => v) w (some ⟨g, 0, none⟩) m us := ⟨by omega, hx, fun _ => ⟨_, rfl, fun j x hj => by
  have := h.cell j
  rw [hj] at this
  cases j with
  | zero => simpa [Addr.add] using this
  | succ j => simpa [Addr.add] using this⟩⟩
def errsV (S : List Nat) (w : World) (us : List Value) : Prop := us.length = 17 ∧ ∀ n, n < 17 → ErrR S w (us.getD n .nilIface) (.e n)
theorem sentinels_fn {S : List Nat} {w : World} (hG : GOK S w) (hS : ∀ n, n < 17 → n ∈ S) : Fn Tryd.prog 165 ⟨[]⟩ w fun v w' => w.grownBy w' none ∧ ∃ g us, v = .slice (some ⟨g, 0, none⟩) 17 17 ∧ Bl w' g 28 us ∧ errsV S w' us := by
  refine Fn.enter (by kernel_rfl) Tryd.func165 rfl Tryd.ntmps165 rfl ?_
  obtain ⟨v0, hc0, hE0⟩ := hG.get 0 6 (hS 0 (by omega)) rfl rfl
  obtain ⟨v1, hc1, hE1⟩ := hG.get 1 7 (hS 1 (by omega)) rfl rfl
  obtain ⟨v2, hc2, hE2⟩ := hG.get 2 8 (hS 2 (by omega)) rfl rfl
  obtain ⟨v3, hc3, hE3⟩ := hG.get 3 9 (hS 3 (by omega)) rfl rfl
  obtain ⟨v4, hc4, hE4⟩ := hG.get 4 10 (hS 4 (by omega)) rfl rfl
  obtain ⟨v5, hc5, hE5⟩ := hG.get 5 4 (hS 5 (by omega)) rfl rfl
  obtain ⟨v6, hc6, hE6⟩ := hG.get 6 11 (hS 6 (by omega)) rfl rfl
  obtain ⟨v7, hc7, hE7⟩ := hG.get 7 1 (hS 7 (by omega)) rfl rfl
  obtain ⟨v8, hc8, hE8⟩ := hG.get 8 12 (hS 8 (by omega)) rfl rfl
  obtain ⟨v9, hc9, hE9⟩ := hG.get 9 13 (hS 9 (by omega)) rfl rfl
  obtain ⟨v10, hc10, hE10⟩ := hG.get 10 3 (hS 10 (by omega)) rfl rfl
  obtain ⟨v11, hc11, hE11⟩ := hG.get 11 14 (hS 11 (by omega)) rfl rfl
  obtain ⟨v12, hc12, hE12⟩ := hG.get 12 0 (hS 12 (by omega)) rfl rfl
  obtain ⟨v13, hc13, hE13⟩ := hG.get 13 15 (hS 13 (by omega)) rfl rfl
  obtain ⟨v14, hc14, hE14⟩ := hG.get 14 16 (hS 14 (by omega)) rfl rfl
  obtain ⟨v15, hc15, hE15⟩ := hG.get 15 17 (hS 15 (by omega)) rfl rfl
  obtain ⟨v16, hc16, hE16⟩ := hG.get 16 2 (hS 16 (by omega)) rfl rfl
  repeat (first | refine WL.y rfl (Yld.cell tab_ok hc0 rfl rfl) ?_ | refine WL.y rfl (Yld.cell tab_ok hc1 rfl rfl) ?_ | refine WL.y rfl (Yld.cell tab_ok hc2 rfl rfl) ?_ | refine WL.y rfl (Yld.cell tab_ok hc3 rfl rfl) ?_ | refine WL.y rfl (Yld.cell tab_ok hc4 rfl rfl) ?_ | refine WL.y rfl (Yld.cell tab_ok hc5 rfl rfl) ?_ | refine WL.y rfl (Yld.cell tab_ok hc6 rfl rfl) ?_ | refine WL.y rfl (Yld.cell tab_ok hc7 rfl rfl) ?_ | refine WL.y rfl (Yld.cell tab_ok hc8 rfl rfl) ?_ | refine WL.y rfl (Yld.cell tab_ok hc9 rfl rfl) ?_ | refine WL.y rfl (Yld.cell tab_ok hc10 rfl rfl) ?_ | refine WL.y rfl (Yld.cell tab_ok hc11 rfl rfl) ?_ | refine WL.y rfl (Yld.cell tab_ok hc12 rfl rfl) ?_ | refine WL.y rfl (Yld.cell tab_ok hc13 rfl rfl) ?_ | refine WL.y rfl (Yld.cell tab_ok hc14 rfl rfl) ?_ | refine WL.y rfl (Yld.cell tab_ok hc15 rfl rfl) ?_ | refine WL.y rfl (Yld.cell tab_ok hc16 rfl rfl) ?_ | refine WC.seq ?_ | refine WC.block ?_ | refine WC.region ?_ | refine WL.nil ?_ | refine WX.then_normal ?_ | refine WC.skip ?_ | refine WC.exit ?_ | refine WC.ret ?_ | refine WX.then_exit ?_ | refine WX.then_ret ?_ | refine WX.block_normal ?_ | refine WX.block_ret ?_ | refine WX.block_same ?_ | refine WX.block_other rfl ?_ | refine WC.label ?_ | refine WC.scope ?_ | refine WX.scope_normal ?_ | refine WX.scope_ret ?_ | refine WX.scope_exit ?_ | refine WL.y rfl (Yld.add rfl rfl (by simp only [In]; omega)) ?_ | refine WL.y rfl (Yld.sub rfl rfl (by simp only [In]; omega)) ?_ | refine WL.y rfl (Yld.mul rfl rfl (by simp only [In]; omega)) ?_ | refine WL.y rfl (Yld.convB tab_ok rfl rfl rfl rfl) ?_ | refine WL.y rfl (Yld.conv tab_ok rfl rfl rfl (by simp only [In]; omega)) ?_ | refine WL.y rfl (Yld.quo rfl rfl (by omega) (by omega) (by simp only [In]; omega)) ?_ | refine WL.y rfl (Yld.rem rfl rfl (by omega) (by omega)) ?_ | refine WL.y rfl (Yld.shl rfl rfl (by omega)) ?_ | refine WL.y rfl (Yld.shr rfl rfl (by omega)) ?_ | refine WL.y rfl (Yld.pure tab_ok rfl) ?_ | refine WL.y rfl (Yld.fld flds_ok rfl rfl rfl) ?_ | refine WL.y rfl (Yld.max2 rfl rfl) ?_ | refine WL.y rfl (Yld.min2 rfl rfl) ?_ | refine WL.y rfl (Yld.pickV rfl rfl rfl) ?_ | refine WL.gno rfl rfl rfl rfl ?_ | refine WL.gyes rfl rfl rfl rfl (Yld.add rfl rfl (by simp only [In]; omega)) ?_ | refine WL.gyes rfl rfl rfl rfl (Yld.sub rfl rfl (by simp only [In]; omega)) ?_ | refine WL.gyes rfl rfl rfl rfl (Yld.mul rfl rfl (by simp only [In]; omega)) ?_ | refine WL.gyes rfl rfl rfl rfl (Yld.convB tab_ok rfl rfl rfl rfl) ?_ | refine WL.gyes rfl rfl rfl rfl (Yld.conv tab_ok rfl rfl rfl (by simp only [In]; omega)) ?_ | refine WL.gyes rfl rfl rfl rfl (Yld.quo rfl rfl (by omega) (by omega) (by simp only [In]; omega)) ?_ | refine WL.gyes rfl rfl rfl rfl (Yld.rem rfl rfl (by omega) (by omega)) ?_ | refine WL.gyes rfl rfl rfl rfl (Yld.shl rfl rfl (by omega)) ?_ | refine WL.gyes rfl rfl rfl rfl (Yld.shr rfl rfl (by omega)) ?_ | refine WL.gyes rfl rfl rfl rfl (Yld.pure tab_ok rfl) ?_ | refine WL.gyes rfl rfl rfl rfl (Yld.fld flds_ok rfl rfl rfl) ?_ | refine WL.gyes rfl rfl rfl rfl (Yld.max2 rfl rfl) ?_ | refine WL.gyes rfl rfl rfl rfl (Yld.min2 rfl rfl) ?_ | refine WL.gyes rfl rfl rfl rfl (Yld.pickV rfl rfl rfl) ?_ | refine WL.gun rfl rfl rfl rfl ?_)
  refine WL.lit tab_ok rfl rfl rfl (all1c (ErrR.one hE0) (all1c (ErrR.one hE1) (all1c (ErrR.one hE2) (all1c (ErrR.one hE3) (all1c (ErrR.one hE4) (all1c (ErrR.one hE5) (all1c (ErrR.one hE6) (all1c (ErrR.one hE7) (all1c (ErrR.one hE8) (all1c (ErrR.one hE9) (all1c (ErrR.one hE10) (all1c (ErrR.one hE11) (all1c (ErrR.one hE12) (all1c (ErrR.one hE13) (all1c (ErrR.one hE14) (all1c (ErrR.one hE15) (all1c (ErrR.one hE16) all1n))))))))))))))))) rfl (by omega) (fun g w' hB hg hl => ?_)
  repeat (first | refine WC.seq ?_ | refine WC.block ?_ | refine WC.region ?_ | refine WL.nil ?_ | refine WX.then_normal ?_ | refine WC.skip ?_ | refine WC.exit ?_ | refine WC.ret ?_ | refine WX.then_exit ?_ | refine WX.then_ret ?_ | refine WX.block_normal ?_ | refine WX.block_ret ?_ | refine WX.block_same ?_ | refine WX.block_other rfl ?_ | refine WC.label ?_ | refine WC.scope ?_ | refine WX.scope_normal ?_ | refine WX.scope_ret ?_ | refine WX.scope_exit ?_ | refine WL.y rfl (Yld.add rfl rfl (by simp only [In]; omega)) ?_ | refine WL.y rfl (Yld.sub rfl rfl (by simp only [In]; omega)) ?_ | refine WL.y rfl (Yld.mul rfl rfl (by simp only [In]; omega)) ?_ | refine WL.y rfl (Yld.convB tab_ok rfl rfl rfl rfl) ?_ | refine WL.y rfl (Yld.conv tab_ok rfl rfl rfl (by simp only [In]; omega)) ?_ | refine WL.y rfl (Yld.quo rfl rfl (by omega) (by omega) (by simp only [In]; omega)) ?_ | refine WL.y rfl (Yld.rem rfl rfl (by omega) (by omega)) ?_ | refine WL.y rfl (Yld.shl rfl rfl (by omega)) ?_ | refine WL.y rfl (Yld.shr rfl rfl (by omega)) ?_ | refine WL.y rfl (Yld.pure tab_ok rfl) ?_ | refine WL.y rfl (Yld.fld flds_ok rfl rfl rfl) ?_ | refine WL.y rfl (Yld.max2 rfl rfl) ?_ | refine WL.y rfl (Yld.min2 rfl rfl) ?_ | refine WL.y rfl (Yld.pickV rfl rfl rfl) ?_ | refine WL.gno rfl rfl rfl rfl ?_ | refine WL.gyes rfl rfl rfl rfl (Yld.add rfl rfl (by simp only [In]; omega)) ?_ | refine WL.gyes rfl rfl rfl rfl (Yld.sub rfl rfl (by simp only [In]; omega)) ?_ | refine WL.gyes rfl rfl rfl rfl (Yld.mul rfl rfl (by simp only [In]; omega)) ?_ | refine WL.gyes rfl rfl rfl rfl (Yld.convB tab_ok rfl rfl rfl rfl) ?_ | refine WL.gyes rfl rfl rfl rfl (Yld.conv tab_ok rfl rfl rfl (by simp only [In]; omega)) ?_ | refine WL.gyes rfl rfl rfl rfl (Yld.quo rfl rfl (by omega) (by omega) (by simp only [In]; omega)) ?_ | refine WL.gyes rfl rfl rfl rfl (Yld.rem rfl rfl (by omega) (by omega)) ?_ | refine WL.gyes rfl rfl rfl rfl (Yld.shl rfl rfl (by omega)) ?_ | refine WL.gyes rfl rfl rfl rfl (Yld.shr rfl rfl (by omega)) ?_ | refine WL.gyes rfl rfl rfl rfl (Yld.pure tab_ok rfl) ?_ | refine WL.gyes rfl rfl rfl rfl (Yld.fld flds_ok rfl rfl rfl) ?_ | refine WL.gyes rfl rfl rfl rfl (Yld.max2 rfl rfl) ?_ | refine WL.gyes rfl rfl rfl rfl (Yld.min2 rfl rfl) ?_ | refine WL.gyes rfl rfl rfl rfl (Yld.pickV rfl rfl rfl) ?_ | refine WL.gun rfl rfl rfl rfl ?_)
  refine WX.ret1 rfl rfl ⟨hg, g, _, rfl, hB, rfl, fun n hn => ?_⟩
  match n, hn with
  | 0, _ => exact hE0.grown hg
  | 1, _ => exact hE1.grown hg
  | 2, _ => exact hE2.grown hg
  | 3, _ => exact hE3.grown hg
  | 4, _ => exact hE4.grown hg
  | 5, _ => exact hE5.grown hg
  | 6, _ => exact hE6.grown hg
  | 7, _ => exact hE7.grown hg
  | 8, _ => exact hE8.grown hg
  | 9, _ => exact hE9.grown hg
  | 10, _ => exact hE10.grown hg
  | 11, _ => exact hE11.grown hg
  | 12, _ => exact hE12.grown hg
  | 13, _ => exact hE13.grown hg
  | 14, _ => exact hE14.grown hg
  | 15, _ => exact hE15.grown hg
  | 16, _ => exact hE16.grown hg
  | n + 17, hn => omega
def sentV : Er → Int
  | .ok => -1
  | .e n => 101 + n
  | .at_ _ _ => -1
def M_smithysee_sentinel (e : Er) (K : Int → Prop) : Prop := K (sentV e)
theorem W_smithysee_sentinel {S : List Nat} {w : World} {v : Value} {e : Er} {K : Int → Prop} (hG : GOK S w) (hS0 : 0 ∈ S) (hS1 : 1 ∈ S) (hS2 : 2 ∈ S) (hS3 : 3 ∈ S) (hS4 : 4 ∈ S) (hS5 : 5 ∈ S) (hS6 : 6 ∈ S) (hS7 : 7 ∈ S) (hS8 : 8 ∈ S) (hS9 : 9 ∈ S) (hS10 : 10 ∈ S) (hS11 : 11 ∈ S) (hS12 : 12 ∈ S) (hS13 : 13 ∈ S) (hS14 : 14 ∈ S) (hS15 : 15 ∈ S) (hS16 : 16 ∈ S) (hE : ErrR S w v e) (H : M_smithysee_sentinel e K) : Fn Tryd.prog 141 ⟨[v]⟩ w (fun r w' => w.grownBy w' none ∧ ∃ n : Int, r = .int .i64 n ∧ K n) := by
  have hS : ∀ n, n < 17 → n ∈ S := fun n hn => by
    match n, hn with
    | 0, _ => exact hS0
    | 1, _ => exact hS1
    | 2, _ => exact hS2
    | 3, _ => exact hS3
    | 4, _ => exact hS4
    | 5, _ => exact hS5
    | 6, _ => exact hS6
    | 7, _ => exact hS7
    | 8, _ => exact hS8
    | 9, _ => exact hS9
    | 10, _ => exact hS10
    | 11, _ => exact hS11
    | 12, _ => exact hS12
    | 13, _ => exact hS13
    | 14, _ => exact hS14
    | 15, _ => exact hS15
    | 16, _ => exact hS16
    | n + 17, hn => omega
  unfold M_smithysee_sentinel at H
  refine Fn.enter (by kernel_rfl) Tryd.func141 rfl Tryd.ntmps141 rfl ?_
  repeat (first | refine WC.seq ?_ | refine WC.block ?_ | refine WC.region ?_ | refine WL.nil ?_ | refine WX.then_normal ?_ | refine WC.skip ?_ | refine WC.exit ?_ | refine WC.ret ?_ | refine WX.then_exit ?_ | refine WX.then_ret ?_ | refine WX.block_normal ?_ | refine WX.block_ret ?_ | refine WX.block_same ?_ | refine WX.block_other rfl ?_ | refine WC.label ?_ | refine WC.scope ?_ | refine WX.scope_normal ?_ | refine WX.scope_ret ?_ | refine WX.scope_exit ?_ | refine WL.y rfl (Yld.add rfl rfl (by simp only [In]; omega)) ?_ | refine WL.y rfl (Yld.sub rfl rfl (by simp only [In]; omega)) ?_ | refine WL.y rfl (Yld.mul rfl rfl (by simp only [In]; omega)) ?_ | refine WL.y rfl (Yld.convB tab_ok rfl rfl rfl rfl) ?_ | refine WL.y rfl (Yld.conv tab_ok rfl rfl rfl (by simp only [In]; omega)) ?_ | refine WL.y rfl (Yld.quo rfl rfl (by omega) (by omega) (by simp only [In]; omega)) ?_ | refine WL.y rfl (Yld.rem rfl rfl (by omega) (by omega)) ?_ | refine WL.y rfl (Yld.shl rfl rfl (by omega)) ?_ | refine WL.y rfl (Yld.shr rfl rfl (by omega)) ?_ | refine WL.y rfl (Yld.pure tab_ok rfl) ?_ | refine WL.y rfl (Yld.fld flds_ok rfl rfl rfl) ?_ | refine WL.y rfl (Yld.max2 rfl rfl) ?_ | refine WL.y rfl (Yld.min2 rfl rfl) ?_ | refine WL.y rfl (Yld.pickV rfl rfl rfl) ?_ | refine WL.gno rfl rfl rfl rfl ?_ | refine WL.gyes rfl rfl rfl rfl (Yld.add rfl rfl (by simp only [In]; omega)) ?_ | refine WL.gyes rfl rfl rfl rfl (Yld.sub rfl rfl (by simp only [In]; omega)) ?_ | refine WL.gyes rfl rfl rfl rfl (Yld.mul rfl rfl (by simp only [In]; omega)) ?_ | refine WL.gyes rfl rfl rfl rfl (Yld.convB tab_ok rfl rfl rfl rfl) ?_ | refine WL.gyes rfl rfl rfl rfl (Yld.conv tab_ok rfl rfl rfl (by simp only [In]; omega)) ?_ | refine WL.gyes rfl rfl rfl rfl (Yld.quo rfl rfl (by omega) (by omega) (by simp only [In]; omega)) ?_ | refine WL.gyes rfl rfl rfl rfl (Yld.rem rfl rfl (by omega) (by omega)) ?_ | refine WL.gyes rfl rfl rfl rfl (Yld.shl rfl rfl (by omega)) ?_ | refine WL.gyes rfl rfl rfl rfl (Yld.shr rfl rfl (by omega)) ?_ | refine WL.gyes rfl rfl rfl rfl (Yld.pure tab_ok rfl) ?_ | refine WL.gyes rfl rfl rfl rfl (Yld.fld flds_ok rfl rfl rfl) ?_ | refine WL.gyes rfl rfl rfl rfl (Yld.max2 rfl rfl) ?_ | refine WL.gyes rfl rfl rfl rfl (Yld.min2 rfl rfl) ?_ | refine WL.gyes rfl rfl rfl rfl (Yld.pickV rfl rfl rfl) ?_ | refine WL.gun rfl rfl rfl rfl ?_)
  refine WL.call rfl rfl (sentinels_fn hG hS) ?_
  rintro _ w1 ⟨hg1, g, us, rfl, hB, hlen, hus⟩
  have hR := Rd.ofBlV hB hlen (by simp [maxLen])
  have hE1 := hE.grown hg1
  repeat (first | refine WC.seq ?_ | refine WC.block ?_ | refine WC.region ?_ | refine WL.nil ?_ | refine WX.then_normal ?_ | refine WC.skip ?_ | refine WC.exit ?_ | refine WC.ret ?_ | refine WX.then_exit ?_ | refine WX.then_ret ?_ | refine WX.block_normal ?_ | refine WX.block_ret ?_ | refine WX.block_same ?_ | refine WX.block_other rfl ?_ | refine WC.label ?_ | refine WC.scope ?_ | refine WX.scope_normal ?_ | refine WX.scope_ret ?_ | refine WX.scope_exit ?_ | refine WL.y rfl (Yld.add rfl rfl (by simp only [In]; omega)) ?_ | refine WL.y rfl (Yld.sub rfl rfl (by simp only [In]; omega)) ?_ | refine WL.y rfl (Yld.mul rfl rfl (by simp only [In]; omega)) ?_ | refine WL.y rfl (Yld.convB tab_ok rfl rfl rfl rfl) ?_ | refine WL.y rfl (Yld.conv tab_ok rfl rfl rfl (by simp only [In]; omega)) ?_ | refine WL.y rfl (Yld.quo rfl rfl (by omega) (by omega) (by simp only [In]; omega)) ?_ | refine WL.y rfl (Yld.rem rfl rfl (by omega) (by omega)) ?_ | refine WL.y rfl (Yld.shl rfl rfl (by omega)) ?_ | refine WL.y rfl (Yld.shr rfl rfl (by omega)) ?_ | refine WL.y rfl (Yld.pure tab_ok rfl) ?_ | refine WL.y rfl (Yld.fld flds_ok rfl rfl rfl) ?_ | refine WL.y rfl (Yld.max2 rfl rfl) ?_ | refine WL.y rfl (Yld.min2 rfl rfl) ?_ | refine WL.y rfl (Yld.pickV rfl rfl rfl) ?_ | refine WL.gno rfl rfl rfl rfl ?_ | refine WL.gyes rfl rfl rfl rfl (Yld.add rfl rfl (by simp only [In]; omega)) ?_ | refine WL.gyes rfl rfl rfl rfl (Yld.sub rfl rfl (by simp only [In]; omega)) ?_ | refine WL.gyes rfl rfl rfl rfl (Yld.mul rfl rfl (by simp only [In]; omega)) ?_ | refine WL.gyes rfl rfl rfl rfl (Yld.convB tab_ok rfl rfl rfl rfl) ?_ | refine WL.gyes rfl rfl rfl rfl (Yld.conv tab_ok rfl rfl rfl (by simp only [In]; omega)) ?_ | refine WL.gyes rfl rfl rfl rfl (Yld.quo rfl rfl (by omega) (by omega) (by simp only [In]; omega)) ?_ | refine WL.gyes rfl rfl rfl rfl (Yld.rem rfl rfl (by omega) (by omega)) ?_ | refine WL.gyes rfl rfl rfl rfl (Yld.shl rfl rfl (by omega)) ?_ | refine WL.gyes rfl rfl rfl rfl (Yld.shr rfl rfl (by omega)) ?_ | refine WL.gyes rfl rfl rfl rfl (Yld.pure tab_ok rfl) ?_ | refine WL.gyes rfl rfl rfl rfl (Yld.fld flds_ok rfl rfl rfl) ?_ | refine WL.gyes rfl rfl rfl rfl (Yld.max2 rfl rfl) ?_ | refine WL.gyes rfl rfl rfl rfl (Yld.min2 rfl rfl) ?_ | refine WL.gyes rfl rfl rfl rfl (Yld.pickV rfl rfl rfl) ?_ | refine WL.gun rfl rfl rfl rfl ?_)
  refine WC.loopF (fun n' L' w' => ∃ i : Nat, n' = 17 - i ∧ L' = [(4, vi i), (3, .slice (some ⟨g, 0, none⟩) 17 17), (0, v)] ∧ i ≤ 17 ∧ (∀ j, j < i → e ≠ .e j) ∧ w1 = w') _ _ ⟨0, rfl, rfl, by omega, fun j hj => by omega, rfl⟩ (by repeat (first | exact Sub.nil | refine Sub.cons rfl ?_)) ?_
  rintro _ _ _ ⟨i, rfl, rfl, hi, hne, rfl⟩
  repeat (first | refine WC.seq ?_ | refine WC.block ?_ | refine WC.region ?_ | refine WL.nil ?_ | refine WX.then_normal ?_ | refine WC.skip ?_ | refine WC.exit ?_ | refine WC.ret ?_ | refine WX.then_exit ?_ | refine WX.then_ret ?_ | refine WX.block_normal ?_ | refine WX.block_ret ?_ | refine WX.block_same ?_ | refine WX.block_other rfl ?_ | refine WC.label ?_ | refine WC.scope ?_ | refine WX.scope_normal ?_ | refine WX.scope_ret ?_ | refine WX.scope_exit ?_ | refine WL.y rfl (Yld.add rfl rfl (by simp only [In]; omega)) ?_ | refine WL.y rfl (Yld.sub rfl rfl (by simp only [In]; omega)) ?_ | refine WL.y rfl (Yld.mul rfl rfl (by simp only [In]; omega)) ?_ | refine WL.y rfl (Yld.convB tab_ok rfl rfl rfl rfl) ?_ | refine WL.y rfl (Yld.conv tab_ok rfl rfl rfl (by simp only [In]; omega)) ?_ | refine WL.y rfl (Yld.quo rfl rfl (by omega) (by omega) (by simp only [In]; omega)) ?_ | refine WL.y rfl (Yld.rem rfl rfl (by omega) (by omega)) ?_ | refine WL.y rfl (Yld.shl rfl rfl (by omega)) ?_ | refine WL.y rfl (Yld.shr rfl rfl (by omega)) ?_ | refine WL.y rfl (Yld.pure tab_ok rfl) ?_ | refine WL.y rfl (Yld.fld flds_ok rfl rfl rfl) ?_ | refine WL.y rfl (Yld.max2 rfl rfl) ?_ | refine WL.y rfl (Yld.min2 rfl rfl) ?_ | refine WL.y rfl (Yld.pickV rfl rfl rfl) ?_ | refine WL.gno rfl rfl rfl rfl ?_ | refine WL.gyes rfl rfl rfl rfl (Yld.add rfl rfl (by simp only [In]; omega)) ?_ | refine WL.gyes rfl rfl rfl rfl (Yld.sub rfl rfl (by simp only [In]; omega)) ?_ | refine WL.gyes rfl rfl rfl rfl (Yld.mul rfl rfl (by simp only [In]; omega)) ?_ | refine WL.gyes rfl rfl rfl rfl (Yld.convB tab_ok rfl rfl rfl rfl) ?_ | refine WL.gyes rfl rfl rfl rfl (Yld.conv tab_ok rfl rfl rfl (by simp only [In]; omega)) ?_ | refine WL.gyes rfl rfl rfl rfl (Yld.quo rfl rfl (by omega) (by omega) (by simp only [In]; omega)) ?_ | refine WL.gyes rfl rfl rfl rfl (Yld.rem rfl rfl (by omega) (by omega)) ?_ | refine WL.gyes rfl rfl rfl rfl (Yld.shl rfl rfl (by omega)) ?_ | refine WL.gyes rfl rfl rfl rfl (Yld.shr rfl rfl (by omega)) ?_ | refine WL.gyes rfl rfl rfl rfl (Yld.pure tab_ok rfl) ?_ | refine WL.gyes rfl rfl rfl rfl (Yld.fld flds_ok rfl rfl rfl) ?_ | refine WL.gyes rfl rfl rfl rfl (Yld.max2 rfl rfl) ?_ | refine WL.gyes rfl rfl rfl rfl (Yld.min2 rfl rfl) ?_ | refine WL.gyes rfl rfl rfl rfl (Yld.pickV rfl rfl rfl) ?_ | refine WL.gun rfl rfl rfl rfl ?_)
  refine WC.cond rfl (fun h => ?_) (fun h => ?_)
  · simp only [decide_eq_true_eq] at h
    have hi' : i < 17 := by omega
    repeat (first | refine WL.y rfl (Yld.iaddrN tab_ok hR rfl rfl hlen.symm rfl (by omega)) ?_ | refine WL.y rfl (Yld.iload .nilIface tab_ok hR rfl rfl (by omega)) ?_ | refine WC.seq ?_ | refine WC.block ?_ | refine WC.region ?_ | refine WL.nil ?_ | refine WX.then_normal ?_ | refine WC.skip ?_ | refine WC.exit ?_ | refine WC.ret ?_ | refine WX.then_exit ?_ | refine WX.then_ret ?_ | refine WX.block_normal ?_ | refine WX.block_ret ?_ | refine WX.block_same ?_ | refine WX.block_other rfl ?_ | refine WC.label ?_ | refine WC.scope ?_ | refine WX.scope_normal ?_ | refine WX.scope_ret ?_ | refine WX.scope_exit ?_ | refine WL.y rfl (Yld.add rfl rfl (by simp only [In]; omega)) ?_ | refine WL.y rfl (Yld.sub rfl rfl (by simp only [In]; omega)) ?_ | refine WL.y rfl (Yld.mul rfl rfl (by simp only [In]; omega)) ?_ | refine WL.y rfl (Yld.convB tab_ok rfl rfl rfl rfl) ?_ | refine WL.y rfl (Yld.conv tab_ok rfl rfl rfl (by simp only [In]; omega)) ?_ | refine WL.y rfl (Yld.quo rfl rfl (by omega) (by omega) (by simp only [In]; omega)) ?_ | refine WL.y rfl (Yld.rem rfl rfl (by omega) (by omega)) ?_ | refine WL.y rfl (Yld.shl rfl rfl (by omega)) ?_ | refine WL.y rfl (Yld.shr rfl rfl (by omega)) ?_ | refine WL.y rfl (Yld.pure tab_ok rfl) ?_ | refine WL.y rfl (Yld.fld flds_ok rfl rfl rfl) ?_ | refine WL.y rfl (Yld.max2 rfl rfl) ?_ | refine WL.y rfl (Yld.min2 rfl rfl) ?_ | refine WL.y rfl (Yld.pickV rfl rfl rfl) ?_ | refine WL.gno rfl rfl rfl rfl ?_ | refine WL.gyes rfl rfl rfl rfl (Yld.add rfl rfl (by simp only [In]; omega)) ?_ | refine WL.gyes rfl rfl rfl rfl (Yld.sub rfl rfl (by simp only [In]; omega)) ?_ | refine WL.gyes rfl rfl rfl rfl (Yld.mul rfl rfl (by simp only [In]; omega)) ?_ | refine WL.gyes rfl rfl rfl rfl (Yld.convB tab_ok rfl rfl rfl rfl) ?_ | refine WL.gyes rfl rfl rfl rfl (Yld.conv tab_ok rfl rfl rfl (by simp only [In]; omega)) ?_ | refine WL.gyes rfl rfl rfl rfl (Yld.quo rfl rfl (by omega) (by omega) (by simp only [In]; omega)) ?_ | refine WL.gyes rfl rfl rfl rfl (Yld.rem rfl rfl (by omega) (by omega)) ?_ | refine WL.gyes rfl rfl rfl rfl (Yld.shl rfl rfl (by omega)) ?_ | refine WL.gyes rfl rfl rfl rfl (Yld.shr rfl rfl (by omega)) ?_ | refine WL.gyes rfl rfl rfl rfl (Yld.pure tab_ok rfl) ?_ | refine WL.gyes rfl rfl rfl rfl (Yld.fld flds_ok rfl rfl rfl) ?_ | refine WL.gyes rfl rfl rfl rfl (Yld.max2 rfl rfl) ?_ | refine WL.gyes rfl rfl rfl rfl (Yld.min2 rfl rfl) ?_ | refine WL.gyes rfl rfl rfl rfl (Yld.pickV rfl rfl rfl) ?_ | refine WL.gun rfl rfl rfl rfl ?_)
    refine WL.call rfl rfl (W_smithysee_Alike (K := fun b => b = decide (e = .e i)) hE1 (hus i hi') ?_) ?_
    · unfold M_smithysee_Alike
      cases e <;> simp
    rintro _ _ ⟨rfl, b, rfl, hb⟩
    subst hb
    refine WL.nil ?_
    repeat (first | refine WC.seq ?_ | refine WC.block ?_ | refine WC.region ?_ | refine WL.nil ?_ | refine WX.then_normal ?_ | refine WC.skip ?_ | refine WC.exit ?_ | refine WC.ret ?_ | refine WX.then_exit ?_ | refine WX.then_ret ?_ | refine WX.block_normal ?_ | refine WX.block_ret ?_ | refine WX.block_same ?_ | refine WX.block_other rfl ?_ | refine WC.label ?_ | refine WC.scope ?_ | refine WX.scope_normal ?_ | refine WX.scope_ret ?_ | refine WX.scope_exit ?_ | refine WL.y rfl (Yld.add rfl rfl (by simp only [In]; omega)) ?_ | refine WL.y rfl (Yld.sub rfl rfl (by simp only [In]; omega)) ?_ | refine WL.y rfl (Yld.mul rfl rfl (by simp only [In]; omega)) ?_ | refine WL.y rfl (Yld.convB tab_ok rfl rfl rfl rfl) ?_ | refine WL.y rfl (Yld.conv tab_ok rfl rfl rfl (by simp only [In]; omega)) ?_ | refine WL.y rfl (Yld.quo rfl rfl (by omega) (by omega) (by simp only [In]; omega)) ?_ | refine WL.y rfl (Yld.rem rfl rfl (by omega) (by omega)) ?_ | refine WL.y rfl (Yld.shl rfl rfl (by omega)) ?_ | refine WL.y rfl (Yld.shr rfl rfl (by omega)) ?_ | refine WL.y rfl (Yld.pure tab_ok rfl) ?_ | refine WL.y rfl (Yld.fld flds_ok rfl rfl rfl) ?_ | refine WL.y rfl (Yld.max2 rfl rfl) ?_ | refine WL.y rfl (Yld.min2 rfl rfl) ?_ | refine WL.y rfl (Yld.pickV rfl rfl rfl) ?_ | refine WL.gno rfl rfl rfl rfl ?_ | refine WL.gyes rfl rfl rfl rfl (Yld.add rfl rfl (by simp only [In]; omega)) ?_ | refine WL.gyes rfl rfl rfl rfl (Yld.sub rfl rfl (by simp only [In]; omega)) ?_ | refine WL.gyes rfl rfl rfl rfl (Yld.mul rfl rfl (by simp only [In]; omega)) ?_ | refine WL.gyes rfl rfl rfl rfl (Yld.convB tab_ok rfl rfl rfl rfl) ?_ | refine WL.gyes rfl rfl rfl rfl (Yld.conv tab_ok rfl rfl rfl (by simp only [In]; omega)) ?_ | refine WL.gyes rfl rfl rfl rfl (Yld.quo rfl rfl (by omega) (by omega) (by simp only [In]; omega)) ?_ | refine WL.gyes rfl rfl rfl rfl (Yld.rem rfl rfl (by omega) (by omega)) ?_ | refine WL.gyes rfl rfl rfl rfl (Yld.shl rfl rfl (by omega)) ?_ | refine WL.gyes rfl rfl rfl rfl (Yld.shr rfl rfl (by omega)) ?_ | refine WL.gyes rfl rfl rfl rfl (Yld.pure tab_ok rfl) ?_ | refine WL.gyes rfl rfl rfl rfl (Yld.fld flds_ok rfl rfl rfl) ?_ | refine WL.gyes rfl rfl rfl rfl (Yld.max2 rfl rfl) ?_ | refine WL.gyes rfl rfl rfl rfl (Yld.min2 rfl rfl) ?_ | refine WL.gyes rfl rfl rfl rfl (Yld.pickV rfl rfl rfl) ?_ | refine WL.gun rfl rfl rfl rfl ?_)
    refine WC.cond rfl (fun h2 => ?_) (fun h2 => ?_)
    · have h3 : e = .e i := of_decide_eq_true h2
      subst h3
      repeat (first | refine WC.seq ?_ | refine WC.block ?_ | refine WC.region ?_ | refine WL.nil ?_ | refine WX.then_normal ?_ | refine WC.skip ?_ | refine WC.exit ?_ | refine WC.ret ?_ | refine WX.then_exit ?_ | refine WX.then_ret ?_ | refine WX.block_normal ?_ | refine WX.block_ret ?_ | refine WX.block_same ?_ | refine WX.block_other rfl ?_ | refine WC.label ?_ | refine WC.scope ?_ | refine WX.scope_normal ?_ | refine WX.scope_ret ?_ | refine WX.scope_exit ?_ | refine WL.y rfl (Yld.add rfl rfl (by simp only [In]; omega)) ?_ | refine WL.y rfl (Yld.sub rfl rfl (by simp only [In]; omega)) ?_ | refine WL.y rfl (Yld.mul rfl rfl (by simp only [In]; omega)) ?_ | refine WL.y rfl (Yld.convB tab_ok rfl rfl rfl rfl) ?_ | refine WL.y rfl (Yld.conv tab_ok rfl rfl rfl (by simp only [In]; omega)) ?_ | refine WL.y rfl (Yld.quo rfl rfl (by omega) (by omega) (by simp only [In]; omega)) ?_ | refine WL.y rfl (Yld.rem rfl rfl (by omega) (by omega)) ?_ | refine WL.y rfl (Yld.shl rfl rfl (by omega)) ?_ | refine WL.y rfl (Yld.shr rfl rfl (by omega)) ?_ | refine WL.y rfl (Yld.pure tab_ok rfl) ?_ | refine WL.y rfl (Yld.fld flds_ok rfl rfl rfl) ?_ | refine WL.y rfl (Yld.max2 rfl rfl) ?_ | refine WL.y rfl (Yld.min2 rfl rfl) ?_ | refine WL.y rfl (Yld.pickV rfl rfl rfl) ?_ | refine WL.gno rfl rfl rfl rfl ?_ | refine WL.gyes rfl rfl rfl rfl (Yld.add rfl rfl (by simp only [In]; omega)) ?_ | refine WL.gyes rfl rfl rfl rfl (Yld.sub rfl rfl (by simp only [In]; omega)) ?_ | refine WL.gyes rfl rfl rfl rfl (Yld.mul rfl rfl (by simp only [In]; omega)) ?_ | refine WL.gyes rfl rfl rfl rfl (Yld.convB tab_ok rfl rfl rfl rfl) ?_ | refine WL.gyes rfl rfl rfl rfl (Yld.conv tab_ok rfl rfl rfl (by simp only [In]; omega)) ?_ | refine WL.gyes rfl rfl rfl rfl (Yld.quo rfl rfl (by omega) (by omega) (by simp only [In]; omega)) ?_ | refine WL.gyes rfl rfl rfl rfl (Yld.rem rfl rfl (by omega) (by omega)) ?_ | refine WL.gyes rfl rfl rfl rfl (Yld.shl rfl rfl (by omega)) ?_ | refine WL.gyes rfl rfl rfl rfl (Yld.shr rfl rfl (by omega)) ?_ | refine WL.gyes rfl rfl rfl rfl (Yld.pure tab_ok rfl) ?_ | refine WL.gyes rfl rfl rfl rfl (Yld.fld flds_ok rfl rfl rfl) ?_ | refine WL.gyes rfl rfl rfl rfl (Yld.max2 rfl rfl) ?_ | refine WL.gyes rfl rfl rfl rfl (Yld.min2 rfl rfl) ?_ | refine WL.gyes rfl rfl rfl rfl (Yld.pickV rfl rfl rfl) ?_ | refine WL.gun rfl rfl rfl rfl ?_)
      exact WX.ret1 rfl rfl ⟨hg1, _, rfl, H⟩
    · have h3 : e ≠ .e i := of_decide_eq_false h2
      repeat (first | refine WC.seq ?_ | refine WC.block ?_ | refine WC.region ?_ | refine WL.nil ?_ | refine WX.then_normal ?_ | refine WC.skip ?_ | refine WC.exit ?_ | refine WC.ret ?_ | refine WX.then_exit ?_ | refine WX.then_ret ?_ | refine WX.block_normal ?_ | refine WX.block_ret ?_ | refine WX.block_same ?_ | refine WX.block_other rfl ?_ | refine WC.label ?_ | refine WC.scope ?_ | refine WX.scope_normal ?_ | refine WX.scope_ret ?_ | refine WX.scope_exit ?_ | refine WL.y rfl (Yld.add rfl rfl (by simp only [In]; omega)) ?_ | refine WL.y rfl (Yld.sub rfl rfl (by simp only [In]; omega)) ?_ | refine WL.y rfl (Yld.mul rfl rfl (by simp only [In]; omega)) ?_ | refine WL.y rfl (Yld.convB tab_ok rfl rfl rfl rfl) ?_ | refine WL.y rfl (Yld.conv tab_ok rfl rfl rfl (by simp only [In]; omega)) ?_ | refine WL.y rfl (Yld.quo rfl rfl (by omega) (by omega) (by simp only [In]; omega)) ?_ | refine WL.y rfl (Yld.rem rfl rfl (by omega) (by omega)) ?_ | refine WL.y rfl (Yld.shl rfl rfl (by omega)) ?_ | refine WL.y rfl (Yld.shr rfl rfl (by omega)) ?_ | refine WL.y rfl (Yld.pure tab_ok rfl) ?_ | refine WL.y rfl (Yld.fld flds_ok rfl rfl rfl) ?_ | refine WL.y rfl (Yld.max2 rfl rfl) ?_ | refine WL.y rfl (Yld.min2 rfl rfl) ?_ | refine WL.y rfl (Yld.pickV rfl rfl rfl) ?_ | refine WL.gno rfl rfl rfl rfl ?_ | refine WL.gyes rfl rfl rfl rfl (Yld.add rfl rfl (by simp only [In]; omega)) ?_ | refine WL.gyes rfl rfl rfl rfl (Yld.sub rfl rfl (by simp only [In]; omega)) ?_ | refine WL.gyes rfl rfl rfl rfl (Yld.mul rfl rfl (by simp only [In]; omega)) ?_ | refine WL.gyes rfl rfl rfl rfl (Yld.convB tab_ok rfl rfl rfl rfl) ?_ | refine WL.gyes rfl rfl rfl rfl (Yld.conv tab_ok rfl rfl rfl (by simp only [In]; omega)) ?_ | refine WL.gyes rfl rfl rfl rfl (Yld.quo rfl rfl (by omega) (by omega) (by simp only [In]; omega)) ?_ | refine WL.gyes rfl rfl rfl rfl (Yld.rem rfl rfl (by omega) (by omega)) ?_ | refine WL.gyes rfl rfl rfl rfl (Yld.shl rfl rfl (by omega)) ?_ | refine WL.gyes rfl rfl rfl rfl (Yld.shr rfl rfl (by omega)) ?_ | refine WL.gyes rfl rfl rfl rfl (Yld.pure tab_ok rfl) ?_ | refine WL.gyes rfl rfl rfl rfl (Yld.fld flds_ok rfl rfl rfl) ?_ | refine WL.gyes rfl rfl rfl rfl (Yld.max2 rfl rfl) ?_ | refine WL.gyes rfl rfl rfl rfl (Yld.min2 rfl rfl) ?_ | refine WL.gyes rfl rfl rfl rfl (Yld.pickV rfl rfl rfl) ?_ | refine WL.gun rfl rfl rfl rfl ?_)
      refine WX.roundF _ ⟨i + 1, rfl, rfl, by omega, fun j hj => ?_, rfl⟩ (by repeat (first | exact Sub.nil | refine Sub.cons rfl ?_)) (by omega)
      rcases Nat.lt_or_ge j i with hji | hji
      · exact hne j hji
      · obtain rfl : j = i := by omega
        exact h3
  · simp only [decide_eq_false_iff_not] at h
    repeat (first | refine WC.seq ?_ | refine WC.block ?_ | refine WC.region ?_ | refine WL.nil ?_ | refine WX.then_normal ?_ | refine WC.skip ?_ | refine WC.exit ?_ | refine WC.ret ?_ | refine WX.then_exit ?_ | refine WX.then_ret ?_ | refine WX.block_normal ?_ | refine WX.block_ret ?_ | refine WX.block_same ?_ | refine WX.block_other rfl ?_ | refine WC.label ?_ | refine WC.scope ?_ | refine WX.scope_normal ?_ | refine WX.scope_ret ?_ | refine WX.scope_exit ?_ | refine WL.y rfl (Yld.add rfl rfl (by simp only [In]; omega)) ?_ | refine WL.y rfl (Yld.sub rfl rfl (by simp only [In]; omega)) ?_ | refine WL.y rfl (Yld.mul rfl rfl (by simp only [In]; omega)) ?_ | refine WL.y rfl (Yld.convB tab_ok rfl rfl rfl rfl) ?_ | refine WL.y rfl (Yld.conv tab_ok rfl rfl rfl (by simp only [In]; omega)) ?_ | refine WL.y rfl (Yld.quo rfl rfl (by omega) (by omega) (by simp only [In]; omega)) ?_ | refine WL.y rfl (Yld.rem rfl rfl (by omega) (by omega)) ?_ | refine WL.y rfl (Yld.shl rfl rfl (by omega)) ?_ | refine WL.y rfl (Yld.shr rfl rfl (by omega)) ?_ | refine WL.y rfl (Yld.pure tab_ok rfl) ?_ | refine WL.y rfl (Yld.fld flds_ok rfl rfl rfl) ?_ | refine WL.y rfl (Yld.max2 rfl rfl) ?_ | refine WL.y rfl (Yld.min2 rfl rfl) ?_ | refine WL.y rfl (Yld.pickV rfl rfl rfl) ?_ | refine WL.gno rfl rfl rfl rfl ?_ | refine WL.gyes rfl rfl rfl rfl (Yld.add rfl rfl (by simp only [In]; omega)) ?_ | refine WL.gyes rfl rfl rfl rfl (Yld.sub rfl rfl (by simp only [In]; omega)) ?_ | refine WL.gyes rfl rfl rfl rfl (Yld.mul rfl rfl (by simp only [In]; omega)) ?_ | refine WL.gyes rfl rfl rfl rfl (Yld.convB tab_ok rfl rfl rfl rfl) ?_ | refine WL.gyes rfl rfl rfl rfl (Yld.conv tab_ok rfl rfl rfl (by simp only [In]; omega)) ?_ | refine WL.gyes rfl rfl rfl rfl (Yld.quo rfl rfl (by omega) (by omega) (by simp only [In]; omega)) ?_ | refine WL.gyes rfl rfl rfl rfl (Yld.rem rfl rfl (by omega) (by omega)) ?_ | refine WL.gyes rfl rfl rfl rfl (Yld.shl rfl rfl (by omega)) ?_ | refine WL.gyes rfl rfl rfl rfl (Yld.shr rfl rfl (by omega)) ?_ | refine WL.gyes rfl rfl rfl rfl (Yld.pure tab_ok rfl) ?_ | refine WL.gyes rfl rfl rfl rfl (Yld.fld flds_ok rfl rfl rfl) ?_ | refine WL.gyes rfl rfl rfl rfl (Yld.max2 rfl rfl) ?_ | refine WL.gyes rfl rfl rfl rfl (Yld.min2 rfl rfl) ?_ | refine WL.gyes rfl rfl rfl rfl (Yld.pickV rfl rfl rfl) ?_ | refine WL.gun rfl rfl rfl rfl ?_)
    refine WX.ret1 rfl rfl ⟨hg1, _, rfl, ?_⟩
    have : sentV e = -1 := by
      cases e with
      | e n =>
        by_cases hn : n < 17
        · exact absurd rfl (hne n (by omega))
        · exact absurd (ErV.lt hE.1) hn
      | ok => rfl
      | at_ p n => rfl
    rw [this] at H
    exact H
end Go.Proofs.YtilphcippnfklaaDoor
 /- Printed by a program (wip/vg): what the functions mean, plainly, and their walks. -/
namespace Go.Proofs.YtilphcippnfklaaDoor
open Go Go.RowKit
attribute [local irreducible] WL WC WX WQ WK WJ Yld Eff Ef0 Fn
def M_smithysee_placed (e : Er) (K : Int → Bool → Int → Bool → (List UInt8) → Prop) : Prop :=
 ((∀ (pos : Int) (n : Nat), e = Er.at_ pos n → (((false || (decide ((Er.e n) = Er.ok))) = true → M_smithyref_Bare (-1 : Int) (fun (t24_Code : Int) (t24_Placed : Bool) (t24_Pos : Int) (t24_Filed : Bool) (t24_File : List UInt8) =>
 K t24_Code t24_Placed t24_Pos t24_Filed t24_File)) ∧
 ((false || (decide ((Er.e n) = Er.ok))) = false → M_smithysee_sentinel (Er.e n) (fun (t29 : Int) =>
 M_smithyref_Placed t29 pos (fun (t34_Code : Int) (t34_Placed : Bool) (t34_Pos : Int) (t34_Filed : Bool) (t34_File : List UInt8) =>
 K t34_Code t34_Placed t34_Pos t34_Filed t34_File))))) ∧
 ((∀ p n, e ≠ Er.at_ p n) → M_smithysee_sentinel e (fun (t13 : Int) =>
 M_smithyref_Bare t13 (fun (t14_Code : Int) (t14_Placed : Bool) (t14_Pos : Int) (t14_Filed : Bool) (t14_File : List UInt8) =>
 K t14_Code t14_Placed t14_Pos t14_Filed t14_File))))

def M_smithysee_Fault (e : Er) (K : Int → Bool → Int → Bool → (List UInt8) → Prop) : Prop :=
 ((e = Er.ok → M_smithyref_None (fun (t8_Code : Int) (t8_Placed : Bool) (t8_Pos : Int) (t8_Filed : Bool) (t8_File : List UInt8) =>
 K t8_Code t8_Placed t8_Pos t8_Filed t8_File)) ∧
 (¬ (e = Er.ok) → M_smithysee_placed e (fun (t17_Code : Int) (t17_Placed : Bool) (t17_Pos : Int) (t17_Filed : Bool) (t17_File : List UInt8) =>
 K t17_Code t17_Placed t17_Pos t17_Filed t17_File)))

def M_smithysee_Same (e : Er) (f_Code : Int) (f_Placed : Bool) (f_Pos : Int) (f_Filed : Bool) (f_File : List UInt8) (K : Bool → Prop) : Prop :=
 M_smithysee_Fault e (fun (t6_Code : Int) (t6_Placed : Bool) (t6_Pos : Int) (t6_Filed : Bool) (t6_File : List UInt8) =>
 M_smithyref_SameFault t6_Code t6_Placed t6_Pos t6_Filed t6_File f_Code f_Placed f_Pos f_Filed f_File (fun (t4 : Bool) =>
 K t4))

def M_smithysee_Is (e : Er) (code : Int) (K : Bool → Prop) : Prop :=
 M_smithyref_Bare code (fun (t7_Code : Int) (t7_Placed : Bool) (t7_Pos : Int) (t7_Filed : Bool) (t7_File : List UInt8) =>
 M_smithysee_Same e t7_Code t7_Placed t7_Pos t7_Filed t7_File (fun (t4 : Bool) =>
 K t4))

set_option maxHeartbeats 8000000 in
theorem W_smithysee_placed {S : List Nat} {w : World} {v_e : Value} {e : Er} {K : Int → Bool → Int → Bool → (List UInt8) → Prop} (hG : GOK S w) (hS0 : 0 ∈ S) (hS1 : 1 ∈ S) (hS2 : 2 ∈ S) (hS3 : 3 ∈ S) (hS4 : 4 ∈ S) (hS5 : 5 ∈ S) (hS6 : 6 ∈ S) (hS7 : 7 ∈ S) (hS8 : 8 ∈ S) (hS9 : 9 ∈ S) (hS10 : 10 ∈ S) (hS11 : 11 ∈ S) (hS12 : 12 ∈ S) (hS13 : 13 ∈ S) (hS14 : 14 ∈ S) (hS15 : 15 ∈ S) (hS16 : 16 ∈ S) (he : ErrR S w v_e e) (H : M_smithysee_placed e K) : Fn Tryd.prog 118 ⟨[v_e]⟩ w (fun v w' => w.grownBy w' none ∧ ∃ (r_Code : Int), ∃ (r_Placed : Bool), ∃ (r_Pos : Int), ∃ (r_Filed : Bool), ∃ (r_File : List UInt8), v = .agg ⟨[.int .i64 r_Code, .bool r_Placed, .int .i64 r_Pos, .bool r_Filed, vs r_File]⟩ ∧ K r_Code r_Placed r_Pos r_Filed r_File) := by
  unfold M_smithysee_placed at H
  refine Fn.enter (by kernel_rfl) Tryd.func118 rfl Tryd.ntmps118 rfl ?_
  refine WC.seq ?_
  refine WC.region ?_
  refine WL.alloc rfl zero79 (fun g1 w1 hB1 hg1 hl1 => ?_)
  have gr1 := hg1
  refine WL.nil (WX.then_normal ?_)
  refine WC.seq ?_
  refine WC.region ?_
  refine WL.y rfl (Yld.pure tab_ok rfl) ?_
  rcases Er.atCases e with ⟨pos, n, he1⟩ | he1
  · replace H := H.1 pos n he1
    obtain ⟨b1, vE1, hv1, hB2, hE1⟩ := ErrR.atOut (he1 ▸ (he.grown gr1))
    refine WL.y rfl (Yld.assertYes Tryd.underlying130 rfl hv1) ?_
    refine WL.y rfl (Yld.pure tab_ok rfl) ?_
    refine WL.y rfl (Yld.pure tab_ok rfl) ?_
    refine WL.y rfl (Yld.pure tab_ok rfl) ?_
    refine WL.y rfl (Yld.pure tab_ok rfl) ?_
    refine WL.y rfl (Yld.pure tab_ok rfl) ?_
    refine WL.nil (WX.then_normal ?_)
    refine WC.seq ?_
    refine WC.seq ?_
    refine WC.region ?_
    refine WL.y rfl (Yld.pure tab_ok rfl) ?_
    refine WL.y rfl (Yld.pure tab_ok rfl) ?_
    refine WL.nil (WX.then_normal ?_)
    refine WC.cond rfl (fun h => by cases h) (fun _ => ?_)
    refine WC.skip (WX.then_normal ?_)
    refine WC.seq ?_
    refine WC.seq ?_
    refine WC.region ?_
    refine WL.y rfl (Yld.pure tab_ok rfl) ?_
    refine WL.y rfl (Yld.peqnil Tryd.underlying130 rfl rfl) ?_
    refine WL.y rfl (Yld.pure tab_ok rfl) ?_
    refine WL.midF 6 (fun L' w' => ∃ q1 : Bool, L' = [(23, .bool q1), (2, .pointer (some ⟨g1, 0, none⟩)), (3, .pointer (some ⟨b1, 0, none⟩))] ∧ q1 = (false || (decide ((Er.e n) = Er.ok))) ∧ w1 = w') ?_ (fun hQ => ?_)
    · rintro _ _ ⟨q1, rfl, rfl, rfl⟩
      refine WL.nil (WX.then_normal ?_)
      refine WC.cond rfl (fun b2 => ?_) (fun b2 => ?_)
      · replace H := H.1 (b2)
        refine WC.seq ?_
        refine WC.region ?_
        refine WL.call rfl rfl (W_smithyref_Bare H) ?_
        rintro _ w2 ⟨hg2, t24_Code, t24_Placed, t24_Pos, t24_Filed, t24_File, rfl, H⟩
        have gr2 := gr_trans gr1 hg2
        have k1 := hB1.g0 hg2
        refine WL.storeW (vs := [.int .i64 t24_Code, .bool t24_Placed, .int .i64 t24_Pos, .bool t24_Filed, vs t24_File]) tab_ok rfl rfl rfl (all1c rfl (all1c rfl (all1c rfl (all1c rfl (all1c rfl all1n))))) k1 rfl rfl (fun w3 hB3 hg3 => ?_)
        have gr3 := gr_mod gr2 hg3 (Ge.le (Ge.box hl1) (Nat.le_refl _))
        refine WL.nil (WX.then_normal ?_)
        refine WC.ret (WX.then_ret ?_)
        exact WX.retc tab_ok rfl rfl rfl hB3 rfl ⟨gr3, t24_Code, t24_Placed, t24_Pos, t24_Filed, t24_File, rfl, H⟩
      · replace H := H.2 (b2)
        refine WC.skip (WX.then_normal ?_)
        refine WC.seq ?_
        refine WC.chainF (fun k => !(Nat.beq k 4 || Nat.beq k 9 || Nat.beq k 10)) (LD [3, 8] (fun w' => Bl w' b1 132 [.int .i64 pos, vE1])) mixed (by kernel_rfl) (fun k w' h _ => (bl_eqv h hB2)) ?_
        refine WJ.y rfl rfl (fun w' hw' => Yld.pure tab_ok rfl) ?_
        refine WJ.y rfl rfl (fun w' hw' => Yld.pure tab_ok rfl) ?_
        refine WJ.y rfl rfl (fun w' hw' => Yld.pure tab_ok rfl) ?_
        refine WJ.y rfl rfl (fun w' hw' => Yld.bload tab_ok (hw' rfl) rfl rfl rfl) ?_
        refine WJ.call rfl (wants_none) rfl rfl (W_smithysee_sentinel (hG.grown gr1) hS0 hS1 hS2 hS3 hS4 hS5 hS6 hS7 hS8 hS9 hS10 hS11 hS12 hS13 hS14 hS15 hS16 hE1 H) (fun v w' h w2 e => DD.keep (Bl.g0 hB2 (gr_eqv h.1 e))) ?_
        rintro _ w4 ⟨hg4, t29, rfl, H⟩
        have gr4 := gr_trans gr1 hg4
        have k2 := hB1.g0 hg4
        have k3 := hE1.grown hg4
        have k4 := hB2.g0 hg4
        refine WJ.y rfl rfl (fun w' hw' => Yld.pure tab_ok rfl) ?_
        refine WJ.y rfl rfl (fun w' hw' => Yld.pure tab_ok rfl) ?_
        refine WJ.y rfl rfl (fun w' hw' => Yld.pure tab_ok rfl) ?_
        refine WJ.y rfl rfl (fun w' hw' => Yld.bload tab_ok (hw' rfl) rfl rfl rfl) ?_
        refine WJ.call rfl (wants_none) rfl rfl (W_smithyref_Placed H) (fun v w' h w2 e => DD.keep (Bl.g0 k4 (gr_eqv h.1 e))) ?_
        rintro _ w5 ⟨hg5, t34_Code, t34_Placed, t34_Pos, t34_Filed, t34_File, rfl, H⟩
        have gr5 := gr_trans gr4 hg5
        have k5 := k2.g0 hg5
        have k6 := k4.g0 hg5
        refine WJ.eff rfl (Ef0.storeW (vs := [.int .i64 t34_Code, .bool t34_Placed, .int .i64 t34_Pos, .bool t34_Filed, vs t34_File]) tab_ok rfl rfl rfl (all1c rfl (all1c rfl (all1c rfl (all1c rfl (all1c rfl all1n))))) k5 rfl rfl) (fun w' h => DD.past (by kernel_rfl)) ?_
        rintro w6 ⟨hB4, hg6⟩
        have gr6 := gr_mod gr5 hg6 (Ge.le (Ge.box hl1) (Nat.le_refl _))
        refine WJ.nil (WX.then_normal ?_)
        refine WC.ret ?_
        exact WX.retc tab_ok rfl rfl rfl hB4 rfl ⟨gr6, t34_Code, t34_Placed, t34_Pos, t34_Filed, t34_File, rfl, H⟩
    · clear H
      rcases Bool.eq_false_or_eq_true (false) with b3 | b3
      · refine WL.gno rfl rfl (okb b3) rfl ?_
        refine WL.gno rfl rfl (okb b3) rfl ?_
        refine WL.gno rfl rfl (okb b3) rfl ?_
        refine WL.gno rfl rfl (okb b3) rfl ?_
        refine WL.gno rfl rfl (okb b3) rfl ?_
        refine WL.y rfl (Yld.pickT (okb b3) rfl) ?_
        exact WL.weaken (by repeat (first | exact Sub.nil | refine Sub.cons rfl ?_)) (hQ _ _ ⟨true, rfl, by rw [b3] <;> rfl, rfl⟩)
      · refine WL.gyes rfl rfl (okb b3) rfl (Yld.pure tab_ok rfl) ?_
        refine WL.gyes rfl rfl (okb b3) rfl (Yld.pure tab_ok rfl) ?_
        refine WL.gyes rfl rfl (okb b3) rfl (Yld.pure tab_ok rfl) ?_
        refine WL.gyes rfl rfl (okb b3) rfl (Yld.bload tab_ok hB2 rfl rfl rfl) ?_
        refine WL.gyes rfl rfl (okb b3) rfl (Yld.erreql Tryd.underlying28 hE1 rfl) ?_
        refine WL.y rfl (Yld.pickF (okb b3) rfl) ?_
        exact WL.weaken (by repeat (first | exact Sub.nil | refine Sub.cons rfl ?_)) (hQ _ _ ⟨decide ((Er.e n) = Er.ok), rfl, by rw [b3] <;> rfl, rfl⟩)
  · replace H := H.2 he1
    refine WL.y rfl (Yld.assertNo Tryd.underlying130 (fun _ => by kernel_rfl) (he.grown gr1) rfl rfl (.inr he1)) ?_
    refine WL.y rfl (Yld.pure tab_ok rfl) ?_
    refine WL.y rfl (Yld.pure tab_ok rfl) ?_
    refine WL.y rfl (Yld.pure tab_ok rfl) ?_
    refine WL.y rfl (Yld.pure tab_ok rfl) ?_
    refine WL.y rfl (Yld.pure tab_ok rfl) ?_
    refine WL.nil (WX.then_normal ?_)
    refine WC.seq ?_
    refine WC.seq ?_
    refine WC.region ?_
    refine WL.y rfl (Yld.pure tab_ok rfl) ?_
    refine WL.y rfl (Yld.pure tab_ok rfl) ?_
    refine WL.nil (WX.then_normal ?_)
    refine WC.cond rfl (fun _ => ?_) (fun h => by cases h)
    refine WC.seq ?_
    refine WC.region ?_
    refine WL.y rfl (Yld.pure tab_ok rfl) ?_
    refine WL.call rfl rfl (W_smithysee_sentinel (hG.grown gr1) hS0 hS1 hS2 hS3 hS4 hS5 hS6 hS7 hS8 hS9 hS10 hS11 hS12 hS13 hS14 hS15 hS16 (he.grown gr1) H) ?_
    rintro _ w7 ⟨hg7, t13, rfl, H⟩
    have gr7 := gr_trans gr1 hg7
    have k8 := hB1.g0 hg7
    refine WL.call rfl rfl (W_smithyref_Bare H) ?_
    rintro _ w8 ⟨hg8, t14_Code, t14_Placed, t14_Pos, t14_Filed, t14_File, rfl, H⟩
    have gr8 := gr_trans gr7 hg8
    have k9 := k8.g0 hg8
    refine WL.storeW (vs := [.int .i64 t14_Code, .bool t14_Placed, .int .i64 t14_Pos, .bool t14_Filed, vs t14_File]) tab_ok rfl rfl rfl (all1c rfl (all1c rfl (all1c rfl (all1c rfl (all1c rfl all1n))))) k9 rfl rfl (fun w9 hB5 hg9 => ?_)
    have gr9 := gr_mod gr8 hg9 (Ge.le (Ge.box hl1) (Nat.le_refl _))
    refine WL.nil (WX.then_normal ?_)
    refine WC.ret (WX.then_ret ?_)
    exact WX.retc tab_ok rfl rfl rfl hB5 rfl ⟨gr9, t14_Code, t14_Placed, t14_Pos, t14_Filed, t14_File, rfl, H⟩

set_option maxHeartbeats 8000000 in
theorem W_smithysee_Fault {S : List Nat} {w : World} {v_e : Value} {e : Er} {K : Int → Bool → Int → Bool → (List UInt8) → Prop} (hG : GOK S w) (hS0 : 0 ∈ S) (hS1 : 1 ∈ S) (hS2 : 2 ∈ S) (hS3 : 3 ∈ S) (hS4 : 4 ∈ S) (hS5 : 5 ∈ S) (hS6 : 6 ∈ S) (hS7 : 7 ∈ S) (hS8 : 8 ∈ S) (hS9 : 9 ∈ S) (hS10 : 10 ∈ S) (hS11 : 11 ∈ S) (hS12 : 12 ∈ S) (hS13 : 13 ∈ S) (hS14 : 14 ∈ S) (hS15 : 15 ∈ S) (hS16 : 16 ∈ S) (he : ErrR S w v_e e) (H : M_smithysee_Fault e K) : Fn Tryd.prog 91 ⟨[v_e]⟩ w (fun v w' => w.grownBy w' none ∧ ∃ (r_Code : Int), ∃ (r_Placed : Bool), ∃ (r_Pos : Int), ∃ (r_Filed : Bool), ∃ (r_File : List UInt8), v = .agg ⟨[.int .i64 r_Code, .bool r_Placed, .int .i64 r_Pos, .bool r_Filed, vs r_File]⟩ ∧ K r_Code r_Placed r_Pos r_Filed r_File) := by
  unfold M_smithysee_Fault at H
  refine Fn.enter (by kernel_rfl) Tryd.func91 rfl Tryd.ntmps91 rfl ?_
  refine WC.seq ?_
  refine WC.region ?_
  refine WL.alloc rfl zero79 (fun g1 w1 hB1 hg1 hl1 => ?_)
  have gr1 := hg1
  refine WL.nil (WX.then_normal ?_)
  refine WC.seq ?_
  refine WC.seq ?_
  refine WC.region ?_
  refine WL.y rfl (Yld.pure tab_ok rfl) ?_
  refine WL.y rfl (Yld.erreql Tryd.underlying28 (he.grown gr1) rfl) ?_
  refine WL.nil (WX.then_normal ?_)
  refine WC.cond rfl (fun b1 => ?_) (fun b1 => ?_)
  · replace H := H.1 (of_decide_eq_true b1)
    refine WC.seq ?_
    refine WC.region ?_
    refine WL.call rfl rfl (W_smithyref_None H) ?_
    rintro _ w2 ⟨hg2, t8_Code, t8_Placed, t8_Pos, t8_Filed, t8_File, rfl, H⟩
    have gr2 := gr_trans gr1 hg2
    have k1 := hB1.g0 hg2
    refine WL.storeW (vs := [.int .i64 t8_Code, .bool t8_Placed, .int .i64 t8_Pos, .bool t8_Filed, vs t8_File]) tab_ok rfl rfl rfl (all1c rfl (all1c rfl (all1c rfl (all1c rfl (all1c rfl all1n))))) k1 rfl rfl (fun w3 hB2 hg3 => ?_)
    have gr3 := gr_mod gr2 hg3 (Ge.le (Ge.box hl1) (Nat.le_refl _))
    refine WL.nil (WX.then_normal ?_)
    refine WC.ret (WX.then_ret ?_)
    exact WX.retc tab_ok rfl rfl rfl hB2 rfl ⟨gr3, t8_Code, t8_Placed, t8_Pos, t8_Filed, t8_File, rfl, H⟩
  · replace H := H.2 (of_decide_eq_false b1)
    refine WC.skip (WX.then_normal ?_)
    refine WC.seq ?_
    refine WC.region ?_
    refine WL.y rfl (Yld.pure tab_ok rfl) ?_
    refine WL.y rfl (Yld.assertNo Tryd.underlying152 (fun _ => by kernel_rfl) (he.grown gr1) rfl rfl (.inl rfl)) ?_
    refine WL.y rfl (Yld.pure tab_ok rfl) ?_
    refine WL.y rfl (Yld.pure tab_ok rfl) ?_
    refine WL.y rfl (Yld.pure tab_ok rfl) ?_
    refine WL.y rfl (Yld.pure tab_ok rfl) ?_
    refine WL.y rfl (Yld.pure tab_ok rfl) ?_
    refine WL.nil (WX.then_normal ?_)
    refine WC.seq ?_
    refine WC.seq ?_
    refine WC.region ?_
    refine WL.y rfl (Yld.pure tab_ok rfl) ?_
    refine WL.y rfl (Yld.pure tab_ok rfl) ?_
    refine WL.nil (WX.then_normal ?_)
    refine WC.cond rfl (fun _ => ?_) (fun h => by cases h)
    refine WC.seq ?_
    refine WC.region ?_
    refine WL.y rfl (Yld.pure tab_ok rfl) ?_
    refine WL.call rfl rfl (W_smithysee_placed (hG.grown gr1) hS0 hS1 hS2 hS3 hS4 hS5 hS6 hS7 hS8 hS9 hS10 hS11 hS12 hS13 hS14 hS15 hS16 (he.grown gr1) H) ?_
    rintro _ w4 ⟨hg4, t17_Code, t17_Placed, t17_Pos, t17_Filed, t17_File, rfl, H⟩
    have gr4 := gr_trans gr1 hg4
    have k2 := hB1.g0 hg4
    refine WL.storeW (vs := [.int .i64 t17_Code, .bool t17_Placed, .int .i64 t17_Pos, .bool t17_Filed, vs t17_File]) tab_ok rfl rfl rfl (all1c rfl (all1c rfl (all1c rfl (all1c rfl (all1c rfl all1n))))) k2 rfl rfl (fun w5 hB3 hg5 => ?_)
    have gr5 := gr_mod gr4 hg5 (Ge.le (Ge.box hl1) (Nat.le_refl _))
    refine WL.nil (WX.then_normal ?_)
    refine WC.ret (WX.then_ret ?_)
    exact WX.retc tab_ok rfl rfl rfl hB3 rfl ⟨gr5, t17_Code, t17_Placed, t17_Pos, t17_Filed, t17_File, rfl, H⟩

set_option maxHeartbeats 8000000 in
theorem W_smithysee_Same {S : List Nat} {w : World} {v_e : Value} {e : Er} {f_Code : Int} {f_Placed : Bool} {f_Pos : Int} {f_Filed : Bool} {f_File : List UInt8} {K : Bool → Prop} (hG : GOK S w) (hS0 : 0 ∈ S) (hS1 : 1 ∈ S) (hS2 : 2 ∈ S) (hS3 : 3 ∈ S) (hS4 : 4 ∈ S) (hS5 : 5 ∈ S) (hS6 : 6 ∈ S) (hS7 : 7 ∈ S) (hS8 : 8 ∈ S) (hS9 : 9 ∈ S) (hS10 : 10 ∈ S) (hS11 : 11 ∈ S) (hS12 : 12 ∈ S) (hS13 : 13 ∈ S) (hS14 : 14 ∈ S) (hS15 : 15 ∈ S) (hS16 : 16 ∈ S) (he : ErrR S w v_e e) (H : M_smithysee_Same e f_Code f_Placed f_Pos f_Filed f_File K) : Fn Tryd.prog 52 ⟨[v_e, .agg ⟨[.int .i64 f_Code, .bool f_Placed, .int .i64 f_Pos, .bool f_Filed, vs f_File]⟩]⟩ w (fun v w' => w.grownBy w' none ∧ ∃ (r : Bool), v = .bool r ∧ K r) := by
  unfold M_smithysee_Same at H
  refine Fn.enter (by kernel_rfl) Tryd.func52 rfl Tryd.ntmps52 rfl ?_
  refine WC.seq ?_
  refine WC.region ?_
  refine WL.box (us := [.int .i64 f_Code, .bool f_Placed, .int .i64 f_Pos, .bool f_Filed, vs f_File]) rfl rfl rfl (fun g1 w1 hB1 hg1 hl1 => ?_)
  have gr1 := hg1
  refine WL.y rfl (Yld.pure tab_ok rfl) ?_
  refine WL.nil (WX.then_normal ?_)
  refine WC.seq ?_
  refine WC.chainF (fun k => !(Nat.beq k 1 || Nat.beq k 3)) (LD [2] (fun w' => Bl w' g1 79 [.int .i64 f_Code, .bool f_Placed, .int .i64 f_Pos, .bool f_Filed, vs f_File])) mixed (by kernel_rfl) (fun k w' h _ => (bl_eqv h hB1)) ?_
  refine WJ.y rfl rfl (fun w' hw' => Yld.pure tab_ok rfl) ?_
  refine WJ.call rfl (wants_none) rfl rfl (W_smithysee_Fault (hG.grown gr1) hS0 hS1 hS2 hS3 hS4 hS5 hS6 hS7 hS8 hS9 hS10 hS11 hS12 hS13 hS14 hS15 hS16 (he.grown gr1) H) (fun v w' h w2 e => DD.keep (Bl.g0 hB1 (gr_eqv h.1 e))) ?_
  rintro _ w2 ⟨hg2, t6_Code, t6_Placed, t6_Pos, t6_Filed, t6_File, rfl, H⟩
  have gr2 := gr_trans gr1 hg2
  have k1 := hB1.g0 hg2
  refine WJ.y rfl rfl (fun w' hw' => Yld.bagg (vs := [.int .i64 f_Code, .bool f_Placed, .int .i64 f_Pos, .bool f_Filed, vs f_File]) tab_ok (hw' rfl) rfl rfl rfl rfl) ?_
  refine WJ.call rfl (wants_none) rfl rfl (W_smithyref_SameFault H) (fun v w' h w2 e => DD.keep (Bl.g0 k1 (gr_eqv h.1 e))) ?_
  rintro _ w3 ⟨hg3, t4, rfl, H⟩
  have gr3 := gr_trans gr2 hg3
  have k2 := k1.g0 hg3
  refine WJ.y rfl rfl (fun w' hw' => Yld.pure tab_ok rfl) ?_
  refine WJ.nil (WX.then_normal ?_)
  refine WC.ret ?_
  exact WX.ret1 rfl rfl ⟨gr3, t4, rfl, H⟩

set_option maxHeartbeats 8000000 in
theorem W_smithysee_Is {S : List Nat} {w : World} {v_e : Value} {e : Er} {code : Int} {K : Bool → Prop} (hG : GOK S w) (hS0 : 0 ∈ S) (hS1 : 1 ∈ S) (hS2 : 2 ∈ S) (hS3 : 3 ∈ S) (hS4 : 4 ∈ S) (hS5 : 5 ∈ S) (hS6 : 6 ∈ S) (hS7 : 7 ∈ S) (hS8 : 8 ∈ S) (hS9 : 9 ∈ S) (hS10 : 10 ∈ S) (hS11 : 11 ∈ S) (hS12 : 12 ∈ S) (hS13 : 13 ∈ S) (hS14 : 14 ∈ S) (hS15 : 15 ∈ S) (hS16 : 16 ∈ S) (he : ErrR S w v_e e) (H : M_smithysee_Is e code K) : Fn Tryd.prog 18 ⟨[v_e, .int .i64 code]⟩ w (fun v w' => w.grownBy w' none ∧ ∃ (r : Bool), v = .bool r ∧ K r) := by
  unfold M_smithysee_Is at H
  refine Fn.enter (by kernel_rfl) Tryd.func18 rfl Tryd.ntmps18 rfl ?_
  refine WC.seq ?_
  refine WC.region ?_
  refine WL.y rfl (Yld.pure tab_ok rfl) ?_
  refine WL.nil (WX.then_normal ?_)
  refine WC.seq ?_
  refine WC.region ?_
  refine WL.y rfl (Yld.pure tab_ok rfl) ?_
  refine WL.y rfl (Yld.pure tab_ok rfl) ?_
  refine WL.call rfl rfl (W_smithyref_Bare H) ?_
  rintro _ w1 ⟨hg1, t7_Code, t7_Placed, t7_Pos, t7_Filed, t7_File, rfl, H⟩
  have gr1 := hg1
  refine WL.call rfl rfl (W_smithysee_Same (hG.grown gr1) hS0 hS1 hS2 hS3 hS4 hS5 hS6 hS7 hS8 hS9 hS10 hS11 hS12 hS13 hS14 hS15 hS16 (he.grown gr1) H) ?_
  rintro _ w2 ⟨hg2, t4, rfl, H⟩
  have gr2 := gr_trans gr1 hg2
  refine WL.y rfl (Yld.pure tab_ok rfl) ?_
  refine WL.nil (WX.then_normal ?_)
  refine WC.ret ?_
  exact WX.ret1 rfl rfl ⟨gr2, t4, rfl, H⟩

end Go.Proofs.YtilphcippnfklaaDoor
 /- Slices whose elements take k cells each: structs and arrays; their rules. -/
namespace Go.Proofs.YtilphcippnfklaaDoor
open Go Go.RowKit

/-- f's values take k cells. -/
structure OneK {α : Type} (k : Nat) (f : α → List Value) : Prop where
  pos : 0 < k
  len : ∀ x, (f x).length = k
  one : ∀ x, ∀ u ∈ f x, u.oneCell' = true
structure RdK {α : Type} (k : Nat) (f : α → List Value) (w : World) (A : Option Addr) (c : Nat) (xs : List α) : Prop where
  ok : OneK k f
  cap : xs.length ≤ c
  max : c ≤ maxLen
  cells : xs ≠ [] → ∃ g o, A = some ⟨g, o, none⟩ ∧ ∀ j x i u, xs[j]? = some x → (f x)[i]? = some u → w.cell? ⟨g, o + (j * k + i), none⟩ = some u
def OwnK {α : Type} (k : Nat) (f : α → List Value) (w : World) (B : Nat) (e : TypeId) (A : Option Addr) (c : Nat) (xs : List α) : Prop := OneK k f ∧ w.ownsRow B e k (.slice A xs.length c) xs.length (xs.flatMap f)

section
variable {α : Type} {k : Nat} {f : α → List Value}
theorem OneK.flen (h : OneK k f) : ∀ xs : List α, (xs.flatMap f).length = xs.length * k
  | [] => by simp
  | x :: xs => by simp [List.flatMap_cons, h.flen xs, h.len x, Nat.add_mul, Nat.add_comm]
theorem OneK.fget (h : OneK k f) : ∀ (xs : List α) (j : Nat) (x : α) (i : Nat), xs[j]? = some x → i < k → (xs.flatMap f)[j * k + i]? = (f x)[i]?
  | [], _, _, _, hx, _ => by simp at hx
  | y :: xs, 0, x, i, hx, hi => by
    simp only [List.getElem?_cons_zero, Option.some.injEq] at hx
    subst hx
    rw [List.flatMap_cons, Nat.zero_mul, Nat.zero_add, List.getElem?_append_left (by rw [h.len]; exact hi)]
  | y :: xs, j + 1, x, i, hx, hi => by
    have e : (j + 1) * k + i = (f y).length + (j * k + i) := by rw [h.len, Nat.add_mul]; omega
    rw [List.flatMap_cons, e, List.getElem?_append_right (by omega)]
    simp only [Nat.add_sub_cancel_left]
    exact h.fget xs j x i (by simpa using hx) hi
theorem OneK.fset (h : OneK k f) : ∀ (xs : List α) (j : Nat) (y : α), j < xs.length → (xs.set j y).flatMap f = (xs.flatMap f).take (j * k) ++ f y ++ (xs.flatMap f).drop (j * k + k)
  | [], _, _, hj => by simp at hj
  | x :: xs, 0, y, _ => by
    have e : List.drop (0 * k + k) (f x ++ xs.flatMap f) = xs.flatMap f := by rw [Nat.zero_mul, Nat.zero_add, List.drop_left' (h.len x)]
    rw [List.set_cons_zero, List.flatMap_cons, List.flatMap_cons, e]
    simp
  | x :: xs, j + 1, y, hj => by
    have e1 : (j + 1) * k = (f x).length + j * k := by rw [h.len, Nat.add_mul]; omega
    have e2 : (j + 1) * k + k = (f x).length + (j * k + k) := by rw [e1]; omega
    rw [List.set_cons_succ, List.flatMap_cons, List.flatMap_cons, h.fset xs j y (by simpa using hj), e2, e1, List.take_length_add_append, List.drop_length_add_append]
    simp
theorem OneK.fset1 (h : OneK k f) {xs : List α} {j : Nat} {x y : α} {i : Nat} {u : Value} (hx : xs[j]? = some x) (hi : i < k) (hy : f y = (f x).set i u) : (xs.set j y).flatMap f = (xs.flatMap f).set (j * k + i) u := by
  have hj : j < xs.length := by
    rcases Nat.lt_or_ge j xs.length with h1 | h1
    · exact h1
    · rw [List.getElem?_eq_none h1] at hx; cases hx
  have hl := h.flen xs
  have hjk : j * k + k ≤ xs.length * k := by rw [← Nat.succ_mul]; exact Nat.mul_le_mul_right k hj
  rw [h.fset xs j y hj, hy]
  have hmid : ((xs.flatMap f).drop (j * k)).take k = f x := by
    apply List.ext_getElem?
    intro p
    by_cases hp : p < k
    · rw [List.getElem?_take, if_pos hp, List.getElem?_drop, h.fget xs j x p hx hp]
    · rw [List.getElem?_eq_none (by simp; omega), List.getElem?_eq_none (by rw [h.len]; omega)]
  have hsplit : xs.flatMap f = (xs.flatMap f).take (j * k) ++ (f x ++ (xs.flatMap f).drop (j * k + k)) := by
    rw [← hmid, ← List.drop_drop, List.take_append_drop, List.take_append_drop]
  generalize hq : xs.flatMap f = q at *
  have ht : (q.take (j * k)).length = j * k := by simp; omega
  have e3 : q.set (j * k + i) u = (q.take (j * k) ++ (f x ++ q.drop (j * k + k))).set (j * k + i) u := by rw [← hsplit]
  rw [e3, List.set_append_right _ _ (by omega), ht, Nat.add_sub_cancel_left, List.set_append_left _ _ (by rw [h.len]; exact hi), List.append_assoc]
theorem OneK.mem (h : OneK k f) {xs : List α} : ∀ u ∈ xs.flatMap f, u.oneCell' = true := fun u hu => by
  obtain ⟨x, _, hx⟩ := List.mem_flatMap.1 hu
  exact h.one x u hx
end

section
variable {α : Type} {k : Nat} {f : α → List Value} {w w' : World} {A : Option Addr} {c B g : Nat} {xs : List α} {e : TypeId} {row : Option Nat}
theorem RdK.nil (h : OneK k f) (w : World) {A : Option Addr} {c : Nat} (hc : c ≤ maxLen) : RdK k f w A c [] := ⟨h, Nat.zero_le _, hc, fun h => absurd rfl h⟩
theorem RdK.lt (h : RdK k f w A c xs) (hx : xs ≠ []) {g : Nat} (hg : blk A = some g) : g < w.heap.size := by
  obtain ⟨g', o, rfl, hc⟩ := h.cells hx
  obtain ⟨x, l, rfl⟩ := List.exists_cons_of_ne_nil hx
  have h0 : 0 < (f x).length := by rw [h.ok.len]; exact h.ok.pos
  have := World.block_lt_of_cell? w _ (hc 0 x 0 _ rfl (List.getElem?_eq_getElem h0))
  simp only [blk, Option.map_some, Option.some.injEq] at hg
  subst hg
  exact this
theorem RdK.keep (h : RdK k f w A c xs) (hg : w.grownBy w' row) (hne : xs ≠ [] → ∀ g, row = some g → blk A ≠ some g) : RdK k f w' A c xs :=
  ⟨h.ok, h.cap, h.max, fun hx => by
    obtain ⟨g', o, rfl, hc⟩ := h.cells hx
    refine ⟨g', o, rfl, fun j x i u hj hi => hg.cell (hc j x i u hj hi) (fun e => ?_)⟩
    exact hne hx _ e.symm (by simp [blk])⟩
theorem RdK.grown (h : RdK k f w A c xs) (hg : w.grownBy w' none) : RdK k f w' A c xs := h.keep hg (by simp)
theorem RdK.go (h : RdK k f w A c xs) (hg : w.grownBy w' row) (hd : Dn xs (blk A) row) : RdK k f w' A c xs := h.keep hg fun hx g e k => hd hx g k e
theorem RdK.lt' (h : RdK k f w A c xs) (hx : xs ≠ []) : Lt (blk A) w.heap.size := fun _ hg => h.lt hx hg
theorem RdK.eqv (hw : Eqv w w') (h : RdK k f w A c xs) : RdK k f w' A c xs := h.grown (gr_eqv (gr_refl w none) hw)
theorem RdK.cut (h : RdK k f w A c xs) {l m : Nat} (hl : l ≤ m) (hm : m ≤ xs.length) : RdK k f w (if c = l then A else A.map (·.add (l * k))) (c - l) ((xs.drop l).take (m - l)) := by
  have hlen : ((xs.drop l).take (m - l)).length = m - l := by simp; omega
  refine ⟨h.ok, by have := h.cap; omega, by have := h.max; omega, fun hx => ?_⟩
  have hx' : 0 < m - l := by
    rw [← hlen]
    exact List.length_pos_iff.2 hx
  obtain ⟨g', o, rfl, hc⟩ := h.cells (fun e => by rw [e] at hm; simp at hm; omega)
  rw [if_neg (by have := h.cap; omega)]
  refine ⟨g', o + l * k, by simp [Addr.add_mid], fun j x i u hj hi => ?_⟩
  have := hc (l + j) x i u (by
    rw [List.getElem?_take] at hj
    split at hj
    · rw [List.getElem?_drop] at hj; exact hj
    · cases hj) hi
  rw [show o + l * k + (j * k + i) = o + ((l + j) * k + i) by rw [Nat.add_mul]; omega]
  exact this
theorem blk_cutK {l m : Nat} : ∀ g, blk (if c = l then A else A.map (·.add m)) = some g → blk A = some g := fun g hg => by
  split at hg
  · exact hg
  · cases A with
    | none => simp [blk] at hg
    | some a => simpa [blk, addr_block] using hg
theorem OwnK.nil (h : OneK k f) (w : World) (B : Nat) (e : TypeId) : OwnK k f w B e none 0 [] := ⟨h, World.ownsRow_nil w B e k⟩
theorem OwnK.rd (h : OwnK k f w B e A c xs) : RdK k f w A c xs := by
  have h2 := h.2
  rcases h2.2 with ⟨hv, hn⟩ | ⟨g, cap, cur, hv, hb, hg, hnc, hcm, hcs, htake⟩
  · simp only [Value.slice.injEq] at hv
    obtain ⟨rfl, _, rfl⟩ := hv
    have : xs = [] := List.eq_nil_of_length_eq_zero hn
    subst this
    exact RdK.nil h.1 w (Nat.zero_le _)
  · simp only [Value.slice.injEq] at hv
    obtain ⟨rfl, _, rfl⟩ := hv
    refine ⟨h.1, hnc, hcm, fun _ => ⟨g, 0, rfl, fun j x i u hj hi => ?_⟩⟩
    have hik : i < k := by
      rcases Nat.lt_or_ge i k with h1 | h1
      · exact h1
      · rw [List.getElem?_eq_none (by rw [h.1.len]; exact h1)] at hi; cases hi
    have := h2.cells (g := g) rfl (j * k + i) u (by rw [h.1.fget xs j x i hj hik]; exact hi)
    rwa [Addr.add_mid] at this
theorem OwnK.keep (h : OwnK k f w B e A c xs) (hg : w.grownBy w' row) (hne : ∀ g, row = some g → blk A ≠ some g) : OwnK k f w' B e A c xs := by
  refine ⟨h.1, World.ownsRow.kept h.2 hg ?_⟩
  cases A with
  | none => exact .inl rfl
  | some a =>
    refine .inr ?_
    simp only [Value.ownBlock]
    intro e
    exact hne _ e.symm (by simp [blk])
theorem OwnK.grown (h : OwnK k f w B e A c xs) (hg : w.grownBy w' none) : OwnK k f w' B e A c xs := h.keep hg (by simp)
theorem OwnK.go (h : OwnK k f w B e A c xs) (hg : w.grownBy w' row) (hd : Dj (blk A) row) : OwnK k f w' B e A c xs := h.keep hg fun g e k => hd g k e
theorem OwnK.lt (h : OwnK k f w B e A c xs) {g : Nat} (hg : blk A = some g) : B ≤ g ∧ g < w.heap.size := by
  refine World.ownsRow.lt h.2 g ?_
  cases A with
  | none => simp [blk] at hg
  | some a => simpa [blk, Value.ownBlock] using hg
theorem OwnK.lt' (h : OwnK k f w B e A c xs) : Lt (blk A) w.heap.size := fun _ hg => (h.lt hg).2
theorem OwnK.ge' (h : OwnK k f w B e A c xs) : Ge (blk A) B := fun _ hg => (h.lt hg).1
theorem OwnK.eqv (hw : Eqv w w') (h : OwnK k f w B e A c xs) : OwnK k f w' B e A c xs := h.grown (gr_eqv (gr_refl w none) hw)
theorem OwnK.base {B' : Nat} (h : OwnK k f w B e A c xs) (hB : ∀ g, blk A = some g → B' ≤ g) : OwnK k f w B' e A c xs := by
  refine ⟨h.1, h.2.1, ?_⟩
  rcases h.2.2 with hn | ⟨g, cap, cur, hv, hb, rest⟩
  · exact .inl hn
  · refine .inr ⟨g, cap, cur, hv, ?_, rest⟩
    simp only [Value.slice.injEq] at hv
    exact hB g (by rw [hv.1]; rfl)
theorem OwnK.ofBl {m : Nat} (ho : OneK k f) (h : Bl w g e (xs.flatMap f)) (hB : B ≤ g) (hm : xs.length ≤ maxLen) (hn : m = xs.length) : OwnK k f w B e (some ⟨g, 0, none⟩) m xs := by
  subst hn
  refine ⟨ho, ho.flen xs, .inr ⟨g, _, _, rfl, hB, h, Nat.le_refl _, hm, by simpa using ho.flen xs, ?_⟩⟩
  rw [← ho.flen xs]
  exact List.take_length
theorem OwnK.take (h : OwnK k f w B e A c xs) (m : Nat) (hm : m ≤ xs.length) : OwnK k f w B e A c (xs.take m) := by
  rcases h.2.2 with ⟨hv, hn⟩ | ⟨g, cap, cur, hv, hb, hg, hnc, hcm, hcs, htake⟩
  · simp only [Value.slice.injEq] at hv
    obtain ⟨rfl, _, rfl⟩ := hv
    have : xs = [] := List.eq_nil_of_length_eq_zero hn
    subst this
    simpa using OwnK.nil h.1 w B e
  · simp only [Value.slice.injEq] at hv
    obtain ⟨rfl, _, rfl⟩ := hv
    have hl : (xs.take m).length = m := by simp; omega
    refine ⟨h.1, h.1.flen _, .inr ⟨g, c, cur, rfl, hb, hg, by omega, hcm, hcs, ?_⟩⟩
    rw [hl]
    have e1 : (xs.take m).flatMap f = (xs.flatMap f).take (m * k) := by
      have h2 := h.1.flen (xs.take m)
      rw [hl] at h2
      have h3 : xs.flatMap f = (xs.take m).flatMap f ++ (xs.drop m).flatMap f := by rw [← List.flatMap_append, List.take_append_drop]
      rw [h3, List.take_left' h2]
    rw [e1, ← htake, List.take_take, Nat.min_eq_left (Nat.mul_le_mul_right k hm)]
end

/-- elements' types of slices: size, bytes -/
def ckOwK (P : Program) (t e k b : Nat) : Bool := match P.underlying t with
  | some (.slice e') => Nat.beq e' e && (match P.info? e with
    | some i => Nat.beq i.size k && Nat.beq i.bytes b && (match i.zero with | some z => Nat.beq z.cells.size k | none => false)
    | _ => false)
  | _ => false
theorem ckOwK_spec {P : Program} {t e k b : Nat} (h : ckOwK P t e k b = true) : P.underlying t = some (.slice e) ∧ ∃ i z, P.info? e = some i ∧ i.zero = some z ∧ i.size = k ∧ i.bytes = b ∧ z.cells.size = k := by
  unfold ckOwK at h
  split at h
  · rename_i e' he
    simp only [Bool.and_eq_true] at h
    have h1 := Nat.eq_of_beq_eq_true h.1
    subst h1
    refine ⟨he, ?_⟩
    have h2 := h.2
    split at h2
    · rename_i i hi
      simp only [Bool.and_eq_true] at h2
      obtain ⟨⟨h3, h4⟩, h5⟩ := h2
      split at h5
      · rename_i z hz
        exact ⟨i, z, hi, hz, Nat.eq_of_beq_eq_true h3, Nat.eq_of_beq_eq_true h4, Nat.eq_of_beq_eq_true h5⟩
      · cases h5
    · cases h2
  · cases h

theorem splice_take {c v : List Value} {a k m : Nat} (hv : v.length = k) (h : a + k ≤ m) (hm : m ≤ c.length) : (c.take a ++ v ++ c.drop (a + k)).take m = (c.take m).take a ++ v ++ (c.take m).drop (a + k) := by
  have hl : (c.take a ++ v).length = a + k := by simp; omega
  rw [List.take_append, List.take_of_length_le (by omega), hl, List.take_take, Nat.min_eq_left (by omega), List.drop_take]
section rules
variable {P : Program} {T : Tab} {N : Nat} {ops : Array Oper} {Q : Post} {L : Slots} {w w0 : World} {rest : List Oper} {d : Nat} {dd : Option Tmp} {ty : TypeId} {pos : String} {af : Array Edge} {t t' : TypeId} {x y i : Operand} {kk kk' : IntKind} {q : Int}
variable {α : Type} {k : Nat} {f : α → List Value} {A : Option Addr} {c n B : Nat} {xs ys : List α} {e : TypeId} {us : List Value}
theorem Yld.iaddrK {e : TypeId} (hT : T.Ok P) (hR : RdK k f w0 A c xs) (hs : nk T.sl t = some (e, k)) (hx : opv L x = some (.slice A n c)) (hn : n = xs.length) (hi : opv L i = some (.int kk q)) (h0 : 0 ≤ q) (h1 : q < n) :
    Yld P N w ⟨dd, .indexAddr t x i, ty, pos, af, none⟩ L (.pointer (A.map (·.add (q.toNat * k)))) := fun a w1 _ ha => by
  obtain ⟨hu, j, hj, hj1⟩ := hT.sl hs
  obtain ⟨g, o, rfl, _⟩ := hR.cells (fun e => by rw [e] at hn; simp at hn; omega)
  unfold execOp
  simp [ha.ev hx, ha.ev hi, Instr.indexAt, run_underlying hu, asIntOf, h0, h1, sizeOf, typeInfo, hj, hj1]
theorem Yld.faddrK {m fi o j : Nat} {s : TypeId} {os : List Nat} (hT : T.Ok P) (hR : RdK k f w0 A c xs) (hj : j < xs.length) (hos : nk T.off s = some os) (ho : os[fi]? = some o) (hx : opv L x = some (.pointer (A.map (·.add m)))) :
    Yld P N w ⟨dd, .fieldAddr s x fi, ty, pos, af, none⟩ L (.pointer (A.map (·.add (m + o)))) := fun a w1 _ ha => by
  obtain ⟨g, p, rfl, _⟩ := hR.cells (fun e => by rw [e] at hj; simp at hj)
  obtain ⟨fs, hfs, hall⟩ := hT.off hos
  obtain ⟨fd, hfd, rfl, i, hi, hi0⟩ := hall _ _ ho
  unfold execOp
  simp [ha.ev hx, Instr.fieldAt, run_underlying hfs, hfd, Instr.sureAddr, fieldPlace, sizeOf, typeInfo, hi, hi0, Addr.add_mid, Nat.add_assoc]
theorem Yld.nilK {m j : Nat} (hR : RdK k f w0 A c xs) (hj : j < xs.length) (hx : opv L x = some (.pointer (A.map (·.add m)))) :
    Yld P N w ⟨dd, .nilCheck x, ty, pos, af, none⟩ L (.pointer (A.map (·.add m))) := fun a w1 _ ha => by
  obtain ⟨g, p, rfl, _⟩ := hR.cells (fun e => by rw [e] at hj; simp at hj)
  unfold execOp
  simp [ha.ev hx]
theorem RdK.cellsAt (hR : RdK k f w A c xs) (dv : α) {j : Nat} (hj : j < xs.length) : ∃ g o, A = some ⟨g, o, none⟩ ∧ ∀ i u, (f (xs.getD j dv))[i]? = some u → w.cell? ⟨g, o + (j * k + i), none⟩ = some u := by
  obtain ⟨g, o, hA, hc⟩ := hR.cells (fun e => by rw [e] at hj; simp at hj)
  exact ⟨g, o, hA, fun i u hi => hc j _ i u (by simp [List.getD, hj]) hi⟩
theorem Yld.iloadK (dv : α) {j : Nat} (hT : T.Ok P) (hR : RdK k f w A c xs) (hs : nk T.agg t = some k) (hx : opv L x = some (.pointer (A.map (·.add (j * k))))) (hj : j < xs.length) :
    Yld P N w ⟨dd, .load t x, ty, pos, af, none⟩ L (.agg ⟨f (xs.getD j dv)⟩) := fun a w1 hw ha => by
  obtain ⟨⟨de, hu, hr⟩, i, hi, hi1⟩ := hT.agg hs
  obtain ⟨g, o, rfl, hc⟩ := hR.cellsAt dv hj
  have hrow : de.isRow = true := by cases de <;> simp_all [isRow]
  have := run_loadVar_mid (P := P) w1 g (o + j * k) t (f (xs.getD j dv)) de (fun p v hv' => by
    rw [hw.cell, Nat.add_assoc]
    exact hc p v hv') hu hrow (by simp [hi, hi1, hR.ok.len])
  unfold execOp
  simp only [ha.ev hx, Option.map_some, Addr.add_mid, Instr.loadAt, Instr.sureAddr, Sem.run_bind, Sem.run_pure, Result.andThen_ok, this]
/-- a field that is itself a struct or an array -/
theorem Yld.iloadP (dv : α) {j o m : Nat} {vs : List Value} (hT : T.Ok P) (hR : RdK k f w A c xs) (hs : nk T.agg t = some m) (hx : opv L x = some (.pointer (A.map (·.add (j * k + o))))) (hj : j < xs.length) (hv : ((f (xs.getD j dv)).drop o).take m = vs) (hl : vs.length = m) :
    Yld P N w ⟨dd, .load t x, ty, pos, af, none⟩ L (.agg ⟨vs⟩) := fun a w1 hw ha => by
  obtain ⟨⟨de, hu, hr⟩, i, hi, hi1⟩ := hT.agg hs
  obtain ⟨g, p, rfl, hc⟩ := hR.cellsAt dv hj
  have hrow : de.isRow = true := by cases de <;> simp_all [isRow]
  have := run_loadVar_mid (P := P) w1 g (p + (j * k + o)) t vs de (fun r v hv' => by
    rw [hw.cell, Nat.add_assoc, Nat.add_assoc]
    refine hc (o + r) v ?_
    rw [← hv, List.getElem?_take] at hv'
    split at hv'
    · rw [List.getElem?_drop] at hv'; exact hv'
    · cases hv') hu hrow (by simp [hi, hi1, hl])
  unfold execOp
  simp only [ha.ev hx, Option.map_some, Addr.add_mid, Instr.loadAt, Instr.sureAddr, Sem.run_bind, Sem.run_pure, Result.andThen_ok, this]
theorem Yld.iloadF (dv : α) {j o : Nat} {u : Unit} {v : Value} (hT : T.Ok P) (hR : RdK k f w A c xs) (hs : nk T.one t = some u) (hx : opv L x = some (.pointer (A.map (·.add (j * k + o))))) (hj : j < xs.length) (hv : (f (xs.getD j dv))[o]? = some v) :
    Yld P N w ⟨dd, .load t x, ty, pos, af, none⟩ L v := by
  obtain ⟨g, p, rfl, hc⟩ := hR.cellsAt dv hj
  exact Yld.cell hT (hc o v hv) hs (by rw [hx, Option.map_some, Addr.add_mid])
/-- a piece of a slice -/
theorem Yld.cutK {e : TypeId} {lo hi : Option Operand} {l h : Int} (hT : T.Ok P) (hR : RdK k f w A c xs) (hs : nk T.sl t = some (e, k)) (hx : opv L x = some (.slice A n c)) (hn : n = xs.length)
    (hl : optv L lo 0 = some l) (hh : optv L hi n = some h) (h0 : 0 ≤ l) (h1 : l ≤ h) (h2 : h ≤ n) :
    Yld P N w ⟨dd, .slice t x lo hi none, ty, pos, af, none⟩ L (.slice (if c = l.toNat then A else A.map (·.add (l.toNat * k))) ((xs.drop l.toNat).take (h.toNat - l.toNat)).length (c - l.toNat)) := fun a w1 _ ha => by
  obtain ⟨hu, j, hj, hj1⟩ := hT.sl hs
  have hb := run_bounds (P := P) (len := n) (cap := c) (isS := true) ha hl hh h0 h1 (by have := hR.cap; omega) w1
  have hlen : ((xs.drop l.toNat).take (h.toNat - l.toNat)).length = h.toNat - l.toNat := by simp; omega
  rw [hlen]
  unfold execOp
  simp [ha.ev hx, Instr.sliceAt, run_underlying hu, Instr.slice, hb, sizeOf, typeInfo, hj, hj1]
theorem WL.cutK {e : TypeId} {lo hi : Option Operand} {l h : Int} (hT : T.Ok P) (hR : RdK k f w A c xs) (hd : Nat.blt d N = true) (hs : nk T.sl t = some (e, k)) (hx : opv L x = some (.slice A n c)) (hn : n = xs.length)
    (hl : optv L lo 0 = some l) (hh : optv L hi n = some h) (h0 : 0 ≤ l) (h1 : l ≤ h) (h2 : h ≤ n)
    (hk : ∀ A' c', RdK k f w A' c' ((xs.drop l.toNat).take (h.toNat - l.toNat)) → (∀ g, blk A' = some g → blk A = some g) → WL P N ops Q rest ((d, .slice A' ((xs.drop l.toNat).take (h.toNat - l.toNat)).length c') :: L) w) :
    WL P N ops Q (⟨some d, .slice t x lo hi none, ty, pos, af, none⟩ :: rest) L w :=
  WL.y hd (Yld.cutK hT hR hs hx hn hl hh h0 h1 h2) (hk _ _ (hR.cut (by omega) (by omega)) blk_cutK)
theorem WL.cutFK {e : TypeId} {lo : Operand} {l : Int} (hT : T.Ok P) (hR : RdK k f w A c xs) (hd : Nat.blt d N = true) (hs : nk T.sl t = some (e, k)) (hx : opv L x = some (.slice A n c)) (hn : n = xs.length) (hl : optv L (some lo) 0 = some l) (h0 : 0 ≤ l) (h1 : l ≤ (n : Int))
    (hk : ∀ A' c', RdK k f w A' c' (xs.drop l.toNat) → (∀ g, blk A' = some g → blk A = some g) → WL P N ops Q rest ((d, .slice A' (xs.drop l.toNat).length c') :: L) w) : WL P N ops Q (⟨some d, .slice t x (some lo) none none, ty, pos, af, none⟩ :: rest) L w := by
  refine WL.cutK (h := (n : Int)) hT hR hd hs hx hn hl rfl h0 h1 (Int.le_refl _) (fun A' c' => ?_)
  have e : (xs.drop l.toNat).take ((n : Int).toNat - l.toNat) = xs.drop l.toNat := List.take_of_length_le (by simp; omega)
  rw [e]
  exact hk A' c'
/-- x[:h], x of the call's own -/
theorem WL.ocutK {lo hi : Option Operand} {h : Int} (hT : T.Ok P) (hd : Nat.blt d N = true) (hs : nk T.sl t = some (e, k)) {e' : TypeId} (hO : OwnK k f w B e' A c xs) (hx : opv L x = some (.slice A n c)) (hn : n = xs.length)
    (hl : optv L lo 0 = some 0) (hh : optv L hi n = some h) (h1 : 0 ≤ h) (h2 : h ≤ n)
    (hk : OwnK k f w B e' A c (xs.take h.toNat) → WL P N ops Q rest ((d, .slice A (xs.take h.toNat).length c) :: L) w) :
    WL P N ops Q (⟨some d, .slice t x lo hi none, ty, pos, af, none⟩ :: rest) L w := by
  have hy := Yld.cutK (P := P) (N := N) (ty := ty) (pos := pos) (af := af) (dd := some d) hT hO.rd hs hx hn hl hh (by omega) h1 h2
  have e1 : (Value.slice (if c = (0 : Int).toNat then A else A.map (·.add ((0 : Int).toNat * k))) ((xs.drop (0 : Int).toNat).take (h.toNat - (0 : Int).toNat)).length (c - (0 : Int).toNat)) = .slice A (xs.take h.toNat).length c := by
    have : A.map (·.add 0) = A := by
      cases A with
      | none => rfl
      | some a => simp [Addr.add]
    simp [this]
  rw [e1] at hy
  exact WL.y hd hy (hk (hO.take h.toNat (by omega)))
/-- x[i].f = v in a slice of the call's own -/
theorem Ef0.ostoreF {j o : Nat} {u : Value} {v : α} (dv : α) (h1 : sz1 P t = true) (hu : u.oneCell' = true) (hO : OwnK k f w B e A c xs) (hx : opv L x = some (.pointer (A.map (·.add (j * k + o))))) (hy : opv L y = some u) (hj : j < xs.length) (ho : Nat.blt o k = true) (hv : f v = (f (xs.getD j dv)).set o u) :
    Ef0 P N w ⟨none, .store t x y, ty, pos, af, none⟩ L fun w' => OwnK k f w' B e A c (xs.set j v) ∧ w.grownBy w' (blk A) := by
  have ho : o < k := by simpa [Nat.blt_eq] using ho
  rcases hO.2.2 with ⟨hv, hn⟩ | ⟨g, cap, cur, hs, hb, hg, hnc, hcm, hcs, htake⟩
  · omega
  · simp only [Value.slice.injEq] at hs
    obtain ⟨rfl, _, rfl⟩ := hs
    have hcl : cur.toList.length = c * k := by simpa using hcs
    have hjk : j * k + k ≤ c * k := by rw [← Nat.succ_mul]; exact Nat.mul_le_mul_right k (by omega)
    have hxj : xs[j]? = some (xs.getD j dv) := by simp [List.getD, hj]
    have h := Ef0.store1 (P := P) (N := N) (L := L) (w := w) (ty := ty) (pos := pos) (af := af) (g := g) (o := j * k + o) (e := e) (us := cur.toList) h1 (by rw [hx, Option.map_some, Addr.add_mid, Nat.zero_add]) hy hu (by unfold Bl; exact hg) (by omega)
    intro a w1 hw ha
    obtain ⟨w', hr, hB', hgr⟩ := h a w1 hw ha
    refine ⟨w', hr, ⟨hO.1, hO.1.flen _, .inr ⟨g, c, _, by simp, hb, hB', by simpa using hnc, hcm, by simpa using hcs, ?_⟩⟩, hgr⟩
    rw [hO.1.fset1 hxj ho hv, List.length_set, List.take_set, ← htake]
theorem WL.ostoreF {j o : Nat} {u : Value} {v : α} (dv : α) (h1 : sz1 P t = true) (hu : u.oneCell' = true) (hO : OwnK k f w B e A c xs) (hx : opv L x = some (.pointer (A.map (·.add (j * k + o))))) (hy : opv L y = some u) (hj : j < xs.length) (ho : Nat.blt o k = true) (hv : f v = (f (xs.getD j dv)).set o u)
    (hk : ∀ w', OwnK k f w' B e A c (xs.set j v) → w.grownBy w' (blk A) → WL P N ops Q rest L w') : WL P N ops Q (⟨none, .store t x y, ty, pos, af, none⟩ :: rest) L w :=
  WL.eff (Ef0.ostoreF dv h1 hu hO hx hy hj ho hv) (fun w' ⟨h1, h2⟩ => hk w' h1 h2)
/-- x[i] = v in a slice of the call's own -/
theorem Ef0.ostoreK {j : Nat} {v : α} (hT : T.Ok P) (h1 : nk T.agg t = some k) (hO : OwnK k f w B e A c xs) (hx : opv L x = some (.pointer (A.map (·.add (j * k))))) (hy : opv L y = some (.agg ⟨f v⟩)) (hj : j < xs.length) :
    Ef0 P N w ⟨none, .store t x y, ty, pos, af, none⟩ L fun w' => OwnK k f w' B e A c (xs.set j v) ∧ w.grownBy w' (blk A) := by
  rcases hO.2.2 with ⟨hv, hn⟩ | ⟨g, cap, cur, hs, hb, hg, hnc, hcm, hcs, htake⟩
  · omega
  · simp only [Value.slice.injEq] at hs
    obtain ⟨rfl, _, rfl⟩ := hs
    have hcl : cur.toList.length = c * k := by simpa using hcs
    have hjk : j * k + k ≤ xs.length * k := by rw [← Nat.succ_mul]; exact Nat.mul_le_mul_right k (by omega)
    have hck : xs.length * k ≤ c * k := Nat.mul_le_mul_right k hnc
    have hfl := hO.1.flen xs
    intro a w1 hw ha
    obtain ⟨_, i, hi, hi1⟩ := hT.agg h1
    have hg1 : w1.heap[g]? = some (.cells cur e (0, 0)) := by rw [hw.heap]; exact hg
    have hst := run_storeCells_at P g (j * k) e (f v) 0 cur w1 hg1 (by rw [hO.1.len]; omega) (hO.1.one v)
    refine ⟨w1.setRow g (List.take (j * k + 0) cur.toList ++ f v ++ List.drop (j * k + 0 + (f v).length) cur.toList).toArray, ?_, ⟨hO.1, hO.1.flen _, .inr ⟨g, c, _, by simp, hb, setRow_heap w1 g cur _ e _ hg1, by simpa using hnc, hcm, ?_, ?_⟩⟩, eqv_gr hw ⟨rfl, rfl, rfl, by simp, fun p _ hp => setRow_other w1 g p _ (fun e => hp (by simp [blk, e]))⟩⟩
    · unfold execOp
      have hcell : (Value.agg ⟨f v⟩).cells = ⟨f v⟩ := rfl
      have hsz : (⟨f v⟩ : Array Value).size = k := hO.1.len v
      simp only [ha.ev hx, ha.ev hy, Option.map_some, Addr.add_mid, Nat.zero_add, Sem.run_bind, Instr.storeAt, Instr.sureAddr, Sem.run_pure, Result.andThen_ok, storeVar, hcell, sizeOf, typeInfo, program, Sem.run, hi, hi1]
      simp only [hsz, ne_eq, not_true_eq_false, if_false]
      rw [hst]
      rfl
    · simp only [List.size_toArray, List.length_append, List.length_take, List.length_drop, hO.1.len, hcl]
      omega
    · rw [hO.1.fset xs j v hj, List.length_set, ← htake]
      simp only [Nat.add_zero, hO.1.len]
      exact splice_take (hO.1.len v) (by omega) (by omega)
theorem WL.ostoreK {j : Nat} {v : α} (hT : T.Ok P) (h1 : nk T.agg t = some k) (hO : OwnK k f w B e A c xs) (hx : opv L x = some (.pointer (A.map (·.add (j * k))))) (hy : opv L y = some (.agg ⟨f v⟩)) (hj : j < xs.length)
    (hk : ∀ w', OwnK k f w' B e A c (xs.set j v) → w.grownBy w' (blk A) → WL P N ops Q rest L w') : WL P N ops Q (⟨none, .store t x y, ty, pos, af, none⟩ :: rest) L w :=
  WL.eff (Ef0.ostoreK hT h1 hO hx hy hj) (fun w' ⟨h1, h2⟩ => hk w' h1 h2)
end rules
end Go.Proofs.YtilphcippnfklaaDoor
 /- Slices whose elements take k cells each: append, literals, make. -/
namespace Go.Proofs.YtilphcippnfklaaDoor
open Go Go.RowKit
section
variable {α : Type} {k : Nat} {f : α → List Value}
theorem OneK.fidx (h : OneK k f) : ∀ (xs : List α) (p : Nat) (u : Value), (xs.flatMap f)[p]? = some u → ∃ j x i, p = j * k + i ∧ xs[j]? = some x ∧ (f x)[i]? = some u
  | [], p, u, hu => by simp at hu
  | x :: xs, p, u, hu => by
    rw [List.flatMap_cons] at hu
    by_cases hp : p < k
    · rw [List.getElem?_append_left (by rw [h.len]; exact hp)] at hu
      exact ⟨0, x, p, by omega, rfl, hu⟩
    · rw [List.getElem?_append_right (by rw [h.len]; omega), h.len] at hu
      obtain ⟨j, y, i, h1, h2, h3⟩ := h.fidx xs _ u hu
      exact ⟨j + 1, y, i, by rw [Nat.add_mul]; omega, by simpa using h2, h3⟩
/-- the parts' cells of a literal -/
def partsA (L : Slots) : Nat → List (Nat × Operand) → Option (List (List Value))
  | _, [] => some []
  | j, (i, x) :: r => bif Nat.beq i j then (match opv L x, partsA L (j + 1) r with
    | some (.agg ⟨vs⟩), some us => some (vs :: us)
    | _, _ => none) else none
theorem fill_partsA {N : Nat} {L : Slots} {a : Act} (ha : Has N L a) (k : Nat) : ∀ (ps : List (Nat × Operand)) (j : Nat) (vs : List (List Value)) (done : List Value) (cells : Array Value), partsA L j ps = some vs → (∀ u ∈ vs, u.length = k) → done.length = j * k → cells.toList.take (j * k) = done → cells.size = (j + vs.length) * k →
    Instr.fill (fun i => some (i * k, k)) cells (ps.map fun p => (p.1, a.eval p.2)) = some ⟨done ++ vs.flatten⟩
  | [], j, vs, done, cells, hp, _, hdl, ht, hs => by
    simp only [partsA, Option.some.injEq] at hp
    subst hp
    simp only [List.map_nil, Instr.fill, List.flatten_nil, List.append_nil]
    congr 1
    apply Array.ext'
    rw [← ht, List.take_of_length_le (by simp at hs ⊢; omega)]
  | (i, x) :: ps, j, vs, done, cells, hp, h1, hdl, ht, hs => by
    simp only [partsA] at hp
    cases hij : Nat.beq i j with
    | false => simp [hij] at hp
    | true =>
      have := Nat.eq_of_beq_eq_true hij
      subst this
      simp only [hij, cond_true] at hp
      split at hp
      · rename_i v us hv hus
        simp only [Option.some.injEq] at hp
        subst hp
        have hvk : v.length = k := h1 v (by simp)
        have hcs : (Value.agg ⟨v⟩).cells = ⟨v⟩ := rfl
        simp only [List.length_cons] at hs
        have hs2 : cells.size = i * k + k + us.length * k := by rw [hs, Nat.add_mul, Nat.add_mul]; omega
        simp only [List.map_cons, Instr.fill, ha.ev hv, hcs]
        have h5 : ((⟨v⟩ : Array Value).zipIdx.foldl (fun cs (x : Value × Nat) => match x with | (c, j) => cs.setIfInBounds (i * k + j) c) cells).toList = splice cells.toList (i * k) v := by
          have h3 := foldl_splice v 0 cells (i * k) (by omega)
          rw [Nat.add_zero] at h3
          have h4 : ((⟨v⟩ : Array Value).zipIdx.foldl (fun (cs : Array Value) (x : Value × Nat) => cs.setIfInBounds (i * k + x.2) x.1) cells).toList = splice cells.toList (i * k) v := by
            rw [← h3, ← Array.foldl_toList]
            simp
          exact h4
        generalize hq : (⟨v⟩ : Array Value).zipIdx.foldl (fun cs (x : Value × Nat) => match x with | (c, j) => cs.setIfInBounds (i * k + j) c) cells = q at h5
        rw [if_neg (by simp [hvk]; omega)]
        have hql : q.size = cells.size := by
          have := congrArg List.length h5
          rw [splice_length _ _ _ (by simp; omega)] at this
          simpa using this
        have := fill_partsA ha k ps (i + 1) us (done ++ v) q hus (fun u hu => h1 u (by simp [hu])) (by rw [List.length_append, hdl, hvk, Nat.add_mul]; omega) (by
          rw [h5, Nat.add_mul, Nat.one_mul]
          unfold splice
          rw [ht, List.take_left' (by rw [List.length_append, hdl, hvk])]) (by rw [hql, hs2, Nat.add_mul, Nat.add_mul]; omega)
        rw [this]
        simp
      · cases hp
theorem flatten_map (f : α → List Value) : ∀ xs : List α, (xs.map f).flatten = xs.flatMap f
  | [] => rfl
  | x :: xs => by simp [List.flatMap_cons, flatten_map f xs]
end
section rules
variable {P : Program} {T : Tab} {N : Nat} {ops : Array Oper} {Q : Post} {L : Slots} {w : World} {rest : List Oper} {d : Nat} {ty : TypeId} {pos : String} {af : Array Edge} {t t' : TypeId} {x y : Operand} {kk kk' : IntKind}
variable {α : Type} {k : Nat} {f : α → List Value} {A : Option Addr} {c n B : Nat} {xs ys : List α} {e : TypeId}
theorem Eff.litK {b m : Nat} {ps : List (Nat × Operand)} (hf : OneK k f) (hs : ckOwK P t e k b = true) (hp : partsA L 0 ps = some (xs.map f)) (hm : xs.length = m) (hm2 : Nat.ble (m * k) 16777216 = true) :
    Eff P N w ⟨some d, .buildSlice t m ⟨ps⟩, ty, pos, af, none⟩ L (fun v w' => v = .slice (some ⟨w.heap.size, 0, none⟩) m m ∧ Bl w' w.heap.size e (xs.flatMap f) ∧ w.grownBy w' none) := fun a w1 hw ha => by
    have hs1 : w1.heap.size = w.heap.size := by rw [hw.heap]
    have hm2 : m * k ≤ 16777216 := by simpa using hm2
    obtain ⟨hu, j, z, hj, hz, hj1, _, hz1⟩ := ckOwK_spec hs
    refine ⟨_, w1.alloc (.cells ⟨xs.flatMap f⟩ e), ?_, rfl, newBlock w1 hw _ e⟩
    have hne : ¬ (m * k > 2 ^ 24) := by omega
    have hmap : ((⟨ps⟩ : Array (Nat × Operand)).map fun p => (p.1, a.eval p.2)).toList = ps.map fun p => (p.1, a.eval p.2) := by simp
    have hfill : ∀ cells : Array Value, cells.size = m * k → Instr.fill (fun i => some (i * k, k)) cells (ps.map fun p => (p.1, a.eval p.2)) = some ⟨xs.flatMap f⟩ := fun cells hc => by
      have := fill_partsA ha k ps 0 (xs.map f) [] cells hp (fun u hu => by
        obtain ⟨y, _, rfl⟩ := List.mem_map.1 hu
        exact hf.len y) (by simp) (by simp) (by rw [hc, List.length_map, hm, Nat.zero_add])
      rw [this, flatten_map]
      rfl
    have hzr : (zeroValue e).run P w1 = .ok z w1 := by simp [zeroValue, typeInfo, hj, hz]
    unfold execOp
    simp only [Instr.buildSlice, Sem.run_bind, run_underlying hu, Result.andThen_ok, sizeOf, typeInfo, program, Sem.run, hj, hj1, hne, if_false, Sem.run_pure, hmap]
    by_cases hm0 : m * k = 0
    · simp only [hm0, if_true, Sem.run_bind, Sem.run_pure, Result.andThen_ok]
      rw [hfill _ (by simp [hm0])]
      simp only [newRow, newObj, Sem.run_bind, Sem.run_pure]
      rw [← hs1]; rfl
    · rw [if_neg hm0]
      simp only [Sem.run_bind, hzr, Result.andThen_ok, Sem.run_pure]
      rw [hfill _ (by simp)]
      simp only [newRow, newObj, Sem.run_bind, Sem.run_pure]
      rw [← hs1]; rfl
theorem WL.litK {b m : Nat} {ps : List (Nat × Operand)} (xs : List α) (hf : OneK k f) (hd : Nat.blt d N = true) (hs : ckOwK P t e k b = true) (hp : partsA L 0 ps = some (xs.map f)) (hm : xs.length = m) (hm2 : Nat.ble (m * k) 16777216 = true)
    (hk : ∀ g w', Bl w' g e (xs.flatMap f) → w.grownBy w' none → w.heap.size ≤ g → WL P N ops Q rest ((d, .slice (some ⟨g, 0, none⟩) m m) :: L) w') :
    WL P N ops Q (⟨some d, .buildSlice t m ⟨ps⟩, ty, pos, af, none⟩ :: rest) L w :=
  WL.put (R := fun v w' => v = .slice (some ⟨w.heap.size, 0, none⟩) m m ∧ Bl w' w.heap.size e (xs.flatMap f) ∧ w.grownBy w' none) hd (Eff.litK hf hs hp hm hm2) (fun v w' ⟨hv, hb, hg⟩ => by subst hv; exact hk _ _ hb hg (Nat.le_refl _))
theorem run_append_own_srcK {w1 : World} {tx : TypeId} {v : Value} {b m : Nat} {ys : List α} (hs : ckOwK P t e k b = true) (hO : OwnK k f w1 B e A c xs) (hS : Src P k tx v m (ys.flatMap f) w1) (hm : m = ys.length) (hl : (xs.length + ys.length) * b ≤ 140737488355328) (h63 : xs.length + ys.length ≤ maxLen) (hB : B ≤ w1.heap.size) (ty : TypeId) :
    ∃ A' c' w', (Builtin.append_ #[t, tx] ty #[.slice A xs.length c, v]).run P w1 = .ok (.slice A' (xs ++ ys).length c') w' ∧ OwnK k f w' B e A' c' (xs ++ ys) ∧ w1.grownBy w' (blk A) ∧ (∀ g, blk A' = some g → blk A = some g ∨ w1.heap.size ≤ g) := by
  obtain ⟨hu, i, z, hi, hz, hi1, hib, hz1⟩ := ckOwK_spec hs
  subst hib
  subst hm
  have h63' : ((xs.length + ys.length : Nat) : Int) ≤ 9223372036854775807 := by simp only [maxLen] at h63; omega
  have hf := hO.1
  have hfx := hf.flen xs
  have hfy := hf.flen ys
  have hge := grownCap_ge w1 (xs.length + ys.length) c e
  have hcm := grownCap_le_maxLen w1 (xs.length + ys.length) c e (by omega)
  have grow : c < xs.length + ys.length → ∃ A' c' w', (Builtin.append_ #[t, tx] ty #[.slice A xs.length c, v]).run P w1 = .ok (.slice A' (xs ++ ys).length c') w' ∧ OwnK k f w' B e A' c' (xs ++ ys) ∧ w1.grownBy w' (blk A) ∧ (∀ g, blk A' = some g → blk A = some g ∨ w1.heap.size ≤ g) := by
    intro hlt
    have hold : (Builtin.firstCells i.size xs.length (.slice A xs.length c)).run P w1.drew = .ok ((xs.flatMap f).toArray) w1.drew := by
      rw [hi1]
      rcases hO.2.2 with ⟨hv, hn⟩ | ⟨g, cap, cur, hv, hb, hg, hnc, hcm', hcs, htake⟩
      · simp only [Value.slice.injEq] at hv
        obtain ⟨rfl, _, rfl⟩ := hv
        have : xs = [] := List.eq_nil_of_length_eq_zero hn
        subst this
        exact run_firstCells_none w1.drew k 0 0 0
      · simp only [Value.slice.injEq] at hv
        obtain ⟨rfl, _, rfl⟩ := hv
        exact run_firstCells_some w1.drew k xs.length ⟨g, 0, none⟩ xs.length c (xs.flatMap f) hfx (fun j u hj => hO.2.cells (g := g) rfl j u hj)
    have hr := run_append_grow_src (P := P) w1 t tx ty e i z hu hi hz A xs.length c (xs.flatMap f) hold v ys.length (ys.flatMap f) (by rw [hi1]; exact hS) hlt h63' (growslice_fits hlt hl)
    refine ⟨_, _, _, by rw [hr, List.length_append], ⟨hf, ?_⟩, ?_, ?_⟩
    · refine ⟨hf.flen _, .inr ⟨w1.heap.size, _, _, by rw [List.length_append], hB, heap_alloc_new w1.drew _, by rw [List.length_append]; exact hge, hcm, ?_, ?_⟩⟩
      · have : (grownCap w1 (xs.length + ys.length) c e) * k = xs.length * k + ys.length * k + (grownCap w1 (xs.length + ys.length) c e - (xs.length + ys.length)) * k := by
          rw [← Nat.add_mul, ← Nat.add_mul]
          congr 1
          omega
        simp only [Array.size_append, List.size_toArray, List.length_append, size_zeroCells, hz1, hfx, hfy]
        omega
      · rw [hf.flen (xs ++ ys) |>.symm]
        simp only [Array.toList_append, List.flatMap_append]
        rw [List.take_left' (by simp)]
    · exact ⟨rfl, rfl, rfl, by simp, fun k hk _ => heap_alloc_old w1.drew _ hk⟩
    · intro g hg
      simp only [blk, Option.map_some, Option.some.injEq] at hg
      exact .inr (by omega)
  by_cases hroom : xs.length + ys.length ≤ c
  · rcases hO.2.2 with ⟨hv, hn⟩ | ⟨g, cap, cur, hv, hb, hg, hnc, hcm', hcs, htake⟩
    · simp only [Value.slice.injEq] at hv
      obtain ⟨rfl, _, rfl⟩ := hv
      have hx0 : xs = [] := List.eq_nil_of_length_eq_zero hn
      have hy0 : ys = [] := List.eq_nil_of_length_eq_zero (by omega)
      subst hx0; subst hy0
      refine ⟨none, 0, w1, ?_, OwnK.nil hf w1 B e, gr_refl _ _, fun g hg => by simp [blk] at hg⟩
      have := hS.cells
      rcases hS.kind with ⟨e', hk⟩ | hk <;> simp [Builtin.append_, run_underlying hu, run_underlying hk, sizeOf, typeInfo, hi, hi1, hS.len] <;> simp at this <;> simp [this]
    · simp only [Value.slice.injEq] at hv
      obtain ⟨rfl, _, rfl⟩ := hv
      have hB1 : Bl w1 g e cur.toList := hg
      have hcl : cur.toList.length = c * k := by simpa using hcs
      have hxk : xs.length * k + ys.length * k ≤ c * k := by rw [← Nat.add_mul]; exact Nat.mul_le_mul_right k hroom
      have hr := run_append_room_src (P := P) w1 t tx ty e i hu hi g 0 xs.length c v ys.length (ys.flatMap f) (by rw [hi1]; exact hS) hroom (fun j hj => by
        rw [hi1, hB1.cell]
        rw [List.getElem?_eq_getElem (by omega)]
        rfl) (fun j _ => hB1.frozen _)
      have hst := run_storeCells_at P g (xs.length * k) e (ys.flatMap f) 0 cur w1 hg (by simp at hcl; omega) hS.one
      have hst2 := run_storeCells_cells (P := P) g (xs.length * k) (ys.flatMap f) 0 w1 (fun j hj => by
        rw [hB1.cell]
        rw [List.getElem?_eq_getElem (by omega)]
        rfl) (fun j _ => hB1.frozen _) hS.one
      have hw : w1.setCells g (0 + xs.length * i.size) (ys.flatMap f) = w1.setRow g (List.take (xs.length * k + 0) cur.toList ++ ys.flatMap f ++ List.drop (xs.length * k + 0 + (ys.flatMap f).length) cur.toList).toArray := by
        rw [hst] at hst2
        injection hst2 with _ h2
        rw [hi1, Nat.zero_add]
        exact h2.symm
      rw [hw] at hr
      refine ⟨_, _, _, by rw [hr, List.length_append], ⟨hf, ?_⟩, ?_, fun g' hg' => .inl hg'⟩
      · refine ⟨hf.flen _, .inr ⟨g, c, _, by rw [List.length_append], hb, setRow_heap w1 g cur _ e _ hg, by rw [List.length_append]; exact hroom, hcm', ?_, ?_⟩⟩
        · simp only [List.size_toArray, List.length_append, List.length_take, List.length_drop, hcl, hfy]
          omega
        · rw [hf.flen (xs ++ ys) |>.symm]
          simp only [Nat.add_zero, htake, List.flatMap_append]
          rw [List.take_left' (by simp)]
      · exact ⟨rfl, rfl, rfl, by simp, fun k _ hk => setRow_other w1 g k _ (fun e => hk (by simp [blk, e]))⟩
  · exact grow (by omega)
theorem src_rdK {w1 : World} {A2 : Option Addr} {c2 : Nat} {ys : List α} {e' : TypeId} (hu : P.underlying t = some (.slice e')) (hR : RdK k f w1 A2 c2 ys) : Src P k t (.slice A2 ys.length c2) ys.length (ys.flatMap f) w1 := by
  by_cases hy : ys = []
  · subst hy
    cases A2 with
    | none => exact Src.ofNil w1 hu c2
    | some ad => exact Src.ofSlice w1 hu ad 0 c2 [] (by simp) (by simp) (by simp)
  · obtain ⟨g, o, rfl, hc⟩ := hR.cells hy
    exact Src.ofSlice w1 hu ⟨g, o, none⟩ ys.length c2 (ys.flatMap f) (hR.ok.flen ys) (fun p u hp => by
      obtain ⟨j, x, i, rfl, hx, hi⟩ := hR.ok.fidx ys p u hp
      rw [Addr.add_mid]
      exact hc j x i u hx hi) hR.ok.mem
theorem Eff.appendK {A2 : Option Addr} {c2 n2 : Nat} {ys : List α} {b : Nat} (hs : ckOwK P t e k b = true) (hO : OwnK k f w B e A c xs) (hx : opv L x = some (.slice A n c)) (hn : n = xs.length) (hR : RdK k f w A2 c2 ys) (hy : opv L y = some (.slice A2 n2 c2)) (hn2 : n2 = ys.length) (hl : (xs.length + ys.length) * b ≤ 140737488355328) (h63 : xs.length + ys.length ≤ maxLen) (hB : B ≤ w.heap.size) :
    Eff P N w ⟨some d, .call ⟨.builtin .append, ⟨[x, y]⟩, ⟨[t, t]⟩⟩, ty, pos, af, none⟩ L (fun v w' => ∃ A' c', v = .slice A' (xs ++ ys).length c' ∧ OwnK k f w' B e A' c' (xs ++ ys) ∧ w.grownBy w' (blk A) ∧ (∀ g, blk A' = some g → blk A = some g ∨ w.heap.size ≤ g)) := fun a w1 hw ha => by
    obtain ⟨hu, _⟩ := ckOwK_spec hs
    subst hn; subst hn2
    have hs1 : w1.heap.size = w.heap.size := by rw [hw.heap]
    obtain ⟨A', c', w', hr, h1, h2, h3⟩ := run_append_own_srcK (P := P) (ty := ty) hs (hO.eqv hw) (src_rdK hu (hR.eqv hw)) rfl hl h63 (by omega)
    refine ⟨_, w', ?_, A', c', rfl, h1, eqv_gr hw h2, fun g hg => by rw [← hs1]; exact h3 g hg⟩
    unfold execOp
    simp [resolve, invoke, builtin, ha.ev hx, ha.ev hy, hr]
theorem WL.appendK {A2 : Option Addr} {c2 n2 : Nat} {ys : List α} {b : Nat} (hd : Nat.blt d N = true) (hs : ckOwK P t e k b = true) (hO : OwnK k f w B e A c xs) (hx : opv L x = some (.slice A n c)) (hn : n = xs.length) (hR : RdK k f w A2 c2 ys) (hy : opv L y = some (.slice A2 n2 c2)) (hn2 : n2 = ys.length)
    (hl : (xs.length + ys.length) * b ≤ 140737488355328) (h63 : xs.length + ys.length ≤ maxLen) (hB : B ≤ w.heap.size)
    (hk : ∀ A' c' w', OwnK k f w' B e A' c' (xs ++ ys) → w.grownBy w' (blk A) → (∀ g, blk A' = some g → blk A = some g ∨ w.heap.size ≤ g) → WL P N ops Q rest ((d, .slice A' (xs ++ ys).length c') :: L) w') :
    WL P N ops Q (⟨some d, .call ⟨.builtin .append, ⟨[x, y]⟩, ⟨[t, t]⟩⟩, ty, pos, af, none⟩ :: rest) L w :=
  WL.put (R := fun v w' => ∃ A' c', v = .slice A' (xs ++ ys).length c' ∧ OwnK k f w' B e A' c' (xs ++ ys) ∧ w.grownBy w' (blk A) ∧ (∀ g, blk A' = some g → blk A = some g ∨ w.heap.size ≤ g)) hd (Eff.appendK hs hO hx hn hR hy hn2 hl h63 hB) (fun v w' ⟨A', c', hv, h1, h2, h3⟩ => by subst hv; exact hk A' c' w' h1 h2 h3)
/-- make([]T, m) -/
theorem made_flat (z : List Value) (k : Nat) (hk : z.length = k) (hp : 0 < k) : ∀ m, (madeCells ⟨z⟩ (m * k)).toList = (List.replicate m z).flatten := fun m => by
  apply List.ext_getElem?
  intro j
  have hl : ((List.replicate m z).flatten).length = m * k := by simp [hk]
  by_cases hj : j < m * k
  · have h1 : (madeCells ⟨z⟩ (m * k)).toList[j]? = z[j % k]? := by
      have hlt : j % k < z.length := by rw [hk]; exact Nat.mod_lt _ hp
      simp [madeCells, hj, hk, List.getElem?_eq_getElem hlt]
    rw [h1]
    have gen : ∀ m j, j < m * k → ((List.replicate m z).flatten)[j]? = z[j % k]? := by
      intro m
      induction m with
      | zero => intro j hj; omega
      | succ m ih =>
        intro j hj
        rw [List.replicate_succ, List.flatten_cons]
        by_cases h : j < k
        · rw [List.getElem?_append_left (by omega), Nat.mod_eq_of_lt h]
        · rw [List.getElem?_append_right (by omega), hk, ih (j - k) (by rw [Nat.add_mul] at hj; omega)]
          rw [Nat.mod_eq_sub_mod (a := j) (by omega)]
    rw [gen m j hj]
  · rw [List.getElem?_eq_none (by simp [madeCells]; omega), List.getElem?_eq_none (by omega)]
theorem Eff.makeCK {q : Int} {b : Nat} (hf : OneK k f) (hs : ckOwK P t e k b = true) (hx : opv L x = some (.int kk 0)) (hy : opv L y = some (.int kk' q)) (h0 : 0 ≤ q) (hm : q * (b : Int) ≤ 140737488355328) (h63 : q ≤ 140737488355328) (hB : B ≤ w.heap.size) :
    Eff P N w ⟨some d, .makeSlice t x y, ty, pos, af, none⟩ L (fun v w' => v = .slice (some ⟨w.heap.size, 0, none⟩) 0 q.toNat ∧ OwnK k f w' B e (some ⟨w.heap.size, 0, none⟩) q.toNat ([] : List α) ∧ w.grownBy w' none) := fun a w1 hw ha => by
    obtain ⟨hu, i, z0, hi, hz0, hi1, hib, hz1⟩ := ckOwK_spec hs
    have hs1 : w1.heap.size = w.heap.size := by rw [hw.heap]
    obtain ⟨m, rfl⟩ := Int.eq_ofNat_of_zero_le h0
    have hmb : m * b ≤ 140737488355328 := by
      have : ((m * b : Nat) : Int) ≤ 140737488355328 := by rw [Int.natCast_mul]; exact hm
      omega
    obtain ⟨w', hr, hO, hg⟩ := run_make_own (P := P) w1 B t e i z0 k hu hi hz0 hi1 kk kk' m (by rw [hib, Nat.mul_comm]; omega) (by simp only [maxLen]; omega) (by omega)
    simp only [Int.toNat_natCast]
    refine ⟨_, w', ?_, by rw [← hs1], ⟨hf, ?_⟩, eqv_gr hw hg⟩
    · unfold execOp
      simp only [ha.ev hx, ha.ev hy, Sem.run_bind, hr, Result.andThen_ok, Sem.run_pure]
    · rw [← hs1]
      exact hO
theorem Eff.makeZK {q : Int} {z : α} {b : Nat} (hf : OneK k f) (hs : ckOwK P t e k b = true) (hz : zeroOf P e = some (f z)) (hx : opv L x = some (.int kk q)) (hy : opv L y = some (.int kk' q)) (h0 : 0 ≤ q) (hm : q * (b : Int) ≤ 140737488355328) (h63 : q ≤ 140737488355328) (hB : B ≤ w.heap.size) :
    Eff P N w ⟨some d, .makeSlice t x y, ty, pos, af, none⟩ L (fun v w' => v = .slice (some ⟨w.heap.size, 0, none⟩) q.toNat q.toNat ∧ OwnK k f w' B e (some ⟨w.heap.size, 0, none⟩) q.toNat (List.replicate q.toNat z) ∧ w.grownBy w' none) := fun a w1 hw ha => by
  obtain ⟨hu, i, z0, hi, hz0, hi1, hib, hz1⟩ := ckOwK_spec hs
  have hs1 : w1.heap.size = w.heap.size := by rw [hw.heap]
  have hzc : z0.cells = ⟨f z⟩ := by
    unfold zeroOf at hz
    rw [hi] at hz
    simp only [hz0, Option.some.injEq] at hz
    apply Array.ext'
    rw [hz]
  obtain ⟨m, rfl⟩ := Int.eq_ofNat_of_zero_le h0
  have hmb : m * b ≤ 140737488355328 := by
    have : ((m * b : Nat) : Int) ≤ 140737488355328 := by rw [Int.natCast_mul]; exact hm
    omega
  obtain ⟨w', hr, hO, hg⟩ := run_make_full (P := P) w1 B t e i z0 k hu hi hz0 hi1 kk kk' m (by rw [hib, Nat.mul_comm]; omega) (by simp only [maxLen]; omega) (by omega)
  simp only [Int.toNat_natCast]
  refine ⟨_, w', ?_, by rw [← hs1], ⟨hf, ?_⟩, eqv_gr hw hg⟩
  · unfold execOp
    simp only [ha.ev hx, ha.ev hy, Sem.run_bind, hr, Result.andThen_ok, Sem.run_pure]
  · have e1 : (madeCells z0.cells (m * k)).toList = (List.replicate m z).flatMap f := by
      rw [hzc, made_flat _ k (hf.len z) hf.pos, ← flatten_map, List.map_replicate]
    rw [e1] at hO
    rw [← hs1, List.length_replicate]
    exact hO
theorem WL.makeZK {q : Int} (z : α) {b : Nat} (hf : OneK k f) (hd : Nat.blt d N = true) (hs : ckOwK P t e k b = true) (hz : zeroOf P e = some (f z)) (hx : opv L x = some (.int kk q)) (hy : opv L y = some (.int kk' q)) (h0 : 0 ≤ q) (hm : q * (b : Int) ≤ 140737488355328) (h63 : q ≤ 140737488355328) (hB : B ≤ w.heap.size)
    (hk : ∀ g w', OwnK k f w' B e (some ⟨g, 0, none⟩) q.toNat (List.replicate q.toNat z) → w.grownBy w' none → w.heap.size ≤ g → WL P N ops Q rest ((d, .slice (some ⟨g, 0, none⟩) q.toNat q.toNat) :: L) w') :
    WL P N ops Q (⟨some d, .makeSlice t x y, ty, pos, af, none⟩ :: rest) L w :=
  WL.put (R := fun v w' => v = .slice (some ⟨w.heap.size, 0, none⟩) q.toNat q.toNat ∧ OwnK k f w' B e (some ⟨w.heap.size, 0, none⟩) q.toNat (List.replicate q.toNat z) ∧ w.grownBy w' none) hd (Eff.makeZK hf hs hz hx hy h0 hm h63 hB) (fun v w' ⟨hv, h1, h2⟩ => by subst hv; exact hk _ w' h1 h2 (Nat.le_refl _))
/-- make([]T, 0, c) -/
theorem WL.makeCK {q : Int} {b : Nat} (hf : OneK k f) (hd : Nat.blt d N = true) (hs : ckOwK P t e k b = true) (hx : opv L x = some (.int kk 0)) (hy : opv L y = some (.int kk' q)) (h0 : 0 ≤ q) (hm : q * (b : Int) ≤ 140737488355328) (h63 : q ≤ 140737488355328) (hB : B ≤ w.heap.size)
    (hk : ∀ g w', OwnK k f w' B e (some ⟨g, 0, none⟩) q.toNat ([] : List α) → w.grownBy w' none → w.heap.size ≤ g → WL P N ops Q rest ((d, .slice (some ⟨g, 0, none⟩) 0 q.toNat) :: L) w') :
    WL P N ops Q (⟨some d, .makeSlice t x y, ty, pos, af, none⟩ :: rest) L w :=
  WL.put (R := fun v w' => v = .slice (some ⟨w.heap.size, 0, none⟩) 0 q.toNat ∧ OwnK k f w' B e (some ⟨w.heap.size, 0, none⟩) q.toNat ([] : List α) ∧ w.grownBy w' none) hd (fun a w1 hw ha => by
    obtain ⟨hu, i, z0, hi, hz0, hi1, hib, hz1⟩ := ckOwK_spec hs
    have hs1 : w1.heap.size = w.heap.size := by rw [hw.heap]
    obtain ⟨m, rfl⟩ := Int.eq_ofNat_of_zero_le h0
    have hmb : m * b ≤ 140737488355328 := by
      have : ((m * b : Nat) : Int) ≤ 140737488355328 := by rw [Int.natCast_mul]; exact hm
      omega
    obtain ⟨w', hr, hO, hg⟩ := run_make_own (P := P) w1 B t e i z0 k hu hi hz0 hi1 kk kk' m (by rw [hib, Nat.mul_comm]; omega) (by simp only [maxLen]; omega) (by omega)
    simp only [Int.toNat_natCast]
    refine ⟨_, w', ?_, by rw [← hs1], ⟨hf, ?_⟩, eqv_gr hw hg⟩
    · unfold execOp
      simp only [ha.ev hx, ha.ev hy, Sem.run_bind, hr, Result.andThen_ok, Sem.run_pure]
    · rw [← hs1]
      exact hO) (fun v w' ⟨hv, h1, h2⟩ => by subst hv; exact hk _ w' h1 h2 (Nat.le_refl _))
end rules
/-- arrays of 32 bytes, by value -/
def a32 (x : List UInt8) : List Value := [vb (x.getD 0 0), vb (x.getD 1 0), vb (x.getD 2 0), vb (x.getD 3 0), vb (x.getD 4 0), vb (x.getD 5 0), vb (x.getD 6 0), vb (x.getD 7 0), vb (x.getD 8 0), vb (x.getD 9 0), vb (x.getD 10 0), vb (x.getD 11 0), vb (x.getD 12 0), vb (x.getD 13 0), vb (x.getD 14 0), vb (x.getD 15 0), vb (x.getD 16 0), vb (x.getD 17 0), vb (x.getD 18 0), vb (x.getD 19 0), vb (x.getD 20 0), vb (x.getD 21 0), vb (x.getD 22 0), vb (x.getD 23 0), vb (x.getD 24 0), vb (x.getD 25 0), vb (x.getD 26 0), vb (x.getD 27 0), vb (x.getD 28 0), vb (x.getD 29 0), vb (x.getD 30 0), vb (x.getD 31 0)]
theorem a32_range (x : List UInt8) : a32 x = (List.range 32).map fun i => vb (x.getD i 0) := rfl
theorem a32_get (x : List UInt8) (i : Nat) (h : i < 32) : (a32 x)[i]? = some (vb (x.getD i 0)) := by
  rw [a32_range]; simp [h]
theorem a32_len (x : List UInt8) : (a32 x).length = 32 := rfl
theorem a32_one (x : List UInt8) : ∀ u ∈ a32 x, u.oneCell' = true := fun u hu => by
  rw [a32_range] at hu
  obtain ⟨i, _, rfl⟩ := List.mem_map.1 hu
  rfl
theorem a32_ok : OneK 32 a32 := ⟨by omega, a32_len, a32_one⟩
theorem a32_map (x : List UInt8) (h : x.length = 32) : a32 x = x.map vb := by
  apply List.ext_getElem?
  intro i
  by_cases hi : i < 32
  · rw [a32_get x i hi]; simp [List.getD, h, hi]
  · rw [List.getElem?_eq_none (by rw [a32_len]; omega), List.getElem?_eq_none (by simp; omega)]
theorem a32_set (x : List UInt8) (i : Nat) (b : UInt8) (hx : x.length = 32) : (a32 x).set i (vb b) = a32 (x.set i b) := by
  rw [a32_map x hx, a32_map _ (by simp [hx]), List.map_set]
theorem lt32 {i : Int} (h : 0 ≤ i ∧ i < 32) : i.toNat < 32 := by omega
theorem a32_getO (x : List UInt8) (i : Nat) (h : i < 32) : (a32 x)[0 + i * 1]? = some (vb (x.getD i 0)) := by rw [Nat.zero_add, Nat.mul_one]; exact a32_get x i h
theorem a32_setO {x : List UInt8} {i : Nat} {b : UInt8} (hx : x.length = 32) : (a32 x).set (0 + i * 1) (vb b) = a32 (x.set i b) := by rw [Nat.zero_add, Nat.mul_one]; exact a32_set x i b hx
theorem a32_lt {x : List UInt8} {i : Nat} (h : i < 32) : 0 + i * 1 < (a32 x).length := by rw [a32_len]; omega
theorem a32_zero : List.replicate 32 (.int .u8 0) = a32 (List.replicate 32 0) := by rw [a32_map _ (by simp), List.map_replicate]; rfl
theorem all1a {ao bs : List Value} (h : ∀ u ∈ ao, u.oneCell' = true) (k : ∀ u ∈ bs, u.oneCell' = true) : ∀ u ∈ ao ++ bs, u.oneCell' = true := fun u hu => (List.mem_append.1 hu).elim (h u) (k u)
theorem a32_inj {x y : List UInt8} (hx : x.length = 32) (hy : y.length = 32) (h : a32 x = a32 y) : x = y := by
  rw [a32_map x hx, a32_map y hy] at h
  have : Function.Injective vb := fun p q hpq => by
    unfold vb at hpq
    injection hpq with _ h1
    exact UInt8.toNat_inj.1 (by omega)
  exact (List.map_inj_right this).1 h
/-! ## what yields, guarded; make, by an integer; what grew of p is new -/
section
variable {P : Program} {T : Tab} {N : Nat} {ops : Array Oper} {Q : Post} {L : Slots} {w : World} {rest : List Oper} {d : Nat} {ty : TypeId} {pos : String} {af : Array Edge} {t : TypeId} {x y : Operand} {k k' : IntKind} {α : Type} {f : α → Value} {B : Nat} {e : TypeId}
theorem WL.putw {op : Op} {gd : Option (Nat × Bool)} {R : Value → World → Prop} (hg : Wants N ops L gd) (hd : Nat.blt d N = true) (hr : Eff P N w ⟨some d, op, ty, pos, af, none⟩ L R)
    (hk : ∀ v w', R v w' → WL P N ops Q rest ((d, v) :: L) w') : WL P N ops Q (⟨some d, op, ty, pos, af, gd⟩ :: rest) L w := fun a w1 e ha =>
  wpList_step fun K hK => by
    rw [if_pos (Wants.wanted (o := ⟨some d, op, ty, pos, af, gd⟩) hg ha)]
    obtain ⟨v, w', h, hR⟩ := hr a w1 e ha
    have h' : (execOp a.eval ⟨some d, op, ty, pos, af, gd⟩).run P w1 = .ok (.value v) w' := h
    unfold Oper.wp
    rw [h']
    exact hK _ _ (hk v w' hR _ w' (Eqv.refl _) (ha.put hd v))
theorem Ge.app {p p' : Option Nat} {n m : Nat} (h : Ge p n) (k : ∀ g, p' = some g → p = some g ∨ m ≤ g) (hm : n ≤ m) : Ge p' n := fun g hg => (k g hg).elim (h g) (Nat.le_trans hm)
theorem Eff.makeZI {q : Int} {z : α} {b : Nat} (hT : T.Ok P) (hs : nk T.ow t = some (e, b)) (hz : zeroOf P e = some [f z]) (hx : opv L x = some (.int k q)) (hy : opv L y = some (.int k' q)) (h0 : 0 ≤ q) (hm : q * (b : Int) ≤ 140737488355328) (h63 : q ≤ 140737488355328) (hB : B ≤ w.heap.size) :
    Eff P N w ⟨some d, .makeSlice t x y, ty, pos, af, none⟩ L (fun v w' => v = .slice (some ⟨w.heap.size, 0, none⟩) q.toNat q.toNat ∧ Own f w' B e (some ⟨w.heap.size, 0, none⟩) q.toNat (List.replicate q.toNat z) ∧ w.grownBy w' none) := by
  have e1 : ((q.toNat : Nat) : Int) = q := Int.toNat_of_nonneg h0
  have e2 : q.toNat * b ≤ 140737488355328 := by
    have : ((q.toNat * b : Nat) : Int) ≤ 140737488355328 := by rw [Int.natCast_mul, e1]; exact hm
    omega
  exact Eff.makeZ hT hs hz (by rw [e1]; exact hx) (by rw [e1]; exact hy) e2 (by omega) hB
theorem Eff.makeCI {q : Int} {b : Nat} (hT : T.Ok P) (hs : nk T.ow t = some (e, b)) (hx : opv L x = some (.int k 0)) (hy : opv L y = some (.int k' q)) (h0 : 0 ≤ q) (hm : q * (b : Int) ≤ 140737488355328) (h63 : q ≤ 140737488355328) (hB : B ≤ w.heap.size) :
    Eff P N w ⟨some d, .makeSlice t x y, ty, pos, af, none⟩ L (fun v w' => v = .slice (some ⟨w.heap.size, 0, none⟩) 0 q.toNat ∧ Own f w' B e (some ⟨w.heap.size, 0, none⟩) q.toNat [] ∧ w.grownBy w' none) := fun a w1 hw ha => by
  obtain ⟨m, rfl⟩ := Int.eq_ofNat_of_zero_le h0
  have e2 : m * b ≤ 140737488355328 := by
    have : ((m * b : Nat) : Int) ≤ 140737488355328 := by rw [Int.natCast_mul]; exact hm
    omega
  simp only [Int.toNat_natCast]
  obtain ⟨hu, i, z0, hi, hz0, hi1, hib, hz1⟩ := hT.ow hs
  have hs1 : w1.heap.size = w.heap.size := by rw [hw.heap]
  obtain ⟨w', hr, hO, hg⟩ := run_make_own (P := P) w1 B t e i z0 1 hu hi hz0 hi1 k k' m (by rw [hib, Nat.mul_comm]; omega) (by simp only [maxLen]; omega) (by omega)
  refine ⟨_, w', ?_, by rw [← hs1], ?_, eqv_gr hw hg⟩
  · unfold execOp
    simp only [ha.ev hx, ha.ev hy, Sem.run_bind, hr, Result.andThen_ok, Sem.run_pure]
  · unfold Own
    rw [← hs1]
    simpa using hO
def isIf : TypeDesc → Bool
  | .interface _ => true
  | _ => false
theorem Yld.mki {dd : Option Tmp} {v : Value} {td : TypeDesc} (hu : P.underlying t = some td) (hi : isIf td = false) (hv : opv L x = some v) : Yld P N w ⟨dd, .makeInterface t x, ty, pos, af, none⟩ L (.iface t v) := fun a w1 _ ha => by
  unfold execOp
  simp only [Instr.makeInterface, ha.ev hv, Sem.run_bind, run_underlying hu w1, Result.andThen_ok]
  cases td <;> simp_all [isIf]
end
theorem Yld.cutY {P : Program} {T : Tab} {N : Nat} {L : Slots} {w w0 : World} {ty : TypeId} {pos : String} {af : Array Edge} {dd : Option Tmp} {t e : TypeId} {x : Operand} {α : Type} {f : α → Value} {A : Option Addr} {c n : Nat} {xs : List α} {lo hi : Option Operand} {l h : Int} (hT : T.Ok P) (hR : Rd f w0 A c xs) (hs : nk T.sl t = some (e, 1)) (hx : opv L x = some (.slice A n c)) (hn : n = xs.length)
    (hl : optv L lo 0 = some l) (hh : optv L hi n = some h) (h0 : 0 ≤ l) (h1 : l ≤ h) (h2 : h ≤ n) :
    Yld P N w ⟨dd, .slice t x lo hi none, ty, pos, af, none⟩ L (.slice (if c = l.toNat then A else A.map (·.add l.toNat)) ((xs.drop l.toNat).take (h.toNat - l.toNat)).length (c - l.toNat)) := fun a w1 _ ha => by
  obtain ⟨hu, j, hj, hj1⟩ := hT.sl hs
  have hb := run_bounds (P := P) (len := n) (cap := c) (isS := true) ha hl hh h0 h1 (by have := hR.cap; omega) w1
  have hlen : ((xs.drop l.toNat).take (h.toNat - l.toNat)).length = h.toNat - l.toNat := by simp; omega
  rw [hlen]
  unfold execOp
  simp [ha.ev hx, Instr.sliceAt, run_underlying hu, Instr.slice, hb, sizeOf, typeInfo, hj, hj1]
theorem Yld.ocutY {P : Program} {T : Tab} {N : Nat} {L : Slots} {w w0 : World} {ty : TypeId} {pos : String} {af : Array Edge} {dd : Option Tmp} {t e : TypeId} {x : Operand} {α : Type} {f : α → Value} {A : Option Addr} {c n : Nat} {xs : List α} {lo hi : Option Operand} {h : Int} (hT : T.Ok P) (hR : Rd f w0 A c xs) (hs : nk T.sl t = some (e, 1)) (hx : opv L x = some (.slice A n c)) (hn : n = xs.length) (hl : optv L lo 0 = some 0) (hh : optv L hi n = some h) (h1 : 0 ≤ h) (h2 : h ≤ n) :
    Yld P N w ⟨dd, .slice t x lo hi none, ty, pos, af, none⟩ L (.slice A (xs.take h.toNat).length c) := by
  have hy := Yld.cutY (P := P) (N := N) (w := w) (ty := ty) (pos := pos) (af := af) (dd := dd) hT hR hs hx hn hl hh (by omega) h1 h2
  have e1 : (Value.slice (if c = (0 : Int).toNat then A else A.map (·.add (0 : Int).toNat)) ((xs.drop (0 : Int).toNat).take (h.toNat - (0 : Int).toNat)).length (c - (0 : Int).toNat)) = .slice A (xs.take h.toNat).length c := by
    have : A.map (·.add 0) = A := by
      cases A with
      | none => rfl
      | some a => simp [Addr.add]
    simp [this]
  rwa [e1] at hy
theorem Yld.cutFY {P : Program} {T : Tab} {N : Nat} {L : Slots} {w w0 : World} {ty : TypeId} {pos : String} {af : Array Edge} {dd : Option Tmp} {t e : TypeId} {x lo : Operand} {α : Type} {f : α → Value} {A : Option Addr} {c n : Nat} {xs : List α} {l : Int} (hT : T.Ok P) (hR : Rd f w0 A c xs) (hs : nk T.sl t = some (e, 1)) (hx : opv L x = some (.slice A n c)) (hn : n = xs.length) (hl : optv L (some lo) 0 = some l) (h0 : 0 ≤ l) (h1 : l ≤ (n : Int)) :
    Yld P N w ⟨dd, .slice t x (some lo) none none, ty, pos, af, none⟩ L (.slice (if c = l.toNat then A else A.map (·.add l.toNat)) (xs.drop l.toNat).length (c - l.toNat)) := by
  have hy := Yld.cutY (P := P) (N := N) (w := w) (ty := ty) (pos := pos) (af := af) (dd := dd) (hi := none) (h := (n : Int)) hT hR hs hx hn hl rfl h0 h1 (Int.le_refl _)
  have e1 : (xs.drop l.toNat).take ((n : Int).toNat - l.toNat) = xs.drop l.toNat := List.take_of_length_le (by simp; omega)
  rwa [e1] at hy
theorem Rd.take {α : Type} {f : α → Value} {w : World} {A : Option Addr} {c : Nat} {xs : List α} (h : Rd f w A c xs) (m : Nat) : Rd f w A c (xs.take m) :=
  ⟨by have := h.cap; simp; omega, h.max, fun hx => by
    obtain ⟨ad, e, hc⟩ := h.cells (fun e => hx (by rw [e]; simp))
    refine ⟨ad, e, fun j x hj => hc j x ?_⟩
    rw [List.getElem?_take] at hj
    split at hj
    · exact hj
    · cases hj⟩
theorem Rd.cut1 {α : Type} {f : α → Value} {w : World} {A : Option Addr} {c n : Nat} {xs : List α} {l : Int} (h : Rd f w A c xs) (hn : n = xs.length) (h0 : 0 ≤ l) (h1 : l ≤ (n : Int)) : Rd f w (if c = l.toNat then A else A.map (·.add l.toNat)) (c - l.toNat) (xs.drop l.toNat) := by
  have := h.cut (l := l.toNat) (k := xs.length) (by omega) (Nat.le_refl _)
  rwa [List.take_of_length_le (by simp)] at this
theorem Rd.cut2 {α : Type} {f : α → Value} {w : World} {A : Option Addr} {c n : Nat} {xs : List α} {l m : Int} (h : Rd f w A c xs) (hn : n = xs.length) (h0 : 0 ≤ l) (h1 : l ≤ m) (h2 : m ≤ (n : Int)) : Rd f w (if c = l.toNat then A else A.map (·.add l.toNat)) (c - l.toNat) ((xs.drop l.toNat).take (m.toNat - l.toNat)) := h.cut (by omega) (by omega)
theorem ErrR.goOK {S : List Nat} {α : Type} {k : Nat} {f : α → List Value} {w0 w w' : World} {v : Value} {e : Er} {t B c : Nat} {A : Option Addr} {xs : List α} (h : ErrR S w v e) (hG : GOK S w0) (h0 : w0.grownBy w none) (hg : w.grownBy w' (blk A)) (h1 : w0.grownBy w' none) (hO : OwnK k f w B t A c xs) (ht : Nat.beq t 132 = false) : ErrR S w' v e := by
  rcases hO.2.2 with ⟨hv, _⟩ | ⟨g, cap, cur, hv, _, hb, _⟩
  · simp only [Value.slice.injEq] at hv
    obtain ⟨rfl, _⟩ := hv
    exact h.grown hg
  · simp only [Value.slice.injEq] at hv
    obtain ⟨rfl, _⟩ := hv
    exact ErrR.go (g := g) (us := cur.toList) h hG h0 hg h1 hb ht
theorem eqvL {a b c : World} (h : a = b) (e : Eqv b c) : Eqv a c := by rw [h]; exact e
theorem cells1 {v : Value} (h : v.oneCell' = true) : v.cells.toList = [v] := by cases v <;> first | rfl | simp [Value.oneCell'] at h
/-! ## function values -/
section
variable {P : Program} {T : Tab} {N : Nat} {ops : Array Oper} {Q : Post} {L : Slots} {w : World} {rest : List Oper} {d : Nat} {ty : TypeId} {pos : String} {af : Array Edge}
theorem Yld.mkf {dd : Option Tmp} {f : FuncId} {cs : List Operand} {vs : List Value} (hv : opvs L cs = some vs) : Yld P N w ⟨dd, .makeFunc (.func f) ⟨[]⟩ ⟨cs⟩, ty, pos, af, none⟩ L (.func (.func f) #[] ⟨vs⟩) := fun a w1 _ ha => by
  have hm : (⟨cs⟩ : Array Operand).map a.eval = ⟨vs⟩ := by rw [← ha.evs hv]; simp
  unfold execOp
  simp only [Instr.makeFunc, hm, Sem.run_bind, Sem.run_pure, Result.andThen_ok]
  simp
theorem run_callv {a : Act} {w1 : World} {g : FuncId} {x : Operand} {ao : List Operand} {ts : Array TypeId} {vs cs : List Value} {dd : Option Tmp} (ha : Has N L a) (hgo : goesIn P g = true) (hx : opv L x = some (.func (.func g) #[] ⟨cs⟩)) (hv : opvs L ao = some vs) :
    (execOp a.eval ⟨dd, .call ⟨.value x, ⟨ao⟩, ts⟩, ty, pos, af, none⟩).run P w1 = .ok (.enter g ⟨vs ++ cs⟩) w1 := by
  have hm : (⟨ao⟩ : Array Operand).map a.eval = ⟨vs⟩ := by rw [← ha.evs hv]; simp
  unfold goesIn at hgo
  split at hgo
  · rename_i fn hfn
    simp only [Bool.and_eq_true, Bool.not_eq_true'] at hgo
    have hnone : fn.body.isNone = false := by cases hb : fn.body <;> simp_all
    unfold execOp
    simp only [resolve, ha.ev hx, hm, Deferred.ofValue, Sem.run_bind, Sem.run_pure, Result.andThen_ok, invoke, callFunc, program, Sem.run, hfn, hgo.1, hnone, Bool.false_eq_true, if_false]
    simp
  · cases hgo
theorem WL.callv {R : Value → World → Prop} {g : FuncId} {x : Operand} {ao : List Operand} {ts : Array TypeId} {vs cs : List Value} (hd : Nat.blt d N = true) (hx : opv L x = some (.func (.func g) #[] ⟨cs⟩)) (hv : opvs L ao = some vs) (hf : Fn P g ⟨vs ++ cs⟩ w R) (hk : ∀ v w', R v w' → WL P N ops Q rest ((d, v) :: L) w') :
    WL P N ops Q (⟨some d, .call ⟨.value x, ⟨ao⟩, ts⟩, ty, pos, af, none⟩ :: rest) L w := fun a w1 e ha =>
  wpList_plain rfl fun K hK => by
    obtain ⟨hgo, hC⟩ := hf
    unfold Oper.wp
    rw [run_callv ha hgo hx hv]
    refine (hC w1 e).mono ?_
    rintro en w' ⟨v, w0, rfl, h0, hR⟩
    exact hK _ _ (hk v w0 hR _ w' h0 (ha.put hd v))
end
end Go.Proofs.YtilphcippnfklaaDoor
 namespace Go.Proofs.YtilphcippnfklaaDoor
open Go Go.RowKit
attribute [local irreducible] WL WC WX WQ Yld Fn
theorem u64_and31 (k : Int) : bits BinOp.and IntKind.u64 (IntKind.u64.wrap k) 31 = k % 32 := by
  show IntKind.u64.wrap ((BitVec.ofInt 64 (IntKind.u64.wrap k) &&& BitVec.ofInt 64 31).toNat : Int) = _
  rw [BitVec.toNat_and]
  have e : (BitVec.ofInt 64 31).toNat = 2^5 - 1 := by decide
  rw [e, Nat.and_two_pow_sub_one_eq_mod, BitVec.toNat_ofInt, IntKind.wrap_u64, IntKind.wrap_u64]
  omega
/-- a word turned left, as_ the program reckons it -/
def rotl (x k : Int) : Int := bits .or .u32 (shlV .u32 x (k % 32).toNat) (shrV .u32 x (32 - k % 32).toNat)
theorem rot_fn (x k : Int) (w : World) : Fn Tryd.prog 156 ⟨[vu x, vi k]⟩ w fun v w' => v = vu (rotl x k) ∧ w' = w := by
  have hs := u64_and31 k
  refine Fn.enter (by kernel_rfl) Tryd.func156 rfl Tryd.ntmps156 rfl ?_
  repeat (first | refine WC.seq ?_ | refine WC.block ?_ | refine WC.region ?_ | refine WL.nil ?_ | refine WX.then_normal ?_ | refine WC.skip ?_ | refine WC.exit ?_ | refine WC.ret ?_ | refine WX.then_exit ?_ | refine WX.then_ret ?_ | refine WX.block_normal ?_ | refine WX.block_ret ?_ | refine WX.block_same ?_ | refine WX.block_other rfl ?_ | refine WC.label ?_ | refine WC.scope ?_ | refine WX.scope_normal ?_ | refine WX.scope_ret ?_ | refine WX.scope_exit ?_ | refine WL.y rfl (Yld.add rfl rfl (by simp only [In]; omega)) ?_ | refine WL.y rfl (Yld.sub rfl rfl (by simp only [In]; omega)) ?_ | refine WL.y rfl (Yld.mul rfl rfl (by simp only [In]; omega)) ?_ | refine WL.y rfl (Yld.convB tab_ok rfl rfl rfl rfl) ?_ | refine WL.y rfl (Yld.conv tab_ok rfl rfl rfl (by simp only [In]; omega)) ?_ | refine WL.y rfl (Yld.quo rfl rfl (by omega) (by omega) (by simp only [In]; omega)) ?_ | refine WL.y rfl (Yld.rem rfl rfl (by omega) (by omega)) ?_ | refine WL.y rfl (Yld.shl rfl rfl (by omega)) ?_ | refine WL.y rfl (Yld.shr rfl rfl (by omega)) ?_ | refine WL.y rfl (Yld.pure tab_ok rfl) ?_)
  rw [hs]
  repeat (first | refine WC.seq ?_ | refine WC.block ?_ | refine WC.region ?_ | refine WL.nil ?_ | refine WX.then_normal ?_ | refine WC.skip ?_ | refine WC.exit ?_ | refine WC.ret ?_ | refine WX.then_exit ?_ | refine WX.then_ret ?_ | refine WX.block_normal ?_ | refine WX.block_ret ?_ | refine WX.block_same ?_ | refine WX.block_other rfl ?_ | refine WC.label ?_ | refine WC.scope ?_ | refine WX.scope_normal ?_ | refine WX.scope_ret ?_ | refine WX.scope_exit ?_ | refine WL.y rfl (Yld.add rfl rfl (by simp only [In]; omega)) ?_ | refine WL.y rfl (Yld.sub rfl rfl (by simp only [In]; omega)) ?_ | refine WL.y rfl (Yld.mul rfl rfl (by simp only [In]; omega)) ?_ | refine WL.y rfl (Yld.convB tab_ok rfl rfl rfl rfl) ?_ | refine WL.y rfl (Yld.conv tab_ok rfl rfl rfl (by simp only [In]; omega)) ?_ | refine WL.y rfl (Yld.quo rfl rfl (by omega) (by omega) (by simp only [In]; omega)) ?_ | refine WL.y rfl (Yld.rem rfl rfl (by omega) (by omega)) ?_ | refine WL.y rfl (Yld.shl rfl rfl (by omega)) ?_ | refine WL.y rfl (Yld.shr rfl rfl (by omega)) ?_ | refine WL.y rfl (Yld.pure tab_ok rfl) ?_)
  exact WX.ret1 rfl rfl ⟨rfl, rfl⟩
/-- a word turned right -/
def rotr (x n : Int) : Int := rotl x (0 - n)
theorem right_fn (x n : Int) (w : World) (h0 : 0 ≤ n) (h1 : n ≤ 32) : Fn Tryd.prog 125 ⟨[vu x, vi n]⟩ w fun v w' => v = vu (rotr x n) ∧ w' = w := by
  have hs : IntKind.i64.wrap (0 - n) = 0 - n := In.wrap (by simp only [In]; omega)
  refine Fn.enter (by kernel_rfl) Tryd.func125 rfl Tryd.ntmps125 rfl ?_
  repeat (first | refine WC.seq ?_ | refine WC.block ?_ | refine WC.region ?_ | refine WL.nil ?_ | refine WX.then_normal ?_ | refine WC.skip ?_ | refine WC.exit ?_ | refine WC.ret ?_ | refine WX.then_exit ?_ | refine WX.then_ret ?_ | refine WX.block_normal ?_ | refine WX.block_ret ?_ | refine WX.block_same ?_ | refine WX.block_other rfl ?_ | refine WC.label ?_ | refine WC.scope ?_ | refine WX.scope_normal ?_ | refine WX.scope_ret ?_ | refine WX.scope_exit ?_ | refine WL.y rfl (Yld.add rfl rfl (by simp only [In]; omega)) ?_ | refine WL.y rfl (Yld.sub rfl rfl (by simp only [In]; omega)) ?_ | refine WL.y rfl (Yld.mul rfl rfl (by simp only [In]; omega)) ?_ | refine WL.y rfl (Yld.convB tab_ok rfl rfl rfl rfl) ?_ | refine WL.y rfl (Yld.conv tab_ok rfl rfl rfl (by simp only [In]; omega)) ?_ | refine WL.y rfl (Yld.quo rfl rfl (by omega) (by omega) (by simp only [In]; omega)) ?_ | refine WL.y rfl (Yld.rem rfl rfl (by omega) (by omega)) ?_ | refine WL.y rfl (Yld.shl rfl rfl (by omega)) ?_ | refine WL.y rfl (Yld.shr rfl rfl (by omega)) ?_ | refine WL.y rfl (Yld.pure tab_ok rfl) ?_)
  rw [hs]
  refine WL.call rfl rfl (rot_fn x (0 - n) w) ?_
  rintro v w' ⟨rfl, rfl⟩
  repeat (first | refine WC.seq ?_ | refine WC.block ?_ | refine WC.region ?_ | refine WL.nil ?_ | refine WX.then_normal ?_ | refine WC.skip ?_ | refine WC.exit ?_ | refine WC.ret ?_ | refine WX.then_exit ?_ | refine WX.then_ret ?_ | refine WX.block_normal ?_ | refine WX.block_ret ?_ | refine WX.block_same ?_ | refine WX.block_other rfl ?_ | refine WC.label ?_ | refine WC.scope ?_ | refine WX.scope_normal ?_ | refine WX.scope_ret ?_ | refine WX.scope_exit ?_ | refine WL.y rfl (Yld.add rfl rfl (by simp only [In]; omega)) ?_ | refine WL.y rfl (Yld.sub rfl rfl (by simp only [In]; omega)) ?_ | refine WL.y rfl (Yld.mul rfl rfl (by simp only [In]; omega)) ?_ | refine WL.y rfl (Yld.convB tab_ok rfl rfl rfl rfl) ?_ | refine WL.y rfl (Yld.conv tab_ok rfl rfl rfl (by simp only [In]; omega)) ?_ | refine WL.y rfl (Yld.quo rfl rfl (by omega) (by omega) (by simp only [In]; omega)) ?_ | refine WL.y rfl (Yld.rem rfl rfl (by omega) (by omega)) ?_ | refine WL.y rfl (Yld.shl rfl rfl (by omega)) ?_ | refine WL.y rfl (Yld.shr rfl rfl (by omega)) ?_ | refine WL.y rfl (Yld.pure tab_ok rfl) ?_)
  exact WX.ret1 rfl rfl ⟨rfl, rfl⟩
end Go.Proofs.YtilphcippnfklaaDoor
 namespace Go.Proofs.YtilphcippnfklaaDoor
open Go Go.RowKit
attribute [local irreducible] WL WC WX WQ Yld Fn

def ktab : List Int := [0x428a2f98, 0x71374491, 0xb5c0fbcf, 0xe9b5dba5, 0x3956c25b, 0x59f111f1, 0x923f82a4, 0xab1c5ed5,
  0xd807aa98, 0x12835b01, 0x243185be, 0x550c7dc3, 0x72be5d74, 0x80deb1fe, 0x9bdc06a7, 0xc19bf174,
  0xe49b69c1, 0xefbe4786, 0x0fc19dc6, 0x240ca1cc, 0x2de92c6f, 0x4a7484aa, 0x5cb0a9dc, 0x76f988da,
  0x983e5152, 0xa831c66d, 0xb00327c8, 0xbf597fc7, 0xc6e00bf3, 0xd5a79147, 0x06ca6351, 0x14292967,
  0x27b70a85, 0x2e1b2138, 0x4d2c6dfc, 0x53380d13, 0x650a7354, 0x766a0abb, 0x81c2c92e, 0x92722c85,
  0xa2bfe8a1, 0xa81a664b, 0xc24b8b70, 0xc76c51a3, 0xd192e819, 0xd6990624, 0xf40e3585, 0x106aa070,
  0x19a4c116, 0x1e376c08, 0x2748774c, 0x34b0bcb5, 0x391c0cb3, 0x4ed8aa4a, 0x5b9cca4f, 0x682e6ff3,
  0x748f82ee, 0x78a5636f, 0x84c87814, 0x8cc70208, 0x90befffa, 0xa4506ceb, 0xbef9a3f7, 0xc67178f2]
theorem oneM {α : Type} {f : α → Value} (hf : One f) (xs : List α) : ∀ u ∈ xs.map f, u.oneCell' = true := fun u hu => by
  obtain ⟨a, _, rfl⟩ := List.mem_map.1 hu
  exact hf a
theorem table_fn (w : World) : Fn Tryd.prog 124 ⟨[]⟩ w fun v w' => v = .agg ⟨ktab.map vu⟩ ∧ w.grownBy w' none := by
  refine Fn.enter (by kernel_rfl) Tryd.func124 rfl Tryd.ntmps124 rfl ?_
  repeat (first | refine WC.seq ?_ | refine WC.block ?_ | refine WC.region ?_ | refine WL.nil ?_ | refine WX.then_normal ?_ | refine WC.skip ?_ | refine WC.exit ?_ | refine WC.ret ?_ | refine WX.then_exit ?_ | refine WX.then_ret ?_ | refine WX.block_normal ?_ | refine WX.block_ret ?_ | refine WX.block_same ?_ | refine WX.block_other rfl ?_ | refine WC.label ?_ | refine WC.scope ?_ | refine WX.scope_normal ?_ | refine WX.scope_ret ?_ | refine WX.scope_exit ?_ | refine WL.y rfl (Yld.add rfl rfl (by simp only [In]; omega)) ?_ | refine WL.y rfl (Yld.sub rfl rfl (by simp only [In]; omega)) ?_ | refine WL.y rfl (Yld.mul rfl rfl (by simp only [In]; omega)) ?_ | refine WL.y rfl (Yld.convB tab_ok rfl rfl rfl rfl) ?_ | refine WL.y rfl (Yld.conv tab_ok rfl rfl rfl (by simp only [In]; omega)) ?_ | refine WL.y rfl (Yld.quo rfl rfl (by omega) (by omega) (by simp only [In]; omega)) ?_ | refine WL.y rfl (Yld.rem rfl rfl (by omega) (by omega)) ?_ | refine WL.y rfl (Yld.shl rfl rfl (by omega)) ?_ | refine WL.y rfl (Yld.shr rfl rfl (by omega)) ?_ | refine WL.y rfl (Yld.pure tab_ok rfl) ?_)
  refine WL.alloc rfl zero162 (fun g w1 hB hg _ => ?_)
  repeat (first | refine WC.seq ?_ | refine WC.block ?_ | refine WC.region ?_ | refine WL.nil ?_ | refine WX.then_normal ?_ | refine WC.skip ?_ | refine WC.exit ?_ | refine WC.ret ?_ | refine WX.then_exit ?_ | refine WX.then_ret ?_ | refine WX.block_normal ?_ | refine WX.block_ret ?_ | refine WX.block_same ?_ | refine WX.block_other rfl ?_ | refine WC.label ?_ | refine WC.scope ?_ | refine WX.scope_normal ?_ | refine WX.scope_ret ?_ | refine WX.scope_exit ?_ | refine WL.y rfl (Yld.add rfl rfl (by simp only [In]; omega)) ?_ | refine WL.y rfl (Yld.sub rfl rfl (by simp only [In]; omega)) ?_ | refine WL.y rfl (Yld.mul rfl rfl (by simp only [In]; omega)) ?_ | refine WL.y rfl (Yld.convB tab_ok rfl rfl rfl rfl) ?_ | refine WL.y rfl (Yld.conv tab_ok rfl rfl rfl (by simp only [In]; omega)) ?_ | refine WL.y rfl (Yld.quo rfl rfl (by omega) (by omega) (by simp only [In]; omega)) ?_ | refine WL.y rfl (Yld.rem rfl rfl (by omega) (by omega)) ?_ | refine WL.y rfl (Yld.shl rfl rfl (by omega)) ?_ | refine WL.y rfl (Yld.shr rfl rfl (by omega)) ?_ | refine WL.y rfl (Yld.pure tab_ok rfl) ?_)
  refine WL.y rfl (Yld.arr (us := ktab.map vu) tab_ok rfl zero162 rfl rfl (oneM One.u _) rfl) ?_
  refine WL.storeW tab_ok rfl rfl rfl (oneM One.u _) hB rfl rfl (fun w2 hB2 hg2 => ?_)
  repeat (first | refine WC.seq ?_ | refine WC.block ?_ | refine WC.region ?_ | refine WL.nil ?_ | refine WX.then_normal ?_ | refine WC.skip ?_ | refine WC.exit ?_ | refine WC.ret ?_ | refine WX.then_exit ?_ | refine WX.then_ret ?_ | refine WX.block_normal ?_ | refine WX.block_ret ?_ | refine WX.block_same ?_ | refine WX.block_other rfl ?_ | refine WC.label ?_ | refine WC.scope ?_ | refine WX.scope_normal ?_ | refine WX.scope_ret ?_ | refine WX.scope_exit ?_ | refine WL.y rfl (Yld.add rfl rfl (by simp only [In]; omega)) ?_ | refine WL.y rfl (Yld.sub rfl rfl (by simp only [In]; omega)) ?_ | refine WL.y rfl (Yld.mul rfl rfl (by simp only [In]; omega)) ?_ | refine WL.y rfl (Yld.convB tab_ok rfl rfl rfl rfl) ?_ | refine WL.y rfl (Yld.conv tab_ok rfl rfl rfl (by simp only [In]; omega)) ?_ | refine WL.y rfl (Yld.quo rfl rfl (by omega) (by omega) (by simp only [In]; omega)) ?_ | refine WL.y rfl (Yld.rem rfl rfl (by omega) (by omega)) ?_ | refine WL.y rfl (Yld.shl rfl rfl (by omega)) ?_ | refine WL.y rfl (Yld.shr rfl rfl (by omega)) ?_ | refine WL.y rfl (Yld.pure tab_ok rfl) ?_)
  exact WX.retc tab_ok rfl rfl rfl hB2 rfl ⟨rfl, gr_new hg hg2 (by assumption)⟩
def h0s : List Int := [0x6a09e667, 0xbb67ae85, 0x3c6ef372, 0xa54ff53a, 0x510e527f, 0x9b05688c, 0x1f83d9ab, 0x5be0cd19]
/-- a state's cells -/
def stc (hs : List Int) (A : Option Addr) (c : Nat) (r : List UInt8) (n : Int) : List Value := hs.map vu ++ [.slice A r.length c, .int .u64 n]
theorem new_fn (w : World) : Fn Tryd.prog 61 ⟨[]⟩ w fun v w' => ∃ g, v = .pointer (some ⟨g, 0, none⟩) ∧ Bl w' g 137 (stc h0s none 0 [] 0) ∧ w.grownBy w' none ∧ w.heap.size ≤ g := by
  refine Fn.enter (by kernel_rfl) Tryd.func61 rfl Tryd.ntmps61 rfl ?_
  repeat (first | refine WC.seq ?_ | refine WC.block ?_ | refine WC.region ?_ | refine WL.nil ?_ | refine WX.then_normal ?_ | refine WC.skip ?_ | refine WC.exit ?_ | refine WC.ret ?_ | refine WX.then_exit ?_ | refine WX.then_ret ?_ | refine WX.block_normal ?_ | refine WX.block_ret ?_ | refine WX.block_same ?_ | refine WX.block_other rfl ?_ | refine WC.label ?_ | refine WC.scope ?_ | refine WX.scope_normal ?_ | refine WX.scope_ret ?_ | refine WX.scope_exit ?_ | refine WL.y rfl (Yld.add rfl rfl (by simp only [In]; omega)) ?_ | refine WL.y rfl (Yld.sub rfl rfl (by simp only [In]; omega)) ?_ | refine WL.y rfl (Yld.mul rfl rfl (by simp only [In]; omega)) ?_ | refine WL.y rfl (Yld.convB tab_ok rfl rfl rfl rfl) ?_ | refine WL.y rfl (Yld.conv tab_ok rfl rfl rfl (by simp only [In]; omega)) ?_ | refine WL.y rfl (Yld.quo rfl rfl (by omega) (by omega) (by simp only [In]; omega)) ?_ | refine WL.y rfl (Yld.rem rfl rfl (by omega) (by omega)) ?_ | refine WL.y rfl (Yld.shl rfl rfl (by omega)) ?_ | refine WL.y rfl (Yld.shr rfl rfl (by omega)) ?_ | refine WL.y rfl (Yld.pure tab_ok rfl) ?_)
  refine WL.y rfl (Yld.arr (us := h0s.map vu) tab_ok rfl zero135 rfl rfl (oneM One.u _) rfl) ?_
  refine WL.y rfl (Yld.struct (us := stc h0s none 0 [] 0) zero137 places137 rfl rfl) ?_
  refine WL.box rfl rfl rfl (fun g w1 hB hg hs => ?_)
  repeat (first | refine WC.seq ?_ | refine WC.block ?_ | refine WC.region ?_ | refine WL.nil ?_ | refine WX.then_normal ?_ | refine WC.skip ?_ | refine WC.exit ?_ | refine WC.ret ?_ | refine WX.then_exit ?_ | refine WX.then_ret ?_ | refine WX.block_normal ?_ | refine WX.block_ret ?_ | refine WX.block_same ?_ | refine WX.block_other rfl ?_ | refine WC.label ?_ | refine WC.scope ?_ | refine WX.scope_normal ?_ | refine WX.scope_ret ?_ | refine WX.scope_exit ?_ | refine WL.y rfl (Yld.add rfl rfl (by simp only [In]; omega)) ?_ | refine WL.y rfl (Yld.sub rfl rfl (by simp only [In]; omega)) ?_ | refine WL.y rfl (Yld.mul rfl rfl (by simp only [In]; omega)) ?_ | refine WL.y rfl (Yld.convB tab_ok rfl rfl rfl rfl) ?_ | refine WL.y rfl (Yld.conv tab_ok rfl rfl rfl (by simp only [In]; omega)) ?_ | refine WL.y rfl (Yld.quo rfl rfl (by omega) (by omega) (by simp only [In]; omega)) ?_ | refine WL.y rfl (Yld.rem rfl rfl (by omega) (by omega)) ?_ | refine WL.y rfl (Yld.shl rfl rfl (by omega)) ?_ | refine WL.y rfl (Yld.shr rfl rfl (by omega)) ?_ | refine WL.y rfl (Yld.pure tab_ok rfl) ?_)
  exact WX.ret1 rfl rfl ⟨g, rfl, hB, hg, hs⟩
end Go.Proofs.YtilphcippnfklaaDoor
 