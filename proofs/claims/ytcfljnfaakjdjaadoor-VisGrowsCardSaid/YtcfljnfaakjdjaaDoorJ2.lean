/- Texts of this claim, joined by a program: Chain4, More6, Fast, Vg, Eq, Err, Laid, Shp, Row2, Shelf, StrA. -/
import Derived.Test.YtcfljnfaakjdjaaDoorJ1
import Derived.LaidEql
import Derived.Lib.LaidTab
import Derived.Lib.ItoaNum
import Derived.HandedShaped
import Derived.Shelf.Vars
import Derived.Lib.SmallJoins
import Derived.ChangeMaps5
import Derived.Shelf.Strings.Builder1
import Derived.Shelf.Strings.Builder2
import Derived.Shelf.Strings.OnBuilder
import Derived.Shelf.Small.Bits
import Derived.Shelf.Small.Strs
import Derived.Shelf.Strconv.Itoa0
import Derived.Shelf.Strconv.Itoa1
import Derived.Shelf.LaysM
import Derived.Shelf.Strconv.Itoa2
import Derived.Shelf.Strconv.Itoa3
import Derived.Shelf.Strings.Search1
import Derived.Shelf.Strings.Search2
import Derived.Shelf.Strings.Search3
import Derived.Shelf.Strings.Cut
import Derived.Shelf.Strings.Count
import Derived.Shelf.Strings.Shaped
import Derived.Shelf.Sort.Plain
import Derived.Shelf.Strings.Split
import Derived.Shelf.Strings.Replace
import Derived.Shelf.Unicode.DecodeSlow
import Derived.Shelf.Unicode.DecodeAny
import Derived.Shelf.Slices.CompactS
import Derived.Shelf.Slices.Cells
import Derived.Shelf.Slices.In.SortNone
import Derived.Test.YtcfljnfaakjdjaaDoorProg
import Derived.Lib.SplitLaws
/- Chain regions where what a float reads need stay only as_ long as_ the float may still come. -/
namespace Go.Proofs.YtcfljnfaakjdjaaDoor
open Go Go.RowKit
section
variable {P : Program} {ops : Array Oper} {md : Region.Mode} {fl : Nat → Bool} {D : Nat → World → Prop} {Q : Act → World → Prop}
def DD (md : Region.Mode) (ops : Array Oper) (fl : Nat → Bool) (D : Nat → World → Prop) (j : Nat) (w : World) : Prop := ∀ k, fl k = true → reach md ops ops.size j k = false → D k w
def Hold (fl : Nat → Bool) (D : Nat → World → Prop) (listed : Array Bool) (w : World) : Prop := ∀ k, fl k = true → listed.getD k true = false → D k w
theorem Hold.set {listed : Array Bool} {w : World} (h : Hold fl D listed w) (j : Nat) : Hold fl D (listed.setIfInBounds j true) w := fun k hk hl => h k hk (by
  by_cases hjk : j = k
  · subst hjk
    rcases Nat.lt_or_ge j listed.size with h' | h'
    · simp [h'] at hl
    · simp at hl
  · rw [getD_set_ne true hjk] at hl; exact hl)
theorem DD.hold {listed : Array Bool} {w : World} {j : Nat} (h : DD md ops fl D j w) (hcl : Closed md ops listed) (hj : j ∈ Region.ready md ops listed) : Hold fl D (listed.setIfInBounds j true) w := fun k hk hl => by
  obtain ⟨hjun, oj, hoj, hall⟩ := mem_ready.1 hj
  have hku : listed.getD k true = false := by
    by_cases hjk : j = k
    · subst hjk
      rcases Nat.lt_or_ge j listed.size with h' | h'
      · simp [h'] at hl
      · simp at hl
    · rw [getD_set_ne true hjk] at hl; exact hl
  refine h k hk ?_
  cases hq : reach md ops ops.size j k with
  | false => rfl
  | true => exact absurd hall (not_listed_of_reach hcl (getD_both hku) ops.size j hq oj hoj)
theorem sRun_some2 {E : World → Prop} {o : Oper} {a : Act} {w : World} {K : Act → World → Prop} (hh : sRun P ops E o a w K) : ∃ u w', (E w' ∨ w' = w) ∧ K (a.put o.dst u) w' := by
  unfold sRun at hh
  split at hh
  · generalize (execOp a.eval o).run P w = r at hh
    cases r with
    | halt => exact hh.elim
    | ok x w' => cases x with
      | value v => exact ⟨v, w', .inl hh.1, hh.2⟩
      | skip => exact ⟨undef, w', .inl hh.1, hh.2⟩
      | enter f args =>
        obtain ⟨e, w2, fr, ⟨v, _, d, k⟩, _⟩ := hh []
        exact ⟨v, w2, .inl d, k⟩
      | _ => exact hh.elim
  · exact ⟨undef, w, .inr rfl, hh⟩
theorem sRun_mono2 {E : World → Prop} {o : Oper} {a : Act} {w : World} {K K' : Act → World → Prop} (h : ∀ a w, E w → K a w → K' a w) (h2 : ∀ a, K a w → K' a w) (hh : sRun P ops E o a w K) : sRun P ops E o a w K' := by
  unfold sRun at hh ⊢
  split
  · rename_i hw'
    rw [if_pos hw'] at hh
    generalize (execOp a.eval o).run P w = r at hh ⊢
    cases r with
    | halt => exact hh.elim
    | ok x w' => cases x with
      | value v => exact ⟨hh.1, h _ _ hh.1 hh.2⟩
      | skip => exact ⟨hh.1, h _ _ hh.1 hh.2⟩
      | enter f args => exact Calls.mono hh fun e w'' ⟨v, e1, d, k⟩ => ⟨v, e1, d, h _ _ d k⟩
      | _ => exact hh.elim
  · rename_i hw'
    rw [if_neg hw'] at hh
    exact h2 _ hh
def anyJ (P : Program) (md : Region.Mode) (ops : Array Oper) (fl : Nat → Bool) (D : Nat → World → Prop) (Q : Act → World → Prop) : Nat → Array Bool → Act → World → Prop
  | 0, listed, a, w => Region.ready md ops listed = [] ∧ Q a w
  | f + 1, listed, a, w => (Region.ready md ops listed = [] → Q a w) ∧ ∀ i ∈ Region.ready md ops listed, ∃ o, ops[i]? = some o ∧
      ((fl i = true ∧ ∃ v, fYld P ops (D i) o a v ∧ anyJ P md ops fl D Q f (listed.setIfInBounds i true) (a.put o.dst v) w) ∨
       (fl i = false ∧ sRun P ops (DD md ops fl D i) o a w fun a' w' => anyJ P md ops fl D Q f (listed.setIfInBounds i true) a' w'))
theorem any_of_anyJ {Q' : Post} (hQ : ∀ a w, Q a w → Q' .normal a w) : ∀ (f : Nat) (listed : Array Bool) (a : Act) (w : World), Hold fl D listed w → Closed md ops listed → anyJ P md ops fl D Q f listed a w → wpAny P md ops Q' f listed a w := by
  intro f
  induction f with
  | zero => intro listed a w _ _ h; exact ⟨h.1, hQ _ _ h.2⟩
  | succ f ih =>
    intro listed a w hw hcl h
    refine ⟨fun h0 => hQ _ _ (h.1 h0), fun i hi => ?_⟩
    obtain ⟨o, ho, h1⟩ := h.2 i hi
    rcases h1 with ⟨hf, v, hy, hn⟩ | ⟨_, hs⟩
    · unfold wpOp
      simp only [ho]
      rcases hy with ⟨hwn, hv⟩ | ⟨hwn, hv⟩
      · rw [if_pos hwn]
        refine .inl ?_
        unfold Oper.wp
        rw [hv w (hw i hf (mem_ready.1 hi).1)]
        exact ih _ _ _ (hw.set i) (hcl.set hi) hn
      · rw [if_neg (by simp [hwn])]
        subst hv
        exact ih _ _ _ (hw.set i) (hcl.set hi) hn
    · exact wp_of_sRun (D := DD md ops fl D i) ho (sRun_mono2 (fun a' w' hw' h' => ih _ _ _ (hw'.hold hcl hi) (hcl.set hi) h') (fun a' h' => ih _ _ _ (hw.set i) (hcl.set hi) h') hs)
theorem float_firstJ {i : Nat} {oi : Oper} {v : Value} (hi : ops[i]? = some oi) (hf : fl i = true) (hsel : ∀ (j : Nat) (o : Oper) cs b, ops[j]? = some o → o.op ≠ .select cs b) :
    ∀ (f : Nat) (listed : Array Bool) (a : Act) (w : World), Hold fl D listed w → Closed md ops listed →
      (∀ j oj, ops[j]? = some oj → j ≠ i → listed.getD j true = false → (∀ e ∈ oj.after, Region.binds md e = true → e.on ≠ i) → oi.apart ops oj = true) →
      i ∈ Region.ready md ops listed → fYld P ops (D i) oi a v → anyJ P md ops fl D Q f (listed.setIfInBounds i true) (a.put oi.dst v) w → anyJ P md ops fl D Q (f + 1) listed a w := by
  intro f
  induction f with
  | zero =>
    intro listed a w _ _ _ hr hy H
    refine ⟨fun h => (by rw [h] at hr; cases hr), fun j hj => ?_⟩
    by_cases hji : j = i
    · subst hji; exact ⟨oi, hi, .inl ⟨hf, v, hy, H⟩⟩
    · have := ready_mono hj hji
      rw [H.1] at this
      cases this
  | succ f ih =>
    intro listed a w hw hcl hfree hr hy H
    refine ⟨fun h => (by rw [h] at hr; cases hr), fun j hj => ?_⟩
    by_cases hji : j = i
    · subst hji; exact ⟨oi, hi, .inl ⟨hf, v, hy, H⟩⟩
    · obtain ⟨oj, hoj, h1⟩ := H.2 j (ready_mono hj hji)
      obtain ⟨hjun, oj', hoj', hall⟩ := mem_ready.1 hj
      obtain rfl : oj' = oj := Option.some.inj (hoj'.symm.trans hoj)
      have hnot : ∀ e ∈ oj'.after, Region.binds md e = true → e.on ≠ i := fun e he hb heq => by
        have := hall e he hb
        rw [heq, getD_both (mem_ready.1 hr).1] at this
        cases this
      have hap := hfree j oj' hoj hji hjun hnot
      have hfree' : ∀ k ok, ops[k]? = some ok → k ≠ i → (listed.setIfInBounds j true).getD k true = false → (∀ e ∈ ok.after, Region.binds md e = true → e.on ≠ i) → oi.apart ops ok = true := fun k ok hk hki hun hno => by
        refine hfree k ok hk hki ?_ hno
        by_cases hjk : j = k
        · subst hjk; exact hjun
        · rw [getD_set_ne true hjk] at hun; exact hun
      have hr' := ready_mono hr (Ne.symm hji)
      refine ⟨oj', hoj, ?_⟩
      rcases h1 with ⟨hfj, u, hyj, hn⟩ | ⟨hfj, hs⟩
      · refine .inl ⟨hfj, u, (fYld_put hap (fun cs b => hsel j oj' cs b hoj)).1 hyj, ih _ _ w (hw.set j) (hcl.set hj) hfree' hr' ((fYld_put' hap (fun cs b => hsel i oi cs b hi)).2 hy) ?_⟩
        rw [Array.setIfInBounds_comm _ _ hji, ← apart_symm_dst hap]
        exact hn
      · refine .inr ⟨hfj, ?_⟩
        have hs' := (sRun_put hap (fun cs b => hsel j oj' cs b hoj)).1 hs
        have key : ∀ a' w', Hold fl D (listed.setIfInBounds j true) w' → fYld P ops (D i) oi a' v → anyJ P md ops fl D Q f ((listed.setIfInBounds i true).setIfInBounds j true) (a'.put oi.dst v) w' → anyJ P md ops fl D Q (f + 1) (listed.setIfInBounds j true) a' w' := fun a' w' hw' hy' h' =>
          ih _ _ w' hw' (hcl.set hj) hfree' hr' hy' (by rw [Array.setIfInBounds_comm _ _ hji]; exact h')
        -- every outcome's frame is a with j's slot written
        have hput : ∀ u, fYld P ops (D i) oi (a.put oj'.dst u) v := fun u => (fYld_put' hap (fun cs b => hsel i oi cs b hi)).2 hy
        unfold sRun at hs' ⊢
        split
        · rename_i hwn
          rw [if_pos hwn] at hs'
          generalize (execOp a.eval oj').run P w = r at hs' ⊢
          cases r with
          | halt => exact hs'.elim
          | ok x w' => cases x with
            | value u => exact ⟨hs'.1, key _ _ (hs'.1.hold hcl hj) (hput u) hs'.2⟩
            | skip => exact ⟨hs'.1, key _ _ (hs'.1.hold hcl hj) (hput _) hs'.2⟩
            | enter g args => exact Calls.mono hs' fun e w'' ⟨u, e1, d, k⟩ => ⟨u, e1, d, key _ _ (d.hold hcl hj) (hput u) k⟩
            | _ => exact hs'.elim
        · rename_i hwn
          rw [if_neg hwn] at hs'
          exact key _ _ (hw.set j) (hput _) hs'

theorem seq_firstJ {i : Nat} {oi : Oper} (hi : ops[i]? = some oi) (hf : fl i = false) (hsel : ∀ (j : Nat) (o : Oper) cs b, ops[j]? = some o → o.op ≠ .select cs b) :
    ∀ (f : Nat) (listed : Array Bool) (a : Act) (w : World), Hold fl D listed w → Closed md ops listed →
      (∀ j oj, ops[j]? = some oj → j ≠ i → listed.getD j true = false → (∀ e ∈ oj.after, Region.binds md e = true → e.on ≠ i) → oi.apart ops oj = true) →
      (∀ j oj, ops[j]? = some oj → j ≠ i → listed.getD j true = false → fl j = true ∨ reach md ops ops.size j i = true) →
      i ∈ Region.ready md ops listed → sRun P ops (DD md ops fl D i) oi a w (fun a' w' => anyJ P md ops fl D Q f (listed.setIfInBounds i true) a' w') → anyJ P md ops fl D Q (f + 1) listed a w := by
  intro f
  induction f with
  | zero =>
    intro listed a w hw _ _ _ hr H
    refine ⟨fun h => (by rw [h] at hr; cases hr), fun j hj => ?_⟩
    by_cases hji : j = i
    · subst hji; exact ⟨oi, hi, .inr ⟨hf, H⟩⟩
    · obtain ⟨u, w', _, h⟩ := sRun_some2 H
      have := ready_mono hj hji
      rw [h.1] at this
      cases this
  | succ f ih =>
    intro listed a w hw hcl hfree hseq hr H
    refine ⟨fun h => (by rw [h] at hr; cases hr), fun j hj => ?_⟩
    by_cases hji : j = i
    · subst hji; exact ⟨oi, hi, .inr ⟨hf, H⟩⟩
    · obtain ⟨hjun, oj, hoj, hall⟩ := mem_ready.1 hj
      have hiun := getD_both (mem_ready.1 hr).1
      have hfj : fl j = true := by
        rcases hseq j oj hoj hji hjun with h | h
        · exact h
        · exact absurd hall (not_listed_of_reach hcl hiun ops.size j h oj hoj)
      have hnot : ∀ e ∈ oj.after, Region.binds md e = true → e.on ≠ i := fun e he hb heq => by
        have := hall e he hb
        rw [heq, hiun] at this
        cases this
      have hap := hfree j oj hoj hji hjun hnot
      have hsi := fun cs b => hsel i oi cs b hi
      have hsj := fun cs b => hsel j oj cs b hoj
      obtain ⟨u, w', hw', h⟩ := sRun_some2 H
      obtain ⟨oj2, hoj2, h2⟩ := h.2 j (ready_mono hj hji)
      obtain rfl : oj2 = oj := Option.some.inj (hoj2.symm.trans hoj)
      rcases h2 with ⟨_, v, hy, _⟩ | ⟨hno, _⟩
      · have hya : fYld P ops (D j) oj2 a v := (fYld_put hap hsj).1 hy
        refine ⟨oj2, hoj, .inl ⟨hfj, v, hya, ih _ _ w (hw.set j) (hcl.set hj) (fun k ok hk hki hun hno => hfree k ok hk hki ?_ hno) (fun k ok hk hki hun => hseq k ok hk hki ?_) (ready_mono hr (Ne.symm hji)) ?_⟩⟩
        · by_cases hjk : j = k
          · subst hjk; exact hjun
          · rw [getD_set_ne true hjk] at hun; exact hun
        · by_cases hjk : j = k
          · subst hjk; exact hjun
          · rw [getD_set_ne true hjk] at hun; exact hun
        · -- the others' run, with j's value already laid
          obtain ⟨g1, g2, g3⟩ := Oper.apart_spec hap
          have hc : ∀ u, (a.put oi.dst u).put oj2.dst v = (a.put oj2.dst v).put oi.dst u := fun u => Act.put_comm a u v g2
          have huniq : ∀ u2, fYld P ops (D j) oj2 (a.put oi.dst u2) v := fun u2 => (fYld_put hap hsj).2 hya
          have hnr : reach md ops ops.size i j = false := by
            cases hq : reach md ops ops.size i j with
            | false => rfl
            | true => exact absurd (mem_ready.1 hr).2 (fun ⟨oi', hoi', hall'⟩ => not_listed_of_reach hcl (getD_both hjun) ops.size i hq oi' hoi' hall')
          have key : ∀ u2 w2, D j w2 → anyJ P md ops fl D Q (f + 1) (listed.setIfInBounds i true) (a.put oi.dst u2) w2 → anyJ P md ops fl D Q f ((listed.setIfInBounds j true).setIfInBounds i true) ((a.put oj2.dst v).put oi.dst u2) w2 := fun u2 w2 hw2 hh => by
            obtain ⟨oj3, hoj3, h3⟩ := hh.2 j (ready_mono hj hji)
            obtain rfl : oj3 = oj2 := Option.some.inj (hoj3.symm.trans hoj)
            rcases h3 with ⟨_, v2, hy2, hn2⟩ | ⟨hno, _⟩
            · have hv : v2 = v := by
                have hu := huniq u2
                rcases hy2 with ⟨p1, p2⟩ | ⟨p1, p2⟩ <;> rcases hu with ⟨q1, q2⟩ | ⟨q1, q2⟩
                · have := (p2 w2 hw2).symm.trans (q2 w2 hw2)
                  simpa using this
                · rw [p1] at q1; cases q1
                · rw [p1] at q1; cases q1
                · rw [p2, q2]
              subst hv
              rw [Array.setIfInBounds_comm _ _ hji, ← hc]
              exact hn2
            · rw [hfj] at hno; cases hno
          unfold sRun at H ⊢
          rw [execOp_put oi hsi a oj2.dst v g3, wanted_put oi a oj2.dst v g3]
          split
          · rename_i hwn
            rw [if_pos hwn] at H
            generalize (execOp a.eval oi).run P w = r at H ⊢
            cases r with
            | halt => exact H.elim
            | ok x w' => cases x with
              | value u => exact ⟨H.1, key _ _ (H.1 j hfj hnr) H.2⟩
              | skip => exact ⟨H.1, key _ _ (H.1 j hfj hnr) H.2⟩
              | enter g args => exact Calls.mono H fun e w'' ⟨u, e1, d, k⟩ => ⟨u, e1, d, key _ _ (d j hfj hnr) k⟩
              | _ => exact H.elim
          · rename_i hwn
            rw [if_neg hwn] at H
            exact key _ _ (hw j hfj hjun) H
      · rw [hfj] at hno; cases hno

def wpJ (P : Program) (md : Region.Mode) (ops : Array Oper) (fl : Nat → Bool) (D : Nat → World → Prop) (Q : Act → World → Prop) : List Oper → Nat → Act → World → Prop
  | [], _, a, w => Q a w
  | o :: rest, k, a, w => bif fl k then ∃ v, fYld P ops (D k) o a v ∧ wpJ P md ops fl D Q rest (k + 1) (a.put o.dst v) w else sRun P ops (DD md ops fl D k) o a w fun a' w' => wpJ P md ops fl D Q rest (k + 1) a' w'
theorem anyJ_lex (hsel : Region.noSelect ops = true) : ∀ (l : List Oper) (k : Nat) (listed : Array Bool) (a : Act) (w : World), Hold fl D listed w → (∀ j, l[j]? = ops[k + j]?) → Closed md ops listed →
    Region.lexC md ops fl l.length k listed = true → wpJ P md ops fl D Q l k a w → anyJ P md ops fl D Q l.length listed a w := by
  intro l
  induction l with
  | nil =>
    intro k listed a w _ _ _ hB h
    exact ⟨by simpa [Region.lexC] using hB, h⟩
  | cons o l ih =>
    intro k listed a w hw hl hcl hB h
    have h0 : ops[k]? = some o := by simpa using (hl 0).symm
    have hl' : ∀ j, l[j]? = ops[(k + 1) + j]? := fun j => by have := hl (j + 1); simpa [Nat.add_assoc, Nat.add_comm 1 j] using this
    simp only [List.length_cons, Region.lexC, Bool.and_eq_true] at hB
    obtain ⟨⟨⟨hr, hf⟩, hs⟩, hB'⟩ := hB
    have hr' : k ∈ Region.ready md ops listed := by simpa using hr
    unfold wpJ at h
    cases hfl : fl k with
    | true =>
      rw [hfl] at h
      obtain ⟨v, hy, hn⟩ := h
      exact float_firstJ h0 hfl (Region.noSelect_spec hsel) l.length listed a w hw hcl (Region.free_spec h0 hf) hr' hy (ih (k + 1) _ _ w (hw.set k) hl' (hcl.set hr') hB' hn)
    | false =>
      rw [hfl] at h
      refine seq_firstJ h0 hfl (Region.noSelect_spec hsel) l.length listed a w hw hcl (Region.free_spec h0 hf) (fun j oj hj hji hun => ?_) hr' (sRun_mono2 (fun a' w' hw' h' => ih (k + 1) _ a' w' (hw'.hold hcl hr') hl' (hcl.set hr') hB' h') (fun a' h' => ih (k + 1) _ a' w (hw.set k) hl' (hcl.set hr') hB' h') h)
      rw [hfl] at hs
      simp only [Bool.false_or] at hs
      have hjl : j < ops.size := (Array.getElem?_eq_some_iff.1 hj).1
      have := List.all_eq_true.1 hs j (List.mem_range.2 hjl)
      simp only [Bool.or_eq_true] at this
      rcases this with ((h1 | h1) | h1) | h1
      · exact absurd (Nat.eq_of_beq_eq_true h1) hji
      · rw [hun] at h1; cases h1
      · exact .inl h1
      · exact .inr h1
theorem wp_region_chainJ {id : Nat} {Q' : Post} {a : Act} {w : World} {l : List Oper} (fl : Nat → Bool) (D : Nat → World → Prop) (hm : P.follows .mixedOrders = true) (hB : Region.chainOk .any l.toArray fl = true) (hD : ∀ k, fl k = true → D k { w with drawn := w.drawn + 1 })
    (h : wpJ P .any l.toArray fl D (fun a' w' => Q' .normal a' w') l 0 a { w with drawn := w.drawn + 1 }) : (Code.region id l.toArray true).wp P Q' a w := by
  simp only [Region.chainOk, Bool.and_eq_true] at hB
  refine wp_region_any hm ?_
  have hcl : Closed .any l.toArray (Array.replicate l.toArray.size false) := fun j oj _ hl => (by rw [getD_replicate_false] at hl; cases hl)
  have hh : Hold fl D (Array.replicate l.toArray.size false) { w with drawn := w.drawn + 1 } := fun k hk _ => hD k hk
  have := anyJ_lex (md := .any) (D := D) hB.1 l 0 (Array.replicate l.toArray.size false) a _ hh (by simp) hcl (by simpa using hB.2) h
  have h2 := any_of_anyJ (Q' := Q') (fun _ _ hq => hq) _ _ _ _ hh hcl this
  simpa using h2
end
/-! ## the judgement -/
def WJ (P : Program) (N : Nat) (ops : Array Oper) (fl : Nat → Bool) (D : Nat → World → Prop) (Q : Post) (l : List Oper) (k : Nat) (L : Slots) (w : World) : Prop :=
  ∀ a w1, Eqv w w1 → Has N L a → wpJ P .any ops fl D (fun a' w' => Q .normal a' w') l k a w1
section
variable {P : Program} {N : Nat} {ops : Array Oper} {fl : Nat → Bool} {D : Nat → World → Prop} {Q : Post} {L : Slots} {w : World} {k d : Nat} {op : Op} {ty : TypeId} {pos : String} {af : Array Edge} {rest : List Oper} {gd : Option (Nat × Bool)}
theorem WC.chainJ {i : Nat} {l : List Oper} (fl : Nat → Bool) (D : Nat → World → Prop) (hm : P.follows .mixedOrders = true) (hB : Region.chainOk .any l.toArray fl = true) (hE : ∀ k w', Eqv w w' → D k w') (h : WJ P N l.toArray fl D Q l 0 L w) : WC P N Q (.region i l.toArray true) L w := fun a _ e ha =>
  wp_region_chainJ fl D hm hB (fun k _ => hE k _ (e.drawn _)) (h a _ (e.drawn _) ha)
theorem WJ.nil (h : WX N Q .normal L w) : WJ P N ops fl D Q [] k L w := fun a w1 e ha => h a w1 e ha
theorem WJ.yw {v : Value} (hf : fl k = true) (hg : Wants N ops L gd) (hd : Nat.blt d N = true) (hy : ∀ w', D k w' → Yld P N w' ⟨some d, op, ty, pos, af, none⟩ L v) (h : WJ P N ops fl D Q rest (k + 1) ((d, v) :: L) w) :
    WJ P N ops fl D Q (⟨some d, op, ty, pos, af, gd⟩ :: rest) k L w := fun a w1 e ha => by
  unfold wpJ
  rw [hf]
  exact ⟨v, .inl ⟨Wants.wanted (o := ⟨some d, op, ty, pos, af, gd⟩) hg ha, fun w' hw' => hy w' hw' a w' (Eqv.refl _) ha⟩, h _ _ e (ha.put hd v)⟩
theorem WJ.y {v : Value} (hf : fl k = true) (hd : Nat.blt d N = true) (hy : ∀ w', D k w' → Yld P N w' ⟨some d, op, ty, pos, af, none⟩ L v) (h : WJ P N ops fl D Q rest (k + 1) ((d, v) :: L) w) :
    WJ P N ops fl D Q (⟨some d, op, ty, pos, af, none⟩ :: rest) k L w := WJ.yw hf wants_none hd hy h
theorem WJ.putw {R : Value → World → Prop} (hf : fl k = false) (hg : Wants N ops L gd) (hd : Nat.blt d N = true) (hr : Eff P N w ⟨some d, op, ty, pos, af, none⟩ L R) (hD : ∀ v w', R v w' → DD .any ops fl D k w')
    (hk : ∀ v w', R v w' → WJ P N ops fl D Q rest (k + 1) ((d, v) :: L) w') : WJ P N ops fl D Q (⟨some d, op, ty, pos, af, gd⟩ :: rest) k L w := fun a w1 e ha => by
  unfold wpJ
  rw [hf]
  show sRun _ _ _ _ _ _ _
  unfold sRun
  rw [if_pos (Wants.wanted (o := ⟨some d, op, ty, pos, af, gd⟩) hg ha)]
  obtain ⟨v, w', h, hR⟩ := hr a w1 e ha
  have h' : (execOp a.eval ⟨some d, op, ty, pos, af, gd⟩).run P w1 = .ok (.value v) w' := h
  rw [h']
  exact ⟨hD v w' hR, hk v w' hR _ w' (Eqv.refl _) (ha.put hd v)⟩
theorem WJ.call {R : Value → World → Prop} {g : FuncId} {as_ : List Operand} {ts : Array TypeId} {vs : List Value} (hf : fl k = false) (hg : Wants N ops L gd) (hd : Nat.blt d N = true) (hv : opvs L as_ = some vs) (hc : Fn P g ⟨vs⟩ w R) (hD : ∀ v w', R v w' → ∀ w2, Eqv w' w2 → DD .any ops fl D k w2)
    (hk : ∀ v w', R v w' → WJ P N ops fl D Q rest (k + 1) ((d, v) :: L) w') : WJ P N ops fl D Q (⟨some d, .call ⟨.value (.func g), ⟨as_⟩, ts⟩, ty, pos, af, gd⟩ :: rest) k L w := fun a w1 e ha => by
  unfold wpJ
  rw [hf]
  show sRun _ _ _ _ _ _ _
  unfold sRun
  rw [if_pos (Wants.wanted (o := ⟨some d, .call ⟨.value (.func g), ⟨as_⟩, ts⟩, ty, pos, af, gd⟩) hg ha), run_enter ha hv hc.1]
  refine (hc.2 w1 e).mono ?_
  rintro en w' ⟨v, w0, rfl, h0, hR⟩
  exact ⟨v, rfl, hD v w0 hR w' h0, hk v w0 hR _ w' h0 (ha.put hd v)⟩
theorem WJ.no {j d' : Nat} {t : Bool} (hj : (ops[j]?).bind (·.dst) = some d') (hN : Nat.blt d' N = true) (hb : lk L d' = some (.bool (!t))) (hd : Nat.blt d N = true) (h : WJ P N ops fl D Q rest (k + 1) ((d, undef) :: L) w) :
    WJ P N ops fl D Q (⟨some d, op, ty, pos, af, some (j, t)⟩ :: rest) k L w := fun a w1 e ha => by
  have hno : Region.wanted ⟨some d, op, ty, pos, af, some (j, t)⟩ (yielded ops a.tmps) = false := by
    have := yielded_of ha hj hN hb
    simp [Region.wanted, this]
  unfold wpJ
  cases hf : fl k with
  | true => exact ⟨undef, .inr ⟨hno, rfl⟩, h _ _ e (ha.put hd undef)⟩
  | false =>
    show sRun _ _ _ _ _ _ _
    unfold sRun
    rw [if_neg (by rw [hno]; simp)]
    exact h _ _ e (ha.put hd undef)
theorem WJ.eff {R : World → Prop} (hf : fl k = false) (hr : Ef0 P N w ⟨none, op, ty, pos, af, none⟩ L R) (hD : ∀ w', R w' → DD .any ops fl D k w') (hk : ∀ w', R w' → WJ P N ops fl D Q rest (k + 1) L w') :
    WJ P N ops fl D Q (⟨none, op, ty, pos, af, none⟩ :: rest) k L w := fun a w1 e ha => by
  unfold wpJ
  rw [hf]
  show sRun _ _ _ _ _ _ _
  unfold sRun
  rw [if_pos (by simp [Region.wanted])]
  obtain ⟨w', h, hR⟩ := hr a w1 e ha
  rw [h]
  exact ⟨hD w' hR, hk w' hR _ w' (Eqv.refl _) ha⟩
/-- the floats of lo read what I tells of -/
def LD (lo : List Nat) (I : World → Prop) (k : Nat) (w : World) : Prop := lo.contains k = true → I w
theorem DD.past {lo : List Nat} {I : World → Prop} {w' : World} (h : lo.all (fun k => reach .any ops ops.size d k) = true) : DD .any ops fl (LD lo I) d w' := fun k _ hr hk => by
  have := List.all_eq_true.1 h k (by simpa using hk)
  rw [hr] at this
  cases this
theorem DD.keep {lo : List Nat} {I : World → Prop} {w' : World} (h : I w') : DD .any ops fl (LD lo I) d w' := fun _ _ _ _ => h
end
end Go.Proofs.YtcfljnfaakjdjaaDoor
 /- An element's address: in whatever world. -/
namespace Go.Proofs.YtcfljnfaakjdjaaDoor
open Go Go.RowKit
section
variable {P : Program} {T : Tab} {N : Nat} {L : Slots} {w w0 : World} {ty : TypeId} {pos : String} {af : Array Edge} {t : TypeId} {x i : Operand} {k : IntKind} {q : Int} {α : Type} {f : α → Value} {A : Option Addr} {c n : Nat} {xs : List α}
theorem Yld.iaddrW {dd : Option Tmp} {e : TypeId} (hT : T.Ok P) (hR : Rd f w0 A c xs) (hs : nk T.sl t = some (e, 1)) (hx : opv L x = some (.slice A n c)) (hn : n = xs.length) (hi : opv L i = some (.int k q)) (h0 : 0 ≤ q) (h1 : q < n) :
    Yld P N w ⟨dd, .indexAddr t x i, ty, pos, af, none⟩ L (.pointer (A.map (·.add q.toNat))) := fun a w1 _ ha => by
  obtain ⟨hu, j, hj, hj1⟩ := hT.sl hs
  obtain ⟨ad, rfl, _⟩ := hR.cells (fun e => by rw [e] at hn; simp at hn; omega)
  unfold execOp
  simp [ha.ev hx, ha.ev hi, Instr.indexAt, run_underlying hu, asIntOf, h0, h1, sizeOf, typeInfo, hj, hj1]
theorem Yld.iaddrNW {dd : Option Tmp} {e : TypeId} {j : Nat} (hT : T.Ok P) (hR : Rd f w0 A c xs) (hs : nk T.sl t = some (e, 1)) (hx : opv L x = some (.slice A n c)) (hn : n = xs.length) (hi : opv L i = some (.int k (j : Int))) (h1 : j < n) :
    Yld P N w ⟨dd, .indexAddr t x i, ty, pos, af, none⟩ L (.pointer (A.map (·.add j))) := by
  have := Yld.iaddrW (N := N) (w := w) (dd := dd) (ty := ty) (pos := pos) (af := af) hT hR hs hx hn hi (by omega) (by omega)
  rwa [Int.toNat_natCast] at this
variable {y : Operand} {us : List Value} {e : TypeId} {B : Nat}
theorem Ef0.store1 {g o : Nat} {u : Value} (h1 : sz1 P t = true) (hx : opv L x = some (.pointer (some ⟨g, o, none⟩))) (hy : opv L y = some u) (hu : u.oneCell' = true) (hB : Bl w g e us) (ho : o < us.length) :
    Ef0 P N w ⟨none, .store t x y, ty, pos, af, none⟩ L (fun w' => Bl w' g e (us.set o u) ∧ w.grownBy w' (some g)) := fun a w1 hw ha => by
  have hB1 := bl_eqv hw hB
  unfold sz1 at h1
  split at h1
  · rename_i j hj
    refine ⟨_, ?_, bl_set (o := o) (u := u) hB1, eqv_gr hw (gr_set w1 ⟨g, o, none⟩ u)⟩
    unfold execOp
    simp only [ha.ev hx, ha.ev hy, Sem.run_bind, run_store1 hB1 ho hu hj (Nat.eq_of_beq_eq_true h1), Result.andThen_ok, Sem.run_pure]
  · cases h1
theorem Ef0.ostore {j : Nat} {v : α} (h1 : sz1 P t = true) (hf : One f) (hO : Own f w B e A c xs) (hx : opv L x = some (.pointer (A.map (·.add j)))) (hy : opv L y = some (f v)) (hj : j < xs.length) :
    Ef0 P N w ⟨none, .store t x y, ty, pos, af, none⟩ L (fun w' => Own f w' B e A c (xs.set j v) ∧ w.grownBy w' (blk A)) := fun a w1 hw ha => by
  unfold Own at hO
  rcases hO.2 with ⟨hv, hn⟩ | ⟨g, cap, cur, hv, hb, hg, hnc, hcm, hcs, htake⟩
  · omega
  · simp only [Value.slice.injEq] at hv
    obtain ⟨rfl, _, rfl⟩ := hv
    obtain ⟨w', hr, hB', hgr⟩ := Ef0.store1 (P := P) (N := N) (ty := ty) (pos := pos) (af := af) (g := g) (o := j) (e := e) (us := cur.toList) (u := f v) h1 (by rw [hx]; simp [Addr.add_mid]) hy (hf v) (by unfold Bl; exact hg) (by have : cur.size = c * 1 := hcs; rw [Array.length_toList]; omega) a w1 hw ha
    refine ⟨w', hr, ?_, hgr⟩
    unfold Own
    refine ⟨by simp, .inr ⟨g, c, _, by simp, hb, hB', by simpa using hnc, hcm, by simpa using hcs, ?_⟩⟩
    simp only [List.length_set, List.map_set]
    rw [List.take_set, ← htake]
end
section
variable {P : Program} {N : Nat} {ops : Array Oper} {Q : Post} {L : Slots} {w : World} {ty : TypeId} {pos : String} {af : Array Edge} {rest : List Oper} {op : Op} {j d' d k : Nat} {t : Bool}
theorem not_wanted_undef {o : Oper} {a : Act} (hg : o.guard = some (j, t)) (hj : (ops[j]?).bind (·.dst) = some d') (hN : Nat.blt d' N = true) (hb : lk L d' = some undef) (ha : Has N L a) : Region.wanted o (yielded ops a.tmps) = false := by
  have h1 : d' < a.tmps.size := by rw [ha.size]; simpa [Nat.blt_eq] using hN
  have h2 := ha.get d' _ hb
  have h3 : a.tmps[d'] = undef := by rw [← h2]; simp [Array.getD, h1]
  have h4 : yielded ops a.tmps j = none := by
    unfold yielded
    rw [hj]
    simp only [Option.bind_some, Array.getElem?_eq_getElem h1, h3]
    rfl
  simp [Region.wanted, hg, h4]
/-- the guard itself was not reached -/
theorem WL.gun (hj : (ops[j]?).bind (·.dst) = some d') (hN : Nat.blt d' N = true) (hb : lk L d' = some undef) (hd : Nat.blt d N = true) (h : WL P N ops Q rest ((d, undef) :: L) w) :
    WL P N ops Q (⟨some d, op, ty, pos, af, some (j, t)⟩ :: rest) L w := fun a w1 e ha => by
  refine wpList_step fun K hK => ?_
  rw [if_neg (by rw [not_wanted_undef (o := ⟨some d, op, ty, pos, af, some (j, t)⟩) rfl hj hN hb ha]; simp)]
  exact hK _ _ (h _ _ e (ha.put hd undef))
theorem WQ.gun {K : Act → Prop} (hj : (ops[j]?).bind (·.dst) = some d') (hN : Nat.blt d' N = true) (hb : lk L d' = some undef) (hd : Nat.blt d N = true) (h : WQ P N ops K rest ((d, undef) :: L) w) :
    WQ P N ops K (⟨some d, op, ty, pos, af, some (j, t)⟩ :: rest) L w := fun a ha => by
  refine wpQuiet_step fun K' hK => ?_
  rw [if_neg (by rw [not_wanted_undef (o := ⟨some d, op, ty, pos, af, some (j, t)⟩) rfl hj hN hb ha]; simp)]
  exact hK _ (h _ (ha.put hd undef))
theorem WJ.gun {fl : Nat → Bool} {D : Nat → World → Prop} (hj : (ops[j]?).bind (·.dst) = some d') (hN : Nat.blt d' N = true) (hb : lk L d' = some undef) (hd : Nat.blt d N = true) (h : WJ P N ops fl D Q rest (k + 1) ((d, undef) :: L) w) :
    WJ P N ops fl D Q (⟨some d, op, ty, pos, af, some (j, t)⟩ :: rest) k L w := fun a w1 e ha => by
  have hno := not_wanted_undef (o := ⟨some d, op, ty, pos, af, some (j, t)⟩) rfl hj hN hb ha
  unfold wpJ
  cases hf : fl k with
  | true => exact ⟨undef, .inr ⟨hno, rfl⟩, h _ _ e (ha.put hd undef)⟩
  | false =>
    show sRun _ _ _ _ _ _ _
    unfold sRun
    rw [if_neg (by rw [hno]; simp)]
    exact h _ _ e (ha.put hd undef)
end
theorem WL.weaken {P : Program} {N : Nat} {ops : Array Oper} {Q : Post} {L L' : Slots} {w : World} {l : List Oper} (hs : Sub L L') (h : WL P N ops Q l L' w) : WL P N ops Q l L w := fun a w1 e ha => h a w1 e (ha.sub hs)
/-- a piece of code that comes to one frame in the same world: what stands behind is walked once -/
theorem WC.seqW {P : Program} {N : Nat} {Q : Post} {L : Slots} {w : World} {x y : Code} (L' : Slots) (h1 : ∀ Q' : Post, WX N Q' .normal L' w → WC P N Q' x L w) (h2 : WC P N Q y L' w) : WC P N Q (.seq x y) L w := WC.seq (h1 _ (WX.then_normal h2))
/-- .. or to one kind of frame and world -/
theorem WC.seqI {P : Program} {N : Nat} {Q : Post} {L : Slots} {w : World} {x y : Code} {S : Type} (Ls : S → Slots) (I : S → World → Prop) (h1 : ∀ Q' : Post, (∀ s w', I s w' → WX N Q' .normal (Ls s) w') → WC P N Q' x L w) (h2 : ∀ s w', I s w' → WC P N Q y (Ls s) w') : WC P N Q (.seq x y) L w := WC.seq (h1 _ fun s w' h => WX.then_normal (h2 s w' h))
end Go.Proofs.YtcfljnfaakjdjaaDoor
 /- A quick check of a drawn region's chain: who waits for whom, as_ sets of bits. -/
namespace Go.Proofs.YtcfljnfaakjdjaaDoor
open Go Go.RowKit
theorem reach_mono {md : Region.Mode} {ops : Array Oper} : ∀ (f g j k : Nat), f ≤ g → reach md ops f j k = true → reach md ops g j k = true
  | 0, _, _, _, _, h => by simp [reach] at h
  | f + 1, 0, _, _, hg, _ => by omega
  | f + 1, g + 1, j, k, hg, h => by
    unfold reach at h ⊢
    cases ho : ops[j]? with
    | none => rw [ho] at h; cases h
    | some oj =>
      rw [ho] at h
      simp only at h ⊢
      obtain ⟨e, he, h2⟩ := Array.any_eq_true'.1 h
      refine Array.any_eq_true'.2 ⟨e, he, ?_⟩
      simp only [Bool.and_eq_true, Bool.or_eq_true] at h2 ⊢
      exact ⟨h2.1, h2.2.imp id (fun h3 => reach_mono f g _ _ (by omega) h3)⟩
def emask (md : Region.Mode) (acc : List Nat) : List Edge → Nat
  | [] => 0
  | e :: es => bif Region.binds md e then Nat.lor (Nat.lor (Nat.shiftLeft 1 e.on) (acc.getD e.on 0)) (emask md acc es) else emask md acc es
def maskL (md : Region.Mode) : List Oper → List Nat → List Nat
  | [], acc => acc
  | o :: l, acc => maskL md l (acc ++ [emask md acc o.after.toList])
theorem emask_spec {md : Region.Mode} {acc : List Nat} : ∀ {es : List Edge} {k : Nat}, (emask md acc es).testBit k = true → ∃ e ∈ es, Region.binds md e = true ∧ (e.on = k ∨ (acc.getD e.on 0).testBit k = true)
  | [], k, h => by simp [emask] at h
  | e :: es, k, h => by
    unfold emask at h
    cases hb : Region.binds md e with
    | false =>
      rw [hb] at h
      obtain ⟨e', he', h'⟩ := emask_spec (by simpa using h)
      exact ⟨e', by simp [he'], h'⟩
    | true =>
      rw [hb] at h
      simp only [cond_true] at h
      have h : ((1 <<< e.on ||| acc.getD e.on 0) ||| emask md acc es).testBit k = true := h
      rw [Nat.testBit_or, Nat.testBit_or, Bool.or_eq_true, Bool.or_eq_true] at h
      rcases h with (h | h) | h
      · refine ⟨e, by simp, hb, .inl ?_⟩
        rw [Nat.testBit_shiftLeft] at h
        simp only [Bool.and_eq_true, decide_eq_true_eq, ge_iff_le] at h
        have h2 := h.2
        rw [Nat.testBit_one_eq_true_iff_self_eq_zero] at h2
        omega
      · exact ⟨e, by simp, hb, .inr h⟩
      · obtain ⟨e', he', h'⟩ := emask_spec h
        exact ⟨e', by simp [he'], h'⟩
def MaskOk (md : Region.Mode) (ops : Array Oper) (acc : List Nat) : Prop := ∀ j k, (acc.getD j 0).testBit k = true → reach md ops (j + 1) j k = true
def backL (md : Region.Mode) : Nat → List Oper → Bool
  | _, [] => true
  | k, o :: l => o.after.toList.all (fun e => !Region.binds md e || Nat.blt e.on k) && backL md (k + 1) l
theorem maskL_ok {md : Region.Mode} {ops : Array Oper} : ∀ (l : List Oper) (acc : List Nat), (∀ j, l[j]? = ops[acc.length + j]?) → backL md acc.length l = true → MaskOk md ops acc → MaskOk md ops (maskL md l acc) ∧ (maskL md l acc).length = acc.length + l.length
  | [], acc, _, _, h => ⟨h, by simp [maskL]⟩
  | o :: l, acc, hl, hb, h => by
    have h0 : ops[acc.length]? = some o := by simpa using (hl 0).symm
    simp only [backL, Bool.and_eq_true] at hb
    have ih := maskL_ok l (acc ++ [emask md acc o.after.toList]) (fun j => by
      have := hl (j + 1)
      simp only [List.getElem?_cons_succ, List.length_append, List.length_singleton] at this ⊢
      rw [this]; congr 1; omega) (by simpa using hb.2) (fun j k hj => by
      rcases Nat.lt_trichotomy j acc.length with hlt | heq | hgt
      · rw [List.getD_eq_getElem?_getD, List.getElem?_append_left hlt, ← List.getD_eq_getElem?_getD] at hj
        exact h j k hj
      · subst heq
        have : (acc ++ [emask md acc o.after.toList]).getD acc.length 0 = emask md acc o.after.toList := by simp [List.getD]
        rw [this] at hj
        obtain ⟨e, he, hbind, h3⟩ := emask_spec hj
        unfold reach
        rw [h0]
        refine Array.any_eq_true'.2 ⟨e, by simpa using he, ?_⟩
        simp only [Bool.and_eq_true, Bool.or_eq_true]
        refine ⟨hbind, h3.imp (fun h => by rw [h]; exact Nat.beq_refl _) (fun h3 => ?_)⟩
        have hlt : e.on < acc.length := by
          have := List.all_eq_true.1 hb.1 e he
          simpa [hbind, Nat.blt_eq] using this
        exact reach_mono _ _ _ _ (by omega) (h e.on k h3)
      · rw [List.getD_eq_getElem?_getD, List.getElem?_eq_none (by simp; omega)] at hj
        simp at hj)
    refine ⟨ih.1, ?_⟩
    have h5 := ih.2
    have e5 : maskL md (o :: l) acc = maskL md l (acc ++ [emask md acc o.after.toList]) := rfl
    rw [e5, h5]
    simp only [List.length_append, List.length_cons, List.length_nil]
    omega
def flAll (fl : Nat → Bool) (k : Nat) : Nat → List Nat → Bool
  | _, [] => true
  | j, m :: ms => (fl j || Nat.testBit m k) && flAll fl k (j + 1) ms
theorem flAll_spec {fl : Nat → Bool} {k : Nat} : ∀ {ms : List Nat} {j i : Nat}, flAll fl k j ms = true → i < ms.length → fl (j + i) = true ∨ (ms.getD i 0).testBit k = true
  | [], _, _, _, h => by simp at h
  | m :: ms, j, 0, h, _ => by simp only [flAll, Bool.and_eq_true, Bool.or_eq_true] at h; simpa using h.1
  | m :: ms, j, i + 1, h, hi => by
    simp only [flAll, Bool.and_eq_true, Bool.or_eq_true] at h
    have := flAll_spec h.2 (i := i) (by simpa using hi)
    rw [show j + (i + 1) = j + 1 + i by omega]
    simpa using this
def lex2 (md : Region.Mode) (ops : Array Oper) (fl : Nat → Bool) : Nat → List Oper → List Nat → Bool
  | _, [], [] => true
  | k, o :: rest, _ :: ms => rest.all (fun oj => oj.after.any (fun e => Region.binds md e && e.on == k) || o.apart ops oj) && ((fl k || flAll fl k (k + 1) ms) && lex2 md ops fl (k + 1) rest ms)
  | _, _, _ => false
theorem lexC_of {md : Region.Mode} {ops : Array Oper} {fl : Nat → Bool} {M : List Nat} (hM : MaskOk md ops M) (hlen : M.length = ops.size) : ∀ (l : List Oper) (k : Nat) (listed : Array Bool), listed.size = ops.size → (∀ j, j < ops.size → ∀ b, listed.getD j b = decide (j < k)) → (∀ j, l[j]? = ops[k + j]?) → k + l.length = ops.size →
    backL md k l = true → lex2 md ops fl k l (M.drop k) = true → Region.lexC md ops fl l.length k listed = true
  | [], k, listed, hs, hlis, hl, hk, hb, h => by
    simp only [List.length_nil, Region.lexC, Nat.add_zero] at *
    rw [List.isEmpty_iff, Region.ready, List.filter_eq_nil_iff]
    intro i hi
    rw [List.mem_range] at hi
    simp [hlis i hi true, hk, hi]
  | o :: rest, k, listed, hs, hlis, hl, hk, hb, h => by
    have h0 : ops[k]? = some o := by simpa using (hl 0).symm
    have hkn : k < ops.size := by simp at hk; omega
    have hdrop : M.drop k = M.getD k 0 :: M.drop (k + 1) := by
      rw [List.drop_eq_getElem_cons (by omega)]
      simp [List.getD, List.getElem?_eq_getElem (by omega : k < M.length)]
    rw [hdrop] at h
    simp only [lex2, Bool.and_eq_true] at h
    obtain ⟨hap, hfl, hrest⟩ := h
    simp only [backL, Bool.and_eq_true] at hb
    simp only [List.length_cons, Region.lexC, Bool.and_eq_true]
    have hrj : ∀ j, k < j → ∀ oj, ops[j]? = some oj → oj ∈ rest := fun j hj oj hoj => by
      have := hl (j - k)
      rw [show k + (j - k) = j by omega, hoj, show j - k = (j - k - 1) + 1 by omega, List.getElem?_cons_succ] at this
      exact List.mem_of_getElem? this
    refine ⟨⟨⟨?_, ?_⟩, ?_⟩, ?_⟩
    · rw [List.contains_iff_mem, mem_ready]
      refine ⟨by rw [hlis k hkn]; simp, o, h0, fun e he hbe => ?_⟩
      have := List.all_eq_true.1 hb.1 e (by simpa using he)
      simp only [hbe, Bool.not_true, Bool.false_or, Nat.blt_eq] at this
      rw [hlis e.on (by omega)]
      simpa using this
    · simp only [Region.free, h0, List.all_eq_true, List.mem_range]
      intro j hj
      rcases Nat.lt_trichotomy j k with hlt | heq | hgt
      · rw [hlis j hj]; simp [hlt]
      · simp [heq]
      · have hoj : ops[j]? = some ops[j] := Array.getElem?_eq_getElem hj
        rw [hoj]
        have := List.all_eq_true.1 hap _ (hrj j hgt _ hoj)
        show (j == k || listed.getD j true || ((ops[j].after.any fun e => Region.binds md e && e.on == k) || Oper.apart ops o ops[j])) = true
        rw [this]; simp
    · rcases Bool.or_eq_true _ _ ▸ hfl with h1 | h1
      · rw [h1]; rfl
      · rw [Bool.or_eq_true]; right
        rw [List.all_eq_true]
        intro j hj
        rw [List.mem_range] at hj
        rcases Nat.lt_trichotomy j k with hlt | heq | hgt
        · rw [hlis j hj]; simp [hlt]
        · simp [heq]
        · have h3 := flAll_spec h1 (i := j - (k + 1)) (by rw [List.length_drop]; omega)
          rw [show k + 1 + (j - (k + 1)) = j by omega] at h3
          rcases h3 with h3 | h3
          · rw [h3]; simp
          · have h4 : (M.getD j 0).testBit k = true := by
              rw [List.getD_eq_getElem?_getD, List.getElem?_drop, show k + 1 + (j - (k + 1)) = j by omega] at h3
              rwa [List.getD_eq_getElem?_getD]
            rw [reach_mono _ _ _ _ (by omega) (hM j k h4)]; simp
    · refine lexC_of hM hlen rest (k + 1) (listed.setIfInBounds k true) (by simp [hs]) (fun j hj b => ?_) (fun j => ?_) (by simp at hk; omega) hb.2 hrest
      · rcases Nat.lt_trichotomy j k with hlt | heq | hgt
        · rw [getD_set_ne b (by omega), hlis j hj]; simp [hlt]; omega
        · subst heq; simp [Array.getD, hs, hj]
        · rw [getD_set_ne b (by omega), hlis j hj]
          rw [decide_eq_decide]; omega
      · have := hl (j + 1)
        simp only [List.getElem?_cons_succ] at this
        rw [this]; congr 1; omega
def chain2 (md : Region.Mode) (l : List Oper) (fl : Nat → Bool) : Bool := Region.noSelect l.toArray && (backL md 0 l && lex2 md l.toArray fl 0 l (maskL md l []))
theorem chain2_ok {md : Region.Mode} {l : List Oper} {fl : Nat → Bool} (h : chain2 md l fl = true) : Region.chainOk md l.toArray fl = true := by
  simp only [chain2, Bool.and_eq_true] at h
  obtain ⟨h1, h2, h3⟩ := h
  obtain ⟨hM, hlen⟩ := maskL_ok (ops := l.toArray) l [] (fun j => by simp) h2 (fun j k hj => by simp at hj)
  unfold Region.chainOk
  rw [h1, Bool.true_and]
  exact lexC_of (l := l) hM (by simpa using hlen) 0 _ (by simp) (fun j hj b => by simp at hj; simp [Array.getD, hj]) (fun j => by simp) (by simp) h2 (by simpa using h3)
section
variable {P : Program} {N : Nat} {Q : Post} {L : Slots} {w : World}
theorem WC.chainF {i : Nat} {l : List Oper} (fl : Nat → Bool) (D : Nat → World → Prop) (hm : P.follows .mixedOrders = true) (hB : chain2 .any l fl = true) (hE : ∀ k w', Eqv w w' → D k w') (h : WJ P N l.toArray fl D Q l 0 L w) : WC P N Q (.region i l.toArray true) L w := WC.chainJ fl D hm (chain2_ok hB) hE h
end
end Go.Proofs.YtcfljnfaakjdjaaDoor
 /- The generator's rules: joins and loops over any number of ghosts; objects that lie apart; guards by an equation; results in a row. -/
namespace Go.Proofs.YtcfljnfaakjdjaaDoor
open Go Go.RowKit
/-! ## the plain side: loops as_ 'there is an invariant and a measure' -/
def Lp1 {A : Type} (b : A → (A → Prop) → Prop) (a : A) : Prop := ∃ (I : A → Prop) (mu : A → Nat), I a ∧ ∀ a, I a → b a fun a' => I a' ∧ mu a' < mu a
def Lp2 {A B : Type} (b : A → B → (A → B → Prop) → Prop) (x : A) (y : B) : Prop := ∃ (I : A → B → Prop) (mu : A → B → Nat), I x y ∧ ∀ x y, I x y → b x y fun x' y' => I x' y' ∧ mu x' y' < mu x y
def Lp3 {A B C : Type} (b : A → B → C → (A → B → C → Prop) → Prop) (x : A) (y : B) (z : C) : Prop := ∃ (I : A → B → C → Prop) (mu : A → B → C → Nat), I x y z ∧ ∀ x y z, I x y z → b x y z fun x' y' z' => I x' y' z' ∧ mu x' y' z' < mu x y z
def Lp4 {A B C D : Type} (b : A → B → C → D → (A → B → C → D → Prop) → Prop) (x : A) (y : B) (z : C) (u : D) : Prop := ∃ (I : A → B → C → D → Prop) (mu : A → B → C → D → Nat), I x y z u ∧ ∀ x y z u, I x y z u → b x y z u fun x' y' z' u' => I x' y' z' u' ∧ mu x' y' z' u' < mu x y z u
def Lp5 {A B C D E : Type} (b : A → B → C → D → E → (A → B → C → D → E → Prop) → Prop) (x : A) (y : B) (z : C) (u : D) (v : E) : Prop := ∃ (I : A → B → C → D → E → Prop) (mu : A → B → C → D → E → Nat), I x y z u v ∧ ∀ x y z u v, I x y z u v → b x y z u v fun x' y' z' u' v' => I x' y' z' u' v' ∧ mu x' y' z' u' v' < mu x y z u v
def Lp6 {A B C D E F : Type} (b : A → B → C → D → E → F → (A → B → C → D → E → F → Prop) → Prop) (x : A) (y : B) (z : C) (u : D) (v : E) (s : F) : Prop := ∃ (I : A → B → C → D → E → F → Prop) (mu : A → B → C → D → E → F → Nat), I x y z u v s ∧ ∀ x y z u v s, I x y z u v s → b x y z u v s fun x' y' z' u' v' s' => I x' y' z' u' v' s' ∧ mu x' y' z' u' v' s' < mu x y z u v s
def vB (b : Bool) : Value := .bool b
theorem One.B : One vB := fun _ => rfl
/-- what lies at p is not what lies at q -/
def Dj (p q : Option Nat) : Prop := ∀ g, p = some g → q ≠ some g
theorem Dj.symm {p q : Option Nat} (h : Dj p q) : Dj q p := fun g hq hp => h g hp hq
def Dn {α : Type} (xs : List α) (p q : Option Nat) : Prop := xs ≠ [] → Dj p q
theorem Dn.of {α : Type} {xs : List α} {p q : Option Nat} (h : Dj p q) : Dn xs p q := fun _ => h
theorem Dn.sub {α β : Type} {xs : List α} {ys : List β} {p p' q : Option Nat} (h : Dn xs p q) (hx : ys ≠ [] → xs ≠ []) (hb : ∀ g, p' = some g → p = some g) : Dn ys p' q := fun hy g hg => h (hx hy) g (hb g hg)
theorem Dj.nl {q : Option Nat} : Dj none q := fun _ h => by cases h
theorem Dj.nr {q : Option Nat} : Dj q none := fun _ _ h => by cases h
theorem Dn.nr {α : Type} {xs : List α} {q : Option Nat} : Dn xs q none := fun _ => Dj.nr
/-- old and new -/
def Lt (p : Option Nat) (n : Nat) : Prop := ∀ g, p = some g → g < n
def Ge (p : Option Nat) (n : Nat) : Prop := ∀ g, p = some g → n ≤ g
theorem Dj.new {p q : Option Nat} {n : Nat} (h : Lt p n) (k : Ge q n) : Dj p q := fun g hp hq => by have := h g hp; have := k g hq; omega
theorem Dn.new {α : Type} {xs : List α} {p q : Option Nat} {n : Nat} (h : xs ≠ [] → Lt p n) (k : Ge q n) : Dn xs p q := fun hx => Dj.new (h hx) k
/-- what grew of p stays apart from q -/
theorem Dj.app {p p' q : Option Nat} {n : Nat} (h : Dj p q) (hq : Lt q n) (k : ∀ g, p' = some g → p = some g ∨ n ≤ g) : Dj p' q := fun g hp hqg => by
  rcases k g hp with h1 | h1
  · exact h g h1 hqg
  · have := hq g hqg; omega
theorem Dn.app {α : Type} {xs : List α} {r p p' : Option Nat} {n : Nat} (h : Dn xs r p) (hq : xs ≠ [] → Lt r n) (k : ∀ g, p' = some g → p = some g ∨ n ≤ g) : Dn xs r p' := fun hx => ((h hx).symm.app (hq hx) k).symm
theorem Lt.box {g n : Nat} (h : g < n) : Lt (some g) n := fun _ e => by cases e; exact h
theorem Ge.box {g n : Nat} (h : n ≤ g) : Ge (some g) n := fun _ e => by cases e; exact h
section
variable {α : Type} {f : α → Value} {w w' w0 : World} {A : Option Addr} {c B g : Nat} {xs : List α} {e : TypeId} {us : List Value} {row : Option Nat}
theorem Bl.lt' (h : Bl w g e us) : Lt (some g) w.heap.size := Lt.box h.lt
theorem Own.lt' (h : Own f w B e A c xs) : Lt (blk A) w.heap.size := fun _ hg => (h.lt hg).2
theorem Own.ge' (h : Own f w B e A c xs) : Ge (blk A) B := fun _ hg => (h.lt hg).1
theorem Rd.lt' (h : Rd f w A c xs) (hx : xs ≠ []) : Lt (blk A) w.heap.size := fun _ hg => h.lt hx hg
theorem Bl.go (h : Bl w g e us) (hg : w.grownBy w' row) (hd : Dj (some g) row) : Bl w' g e us := h.keep hg fun e => hd g rfl e
theorem Own.go (h : Own f w B e A c xs) (hg : w.grownBy w' row) (hd : Dj (blk A) row) : Own f w' B e A c xs := h.keep hg fun g e k => hd g k e
theorem Rd.go (h : Rd f w A c xs) (hg : w.grownBy w' row) (hd : Dn xs (blk A) row) : Rd f w' A c xs := h.keep' hg fun hx g e k => hd hx g k e
theorem Bl.g0 (h : Bl w g e us) (hg : w.grownBy w' none) : Bl w' g e us := h.keep hg (by simp)
theorem cell_g0 {p : Addr} {v : Value} (h : w.cell? p = some v) (hg : w.grownBy w' none) : w'.cell? p = some v := by
  have hlt := World.block_lt_of_cell? w _ h
  have := hg.block p.block hlt (by simp)
  unfold World.cell? at h ⊢
  rw [this]; exact h
/-- a write to what the call made itself -/
theorem gr_mod (h : w0.grownBy w none) (k : w.grownBy w' row) (hn : Ge row w0.heap.size) : w0.grownBy w' none := by
  cases row with
  | none => exact gr_trans h k
  | some g => exact gr_new h k (hn g rfl)
theorem size_le (h : w.grownBy w' row) : w.heap.size ≤ w'.heap.size := h.size
theorem Ge.none {n : Nat} : Ge Option.none n := fun _ h => by cases h
theorem Ge.le {p : Option Nat} {m n : Nat} (h : Ge p n) (k : m ≤ n) : Ge p m := fun g hg => Nat.le_trans k (h g hg)
end
/-! ## joins and loops -/
section
variable {P : Program} {N : Nat} {Q : Post} {L : Slots} {w : World}
theorem WC.midF {x : Code} (F : Slots → World → Prop) (h2 : ∀ L' w', F L' w' → WX N Q .normal L' w') (h1 : (∀ L' w', F L' w' → WX N Q .normal L' w') → WC P N Q x L w) : WC P N Q x L w := h1 h2
theorem WC.loopF {k : Code} (F : Nat → Slots → World → Prop) (n0 : Nat) (L0 : Slots) (h0 : F n0 L0 w) (hL : Sub L L0)
    (round : ∀ n L w, F n L w → WC P N (Exit.then (fun a' w' => ∃ n' L' w0, F n' L' w0 ∧ Eqv w0 w' ∧ Has N L' a' ∧ n' < n) Q) k L w) : WC P N Q (.loop k) L w :=
  WC.loopG (S := Nat × Slots) (fun s a' w' => ∃ n' L' w0, F n' L' w0 ∧ Eqv w0 w' ∧ Has N L' a' ∧ n' < s.1) (fun s => s.1) (fun s => s.2) (fun s => F s.1 s.2)
    (fun _ _ _ ⟨n', L', w0, h⟩ => ⟨(n', L'), w0, h⟩) (n0, L0) h0 hL (fun s w h => round s.1 s.2 w h)
theorem WX.roundF {F : Nat → Slots → World → Prop} {n n' : Nat} (L' : Slots) (hI : F n' L' w) (hL : Sub L L') (hm : n' < n) :
    WX N (Exit.then (fun a' w' => ∃ n' L' w0, F n' L' w0 ∧ Eqv w0 w' ∧ Has N L' a' ∧ n' < n) Q) .normal L w := fun _ _ e ha => ⟨n', L', w, hI, e, ha.sub hL, hm⟩
theorem WC.cut {c : Code} {L' : Slots} (hs : Sub L L') (h : WC P N Q c L' w) : WC P N Q c L w := h.weaken hs
end
theorem all1n : ∀ u ∈ ([] : List Value), u.oneCell' = true := fun _ h => by cases h
theorem all1c {u : Value} {us : List Value} (h : u.oneCell' = true) (t : ∀ v ∈ us, v.oneCell' = true) : ∀ v ∈ u :: us, v.oneCell' = true := fun v hv => by
  rcases List.mem_cons.1 hv with rfl | hv
  · exact h
  · exact t v hv
/-! ## guards -/
theorem okb {e t : Bool} (h : e = t) : some (Value.bool e) = some (Value.bool t) := by rw [h]
section
variable {P : Program} {T : Tab} {N : Nat} {L : Slots} {w : World} {ty : TypeId} {pos : String} {af : Array Edge} {dd : Option Tmp} {t t' : TypeId} {x y c i : Operand} {k : IntKind} {q : Int}
theorem Yld.pickT {u : Value} (hc : opv L c = some (.bool true)) (hx : opv L x = some u) : Yld P N w ⟨dd, .pick c x y, ty, pos, af, none⟩ L u := fun a w1 _ ha => by
  unfold execOp
  simp only [ha.ev hc, ha.ev hx, Sem.run_bind, asBool, Sem.run_pure, Result.andThen_ok]
  rfl
theorem Yld.pickF {u : Value} (hc : opv L c = some (.bool false)) (hy : opv L y = some u) : Yld P N w ⟨dd, .pick c x y, ty, pos, af, none⟩ L u := fun a w1 _ ha => by
  unfold execOp
  simp only [ha.ev hc, ha.ev hy, Sem.run_bind, asBool, Sem.run_pure, Result.andThen_ok]
  rfl
theorem Yld.scutF (hT : T.Ok P) {lo : Operand} {p : List UInt8} {u : Unit} {l : Int} (ht : nk T.str t = some u) (hx : opv L x = some (.string ⟨⟨p⟩⟩)) (hl : optv L (some lo) 0 = some l) (h0 : 0 ≤ l) (h1 : l ≤ p.length) : Yld P N w ⟨dd, .slice t x (some lo) none none, ty, pos, af, none⟩ L (.string ⟨⟨p.drop l.toNat⟩⟩) := by
  have h := Yld.scut (P := P) (N := N) (w := w) (d := dd) (ty := ty) (pos := pos) (af := af) hT ht hx hl (hi := none) (h := (p.length : Int)) rfl h0 h1 (by omega)
  have e : (p.drop l.toNat).take ((p.length : Int).toNat - l.toNat) = p.drop l.toNat := List.take_of_length_le (by simp)
  rw [e] at h
  exact h
end
section
variable {P : Program} {T : Tab} {N : Nat} {L : Slots} {w : World} {ty : TypeId} {pos : String} {af : Array Edge} {dd : Option Tmp} {t : TypeId} {x : Operand} {k : IntKind} {q : Int}
theorem Yld.neg (hT : T.Ok P) (hx : opv L x = some (.int k q)) (hi : In k (0 - q)) : Yld P N w ⟨dd, .unOp .neg t x, ty, pos, af, none⟩ L (.int k (0 - q)) := by
  have h := Yld.pure (P := P) (T := T) (L := L) (N := N) (w := w) (d := dd) (ty := ty) (pos := pos) (af := af) hT (op := .unOp .neg t x) (v := .int k (k.wrap (0 - q))) (by simp only [pv, hx, o1, pvUn])
  rw [In.wrap hi] at h
  exact h
end
/-! ## small facts -/
theorem nd_true {p : Prop} [Decidable p] (h : (!decide p) = true) : ¬ p := by simpa using h
theorem nd_false {p : Prop} [Decidable p] (h : (!decide p) = false) : p := by simpa using h
theorem iltN {α : Type} {xs : List α} {i : Int} {n : Nat} (h : 0 ≤ i ∧ i < (n : Int)) (hn : n = xs.length) : i.toNat < xs.length := by omega
theorem applen {a b c : Nat} (h : (a + b) * (c + 1) ≤ 140737488355328) : a + b ≤ maxLen := by
  have : (a + b) * 1 ≤ (a + b) * (c + 1) := Nat.mul_le_mul_left _ (by omega)
  simp only [maxLen]; omega
theorem ne_take {α : Type} {xs : List α} {n : Nat} (h : xs.take n ≠ []) : xs ≠ [] := fun e => h (by rw [e]; simp)
theorem ne_drop {α : Type} {xs : List α} {n : Nat} (h : xs.drop n ≠ []) : xs ≠ [] := fun e => h (by rw [e]; simp)
theorem ne_cut {α : Type} {xs : List α} {n m : Nat} (h : (xs.drop n).take m ≠ []) : xs ≠ [] := fun e => h (by rw [e]; simp)
theorem byte_eq {k : IntKind} {e : Int} (h : 0 ≤ e ∧ e ≤ 255) : some (Value.int k e) = some (Value.int k ((UInt8.ofNat e.toNat).toNat : Int)) := by
  have : ((UInt8.ofNat e.toNat).toNat : Int) = e := by rw [UInt8.toNat_ofNat']; omega
  rw [this]
theorem byte_eq' {e : Int} (h : 0 ≤ e ∧ e ≤ 255) : Value.int .u8 e = vb (UInt8.ofNat e.toNat) := by
  have : ((UInt8.ofNat e.toNat).toNat : Int) = e := by rw [UInt8.toNat_ofNat']; omega
  unfold vb; rw [this]
/-! ## where a result lies: new, or where an argument lies -/
def Orig (ne : Prop) (p : Option Nat) (n : Nat) (ps : List (Prop × Option Nat)) : Prop := ne → ∀ g, p = some g → n ≤ g ∨ ∃ x, List.Mem x ps ∧ x.1 ∧ x.2 = some g
def OrAll (Q : Prop → Option Nat → Prop) (ps : List (Prop × Option Nat)) : Prop := ∀ x, List.Mem x ps → Q x.1 x.2
theorem orN {Q : Prop → Option Nat → Prop} : OrAll Q [] := fun _ h => by cases h
theorem orC {Q : Prop → Option Nat → Prop} {a : Prop} {b : Option Nat} {ps : List (Prop × Option Nat)} (h : Q a b) (t : OrAll Q ps) : OrAll Q ((a, b) :: ps) := fun x hx => by
  cases hx with
  | head => exact h
  | tail _ hx => exact t x hx
theorem Orig.apart {α : Type} {ys : List α} {p z : Option Nat} {n : Nat} {ps : List (Prop × Option Nat)} (h : Orig (ys ≠ []) p n ps) (hz : Lt z n) (hs : OrAll (fun ne q => ne → Dj q z) ps) : Dn ys p z := fun hy g hg hzg => by
  rcases h hy g hg with h1 | ⟨x, hx, hne, hxg⟩
  · have := hz g hzg; omega
  · exact hs x hx hne g hxg hzg
theorem Orig.par {ne : Prop} {p : Option Nat} {n : Nat} {ps : List (Prop × Option Nat)} (h : List.Mem (ne, p) ps) : Orig ne p n ps := fun hn _ hg => .inr ⟨_, h, hn, hg⟩
theorem Orig.new {ne : Prop} {p : Option Nat} {n : Nat} {ps : List (Prop × Option Nat)} (h : Ge p n) : Orig ne p n ps := fun _ g hg => .inl (h g hg)
theorem Orig.sub {ne ne' : Prop} {p p' : Option Nat} {n : Nat} {ps : List (Prop × Option Nat)} (h : Orig ne p n ps) (hx : ne' → ne) (hb : ∀ g, p' = some g → p = some g) : Orig ne' p' n ps := fun hn g hg => h (hx hn) g (hb g hg)
theorem Orig.trans {ne : Prop} {p : Option Nat} {n m : Nat} {ps qs : List (Prop × Option Nat)} (h : Orig ne p n qs) (hm : m ≤ n) (hs : OrAll (fun ne q => Orig ne q m ps) qs) : Orig ne p m ps := fun hn g hg => by
  rcases h hn g hg with h1 | ⟨x, hx, hne, hxg⟩
  · exact .inl (by omega)
  · exact hs x hx hne g hxg
section
variable {P : Program} {T : Tab} {N : Nat} {ops : Array Oper} {Q : Post} {L : Slots} {w : World} {rest : List Oper} {d : Nat} {ty : TypeId} {pos : String} {af : Array Edge} {t t' : TypeId} {x y i : Operand} {k k' : IntKind} {q : Int}
variable {α : Type} {f : α → Value} {A : Option Addr} {c n B : Nat} {xs ys : List α} {e : TypeId}
theorem WL.cutF {e : TypeId} {lo : Operand} {l : Int} (hT : T.Ok P) (hR : Rd f w A c xs) (hd : Nat.blt d N = true) (hs : nk T.sl t = some (e, 1)) (hx : opv L x = some (.slice A n c)) (hn : n = xs.length) (hl : optv L (some lo) 0 = some l) (h0 : 0 ≤ l) (h1 : l ≤ (n : Int))
    (hk : ∀ A' c', Rd f w A' c' (xs.drop l.toNat) → (∀ g, blk A' = some g → blk A = some g) → WL P N ops Q rest ((d, .slice A' (xs.drop l.toNat).length c') :: L) w) : WL P N ops Q (⟨some d, .slice t x (some lo) none none, ty, pos, af, none⟩ :: rest) L w := by
  refine WL.cut (h := (n : Int)) hT hR hd hs hx hn hl rfl h0 h1 (Int.le_refl _) (fun A' c' => ?_)
  have e : (xs.drop l.toNat).take ((n : Int).toNat - l.toNat) = xs.drop l.toNat := List.take_of_length_le (by simp; omega)
  rw [e]
  exact hk A' c'
theorem WL.makeZI {q : Int} {z : α} {b : Nat} (hT : T.Ok P) (hd : Nat.blt d N = true) (hs : nk T.ow t = some (e, b)) (hz : zeroOf P e = some [f z]) (hx : opv L x = some (.int k q)) (hy : opv L y = some (.int k' q)) (h0 : 0 ≤ q) (hm : q * (b : Int) ≤ 140737488355328) (h63 : q ≤ 140737488355328) (hB : B ≤ w.heap.size)
    (hk : ∀ g w', Own f w' B e (some ⟨g, 0, none⟩) q.toNat (List.replicate q.toNat z) → w.grownBy w' none → w.heap.size ≤ g → WL P N ops Q rest ((d, .slice (some ⟨g, 0, none⟩) q.toNat q.toNat) :: L) w') :
    WL P N ops Q (⟨some d, .makeSlice t x y, ty, pos, af, none⟩ :: rest) L w := by
  have e1 : ((q.toNat : Nat) : Int) = q := Int.toNat_of_nonneg h0
  have e2 : q.toNat * b ≤ 140737488355328 := by
    have : ((q.toNat * b : Nat) : Int) ≤ 140737488355328 := by rw [Int.natCast_mul, e1]; exact hm
    omega
  exact WL.makeZ hT hd hs hz (by rw [e1]; exact hx) (by rw [e1]; exact hy) e2 (by omega) hB hk
theorem WL.makeCI {q : Int} {b : Nat} (hT : T.Ok P) (hd : Nat.blt d N = true) (hs : nk T.ow t = some (e, b)) (hx : opv L x = some (.int k 0)) (hy : opv L y = some (.int k' q)) (h0 : 0 ≤ q) (hm : q * (b : Int) ≤ 140737488355328) (h63 : q ≤ 140737488355328) (hB : B ≤ w.heap.size)
    (hk : ∀ g w', Own f w' B e (some ⟨g, 0, none⟩) q.toNat [] → w.grownBy w' none → w.heap.size ≤ g → WL P N ops Q rest ((d, .slice (some ⟨g, 0, none⟩) 0 q.toNat) :: L) w') :
    WL P N ops Q (⟨some d, .makeSlice t x y, ty, pos, af, none⟩ :: rest) L w := by
  have e1 : ((q.toNat : Nat) : Int) = q := Int.toNat_of_nonneg h0
  have e2 : q.toNat * b ≤ 140737488355328 := by
    have : ((q.toNat * b : Nat) : Int) ≤ 140737488355328 := by rw [Int.natCast_mul, e1]; exact hm
    omega
  exact WL.makeC hT hd hs hx (by rw [e1]; exact hy) e2 (by omega) hB hk
/-! ## in the midst of a region -/
theorem WL.midF {l : List Oper} (m : Nat) (F : Slots → World → Prop) (h2 : ∀ L' w', F L' w' → WL P N ops Q (l.drop m) L' w') (h1 : (∀ L' w', F L' w' → WL P N ops Q (l.drop m) L' w') → WL P N ops Q l L w) : WL P N ops Q l L w := h1 h2
theorem WQ.midF {K : Act → Prop} {l : List Oper} (m : Nat) (F : Slots → World → Prop) (h2 : ∀ L' w', F L' w' → WQ P N ops K (l.drop m) L' w') (h1 : (∀ L' w', F L' w' → WQ P N ops K (l.drop m) L' w') → WQ P N ops K l L w) : WQ P N ops K l L w := h1 h2
theorem WJ.midF {fl : Nat → Bool} {D : Nat → World → Prop} {l : List Oper} {j : Nat} (m : Nat) (F : Slots → World → Prop) (h2 : ∀ L' w', F L' w' → WJ P N ops fl D Q (l.drop m) (j + m) L' w') (h1 : (∀ L' w', F L' w' → WJ P N ops fl D Q (l.drop m) (j + m) L' w') → WJ P N ops fl D Q l j L w) : WJ P N ops fl D Q l j L w := h1 h2
theorem WQ.weaken {K : Act → Prop} {l : List Oper} {L' : Slots} (hs : Sub L L') (h : WQ P N ops K l L' w) : WQ P N ops K l L w := fun a ha => h a (ha.sub hs)
theorem WJ.weaken {fl : Nat → Bool} {D : Nat → World → Prop} {l : List Oper} {j : Nat} {L' : Slots} (hs : Sub L L') (h : WJ P N ops fl D Q l j L' w) : WJ P N ops fl D Q l j L w := fun a w1 e ha => h a w1 e (ha.sub hs)
end
theorem Bl.cast {w : World} {g : Nat} {e : TypeId} {us vs : List Value} (h : us = vs) (hB : Bl w g e us) : Bl w g e vs := h ▸ hB
theorem lnil {α : Type} {f : α → Value} : ([] : List Value) = [].map f := rfl
theorem lcons {α : Type} {f : α → Value} {v : Value} {l : List Value} {x : α} {xs : List α} (h : v = f x) (t : l = xs.map f) : v :: l = (x :: xs).map f := by rw [h, t]; rfl
end Go.Proofs.YtcfljnfaakjdjaaDoor
 /- A pointer or an interface's value held against nil. -/
namespace Go.Proofs.YtcfljnfaakjdjaaDoor
open Go Go.RowKit
section
variable {P : Program} {N : Nat} {L : Slots} {w : World} {ty : TypeId} {pos : String} {af : Array Edge} {dd : Option Tmp} {t t' : TypeId} {x : Operand}
theorem Yld.peqnil {e : TypeId} {y : Operand} {p : Option Addr} (h : P.underlying t = some (.pointer e)) (hx : opv L x = some (.pointer p)) (hy : opv L y = some (.pointer none)) : Yld P N w ⟨dd, .binOp .eql t x y t', ty, pos, af, none⟩ L (.bool p.isNone) := fun a w1 _ ha => by
  refine exec_bin (ha.ev hx) (ha.ev hy) (by unfold eqGuard; rfl) ?_
  have h : (Op.equal t (.pointer p) (.pointer none)).run P w1 = .ok p.isNone w1 := run_equal_of fun d => by
    cases p <;> simp [Op.equalIn, run_underlying h]
  simp [binOp, h]
theorem Yld.ieqnil0 {ms : Array (String × TypeId)} {y : Value} (h : P.underlying t = some (.interface ms)) (hx : opv L x = some .nilIface) (hy : y = .nilIface) : Yld P N w ⟨dd, .binOp .eql t x (.const y) t', ty, pos, af, none⟩ L (.bool true) := fun a w1 _ ha => by
  subst hy
  refine exec_bin (ha.ev hx) rfl ?_ ?_
  · unfold eqGuard; cases x <;> rfl
  have h : (Op.equal t .nilIface .nilIface).run P w1 = .ok true w1 := run_equal_of fun d => by
    simp [Op.equalIn, run_underlying h]
  have ec : a.eval (.const .nilIface) = .nilIface := rfl
  simp [binOp, h, ec]
theorem Yld.ieqnil1 {ms : Array (String × TypeId)} {y u : Value} {tx : TypeId} (h : P.underlying t = some (.interface ms)) (hx : opv L x = some (.iface tx u)) (hy : y = .nilIface) : Yld P N w ⟨dd, .binOp .eql t x (.const y) t', ty, pos, af, none⟩ L (.bool false) := fun a w1 _ ha => by
  subst hy
  refine exec_bin (ha.ev hx) rfl ?_ ?_
  · unfold eqGuard; cases x <;> rfl
  have h : (Op.equal t (.iface tx u) .nilIface).run P w1 = .ok false w1 := run_equal_of fun d => by
    simp [Op.equalIn, run_underlying h]
  have ec : a.eval (.const .nilIface) = .nilIface := rfl
  simp [binOp, h, ec]
end
end Go.Proofs.YtcfljnfaakjdjaaDoor
 /- Errors, as_ plain data: none, one of api's variables, or one of them with a place. -/
namespace Go.Proofs.YtcfljnfaakjdjaaDoor
open Go Go.RowKit
inductive Er where
  | ok
  | e (n : Nat)
  | at_ (pos : Int) (n : Nat)
  deriving DecidableEq, Inhabited
/-- the variables of api, by their numbers -/
def eglob : List (Option Nat) := [some 4, some 5, some 6, some 7, some 8, some 0, some 9, some 10, some 11, some 12, some 13, some 1, some 14, some 15, some 16, some 17, some 18]
def etext : List (List UInt8) := [[108, 101, 120], [112, 97, 114, 115, 101], [114, 101, 115, 111, 108, 118, 101], [100, 121, 110, 97, 109, 105, 99], [99, 121, 99, 108, 101], [118, 105, 115, 105, 98, 105, 108, 105, 116, 121], [97, 110, 97, 108, 121, 115, 105, 115], [108, 105, 109, 105, 116], [109, 105, 115, 115, 105, 110, 103], [116, 111, 111, 32, 109, 97, 110, 121], [110, 111, 32, 115, 117, 99, 104, 32, 107, 105, 110, 100], [110, 111, 32, 112, 97, 116, 104], [110, 111, 116, 32, 116, 104, 101, 32, 115, 104, 97, 112, 101, 32, 116, 104, 97, 116, 32, 105, 116, 32, 104, 97, 115, 32, 116, 111, 32, 104, 97, 118, 101], [105, 116, 32, 101, 110, 100, 115, 32, 116, 111, 111, 32, 101, 97, 114, 108, 121], [97, 32, 110, 117, 109, 98, 101, 114, 32, 111, 117, 116, 32, 111, 102, 32, 105, 116, 115, 32, 114, 97, 110, 103, 101], [116, 104, 101, 32, 112, 111, 119, 101, 114, 32, 104, 97, 115, 32, 103, 111, 110, 101], [105, 116, 32, 104, 97, 115, 32, 102, 97, 105, 108, 101, 100]]
/-- v is the value of api's variable n -/
structure ErV (w : World) (v : Value) (n : Nat) : Prop where
  ex : ∃ g t a, eglob[n]? = some (some g) ∧ etext[n]? = some t ∧ w.cell? ⟨g, 0, none⟩ = some v ∧ v = .iface 214 (.pointer (some a)) ∧ w.cell? a = some (vs t) ∧ ∃ c e, w.heap[a.block]? = some (.cells c e (0, 0))
def ErrR (S : List Nat) (w : World) (v : Value) : Er → Prop
  | .ok => v = .nilIface
  | .e n => ErV w v n ∧ n ∈ S
  | .at_ pos n => ∃ b u, v = .iface 83 (.pointer (some ⟨b, 0, none⟩)) ∧ Bl w b 85 [.int .i64 pos, u] ∧ ErV w u n ∧ n ∈ S
/-- the variables hold what they were laid with -/
structure GOK (S : List Nat) (w : World) : Prop where
  er : ∀ n ∈ S, n < 17 → ∃ v, ErV w v n
  /-- 100: a variable of the library's own holds some number -/
  ml : 100 ∈ S → ∃ m, w.cell? ⟨2, 0, none⟩ = some (.int .i64 m)
  /-- 101: a table of the library's own is as_ it was laid -/
  p10 : 101 ∈ S → Lib.TabIs Tryd.prog w "internal/strconv.uint64pow10" .u64 Lib.pow10Tab
theorem tab_grown {P : Program} {nm : String} {k : IntKind} {w w' : World} {zs : List Int} (h : Lib.TabIs P w nm k zs) (hg : w.grownBy w' none) : Lib.TabIs P w' nm k zs := by
  unfold Lib.TabIs World.var? at h ⊢
  obtain ⟨o, ho⟩ : ∃ o, P.globalNamed nm = o := ⟨_, rfl⟩
  rw [ho] at h ⊢
  cases o with
  | none => cases h
  | some g =>
    simp only [Option.bind_some] at h ⊢
    have hlt : g < w.heap.size := by
      rcases Nat.lt_or_ge g w.heap.size with h' | h'
      · exact h'
      · rw [Array.getElem?_eq_none h'] at h; cases h
    rw [hg.block g hlt (by simp)]
    exact h
variable {S : List Nat}
theorem ErV.grown {w w' : World} {v : Value} {n : Nat} (h : ErV w v n) (hg : w.grownBy w' none) : ErV w' v n := by
  obtain ⟨g, t, a, h1, h2, h3, h4, h5⟩ := h
  obtain ⟨h5, c, e, h6⟩ := h5
  exact ⟨g, t, a, h1, h2, cell_g0 h3 hg, h4, cell_g0 h5 hg, c, e, (hg.block a.block (World.block_lt_of_cell? w _ h5) (by simp)).trans h6⟩
theorem ErV.uniq {w : World} {u v : Value} {n : Nat} (h : ErV w u n) (k : ErV w v n) : u = v := by
  obtain ⟨g, t, a, h1, h2, h3, h4, h5⟩ := h
  obtain ⟨g', t', a', k1, k2, k3, k4, k5⟩ := k
  have e1 := Option.some.inj (Option.some.inj (h1.symm.trans k1))
  subst e1
  exact Option.some.inj (h3.symm.trans k3)
theorem ErV.lt {w : World} {v : Value} {n : Nat} (h : ErV w v n) : n < 17 := by
  obtain ⟨g, t, a, h1, _⟩ := h
  have := (List.getElem?_eq_some_iff.1 h1).1
  simpa [eglob] using this
/-- two of the variables hold unlike values -/
theorem ErV.inj {w : World} {v : Value} {n m : Nat} (h : ErV w v n) (k : ErV w v m) : n = m := by
  have hn := h.lt
  have hm := k.lt
  obtain ⟨g, t, a, h1, h2, h3, h4, h5⟩ := h
  obtain ⟨g', t', a', k1, k2, k3, k4, k5⟩ := k
  have e := h4.symm.trans k4
  simp only [Value.iface.injEq, true_and, Value.pointer.injEq, Option.some.injEq] at e
  subst e
  have e2 := Option.some.inj (h5.1.symm.trans k5.1)
  simp only [vs, Value.string.injEq, ByteArray.mk.injEq, Array.mk.injEq] at e2
  subst e2
  have key : (List.range 17).all (fun i => (List.range 17).all fun j => !(decide (etext[i]? = etext[j]?)) || decide (i = j)) = true := by decide +kernel
  have k6 := List.all_eq_true.1 (List.all_eq_true.1 key n (by simpa using hn)) m (by simpa using hm)
  rw [h2, k2] at k6
  simpa using k6
theorem ErV.back {w w' : World} {v : Value} {n : Nat} (h : ErV w' v n) (hS : n ∈ S) (hG : GOK S w) (hg : w.grownBy w' none) : ErV w v n := by
  obtain ⟨u, hu⟩ := hG.er n hS h.lt
  rw [ErV.uniq h (hu.grown hg)]
  exact hu
theorem ErV.iface {w : World} {v : Value} {n : Nat} (h : ErV w v n) : ∃ a, v = .iface 214 (.pointer (some a)) := by
  obtain ⟨g, t, a, h1, h2, h3, h4, h5⟩ := h
  exact ⟨a, h4⟩
theorem ErrR.grown {w w' : World} {v : Value} {e : Er} (h : ErrR S w v e) (hg : w.grownBy w' none) : ErrR S w' v e := by
  cases e with
  | ok => exact h
  | e n => exact ⟨ErV.grown h.1 hg, h.2⟩
  | at_ pos n =>
    obtain ⟨b, u, h1, h2, h3, h4⟩ := h
    exact ⟨b, u, h1, h2.g0 hg, h3.grown hg, h4⟩
theorem ErrR.eqv {w w' : World} {v : Value} {e : Er} (h : ErrR S w v e) (hg : Eqv w w') : ErrR S w' v e := h.grown (gr_eqv (gr_refl w none) hg)
/-- behind a write to a block of another kind -/
theorem ErrR.go {w0 w w' : World} {v : Value} {e : Er} {g : Nat} {t : TypeId} {us : List Value} (h : ErrR S w v e) (hG : GOK S w0) (h0 : w0.grownBy w none) (hg : w.grownBy w' (some g)) (h1 : w0.grownBy w' none) (hB : Bl w g t us) (ht : Nat.beq t 85 = false) : ErrR S w' v e := by
  cases e with
  | ok => exact h
  | e n => exact ⟨(ErV.back h.1 h.2 hG h0).grown h1, h.2⟩
  | at_ pos n =>
    obtain ⟨b, u, k1, k2, k3, k4⟩ := h
    refine ⟨b, u, k1, k2.keep hg (fun e => ?_), (ErV.back k3 k4 hG h0).grown h1, k4⟩
    injection e with e
    subst e
    exact Bl.ne k2 hB (fun e => Nat.ne_of_beq_eq_false ht e.symm) rfl
/-- behind a write to a slice of one's own -/
theorem ErrR.goO {α : Type} {f : α → Value} {w0 w w' : World} {v : Value} {e : Er} {t B c : Nat} {A : Option Addr} {xs : List α} (h : ErrR S w v e) (hG : GOK S w0) (h0 : w0.grownBy w none) (hg : w.grownBy w' (blk A)) (h1 : w0.grownBy w' none) (hO : Own f w B t A c xs) (ht : Nat.beq t 85 = false) : ErrR S w' v e := by
  rcases hO.2 with ⟨hv, _⟩ | ⟨g, cap, cur, hv, _, hb, _⟩
  · simp only [Value.slice.injEq] at hv
    obtain ⟨rfl, _⟩ := hv
    exact h.grown hg
  · simp only [Value.slice.injEq] at hv
    obtain ⟨rfl, _⟩ := hv
    exact ErrR.go (g := g) (us := cur.toList) h hG h0 hg h1 hb ht
theorem ErrR.one {w : World} {v : Value} {e : Er} (h : ErrR S w v e) : v.oneCell' = true := by
  cases e with
  | ok => rw [show v = .nilIface from h]; rfl
  | e n => obtain ⟨a, rfl⟩ := ErV.iface h.1; rfl
  | at_ pos n => obtain ⟨b, u, rfl, _⟩ := h; rfl
theorem ErrR.okR {w : World} : ErrR S w .nilIface .ok := rfl
theorem GOK.grown {w w' : World} (h : GOK S w) (hg : w.grownBy w' none) : GOK S w' := ⟨fun n hn hl => by
  obtain ⟨v, hv⟩ := h.er n hn hl
  exact ⟨v, hv.grown hg⟩, fun hn => by
  obtain ⟨m, hm⟩ := h.ml hn
  exact ⟨m, cell_g0 hm hg⟩, fun hn => tab_grown (h.p10 hn) hg⟩
section
variable {P : Program} {N : Nat} {L : Slots} {w w0 : World} {ty : TypeId} {pos : String} {af : Array Edge} {dd : Option Tmp} {t t' : TypeId} {x : Operand}
theorem Yld.inenil0 {ms : Array (String × TypeId)} {y : Value} (h : P.underlying t = some (.interface ms)) (hx : opv L x = some .nilIface) (hy : y = .nilIface) : Yld P N w ⟨dd, .binOp .neq t x (.const y) t', ty, pos, af, none⟩ L (.bool false) := fun a w1 _ ha => by
  subst hy
  refine exec_bin (ha.ev hx) rfl ?_ ?_
  · unfold eqGuard; cases x <;> rfl
  have h : (Op.equal t .nilIface .nilIface).run P w1 = .ok true w1 := run_equal_of fun d => by
    simp [Op.equalIn, run_underlying h]
  have ec : a.eval (.const .nilIface) = .nilIface := rfl
  simp [binOp, h, ec]
theorem Yld.inenil1 {ms : Array (String × TypeId)} {y u : Value} {tx : TypeId} (h : P.underlying t = some (.interface ms)) (hx : opv L x = some (.iface tx u)) (hy : y = .nilIface) : Yld P N w ⟨dd, .binOp .neq t x (.const y) t', ty, pos, af, none⟩ L (.bool true) := fun a w1 _ ha => by
  subst hy
  refine exec_bin (ha.ev hx) rfl ?_ ?_
  · unfold eqGuard; cases x <;> rfl
  have h : (Op.equal t (.iface tx u) .nilIface).run P w1 = .ok false w1 := run_equal_of fun d => by
    simp [Op.equalIn, run_underlying h]
  have ec : a.eval (.const .nilIface) = .nilIface := rfl
  simp [binOp, h, ec]
theorem Yld.erreql {ms : Array (String × TypeId)} {v : Value} {e : Er} (h : P.underlying t = some (.interface ms)) (hE : ErrR S w0 v e) (hx : opv L x = some v) : Yld P N w ⟨dd, .binOp .eql t x (.const .nilIface) t', ty, pos, af, none⟩ L (.bool (decide (e = .ok))) := by
  cases e with
  | ok => rw [show v = .nilIface from hE] at hx; exact Yld.ieqnil0 h hx rfl
  | e n => obtain ⟨a, rfl⟩ := ErV.iface hE.1; exact Yld.ieqnil1 h hx rfl
  | at_ p n => obtain ⟨b, u, rfl, _⟩ := hE; exact Yld.ieqnil1 h hx rfl
theorem Yld.errneq {ms : Array (String × TypeId)} {v : Value} {e : Er} (h : P.underlying t = some (.interface ms)) (hE : ErrR S w0 v e) (hx : opv L x = some v) : Yld P N w ⟨dd, .binOp .neq t x (.const .nilIface) t', ty, pos, af, none⟩ L (.bool (!decide (e = .ok))) := by
  cases e with
  | ok => rw [show v = .nilIface from hE] at hx; exact Yld.inenil0 h hx rfl
  | e n => obtain ⟨a, rfl⟩ := ErV.iface hE.1; exact Yld.inenil1 h hx rfl
  | at_ p n => obtain ⟨b, u, rfl, _⟩ := hE; exact Yld.inenil1 h hx rfl
end
section
variable {P : Program} {N : Nat} {L : Slots} {w w0 : World} {ty : TypeId} {pos : String} {af : Array Edge} {dd : Option Tmp} {t t' ta e0 : TypeId} {x y : Operand}
theorem Yld.assertNo {v : Value} {er : Er} (hu : P.underlying ta = some (.pointer e0)) (hz : ∀ w, (zeroValue ta).run P w = .ok (.pointer none) w) (hE : ErrR S w0 v er) (hx : opv L x = some v) (h1 : Nat.beq 214 ta = false) (h2 : Nat.beq 83 ta = false ∨ ∀ p n, er ≠ .at_ p n) :
    Yld P N w ⟨dd, .typeAssert x t ta true, ty, pos, af, none⟩ L (.tuple #[.pointer none, .bool false]) := fun a w1 _ ha => by
  have hx' := ha.ev hx
  have n1 : ¬ (214 : Nat) = ta := Nat.ne_of_beq_eq_false h1
  cases er with
  | ok =>
    obtain rfl : v = .nilIface := hE
    simp [execOp, Instr.typeAssert, run_underlying hu, hx', hz]
  | e n =>
    obtain ⟨a', rfl⟩ := ErV.iface hE.1
    simp [execOp, Instr.typeAssert, run_underlying hu, hx', hz, n1]
  | at_ p n =>
    obtain ⟨b, u, rfl, _⟩ := hE
    rcases h2 with h2 | h2
    · have n2 : ¬ (83 : Nat) = ta := Nat.ne_of_beq_eq_false h2
      simp [execOp, Instr.typeAssert, run_underlying hu, hx', hz, n2]
    · exact absurd rfl (h2 p n)
theorem Yld.assertYes {v u : Value} (hu : P.underlying ta = some (.pointer e0)) (hx : opv L x = some v) (hv : v = .iface ta u) :
    Yld P N w ⟨dd, .typeAssert x t ta true, ty, pos, af, none⟩ L (.tuple #[u, .bool true]) := fun a w1 _ ha => by
  have hx' := ha.ev hx
  subst hv
  simp [execOp, Instr.typeAssert, run_underlying hu, hx']
theorem Er.atCases (e : Er) : (∃ p n, e = .at_ p n) ∨ ∀ p n, e ≠ .at_ p n := by
  cases e with
  | at_ p n => exact .inl ⟨p, n, rfl⟩
  | ok => right; intro p n h; cases h
  | e k => right; intro p n h; cases h
theorem ErrR.atOut {v : Value} {p : Int} {n : Nat} (h : ErrR S w v (.at_ p n)) : ∃ b u, v = .iface 83 (.pointer (some ⟨b, 0, none⟩)) ∧ Bl w b 85 [.int .i64 p, u] ∧ ErrR S w u (.e n) := by
  obtain ⟨b, u, h1, h2, h3, h4⟩ := h
  exact ⟨b, u, h1, h2, h3, h4⟩
theorem ErrR.mkAt {u : Value} {b : Nat} {p : Int} {n : Nat} (hB : Bl w b 85 [.int .i64 p, u]) (hE : ErrR S w u (.e n)) : ErrR S w (.iface 83 (.pointer (some ⟨b, 0, none⟩))) (.at_ p n) := ⟨b, u, rfl, hB, hE.1, hE.2⟩
/-- two errors held against each other, not both nil, not both with a place -/
theorem Yld.erreq2 {ms : Array (String × TypeId)} {ii ij : TypeInfo} {u v : Value} {d e : Er} (h : P.underlying t = some (.interface ms)) (hp : P.underlying 214 = some (.pointer e0)) (hinfo : P.info? 214 = some ii) (hcomp : ii.comparable = true) (hte : P.info? e0 = some ij) (hsz : ij.size ≠ 0)
    (hD : ErrR S w u d) (hE : ErrR S w v e) (hx : opv L x = some u) (hy : opv L y = some v)
    (h0 : ¬ (d = .ok ∧ e = .ok)) (h1 : (∀ p n, d ≠ .at_ p n) ∨ ∀ p n, e ≠ .at_ p n) : Yld P N w ⟨dd, .binOp .eql t x y t', ty, pos, af, none⟩ L (.bool (decide (d = e))) := by
  have key : ∀ b, (u ≠ .nilIface ∨ v ≠ .nilIface) → ((∃ t1 u1, u = .iface t1 u1) ∨ u = .nilIface) → ((∃ t1 u1, v = .iface t1 u1) ∨ v = .nilIface) → (∀ w1, Eqv w w1 → (binOp .eql t u v).run P w1 = .ok (.bool b) w1) → Yld P N w ⟨dd, .binOp .eql t x y t', ty, pos, af, none⟩ L (.bool b) := fun b hn hu hv hb => fun a w1 hw ha => by
    refine exec_bin (ha.ev hx) (ha.ev hy) ?_ (hb w1 hw)
    unfold eqGuard
    rcases hu with ⟨t1, u1, rfl⟩ | rfl <;> rcases hv with ⟨t2, u2, rfl⟩ | rfl <;> first | rfl | simp at hn
  have nl : ∀ tp q w1, (binOp .eql t .nilIface (.iface tp q)).run P w1 = .ok (.bool false) w1 := fun tp q w1 => run_eql_iface_nil_left w1 tp q h
  have nr : ∀ tp q w1, (binOp .eql t (.iface tp q) .nilIface).run P w1 = .ok (.bool false) w1 := fun tp q w1 => by
    have h2 : (Op.equal t (.iface tp q) .nilIface).run P w1 = .ok false w1 := run_equal_of fun d => by simp [Op.equalIn, run_underlying h]
    simp [binOp, h2]
  have ne : ∀ tp q tp' q' w1, tp ≠ tp' → (binOp .eql t (.iface tp q) (.iface tp' q')).run P w1 = .ok (.bool false) w1 := fun tp q tp' q' w1 hne => by
    have h2 : (Op.equal t (.iface tp q) (.iface tp' q')).run P w1 = .ok false w1 := run_equal_of fun d => by simp [Op.equalIn, run_underlying h, hne]
    simp [binOp, h2]
  have tne : (214 : Nat) ≠ 83 := by decide
  cases d with
  | ok =>
    obtain rfl : u = .nilIface := hD
    cases e with
    | ok => exact absurd ⟨rfl, rfl⟩ h0
    | e n => obtain ⟨a, rfl⟩ := ErV.iface hE.1; exact key false (by simp) (by simp) (by simp) fun w1 _ => nl _ _ w1
    | at_ p n => obtain ⟨b, u, rfl, _⟩ := hE; exact key false (by simp) (by simp) (by simp) fun w1 _ => nl _ _ w1
  | e m =>
    cases e with
    | ok => obtain ⟨a, rfl⟩ := ErV.iface hD.1; obtain rfl : v = .nilIface := hE; exact key false (by simp) (by simp) (by simp) fun w1 _ => nr _ _ w1
    | e n =>
      have hD' := hD.1
      have hE' := hE.1
      obtain ⟨g, tx, a, k1, k2, k3, rfl, k5, c, e', k6⟩ := hD.1
      obtain ⟨g', tx', a', l1, l2, l3, rfl, l5, c', e'', l6⟩ := hE.1
      by_cases haa : a = a'
      · subst haa
        have hmn : m = n := ErV.inj hD' hE'
        subst hmn
        rw [decide_eq_true rfl]
        exact key true (by simp) (by simp) (by simp) fun w1 hw => run_eql_iface_ptr_same w1 a h hp hinfo hcomp hte
      · have hmn : ¬ (Er.e m = Er.e n) := fun hh => by
          cases hh
          have := ErV.uniq hD' hE'
          simp only [Value.iface.injEq, true_and, Value.pointer.injEq, Option.some.injEq] at this
          exact haa this
        rw [decide_eq_false hmn]
        exact key false (by simp) (by simp) (by simp) fun w1 hw => run_eql_iface_ptr_other w1 h hp hinfo hcomp hte hsz haa (by rw [hw.heap]; exact k6) (by rw [hw.heap]; exact l6)
    | at_ p n => obtain ⟨a, rfl⟩ := ErV.iface hD.1; obtain ⟨b, u, rfl, _⟩ := hE; exact key false (by simp) (by simp) (by simp) fun w1 _ => ne _ _ _ _ w1 tne
  | at_ p m =>
    obtain ⟨b, u', rfl, _⟩ := hD
    cases e with
    | ok => obtain rfl : v = .nilIface := hE; exact key false (by simp) (by simp) (by simp) fun w1 _ => nr _ _ w1
    | e n => obtain ⟨a, rfl⟩ := ErV.iface hE.1; exact key false (by simp) (by simp) (by simp) fun w1 _ => ne _ _ _ _ w1 tne.symm
    | at_ p' n => rcases h1 with h1 | h1 <;> exact absurd rfl (h1 _ _)
end
/-- the variable n, read -/
theorem ErV.read {w : World} {v u : Value} {n g : Nat} (h : ErV w v n) (hg : eglob[n]? = some (some g)) (hu : w.cell? ⟨g, 0, none⟩ = some u) : u = v := by
  obtain ⟨g', t, a, h1, h2, h3, h4, h5⟩ := h
  have e1 := Option.some.inj (Option.some.inj (h1.symm.trans hg))
  subst e1
  exact Option.some.inj (hu.symm.trans h3)
theorem GOK.get {w : World} (h : GOK S w) (n g : Nat) (hS : n ∈ S) (hl : Nat.blt n 17 = true) (hg : eglob[n]? = some (some g)) : ∃ v, w.cell? ⟨g, 0, none⟩ = some v ∧ ErrR S w v (.e n) := by
  obtain ⟨v, hv⟩ := h.er n hS (by simpa [Nat.blt_eq] using hl)
  obtain ⟨g', t, a, h1, h2, h3, h4, h5⟩ := id hv
  have e1 := Option.some.inj (Option.some.inj (h1.symm.trans hg))
  subst e1
  exact ⟨v, h3, hv, hS⟩
theorem ErrR.cell {w : World} {v : Value} {n g : Nat} (h : ErrR S w v (.e n)) (hg : eglob[n]? = some (some g)) : w.cell? ⟨g, 0, none⟩ = some v := by
  obtain ⟨⟨g', t, a, h1, h2, h3, h4, h5⟩, _⟩ := h
  have e1 := Option.some.inj (Option.some.inj (h1.symm.trans hg))
  subst e1
  exact h3
theorem noC {u : Value} {us : List Value} (h : ∀ x, u ≠ vd x) (t : ∀ v ∈ us, ∀ x, v ≠ vd x) : ∀ v ∈ u :: us, ∀ x, v ≠ vd x := fun v hv => by
  rcases List.mem_cons.1 hv with rfl | hv
  · exact h
  · exact t v hv
theorem noN : ∀ v ∈ ([] : List Value), ∀ x, v ≠ vd x := fun _ h => by cases h
theorem esCmp : (Tryd.prog.info? 214).map (·.comparable) = some true := by kernel_rfl
theorem esSz : (Tryd.prog.info? 229).map (fun i => Nat.beq i.size 0) = some false := by kernel_rfl
theorem Yld.erreqA {N : Nat} {L : Slots} {w : World} {ty : TypeId} {pos : String} {af : Array Edge} {dd : Option Tmp} {t' : TypeId} {x y : Operand} {u v : Value} {d e : Er} (hD : ErrR S w u d) (hE : ErrR S w v e)
    (h0 : ¬ (d = .ok ∧ e = .ok) ∧ ((∀ p n, d ≠ .at_ p n) ∨ ∀ p n, e ≠ .at_ p n)) (hx : opv L x = some u) (hy : opv L y = some v) : Yld Tryd.prog N w ⟨dd, .binOp .eql 30 x y t', ty, pos, af, none⟩ L (.bool (decide (d = e))) := by
  have h1 := esCmp
  have h2 := esSz
  rw [Option.map_eq_some_iff] at h1 h2
  obtain ⟨i, h1, h3⟩ := h1
  obtain ⟨j, h2, h4⟩ := h2
  exact Yld.erreq2 Tryd.underlying30 Tryd.underlying214 h1 h3 h2 (Nat.ne_of_beq_eq_false h4) hD hE hx hy h0.1 h0.2
end Go.Proofs.YtcfljnfaakjdjaaDoor
 /- What a row's listed variables give: the errors of api, each at its place. -/
namespace Go.Proofs.YtcfljnfaakjdjaaDoor
open Go Go.RowKit Go.WideShapes Go.ChangeShapes Go.ChangeAt
def ename : List String := ["smithy/api.ErrLex", "smithy/api.ErrParse", "smithy/api.ErrResolve", "smithy/api.ErrDynamic", "smithy/api.ErrCycle", "smithy/api.ErrVisibility", "smithy/api.ErrAnalysis", "smithy/api.ErrLimit", "smithy/api.ErrMissing", "smithy/api.ErrMany", "smithy/api.ErrKind", "smithy/api.ErrPath", "smithy/api.ErrShape", "smithy/api.ErrEnd", "smithy/api.ErrRange", "smithy/api.ErrDown", "smithy/api.ErrFail"]
theorem cellsEs : Tryd.prog.cellsOf 229 = 1 := by kernel_rfl
theorem cellsStr : Tryd.prog.cellsOf 9 = 1 := by kernel_rfl
theorem starEs : "*" ++ "errors.errorString" = "*errors.errorString" := by decide
theorem rowEs (u : TypeId) (h : Tryd.prog.typeName? 3 u = some "*errors.errorString") : u = 214 :=
  typeName_ptr_named (nm := "errors.errorString") (by rw [starEs]; kernel_rfl) (by kernel_rfl) (by decide) u (by rw [starEs]; exact h)
set_option maxRecDepth 100000 in
theorem erv_of_vars {W : World} : ∀ {l : List (String × DataW Unit)} {ps : List MemPlace}, DataW.LaidVars Tryd.prog W l ps → (∀ b off, MemPlace.cell b off ∈ ps → (∃ c t, W.heap[b]? = some (.cells c t (0, 0))) ∧ ∀ u v, W.cell? ⟨b, off, none⟩ = some (.iface u v) → Value.okWide Tryd.prog W .any 0 u v) →
    ∀ nm t g, (nm, DataW.iface "*errors.errorString" (.ptr (.agg [.lit (.string t)]))) ∈ l → Tryd.prog.globalNamed nm = some g → (Tryd.prog.globals[g]?).map (·.type) = some 30 → ∃ a, W.cell? ⟨g, 0, none⟩ = some (.iface 214 (.pointer (some a))) ∧ W.cell? a = some (vs t) ∧ ∃ c e, W.heap[a.block]? = some (.cells c e (0, 0))
  | [], _, _, _, _, _, _, h, _, _ => by cases h
  | (n0, d0) :: r, ps, hL, hok, nm, t, g, h, hg, ht => by
    obtain ⟨g0, t0, cs0, f0, p0, q0, hg0, ht0, hv0, hd0, hr, rfl⟩ := hL
    rcases List.mem_cons.1 h with h | h
    · simp only [Prod.mk.injEq] at h
      obtain ⟨rfl, rfl⟩ := h
      obtain rfl := Option.some.inj (hg.symm.trans hg0)
      obtain rfl := Option.some.inj (ht.symm.trans ht0)
      obtain ⟨l0⟩ := cs0
      have ok0 : ∀ u v, l0 = [.iface u v] → Value.okWide Tryd.prog W .any 0 u v := fun u v e => by
        subst e
        exact (hok g 0 (by simp [MemPlace.row])).2 u v (by simpa using World.var?_cell hg0 hv0 0)
      obtain ⟨a0, s0, rfl, hc0, hs0, hz0, rfl⟩ := errorString_of_trod Tryd.underlying30 rowEs Tryd.underlying214 Tryd.underlying229 rfl rfl Tryd.underlying9 cellsEs cellsStr hd0 ok0
      refine ⟨a0, by simpa using World.var?_cell hg0 hv0 0, ?_, (hok a0.block a0.off (by simp [MemPlace.row])).1⟩
      rw [hc0, ← hs0]
      rfl
    · exact erv_of_vars hr (fun b off hb => hok b off (by simp [hb])) nm t g h hg ht
theorem tab_of_vars {P : Program} {W : World} {name : String} {k : IntKind} {zs : List Int} {g : Nat} {t e : TypeId} {n : Nat}
    (hg : P.globalNamed name = some g) (hty : (P.globals[g]?).map (·.type) = some t) (ht : P.underlying t = some (.array n e)) (he : P.underlying e = some (.int k)) (hce : P.cellsOf e = 1) (hct : P.cellsOf t = n) :
    ∀ {l : List (String × DataW Unit)} {ps : List MemPlace}, DataW.LaidVars P W l ps → (name, Lib.tabData k zs) ∈ l → Lib.TabIs P W name k zs
  | [], _, _, h => by cases h
  | (n0, d0) :: r, ps, hL, h => by
    obtain ⟨g0, t0, cs0, f0, p0, q0, hg0, ht0, hv0, hd0, hr, rfl⟩ := hL
    rcases List.mem_cons.1 h with h | h
    · simp only [Prod.mk.injEq] at h
      obtain ⟨rfl, rfl⟩ := h
      obtain rfl := Option.some.inj (hg.symm.trans hg0)
      obtain rfl := Option.some.inj (hty.symm.trans ht0)
      unfold Lib.TabIs
      rw [hv0, ← Lib.cells_of_tab ht he hce hct hd0]
    · exact tab_of_vars hg hty ht he hce hct hr h
theorem tab_of_laid {P : Program} {W : World} {name : String} {k : IntKind} {zs : List Int} {g : Nat} {t e : TypeId} {n : Nat} {l : List (String × DataW Unit)} (h : laidMetH P l W) (hp : (l.all fun x => x.2.handleName?.isNone) = true)
    (hg : P.globalNamed name = some g) (hty : (P.globals[g]?).map (·.type) = some t) (ht : P.underlying t = some (.array n e)) (he : P.underlying e = some (.int k)) (hce : P.cellsOf e = 1) (hct : P.cellsOf t = n) (hm : (name, Lib.tabData k zs) ∈ l) : Lib.TabIs P W name k zs := by
  rw [MakeChecks.laidMetH_plain _ _ _ hp] at h
  obtain ⟨ps, hL, _⟩ := h
  exact tab_of_vars hg hty ht he hce hct hL hm
def errText? : DataW Unit → Option (List UInt8)
  | .iface n (.ptr (.agg [.lit (.string t)])) => if n == "*errors.errorString" then some t else none
  | _ => none
theorem errText_spec {d : DataW Unit} {t : List UInt8} (h : errText? d = some t) : d = .iface "*errors.errorString" (.ptr (.agg [.lit (.string t)])) := by
  unfold errText? at h
  split at h
  · rename_i n t'
    split at h
    · rename_i hn
      have := eq_of_beq hn
      subst this
      cases h
      rfl
    · cases h
  · cases h
def gokB (P : Program) (S : List Nat) (l : List (String × DataW Unit)) : Bool := S.all fun n => match eglob[n]?, etext[n]?, ename[n]? with
  | some (some g), some t, some nm => decide (P.globalNamed nm = some g) && (decide ((P.globals[g]?).map (·.type) = some 30) && l.any fun x => decide (x.1 = nm) && decide (errText? x.2 = some t))
  | _, _, _ => false
set_option maxRecDepth 100000 in
theorem gok_of_laid {S : List Nat} {W : World} {l : List (String × DataW Unit)} (h : laidMetH Tryd.prog l W) (hp : (l.all fun x => x.2.handleName?.isNone) = true) (hB : gokB Tryd.prog (S.filter fun n => Nat.blt n 17) l = true) (hM : 100 ∈ S → ∃ m, W.cell? ⟨2, 0, none⟩ = some (.int .i64 m)) (hP : 101 ∈ S → Lib.TabIs Tryd.prog W "internal/strconv.uint64pow10" .u64 Lib.pow10Tab) : GOK S W := by
  refine ⟨fun n hn hl => ?_, hM, hP⟩
  rw [MakeChecks.laidMetH_plain _ _ _ hp] at h
  obtain ⟨ps, hL, _, hrows⟩ := h
  have hb := List.all_eq_true.1 hB n (by simp [hn, Nat.blt_eq, hl])
  split at hb
  · rename_i g t nm h1 h2 h3
    simp only [Bool.and_eq_true, decide_eq_true_eq, List.any_eq_true] at hb
    obtain ⟨hg, ht, ⟨n', d'⟩, hm, he1, he2⟩ := hb
    simp only at he1 he2
    subst he1
    rw [errText_spec he2] at hm
    obtain ⟨a, k1, k2⟩ := erv_of_vars hL (fun b off hb => hrows b off hb) _ t g hm hg ht
    exact ⟨_, g, t, a, h1, h2, k1, rfl, k2⟩
  · cases hb
end Go.Proofs.YtcfljnfaakjdjaaDoor
 /- A row that lists variables, for a law that reads a variable of the library's own too: both facts. -/
namespace Go.Proofs.YtcfljnfaakjdjaaDoor
open Go Go.RowKit Go.WideShapes Go.ChangeShapes Go.ChangeAt
theorem handed_both {H : Type} {enc : TypeId × Value → H} {a : Assume} {C : Checked} {os : Os} {f : FuncId} {fn : Func} {s : ChangeSpec} {conds : List PathCond} {apart fresh handsOn again : Bool} {X : World → Array Value → Prop}
    (hX : ∀ (w w' : World) (args : Array Value), w.heap = w'.heap → X w args → X w' args)
    (own : ownKnob C.prog.godebug = none) (started : os.Started) (noInit : C.prog.inits.idxOf? f = none) (hfn : C.prog.funcs[f]? = some fn)
    (wit : ∃ (w : World) (tape : Tape) (i : Input), w.os = os ∧ (w.forCall tape i).Shaped C.prog ∧ i.vars = [] ∧ Input.okWide C.prog (w.forCall tape i) .any w.heap.size f i ∧
      ((s.pre enc C.prog fn conds apart (w.forCall tape i).memory i.args ∧ X (w.forCall tape i).memory i.args) ∧ sizedMet enc C.prog fn (OpenSpec.ofChange s) apart (w.forCall tape i).memory i.args) ∧ a.holds C.prog (lone (Frame.enter C.prog f i.args .normal) [] (w.forCall tape i)))
    (law : ∀ (W : World) (base : Nat) (args : Array Value) (ds gs : List (DataW H)) (before : List MemPlace),
      (∀ (j : Nat) t v, fn.params[j]? = some t → args[j]? = some v → Value.okWide C.prog W .any base t v) →
      DataW.Whole enc C.prog fn.params.toList s.vars apart W args.toList ds gs before → X W args → W.ShapedOpen C.prog →
      Calls C.prog f args W fun e W' => ∃ v, e = .returned v ∧ s.post enc C.prog fn apart fresh handsOn again W args v W') :
    ReturnsInHanded a C os f .any (fun w args => (s.pre enc C.prog fn conds apart w args ∧ X w args) ∧ sizedMet enc C.prog fn (OpenSpec.ofChange s) apart w args) (s.post enc C.prog fn apart fresh handsOn again) := by
  refine returnsInHanded_of_calls own started noInit wit fun w tape i _ hsh _ hok hpre _ => ?_
  obtain ⟨_, _, _, fn', hfn', _, _, _, _, hval⟩ := hok
  obtain rfl : fn' = fn := Option.some.inj (hfn'.symm.trans hfn)
  obtain ⟨⟨⟨ds, gs, before, hw, _⟩, hx⟩, _⟩ := hpre
  refine (law (w.forCall tape i) w.heap.size i.args ds gs before hval (DataW.Whole.of_heap (w' := w.forCall tape i) (by rfl) hw) (hX _ _ _ (by rfl) hx) hsh).mono fun e W' ⟨v, he, hp⟩ => ?_
  subst he
  exact ChangeSpec.post_blind hp
theorem maxLenCell {W : World} (h : W.ShapedOpen Tryd.prog) : ∃ m, W.cell? ⟨2, 0, none⟩ = some (.int .i64 m) :=
  cell_of_shapedOpen_int (P := Tryd.prog) (g := 2) (t := 3) (zero := #[.int .i64 0]) h (of_decide_eq_true (by kernel_rfl)) (by kernel_rfl) rfl (by kernel_rfl) (by kernel_rfl) Tryd.underlying3
end Go.Proofs.YtcfljnfaakjdjaaDoor
 /- More arguments, opened: five and six of them; a struct of two texts. -/
namespace Go.Proofs.YtcfljnfaakjdjaaDoor
open Go Go.RowKit Go.WideShapes Go.ChangeShapes Go.ChangeAt Go.Joins Go.Deep
section
variable {H : Type} {enc : TypeId × Value → H} {P : Program} {w : World} {base : Nat} {spare : Nat → Bool} {held : Bool}
theorem trodAll_five {t0 t1 t2 t3 t4 : TypeId} {args : Array Value} {ds : List (DataW H)} {ps : List MemPlace} (h : DataW.TrodAll enc P w base spare held [t0, t1, t2, t3, t4] args.toList ds ps) :
    ∃ v0 v1 v2 v3 v4 d0 d1 d2 d3 d4 p0 p1 p2 p3 p4, args = #[v0, v1, v2, v3, v4] ∧ ds = [d0, d1, d2, d3, d4] ∧ ps = p0 ++ p1 ++ p2 ++ p3 ++ p4 ∧ DataW.Trod enc P w base spare held t0 v0 d0 p0 ∧ DataW.Trod enc P w base spare held t1 v1 d1 p1 ∧ DataW.Trod enc P w base spare held t2 v2 d2 p2 ∧ DataW.Trod enc P w base spare held t3 v3 d3 p3 ∧ DataW.Trod enc P w base spare held t4 v4 d4 p4 := by
  obtain ⟨v0, u0, d0, e0, p0, q0, hargs, rfl, rfl, h0, k0⟩ := trodAll_cons h
  obtain ⟨v1, u1, d1, e1, p1, q1, rfl, rfl, rfl, h1, k1⟩ := trodAll_cons k0
  obtain ⟨v2, u2, d2, e2, p2, q2, rfl, rfl, rfl, h2, k2⟩ := trodAll_cons k1
  obtain ⟨v3, u3, d3, e3, p3, q3, rfl, rfl, rfl, h3, k3⟩ := trodAll_cons k2
  obtain ⟨v4, u4, d4, e4, p4, q4, rfl, rfl, rfl, h4, k4⟩ := trodAll_cons k3
  obtain ⟨rfl, rfl, rfl⟩ := trodAll_nil k4
  exact ⟨v0, v1, v2, v3, v4, d0, d1, d2, d3, d4, p0, p1, p2, p3, p4, by cases args; simp_all, rfl, by simp, h0, h1, h2, h3, h4⟩
theorem trodAll_six {t0 t1 t2 t3 t4 t5 : TypeId} {args : Array Value} {ds : List (DataW H)} {ps : List MemPlace} (h : DataW.TrodAll enc P w base spare held [t0, t1, t2, t3, t4, t5] args.toList ds ps) :
    ∃ v0 v1 v2 v3 v4 v5 d0 d1 d2 d3 d4 d5 p0 p1 p2 p3 p4 p5, args = #[v0, v1, v2, v3, v4, v5] ∧ ds = [d0, d1, d2, d3, d4, d5] ∧ ps = p0 ++ p1 ++ p2 ++ p3 ++ p4 ++ p5 ∧ DataW.Trod enc P w base spare held t0 v0 d0 p0 ∧ DataW.Trod enc P w base spare held t1 v1 d1 p1 ∧ DataW.Trod enc P w base spare held t2 v2 d2 p2 ∧ DataW.Trod enc P w base spare held t3 v3 d3 p3 ∧ DataW.Trod enc P w base spare held t4 v4 d4 p4 ∧ DataW.Trod enc P w base spare held t5 v5 d5 p5 := by
  obtain ⟨v0, u0, d0, e0, p0, q0, hargs, rfl, rfl, h0, k0⟩ := trodAll_cons h
  obtain ⟨v1, u1, d1, e1, p1, q1, rfl, rfl, rfl, h1, k1⟩ := trodAll_cons k0
  obtain ⟨v2, u2, d2, e2, p2, q2, rfl, rfl, rfl, h2, k2⟩ := trodAll_cons k1
  obtain ⟨v3, u3, d3, e3, p3, q3, rfl, rfl, rfl, h3, k3⟩ := trodAll_cons k2
  obtain ⟨v4, u4, d4, e4, p4, q4, rfl, rfl, rfl, h4, k4⟩ := trodAll_cons k3
  obtain ⟨v5, u5, d5, e5, p5, q5, rfl, rfl, rfl, h5, k5⟩ := trodAll_cons k4
  obtain ⟨rfl, rfl, rfl⟩ := trodAll_nil k5
  exact ⟨v0, v1, v2, v3, v4, v5, d0, d1, d2, d3, d4, d5, p0, p1, p2, p3, p4, p5, by cases args; simp_all, rfl, by simp, h0, h1, h2, h3, h4, h5⟩
theorem open_two {r : Reach} {b0 : Nat} {t : TypeId} {f0 f1 : Field} {v : Value} {d : DataW H} {p : List MemPlace} (hs : P.underlying t = some (.struct #[f0, f1])) (hone : oneCellFields P #[f0, f1] = true) (hC : P.cellsOf t = 2) (h0 : P.underlying f0.type = some .string) (h1 : P.underlying f1.type = some .string)
    (hv : Value.okWide P w r b0 t v) (h : DataW.Trod enc P w base spare held t v d p) : ∃ a b : List UInt8, v = .agg ⟨[vs a, vs b]⟩ ∧ a.length ≤ maxLen ∧ b.length ≤ maxLen := by
  obtain ⟨v0, v1, y0, y1, n, rfl, _, _, k0, k1⟩ := open_agg2 hs hone hC hv h
  obtain ⟨s0, e0, _, l0⟩ := DataW.trod_string h0 k0
  obtain ⟨s1, e1, _, l1⟩ := DataW.trod_string h1 k1
  simp only [List.cons.injEq, and_true] at e0 e1
  subst e0; subst e1
  obtain ⟨⟨a⟩⟩ := s0
  obtain ⟨⟨b⟩⟩ := s1
  exact ⟨a, b, rfl, l0, l1⟩
end
end Go.Proofs.YtcfljnfaakjdjaaDoor
 /-
  DERIVED: THE SHELF's CONTRACTS AT THIS DUMP, IN PLAIN WORDS (tools/lay-plain.mjs out of 'TrydShelf.lean', which tools/lay-shelf.mjs wrote): THE SAME DECLARATIONS UNDER THE SAME NAMES: 'import', 'namespace', 'open', 'def', 'theorem' AND NOTHING ELSE: no command of the shelf's: FOR A HAND-IN. Each laying: the table of numbers ('.._ren') and one theorem, a field a fact of the dump's own or the kernel's comparison; each contract: ONE APPLICATION.
-/
namespace Go.Proofs
open Go.Shelf
def Tryd.lays169_ren : Go.Shelf.Ren := ⟨fun | 169 => 120 | n => n, fun | 70 => 134 | 9 => 9 | 0 => 0 | 72 => 136 | 37 => 92 | 127 => 166 | 3 => 3 | 5 => 5 | n => n, fun | n => n⟩
theorem Tryd.lays169 : Go.Proofs.Lays.n169 Tryd.prog Tryd.lays169_ren := {
  mixed := by kernel_rfl
  f169 := Tryd.func120.trans (congrArg some (by kernel_rfl))
  t0 := Tryd.underlying0
  a0 := Tryd.isAgg0
  z0 := Tryd.sizeOf0
  v0 := Tryd.zeroValue0
  t3 := Tryd.underlying3
  a3 := Tryd.isAgg3
  z3 := Tryd.sizeOf3
  v3 := Tryd.zeroValue3
  t9 := Tryd.underlying9
  a9 := Tryd.isAgg9
  z9 := Tryd.sizeOf9
  v9 := Tryd.zeroValue9
  t37 := Tryd.underlying92
  a37 := Tryd.isAgg92
  z37 := Tryd.sizeOf92
  v37 := Tryd.zeroValue92
  t70 := Tryd.underlying134
  a70 := Tryd.isAgg134
  z70 := Tryd.sizeOf134
  v70 := Tryd.zeroValue134
  t72 := Tryd.underlying136
  a72 := Tryd.isAgg136
  z72 := Tryd.sizeOf136
  v72 := Tryd.zeroValue136
  t127 := Tryd.underlying166
  a127 := Tryd.isAgg166
  z127 := Tryd.sizeOf166
  v127 := Tryd.zeroValue166 }
theorem Tryd.Builder_Extra_169 : Builder.Extra Tryd.prog Tryd.lays169_ren := {
  sizeBuilder := by kernel_rfl
  liesBuilder := by kernel_rfl
  t5 := Tryd.underlying5
  a5 := Tryd.isAgg5
  z5 := Tryd.sizeOf5
  v5 := Tryd.zeroValue5
  infoByte := by kernel_rfl
  cellsByte := by kernel_rfl
  sizeByte := by kernel_rfl
  neB5 := by decide }
open Go.RowKit in
/-- (*strings.Builder).String: "String returns the accumulated string.": OF A BUILDER THAT HOLDS AT LEAST ONE BYTE. ✋ THE MODEL FREEZES THOSE BYTES IN THE BUFFER (unsafe.String): a later write INTO them ends the model's run without an answer; a later append BEHIND them goes on. The statement's order of evaluation is drawn: one draw. (LAID: no walk: one application.) -/
theorem Tryd.Builder_String (B b : Nat) (l : List UInt8) (w : World) (h : Lib.IsBuilder 136 5 B b (Lib.byteCells l) w) (h0 : l ≠ []) :
    Calls Tryd.prog 120 #[.pointer (some ⟨b, 0, none⟩)] w fun e w' => e = .returned (.string ⟨l.toArray⟩) ∧ Below B w w' := Any.Builder_String Tryd.lays169 Tryd.Builder_Extra_169 B b l w h h0
open Go.RowKit in
/-- (*strings.Builder).String OF A BUILDER THAT HOLDS NO BYTE: the empty string. (Its buffer is nil, or a row of which it has taken nothing yet; where that row has NO capacity the model lays one new block for unsafe.SliceData's 'some address'.) One draw. (LAID: no walk: one application.) -/
theorem Tryd.Builder_String_empty (B b : Nat) (w : World) (h : Lib.IsBuilder 136 5 B b [] w) (hBw : B ≤ w.heap.size) :
    Calls Tryd.prog 120 #[.pointer (some ⟨b, 0, none⟩)] w fun e w' => e = .returned (.string ⟨#[]⟩) ∧ Below B w w' := Any.Builder_String_empty Tryd.lays169 Tryd.Builder_Extra_169 B b w h hBw
open Go.RowKit in
/-- (*strings.Builder).String: "String returns the accumulated string.": WHATEVER THE BUILDER HOLDS. (LAID: no walk: one application.) -/
theorem Tryd.Builder_String_any (B b : Nat) (l : List UInt8) (w : World) (h : Lib.IsBuilder 136 5 B b (Lib.byteCells l) w) (hBw : B ≤ w.heap.size) :
    Calls Tryd.prog 120 #[.pointer (some ⟨b, 0, none⟩)] w fun e w' => e = .returned (.string ⟨l.toArray⟩) ∧ Below B w w' := Any.Builder_String_any Tryd.lays169 Tryd.Builder_Extra_169 B b l w h hBw
def Tryd.lays241_ren : Go.Shelf.Ren := ⟨fun | 241 => 147 | 277 => 179 | n => n, fun | 70 => 134 | 3 => 3 | 0 => 0 | 72 => 136 | 37 => 92 | 5 => 5 | n => n, fun | n => n⟩
theorem Tryd.lays241 : Go.Proofs.Lays.n241 Tryd.prog Tryd.lays241_ren := {
  mixed := by kernel_rfl
  f241 := Tryd.func147.trans (congrArg some (by kernel_rfl))
  f277 := Tryd.func179.trans (congrArg some (by kernel_rfl))
  t0 := Tryd.underlying0
  a0 := Tryd.isAgg0
  z0 := Tryd.sizeOf0
  v0 := Tryd.zeroValue0
  t3 := Tryd.underlying3
  a3 := Tryd.isAgg3
  z3 := Tryd.sizeOf3
  v3 := Tryd.zeroValue3
  t37 := Tryd.underlying92
  a37 := Tryd.isAgg92
  z37 := Tryd.sizeOf92
  v37 := Tryd.zeroValue92
  t70 := Tryd.underlying134
  a70 := Tryd.isAgg134
  z70 := Tryd.sizeOf134
  v70 := Tryd.zeroValue134
  t72 := Tryd.underlying136
  a72 := Tryd.isAgg136
  z72 := Tryd.sizeOf136
  v72 := Tryd.zeroValue136 }
theorem Tryd.Builder_Extra_241 : Builder.Extra Tryd.prog Tryd.lays241_ren := {
  sizeBuilder := by kernel_rfl
  liesBuilder := by kernel_rfl
  t5 := Tryd.underlying5
  a5 := Tryd.isAgg5
  z5 := Tryd.sizeOf5
  v5 := Tryd.zeroValue5
  infoByte := by kernel_rfl
  cellsByte := by kernel_rfl
  sizeByte := by kernel_rfl
  neB5 := by decide }
open Go.RowKit in
/-- (*strings.Builder).grow (no doc but "grow copies the buffer to a new, larger buffer so that there are at least n bytes of capacity beyond len(b.buf)."): AT A BUILDER WITHOUT A BUFFER: a new row of whatever bytes for its buffer, none of them its own yet. Three draws. (LAID: no walk: one application.) -/
theorem Tryd.Builder_grow_fresh (B b n : Nat) (w : World) (hB : B ≤ b) (hbk : w.heap[b]? = some (.cells #[.pointer (some ⟨b, 0, none⟩), .slice none 0 0] 136 (0, 0))) (hBw : B ≤ w.heap.size) (hn : n ≤ 281474976710656) :
    Calls Tryd.prog 147 #[.pointer (some ⟨b, 0, none⟩), .int .i64 n] w fun e w' => e = .returned (.tuple #[]) ∧ (Lib.BuilderAt 136 5 B b (.pointer (some ⟨b, 0, none⟩)) [] w' ∧ Below B w w') := Any.Builder_grow_fresh Tryd.lays241 Tryd.Builder_Extra_241 B b n w hB hbk hBw hn
def Tryd.lays165_ren : Go.Shelf.Ren := ⟨fun | 165 => 118 | 240 => 146 | 241 => 147 | 276 => 178 | 277 => 179 | n => n, fun | 70 => 134 | 3 => 3 | 0 => 0 | 4 => 4 | 9 => 9 | 20 => 20 | 72 => 136 | 37 => 92 | 164 => 192 | 5 => 5 | n => n, fun | n => n⟩
theorem Tryd.lays165 : Go.Proofs.Lays.n165 Tryd.prog Tryd.lays165_ren := {
  mixed := by kernel_rfl
  f165 := Tryd.func118.trans (congrArg some (by kernel_rfl))
  f240 := Tryd.func146.trans (congrArg some (by kernel_rfl))
  f241 := Tryd.func147.trans (congrArg some (by kernel_rfl))
  f276 := Tryd.func178.trans (congrArg some (by kernel_rfl))
  f277 := Tryd.func179.trans (congrArg some (by kernel_rfl))
  t0 := Tryd.underlying0
  a0 := Tryd.isAgg0
  z0 := Tryd.sizeOf0
  v0 := Tryd.zeroValue0
  t3 := Tryd.underlying3
  a3 := Tryd.isAgg3
  z3 := Tryd.sizeOf3
  v3 := Tryd.zeroValue3
  t4 := Tryd.underlying4
  a4 := Tryd.isAgg4
  z4 := Tryd.sizeOf4
  v4 := Tryd.zeroValue4
  t9 := Tryd.underlying9
  a9 := Tryd.isAgg9
  z9 := Tryd.sizeOf9
  v9 := Tryd.zeroValue9
  t20 := Tryd.underlying20
  a20 := Tryd.isAgg20
  z20 := Tryd.sizeOf20
  v20 := Tryd.zeroValue20
  t37 := Tryd.underlying92
  a37 := Tryd.isAgg92
  z37 := Tryd.sizeOf92
  v37 := Tryd.zeroValue92
  t70 := Tryd.underlying134
  a70 := Tryd.isAgg134
  z70 := Tryd.sizeOf134
  v70 := Tryd.zeroValue134
  t72 := Tryd.underlying136
  a72 := Tryd.isAgg136
  z72 := Tryd.sizeOf136
  v72 := Tryd.zeroValue136
  t164 := Tryd.underlying192
  a164 := Tryd.isAgg192
  z164 := Tryd.sizeOf192
  v164 := Tryd.zeroValue192 }
theorem Tryd.Builder_Extra_165 : Builder.Extra Tryd.prog Tryd.lays165_ren := {
  sizeBuilder := by kernel_rfl
  liesBuilder := by kernel_rfl
  t5 := Tryd.underlying5
  a5 := Tryd.isAgg5
  z5 := Tryd.sizeOf5
  v5 := Tryd.zeroValue5
  infoByte := by kernel_rfl
  cellsByte := by kernel_rfl
  sizeByte := by kernel_rfl
  neB5 := by decide }
open Go.RowKit in
/-- (*strings.Builder).Grow AT A BUILDER THAT HAS NOT BEEN WRITTEN ('var b strings.Builder; b.Grow(n)'): "Grow grows b's capacity, if necessary, to guarantee space for another n bytes.": it holds no byte behind it as_ before it. (LAID: no walk: one application.) -/
theorem Tryd.Builder_Grow_fresh (B b n : Nat) (w : World) (hB : B ≤ b) (hbk : w.heap[b]? = some (.cells #[.pointer none, .slice none 0 0] 136 (0, 0))) (hBw : B ≤ w.heap.size) (hn : n ≤ 281474976710656) :
    Calls Tryd.prog 118 #[.pointer (some ⟨b, 0, none⟩), .int .i64 n] w fun e w' => e = .returned (.tuple #[]) ∧ (Lib.BuilderAt 136 5 B b (.pointer (some ⟨b, 0, none⟩)) [] w' ∧ Below B w w') := Any.Builder_Grow_fresh Tryd.lays165 Tryd.Builder_Extra_165 B b n w hB hbk hBw hn
def Tryd.lays156_ren : Go.Shelf.Ren := ⟨fun | 156 => 83 | 165 => 118 | 166 => 119 | 169 => 120 | 240 => 146 | 241 => 147 | 276 => 178 | 277 => 179 | n => n, fun | 31 => 22 | 9 => 9 | 3 => 3 | 4 => 4 | 0 => 0 | 20 => 20 | 72 => 136 | 76 => 138 | 70 => 134 | 37 => 92 | 75 => 30 | 127 => 166 | 164 => 192 | 5 => 5 | 80 => 50 | n => n, fun | n => n⟩
theorem Tryd.lays156 : Go.Proofs.Lays.n156 Tryd.prog Tryd.lays156_ren := {
  mixed := by kernel_rfl
  f156 := Tryd.func83.trans (congrArg some (by kernel_rfl))
  f165 := Tryd.func118.trans (congrArg some (by kernel_rfl))
  f166 := Tryd.func119.trans (congrArg some (by kernel_rfl))
  f169 := Tryd.func120.trans (congrArg some (by kernel_rfl))
  f240 := Tryd.func146.trans (congrArg some (by kernel_rfl))
  f241 := Tryd.func147.trans (congrArg some (by kernel_rfl))
  f276 := Tryd.func178.trans (congrArg some (by kernel_rfl))
  f277 := Tryd.func179.trans (congrArg some (by kernel_rfl))
  t0 := Tryd.underlying0
  a0 := Tryd.isAgg0
  z0 := Tryd.sizeOf0
  v0 := Tryd.zeroValue0
  t3 := Tryd.underlying3
  a3 := Tryd.isAgg3
  z3 := Tryd.sizeOf3
  v3 := Tryd.zeroValue3
  t4 := Tryd.underlying4
  a4 := Tryd.isAgg4
  z4 := Tryd.sizeOf4
  v4 := Tryd.zeroValue4
  t9 := Tryd.underlying9
  a9 := Tryd.isAgg9
  z9 := Tryd.sizeOf9
  v9 := Tryd.zeroValue9
  t20 := Tryd.underlying20
  a20 := Tryd.isAgg20
  z20 := Tryd.sizeOf20
  v20 := Tryd.zeroValue20
  t31 := Tryd.underlying22
  a31 := Tryd.isAgg22
  z31 := Tryd.sizeOf22
  v31 := Tryd.zeroValue22
  t37 := Tryd.underlying92
  a37 := Tryd.isAgg92
  z37 := Tryd.sizeOf92
  v37 := Tryd.zeroValue92
  t70 := Tryd.underlying134
  a70 := Tryd.isAgg134
  z70 := Tryd.sizeOf134
  v70 := Tryd.zeroValue134
  t72 := Tryd.underlying136
  a72 := Tryd.isAgg136
  z72 := Tryd.sizeOf136
  v72 := Tryd.zeroValue136
  t75 := Tryd.underlying30
  a75 := Tryd.isAgg30
  z75 := Tryd.sizeOf30
  v75 := Tryd.zeroValue30
  t76 := Tryd.underlying138
  a76 := Tryd.isAgg138
  z76 := Tryd.sizeOf138
  v76 := Tryd.zeroValue138
  t127 := Tryd.underlying166
  a127 := Tryd.isAgg166
  z127 := Tryd.sizeOf166
  v127 := Tryd.zeroValue166
  t164 := Tryd.underlying192
  a164 := Tryd.isAgg192
  z164 := Tryd.sizeOf192
  v164 := Tryd.zeroValue192 }
theorem Tryd.Builder_Extra_156 : Builder.Extra Tryd.prog Tryd.lays156_ren := {
  sizeBuilder := by kernel_rfl
  liesBuilder := by kernel_rfl
  t5 := Tryd.underlying5
  a5 := Tryd.isAgg5
  z5 := Tryd.sizeOf5
  v5 := Tryd.zeroValue5
  infoByte := by kernel_rfl
  cellsByte := by kernel_rfl
  sizeByte := by kernel_rfl
  neB5 := by decide }
open Go.RowKit in
/-- No element: the empty string; the world is as_ it was. (Whatever the slice's address and capacity: a nil slice too.) (LAID: no walk: one application.) -/
theorem Tryd.strings_Join_none (a : Option Addr) (c : Nat) (sep : ByteArray) (w : World) :
    Calls Tryd.prog 83 #[.slice a 0 c, .string sep] w fun e w' => e = .returned (.string ⟨#[]⟩) ∧ w' = w := Any.strings_Join_none Tryd.lays156 Tryd.Builder_Extra_156 a c sep w
open Go.RowKit in
/-- strings.Join: "Join concatenates the elements of its first argument to create a single string. The separator string sep is placed between elements in the resulting string.": HOWEVER MANY ELEMENTS. Below the heap's end the world is as_ it was. (LAID: no walk: one application.) -/
theorem Tryd.strings_Join (bk o c : Nat) (xs : List ByteArray) (sep : ByteArray) (w : World) (hcells : ∀ (j : Nat) x, xs[j]? = some x → w.cell? ⟨bk, o + j, none⟩ = some (.string x)) (hbk : bk < w.heap.size) (hN : xs.length ≤ 140737488355328) (hcap : xs.length ≤ c) (hlen : (Lib.join (xs.map (·.data.toList)) sep.data.toList).length ≤ 140737488355328) :
    Calls Tryd.prog 83 #[.slice (some ⟨bk, o, none⟩) xs.length c, .string sep] w fun e w' => e = .returned (.string ⟨(Lib.join (xs.map (·.data.toList)) sep.data.toList).toArray⟩) ∧ Below w.heap.size w w' := Any.strings_Join Tryd.lays156 Tryd.Builder_Extra_156 bk o c xs sep w hcells hbk hN hcap hlen
def Tryd.lays128_ren : Go.Shelf.Ren := ⟨fun | 128 => 139 | n => n, fun | 51 => 124 | 3 => 3 | 4 => 4 | 46 => 93 | 5 => 5 | 9 => 9 | n => n, fun | n => n⟩
theorem Tryd.lays128 : Go.Proofs.Lays.n128 Tryd.prog Tryd.lays128_ren := {
  mixed := by kernel_rfl
  f128 := Tryd.func139.trans (congrArg some (by kernel_rfl))
  t3 := Tryd.underlying3
  a3 := Tryd.isAgg3
  z3 := Tryd.sizeOf3
  v3 := Tryd.zeroValue3
  t4 := Tryd.underlying4
  a4 := Tryd.isAgg4
  z4 := Tryd.sizeOf4
  v4 := Tryd.zeroValue4
  t5 := Tryd.underlying5
  a5 := Tryd.isAgg5
  z5 := Tryd.sizeOf5
  v5 := Tryd.zeroValue5
  t9 := Tryd.underlying9
  a9 := Tryd.isAgg9
  z9 := Tryd.sizeOf9
  v9 := Tryd.zeroValue9
  t46 := Tryd.underlying93
  a46 := Tryd.isAgg93
  z46 := Tryd.sizeOf93
  v46 := Tryd.zeroValue93
  t51 := Tryd.underlying124
  a51 := Tryd.isAgg124
  z51 := Tryd.sizeOf124
  v51 := Tryd.zeroValue124 }
/-- bits.Len32: "Len32 returns the minimum number of bits required to represent x; the result is 0 for x == 0.": IT RETURNS 'Lib.bitLen x'; the world is as_ it was. ('h0', 'h1': x is a uint32.) (LAID: no walk: one application.) -/
theorem Tryd.bits_Len32 (x : Int) (w : World) (h0 : 0 ≤ x) (h1 : x ≤ 4294967295) :
    Calls Tryd.prog 139 #[.int .u32 x] w fun e w' => e = .returned (.int .i64 (Lib.bitLen x.toNat)) ∧ w' = w := Any.bits_Len32 Tryd.lays128 x w h0 h1
def Tryd.lays125_ren : Go.Shelf.Ren := ⟨fun | 125 => 109 | 128 => 139 | 129 => 140 | n => n, fun | 46 => 93 | 3 => 3 | 51 => 124 | 53 => 125 | 4 => 4 | 5 => 5 | 9 => 9 | n => n, fun | n => n⟩
theorem Tryd.lays125 : Go.Proofs.Lays.n125 Tryd.prog Tryd.lays125_ren := {
  mixed := by kernel_rfl
  f125 := Tryd.func109.trans (congrArg some (by kernel_rfl))
  f128 := Tryd.func139.trans (congrArg some (by kernel_rfl))
  f129 := Tryd.func140.trans (congrArg some (by kernel_rfl))
  t3 := Tryd.underlying3
  a3 := Tryd.isAgg3
  z3 := Tryd.sizeOf3
  v3 := Tryd.zeroValue3
  t4 := Tryd.underlying4
  a4 := Tryd.isAgg4
  z4 := Tryd.sizeOf4
  v4 := Tryd.zeroValue4
  t5 := Tryd.underlying5
  a5 := Tryd.isAgg5
  z5 := Tryd.sizeOf5
  v5 := Tryd.zeroValue5
  t9 := Tryd.underlying9
  a9 := Tryd.isAgg9
  z9 := Tryd.sizeOf9
  v9 := Tryd.zeroValue9
  t46 := Tryd.underlying93
  a46 := Tryd.isAgg93
  z46 := Tryd.sizeOf93
  v46 := Tryd.zeroValue93
  t51 := Tryd.underlying124
  a51 := Tryd.isAgg124
  z51 := Tryd.sizeOf124
  v51 := Tryd.zeroValue124
  t53 := Tryd.underlying125
  a53 := Tryd.isAgg125
  z53 := Tryd.sizeOf125
  v53 := Tryd.zeroValue125 }
/-- bits.Len: "Len returns the minimum number of bits required to represent x; the result is 0 for x == 0.": IT RETURNS 'Lib.bitLen x'; the world is as_ it was. (A uint has 64 bits in the model.) ITS CALLEE bits.Len64 IS MET BY ITS OWN CONTRACT OFF THE SHELF (lay that first). (LAID: no walk: one application.) -/
theorem Tryd.bits_Len (x : Int) (w : World) (h0 : 0 ≤ x) (h1 : x ≤ 18446744073709551615) :
    Calls Tryd.prog 109 #[.int .u64 x] w fun e w' => e = .returned (.int .i64 (Lib.bitLen x.toNat)) ∧ w' = w := Any.bits_Len Tryd.lays125 x w h0 h1
def Tryd.lays213_ren : Go.Shelf.Ren := ⟨fun | 213 => 130 | 265 => 169 | n => n, fun | 9 => 9 | 3 => 3 | n => n, fun | n => n⟩
theorem Tryd.lays213 : Go.Proofs.Lays.n213 Tryd.prog Tryd.lays213_ren := {
  mixed := by kernel_rfl
  f213 := Tryd.func130.trans (congrArg some (by kernel_rfl))
  f265 := Tryd.func169.trans (congrArg some (by kernel_rfl))
  t3 := Tryd.underlying3
  a3 := Tryd.isAgg3
  z3 := Tryd.sizeOf3
  v3 := Tryd.zeroValue3
  t9 := Tryd.underlying9
  a9 := Tryd.isAgg9
  z9 := Tryd.sizeOf9
  v9 := Tryd.zeroValue9 }
open Go.RowKit in
/-- internal/bytealg.CompareString (what strings.Compare calls): IT RETURNS 'Lib.compareBytes a b'; the world is as_ it was. (LAID: no walk: one application.) -/
theorem Tryd.bytealg_CompareString (a b : ByteArray) (w : World) :
    Calls Tryd.prog 130 #[.string a, .string b] w fun e w' => e = .returned (.int .i64 (Lib.compareBytes a.data.toList b.data.toList)) ∧ w' = w := Any.bytealg_CompareString Tryd.lays213 a b w
def Tryd.lays106_ren : Go.Shelf.Ren := ⟨fun | 106 => 107 | 213 => 130 | 265 => 169 | n => n, fun | 9 => 9 | 3 => 3 | n => n, fun | n => n⟩
theorem Tryd.lays106 : Go.Proofs.Lays.n106 Tryd.prog Tryd.lays106_ren := {
  mixed := by kernel_rfl
  f106 := Tryd.func107.trans (congrArg some (by kernel_rfl))
  f213 := Tryd.func130.trans (congrArg some (by kernel_rfl))
  f265 := Tryd.func169.trans (congrArg some (by kernel_rfl))
  t3 := Tryd.underlying3
  a3 := Tryd.isAgg3
  z3 := Tryd.sizeOf3
  v3 := Tryd.zeroValue3
  t9 := Tryd.underlying9
  a9 := Tryd.isAgg9
  z9 := Tryd.sizeOf9
  v9 := Tryd.zeroValue9 }
open Go.RowKit in
/-- strings.Compare: "Compare returns an integer comparing two strings lexicographically. The result will be 0 if a == b, -1 if a < b, and +1 if a > b.": IT RETURNS 'Lib.compareBytes a b'; the world is as_ it was. (LAID: no walk: one application.) -/
theorem Tryd.strings_Compare (a b : ByteArray) (w : World) :
    Calls Tryd.prog 107 #[.string a, .string b] w fun e w' => e = .returned (.int .i64 (Lib.compareBytes a.data.toList b.data.toList)) ∧ w' = w := Any.strings_Compare Tryd.lays106 a b w
def Tryd.lays137_ren : Go.Shelf.Ren := ⟨fun | 137 => 144 | 217 => 165 | 266 => 191 | n => n, fun | 9 => 9 | 5 => 5 | 3 => 3 | n => n, fun | n => n⟩
theorem Tryd.lays137 : Go.Proofs.Lays.n137 Tryd.prog Tryd.lays137_ren := {
  mixed := by kernel_rfl
  f137 := Tryd.func144.trans (congrArg some (by kernel_rfl))
  f217 := Tryd.func165.trans (congrArg some (by kernel_rfl))
  f266 := Tryd.func191.trans (congrArg some (by kernel_rfl))
  t3 := Tryd.underlying3
  a3 := Tryd.isAgg3
  z3 := Tryd.sizeOf3
  v3 := Tryd.zeroValue3
  t5 := Tryd.underlying5
  a5 := Tryd.isAgg5
  z5 := Tryd.sizeOf5
  v5 := Tryd.zeroValue5
  t9 := Tryd.underlying9
  a9 := Tryd.isAgg9
  z9 := Tryd.sizeOf9
  v9 := Tryd.zeroValue9 }
open Go.RowKit in
/-- strings.IndexByte: "IndexByte returns the index of the first instance of c in s, or -1 if c is not present in s.": IT RETURNS 'Lib.indexByte s c'; the world is as_ it was. (LAID: no walk: one application.) -/
theorem Tryd.strings_IndexByte (s : ByteArray) (c : Int) (w : World) :
    Calls Tryd.prog 144 #[.string s, .int .u8 c] w fun e w' => e = .returned (.int .i64 (Lib.indexByte s.data.toList c.toNat.toUInt8)) ∧ w' = w := Any.strings_IndexByte Tryd.lays137 s c w
def Tryd.lays129_ren : Go.Shelf.Ren := ⟨fun | 129 => 140 | n => n, fun | 53 => 125 | 3 => 3 | 4 => 4 | 46 => 93 | 5 => 5 | 9 => 9 | n => n, fun | n => n⟩
theorem Tryd.lays129 : Go.Proofs.Lays.n129 Tryd.prog Tryd.lays129_ren := {
  mixed := by kernel_rfl
  f129 := Tryd.func140.trans (congrArg some (by kernel_rfl))
  t3 := Tryd.underlying3
  a3 := Tryd.isAgg3
  z3 := Tryd.sizeOf3
  v3 := Tryd.zeroValue3
  t4 := Tryd.underlying4
  a4 := Tryd.isAgg4
  z4 := Tryd.sizeOf4
  v4 := Tryd.zeroValue4
  t5 := Tryd.underlying5
  a5 := Tryd.isAgg5
  z5 := Tryd.sizeOf5
  v5 := Tryd.zeroValue5
  t9 := Tryd.underlying9
  a9 := Tryd.isAgg9
  z9 := Tryd.sizeOf9
  v9 := Tryd.zeroValue9
  t46 := Tryd.underlying93
  a46 := Tryd.isAgg93
  z46 := Tryd.sizeOf93
  v46 := Tryd.zeroValue93
  t53 := Tryd.underlying125
  a53 := Tryd.isAgg125
  z53 := Tryd.sizeOf125
  v53 := Tryd.zeroValue125 }
/-- bits.Len64: "Len64 returns the minimum number of bits required to represent x; the result is 0 for x == 0.": IT RETURNS 'Lib.bitLen x'; the world is as_ it was. ('h0', 'h1': x is a uint64.) (LAID: no walk: one application.) -/
theorem Tryd.bits_Len64 (x : Int) (w : World) (h0 : 0 ≤ x) (h1 : x ≤ 18446744073709551615) :
    Calls Tryd.prog 140 #[.int .u64 x] w fun e w' => e = .returned (.int .i64 (Lib.bitLen x.toNat)) ∧ w' = w := Any.bits_Len64 Tryd.lays129 x w h0 h1
def Tryd.lays317_ren : Go.Shelf.Ren := ⟨fun | 317 => 187 | n => n, fun | 3 => 3 | 46 => 93 | n => n, fun | n => n⟩
theorem Tryd.lays317 : Go.Proofs.Lays.n317 Tryd.prog Tryd.lays317_ren := {
  mixed := by kernel_rfl
  f317 := Tryd.func187.trans (congrArg some (by kernel_rfl))
  t3 := Tryd.underlying3
  a3 := Tryd.isAgg3
  z3 := Tryd.sizeOf3
  v3 := Tryd.zeroValue3
  t46 := Tryd.underlying93
  a46 := Tryd.isAgg93
  z46 := Tryd.sizeOf93
  v46 := Tryd.zeroValue93 }
open Go.Lib in
/-- internal/strconv.log10Pow2: "log10Pow2(x) returns ⌊log₁₀ 2**x⌋ = ⌊x * log₁₀ 2⌋.": '(x * 78913) >> 18', at an x up to 64 (a length in bits). The world is as_ it was. (LAID: no walk: one application.) -/
theorem Tryd.internal_strconv_log10Pow2 (x : Nat) (h : x ≤ 64) (w : World) :
    Calls Tryd.prog 187 #[.int .i64 x] w fun e w' => e = .returned (.int .i64 (Lib.l10 x)) ∧ w' = w := Any.internal_strconv_log10Pow2 Tryd.lays317 x h w
def Tryd.lays318_ren : Go.Shelf.Ren := ⟨fun | 318 => 188 | n => n, fun | 3 => 3 | 4 => 4 | n => n, fun | n => n⟩
theorem Tryd.lays318 : Go.Proofs.Lays.n318 Tryd.prog Tryd.lays318_ren := {
  mixed := by kernel_rfl
  f318 := Tryd.func188.trans (congrArg some (by kernel_rfl))
  t3 := Tryd.underlying3
  a3 := Tryd.isAgg3
  z3 := Tryd.sizeOf3
  v3 := Tryd.zeroValue3
  t4 := Tryd.underlying4
  a4 := Tryd.isAgg4
  z4 := Tryd.sizeOf4
  v4 := Tryd.zeroValue4 }
open Go.Lib in
/-- internal/strconv.bool2: "bool2 converts b to an integer: 1 for true, 0 for false." The world is as_ it was. (LAID: no walk: one application.) -/
theorem Tryd.internal_strconv_bool2_int (b : Bool) (w : World) :
    Calls Tryd.prog 188 #[.bool b] w fun e w' => e = .returned (.int .i64 (if b then 1 else 0)) ∧ w' = w := Any.internal_strconv_bool2_int Tryd.lays318 b w
def Tryd.lays283_ren : Go.Shelf.Ren := ⟨fun | 283 => 161 | n => n, fun | 3 => 3 | 9 => 9 | 4 => 4 | n => n, fun | n => n⟩
theorem Tryd.lays283 : Go.Proofs.Lays.n283 Tryd.prog Tryd.lays283_ren := {
  mixed := by kernel_rfl
  f283 := Tryd.func161.trans (congrArg some (by kernel_rfl))
  t3 := Tryd.underlying3
  a3 := Tryd.isAgg3
  z3 := Tryd.sizeOf3
  v3 := Tryd.zeroValue3
  t4 := Tryd.underlying4
  a4 := Tryd.isAgg4
  z4 := Tryd.sizeOf4
  v4 := Tryd.zeroValue4
  t9 := Tryd.underlying9
  a9 := Tryd.isAgg9
  z9 := Tryd.sizeOf9
  v9 := Tryd.zeroValue9 }
open Go.Lib in
/-- internal/strconv.small: "small returns the string for an i with 0 <= i < nSmalls.": i's decimal numeral. The world is as_ it was. (LAID: no walk: one application.) -/
theorem Tryd.internal_strconv_small (i : Nat) (h : i < 100) (w : World) :
    Calls Tryd.prog 161 #[.int .i64 i] w fun e w' => e = .returned (.string ⟨(Lib.decDigits i).toArray⟩) ∧ w' = w := Any.internal_strconv_small Tryd.lays283 i h w
def Tryd.laysM284_ren : Go.Shelf.Ren := ⟨fun | 284 => 162 | 129 => 140 | 317 => 187 | 318 => 188 | n => n, fun | 53 => 125 | 3 => 3 | 212 => 200 | 0 => 0 | 4 => 4 | 46 => 93 | 5 => 5 | 9 => 9 | n => n, fun | 17 => 3 | n => n⟩
theorem Tryd.laysM284 : Go.Proofs.LaysM.n284 Tryd.prog Tryd.laysM284_ren := {
  mixed := by kernel_rfl
  f129 := Tryd.func140.trans (congrArg some (by kernel_rfl))
  f284 := Tryd.func162.trans (congrArg some (by kernel_rfl))
  f317 := Tryd.func187.trans (congrArg some (by kernel_rfl))
  f318 := Tryd.func188.trans (congrArg some (by kernel_rfl))
  t0 := Tryd.underlying0
  a0 := Tryd.isAgg0
  z0 := Tryd.sizeOf0
  v0 := Tryd.zeroValue0
  t3 := Tryd.underlying3
  a3 := Tryd.isAgg3
  z3 := Tryd.sizeOf3
  v3 := Tryd.zeroValue3
  t4 := Tryd.underlying4
  a4 := Tryd.isAgg4
  z4 := Tryd.sizeOf4
  v4 := Tryd.zeroValue4
  t5 := Tryd.underlying5
  a5 := Tryd.isAgg5
  z5 := Tryd.sizeOf5
  v5 := Tryd.zeroValue5
  t9 := Tryd.underlying9
  a9 := Tryd.isAgg9
  z9 := Tryd.sizeOf9
  v9 := Tryd.zeroValue9
  t46 := Tryd.underlying93
  a46 := Tryd.isAgg93
  z46 := Tryd.sizeOf93
  v46 := Tryd.zeroValue93
  t53 := Tryd.underlying125
  a53 := Tryd.isAgg125
  z53 := Tryd.sizeOf125
  v53 := Tryd.zeroValue125
  t212 := Tryd.underlying200
  a212 := Tryd.isAgg200
  z212 := Tryd.sizeOf200
  v212 := Tryd.zeroValue200
  g17 := by kernel_rfl
  i0 := by kernel_rfl
  i3 := by kernel_rfl
  i4 := by kernel_rfl
  i5 := by kernel_rfl
  i9 := by kernel_rfl
  i46 := by kernel_rfl
  i53 := by kernel_rfl
  i212 := by kernel_rfl
  m17 := by kernel_rfl }
open Go.Lib in
/-- internal/strconv.numDigits, at a d that is not 0: THE NUMBER OF d's DECIMAL DIGITS. The world is as_ it was. (LAID: no walk: one application.) -/
theorem Tryd.internal_strconv_numDigits (u : Nat) (h1 : 1 ≤ u) (h2 : u < 18446744073709551616) (w : World) (htab : Lib.TabIs Tryd.prog w "internal/strconv.uint64pow10" .u64 Lib.pow10Tab) :
    Calls Tryd.prog 162 #[.int .u64 u] w fun e w' => e = .returned (.int .i64 (Lib.nDigits u)) ∧ w' = w := Any.internal_strconv_numDigits Tryd.laysM284 u h1 h2 w htab
def Tryd.lays285_ren : Go.Shelf.Ren := ⟨fun | 285 => 163 | n => n, fun | 37 => 92 | 53 => 125 | 3 => 3 | 4 => 4 | 51 => 124 | 9 => 9 | 5 => 5 | 0 => 0 | n => n, fun | n => n⟩
theorem Tryd.lays285 : Go.Proofs.Lays.n285 Tryd.prog Tryd.lays285_ren := {
  mixed := by kernel_rfl
  f285 := Tryd.func163.trans (congrArg some (by kernel_rfl))
  t0 := Tryd.underlying0
  a0 := Tryd.isAgg0
  z0 := Tryd.sizeOf0
  v0 := Tryd.zeroValue0
  t3 := Tryd.underlying3
  a3 := Tryd.isAgg3
  z3 := Tryd.sizeOf3
  v3 := Tryd.zeroValue3
  t4 := Tryd.underlying4
  a4 := Tryd.isAgg4
  z4 := Tryd.sizeOf4
  v4 := Tryd.zeroValue4
  t5 := Tryd.underlying5
  a5 := Tryd.isAgg5
  z5 := Tryd.sizeOf5
  v5 := Tryd.zeroValue5
  t9 := Tryd.underlying9
  a9 := Tryd.isAgg9
  z9 := Tryd.sizeOf9
  v9 := Tryd.zeroValue9
  t37 := Tryd.underlying92
  a37 := Tryd.isAgg92
  z37 := Tryd.sizeOf92
  v37 := Tryd.zeroValue92
  t51 := Tryd.underlying124
  a51 := Tryd.isAgg124
  z51 := Tryd.sizeOf124
  v51 := Tryd.zeroValue124
  t53 := Tryd.underlying125
  a53 := Tryd.isAgg125
  z53 := Tryd.sizeOf125
  v53 := Tryd.zeroValue125 }
open Go.RowKit Go.Sort Go.Lib in
/-- internal/strconv.formatBase10: "formatBase10 formats the decimal representation of u into a. The caller is responsible for ensuring that a is big enough to hold u. If a is too big, leading zeros will be filled in as_ needed.": THE ROW HOLDS u's DIGITS ('FmtInv .. 0 ..': every place t holds 'dg u (len - 1 - t)'); all else is as_ it was but for the count of draws. (LAID: no walk: one application.) -/
theorem Tryd.internal_strconv_formatBase10 (blk off cap : Nat) (u : Nat) (d : Array UInt8) (w : World) (hH : Holds (fun (b : UInt8) => Value.int .u8 (b.toNat : Int)) w blk off d) (hu : u < 10 ^ d.size) (hu64 : u < 18446744073709551616) (hsz : d.size < 4611686018427387904) :
    Calls Tryd.prog 163 #[.slice (some ⟨blk, off, none⟩) d.size cap, .int .u64 u] w fun e w' =>
      e = .returned (.tuple #[]) ∧ ∃ (n v' : Nat) (dk : Array UInt8), w' = (putRow (fun (b : UInt8) => Value.int .u8 (b.toNat : Int)) w blk off dk).drewN n ∧ FmtInv d.size u 0 v' dk := Any.internal_strconv_formatBase10 Tryd.lays285 blk off cap u d w hH hu hu64 hsz
def Tryd.laysM246_ren : Go.Shelf.Ren := ⟨fun | 246 => 128 | 283 => 161 | 284 => 162 | 285 => 163 | 286 => 164 | 129 => 140 | 317 => 187 | 318 => 188 | 319 => 189 | 320 => 190 | 337 => 196 | 338 => 197 | n => n, fun | 2 => 2 | 3 => 3 | 9 => 9 | 4 => 4 | 171 => 178 | 0 => 0 | 53 => 125 | 37 => 92 | 5 => 5 | 173 => 180 | 212 => 200 | 51 => 124 | 20 => 20 | 213 => 201 | 46 => 93 | 232 => 38 | 233 => 213 | n => n, fun | 17 => 3 | 18 => 21 | 19 => 22 | n => n⟩
theorem Tryd.laysM246 : Go.Proofs.LaysM.n246 Tryd.prog Tryd.laysM246_ren := {
  mixed := by kernel_rfl
  f129 := Tryd.func140.trans (congrArg some (by kernel_rfl))
  f246 := Tryd.func128.trans (congrArg some (by kernel_rfl))
  f283 := Tryd.func161.trans (congrArg some (by kernel_rfl))
  f284 := Tryd.func162.trans (congrArg some (by kernel_rfl))
  f285 := Tryd.func163.trans (congrArg some (by kernel_rfl))
  f286 := Tryd.func164.trans (congrArg some (by kernel_rfl))
  f317 := Tryd.func187.trans (congrArg some (by kernel_rfl))
  f318 := Tryd.func188.trans (congrArg some (by kernel_rfl))
  f319 := Tryd.func189.trans (congrArg some (by kernel_rfl))
  f320 := Tryd.func190.trans (congrArg some (by kernel_rfl))
  f337 := Tryd.func196.trans (congrArg some (by kernel_rfl))
  f338 := Tryd.func197.trans (congrArg some (by kernel_rfl))
  t0 := Tryd.underlying0
  a0 := Tryd.isAgg0
  z0 := Tryd.sizeOf0
  v0 := Tryd.zeroValue0
  t2 := Tryd.underlying2
  a2 := Tryd.isAgg2
  z2 := Tryd.sizeOf2
  v2 := Tryd.zeroValue2
  t3 := Tryd.underlying3
  a3 := Tryd.isAgg3
  z3 := Tryd.sizeOf3
  v3 := Tryd.zeroValue3
  t4 := Tryd.underlying4
  a4 := Tryd.isAgg4
  z4 := Tryd.sizeOf4
  v4 := Tryd.zeroValue4
  t5 := Tryd.underlying5
  a5 := Tryd.isAgg5
  z5 := Tryd.sizeOf5
  v5 := Tryd.zeroValue5
  t9 := Tryd.underlying9
  a9 := Tryd.isAgg9
  z9 := Tryd.sizeOf9
  v9 := Tryd.zeroValue9
  t20 := Tryd.underlying20
  a20 := Tryd.isAgg20
  z20 := Tryd.sizeOf20
  v20 := Tryd.zeroValue20
  t37 := Tryd.underlying92
  a37 := Tryd.isAgg92
  z37 := Tryd.sizeOf92
  v37 := Tryd.zeroValue92
  t46 := Tryd.underlying93
  a46 := Tryd.isAgg93
  z46 := Tryd.sizeOf93
  v46 := Tryd.zeroValue93
  t51 := Tryd.underlying124
  a51 := Tryd.isAgg124
  z51 := Tryd.sizeOf124
  v51 := Tryd.zeroValue124
  t53 := Tryd.underlying125
  a53 := Tryd.isAgg125
  z53 := Tryd.sizeOf125
  v53 := Tryd.zeroValue125
  t171 := Tryd.underlying178
  a171 := Tryd.isAgg178
  z171 := Tryd.sizeOf178
  v171 := Tryd.zeroValue178
  t173 := Tryd.underlying180
  a173 := Tryd.isAgg180
  z173 := Tryd.sizeOf180
  v173 := Tryd.zeroValue180
  t212 := Tryd.underlying200
  a212 := Tryd.isAgg200
  z212 := Tryd.sizeOf200
  v212 := Tryd.zeroValue200
  t213 := Tryd.underlying201
  a213 := Tryd.isAgg201
  z213 := Tryd.sizeOf201
  t232 := Tryd.underlying38
  a232 := Tryd.isAgg38
  z232 := Tryd.sizeOf38
  v232 := Tryd.zeroValue38
  t233 := Tryd.underlying213
  a233 := Tryd.isAgg213
  z233 := Tryd.sizeOf213
  v233 := Tryd.zeroValue213
  g17 := by kernel_rfl
  g18 := by kernel_rfl
  g19 := by kernel_rfl
  i0 := by kernel_rfl
  i2 := by kernel_rfl
  i3 := by kernel_rfl
  i4 := by kernel_rfl
  i5 := by kernel_rfl
  i9 := by kernel_rfl
  i20 := by kernel_rfl
  i37 := by kernel_rfl
  i46 := by kernel_rfl
  i51 := by kernel_rfl
  i53 := by kernel_rfl
  i171 := by kernel_rfl
  i173 := by kernel_rfl
  i212 := by kernel_rfl
  i232 := by kernel_rfl
  i233 := by kernel_rfl
  m17 := by kernel_rfl
  m18 := by kernel_rfl
  m19 := by kernel_rfl }
open Go.RowKit Go.Sort Go.Lib in
/-- internal/strconv.FormatInt: "FormatInt returns the string representation of i in the given base": AT BASE 10: i's decimal numeral, for every int64. The world behind the call: the world before it, new blocks behind the heap, draws. (LAID: no walk: one application.) -/
theorem Tryd.internal_strconv_FormatInt_10 (n : Int) (h0 : -9223372036854775808 ≤ n) (h1 : n ≤ 9223372036854775807) (w : World) (htab : Lib.TabIs Tryd.prog w "internal/strconv.uint64pow10" .u64 Lib.pow10Tab) :
    Calls Tryd.prog 128 #[.int .i64 n, .int .i64 10] w fun e w' => e = .returned (.string ⟨(Lib.itoa n).toArray⟩) ∧ ∃ k os, w' = grow (w.drewN k) os := Any.internal_strconv_FormatInt_10 Tryd.laysM246 n h0 h1 w htab
def Tryd.lays246_ren : Go.Shelf.Ren := ⟨fun | 246 => 128 | 283 => 161 | 284 => 162 | 285 => 163 | 286 => 164 | 129 => 140 | 317 => 187 | 318 => 188 | 319 => 189 | 320 => 190 | 337 => 196 | 338 => 197 | n => n, fun | 2 => 2 | 3 => 3 | 9 => 9 | 4 => 4 | 171 => 178 | 0 => 0 | 53 => 125 | 37 => 92 | 5 => 5 | 173 => 180 | 212 => 200 | 51 => 124 | 20 => 20 | 213 => 201 | 46 => 93 | 232 => 38 | 233 => 213 | n => n, fun | 17 => 3 | 18 => 21 | 19 => 22 | n => n⟩
theorem Tryd.lays246 : Go.Proofs.Lays.n246 Tryd.prog Tryd.lays246_ren := {
  mixed := by kernel_rfl
  f129 := Tryd.func140.trans (congrArg some (by kernel_rfl))
  f246 := Tryd.func128.trans (congrArg some (by kernel_rfl))
  f283 := Tryd.func161.trans (congrArg some (by kernel_rfl))
  f284 := Tryd.func162.trans (congrArg some (by kernel_rfl))
  f285 := Tryd.func163.trans (congrArg some (by kernel_rfl))
  f286 := Tryd.func164.trans (congrArg some (by kernel_rfl))
  f317 := Tryd.func187.trans (congrArg some (by kernel_rfl))
  f318 := Tryd.func188.trans (congrArg some (by kernel_rfl))
  f319 := Tryd.func189.trans (congrArg some (by kernel_rfl))
  f320 := Tryd.func190.trans (congrArg some (by kernel_rfl))
  f337 := Tryd.func196.trans (congrArg some (by kernel_rfl))
  f338 := Tryd.func197.trans (congrArg some (by kernel_rfl))
  t0 := Tryd.underlying0
  a0 := Tryd.isAgg0
  z0 := Tryd.sizeOf0
  v0 := Tryd.zeroValue0
  t2 := Tryd.underlying2
  a2 := Tryd.isAgg2
  z2 := Tryd.sizeOf2
  v2 := Tryd.zeroValue2
  t3 := Tryd.underlying3
  a3 := Tryd.isAgg3
  z3 := Tryd.sizeOf3
  v3 := Tryd.zeroValue3
  t4 := Tryd.underlying4
  a4 := Tryd.isAgg4
  z4 := Tryd.sizeOf4
  v4 := Tryd.zeroValue4
  t5 := Tryd.underlying5
  a5 := Tryd.isAgg5
  z5 := Tryd.sizeOf5
  v5 := Tryd.zeroValue5
  t9 := Tryd.underlying9
  a9 := Tryd.isAgg9
  z9 := Tryd.sizeOf9
  v9 := Tryd.zeroValue9
  t20 := Tryd.underlying20
  a20 := Tryd.isAgg20
  z20 := Tryd.sizeOf20
  v20 := Tryd.zeroValue20
  t37 := Tryd.underlying92
  a37 := Tryd.isAgg92
  z37 := Tryd.sizeOf92
  v37 := Tryd.zeroValue92
  t46 := Tryd.underlying93
  a46 := Tryd.isAgg93
  z46 := Tryd.sizeOf93
  v46 := Tryd.zeroValue93
  t51 := Tryd.underlying124
  a51 := Tryd.isAgg124
  z51 := Tryd.sizeOf124
  v51 := Tryd.zeroValue124
  t53 := Tryd.underlying125
  a53 := Tryd.isAgg125
  z53 := Tryd.sizeOf125
  v53 := Tryd.zeroValue125
  t171 := Tryd.underlying178
  a171 := Tryd.isAgg178
  z171 := Tryd.sizeOf178
  v171 := Tryd.zeroValue178
  t173 := Tryd.underlying180
  a173 := Tryd.isAgg180
  z173 := Tryd.sizeOf180
  v173 := Tryd.zeroValue180
  t212 := Tryd.underlying200
  a212 := Tryd.isAgg200
  z212 := Tryd.sizeOf200
  v212 := Tryd.zeroValue200
  t213 := Tryd.underlying201
  a213 := Tryd.isAgg201
  z213 := Tryd.sizeOf201
  t232 := Tryd.underlying38
  a232 := Tryd.isAgg38
  z232 := Tryd.sizeOf38
  v232 := Tryd.zeroValue38
  t233 := Tryd.underlying213
  a233 := Tryd.isAgg213
  z233 := Tryd.sizeOf213
  v233 := Tryd.zeroValue213
  g17 := by kernel_rfl
  g18 := by kernel_rfl
  g19 := by kernel_rfl }
open Go.RowKit Go.Sort Go.Lib in
/-- THE ROAD WITHOUT THE TABLE: 0 <= i < 100: two constants are read, nothing is laid: no premise on the world, and the world is as_ it was. (LAID: no walk: one application.) -/
theorem Tryd.internal_strconv_FormatInt_10_small (i : Nat) (hi : i < 100) (w : World) :
    Calls Tryd.prog 128 #[.int .i64 i, .int .i64 10] w fun e w' => e = .returned (.string ⟨(Lib.decDigits i).toArray⟩) ∧ w' = w := Any.internal_strconv_FormatInt_10_small Tryd.lays246 i hi w
def Tryd.laysM243_ren : Go.Shelf.Ren := ⟨fun | 243 => 103 | 246 => 128 | 283 => 161 | 284 => 162 | 285 => 163 | 286 => 164 | 129 => 140 | 317 => 187 | 318 => 188 | 319 => 189 | 320 => 190 | 337 => 196 | 338 => 197 | n => n, fun | 3 => 3 | 9 => 9 | 2 => 2 | 4 => 4 | 171 => 178 | 0 => 0 | 53 => 125 | 37 => 92 | 5 => 5 | 173 => 180 | 212 => 200 | 51 => 124 | 20 => 20 | 213 => 201 | 46 => 93 | 232 => 38 | 233 => 213 | n => n, fun | 17 => 3 | 18 => 21 | 19 => 22 | n => n⟩
theorem Tryd.laysM243 : Go.Proofs.LaysM.n243 Tryd.prog Tryd.laysM243_ren := {
  mixed := by kernel_rfl
  f129 := Tryd.func140.trans (congrArg some (by kernel_rfl))
  f243 := Tryd.func103.trans (congrArg some (by kernel_rfl))
  f246 := Tryd.func128.trans (congrArg some (by kernel_rfl))
  f283 := Tryd.func161.trans (congrArg some (by kernel_rfl))
  f284 := Tryd.func162.trans (congrArg some (by kernel_rfl))
  f285 := Tryd.func163.trans (congrArg some (by kernel_rfl))
  f286 := Tryd.func164.trans (congrArg some (by kernel_rfl))
  f317 := Tryd.func187.trans (congrArg some (by kernel_rfl))
  f318 := Tryd.func188.trans (congrArg some (by kernel_rfl))
  f319 := Tryd.func189.trans (congrArg some (by kernel_rfl))
  f320 := Tryd.func190.trans (congrArg some (by kernel_rfl))
  f337 := Tryd.func196.trans (congrArg some (by kernel_rfl))
  f338 := Tryd.func197.trans (congrArg some (by kernel_rfl))
  t0 := Tryd.underlying0
  a0 := Tryd.isAgg0
  z0 := Tryd.sizeOf0
  v0 := Tryd.zeroValue0
  t2 := Tryd.underlying2
  a2 := Tryd.isAgg2
  z2 := Tryd.sizeOf2
  v2 := Tryd.zeroValue2
  t3 := Tryd.underlying3
  a3 := Tryd.isAgg3
  z3 := Tryd.sizeOf3
  v3 := Tryd.zeroValue3
  t4 := Tryd.underlying4
  a4 := Tryd.isAgg4
  z4 := Tryd.sizeOf4
  v4 := Tryd.zeroValue4
  t5 := Tryd.underlying5
  a5 := Tryd.isAgg5
  z5 := Tryd.sizeOf5
  v5 := Tryd.zeroValue5
  t9 := Tryd.underlying9
  a9 := Tryd.isAgg9
  z9 := Tryd.sizeOf9
  v9 := Tryd.zeroValue9
  t20 := Tryd.underlying20
  a20 := Tryd.isAgg20
  z20 := Tryd.sizeOf20
  v20 := Tryd.zeroValue20
  t37 := Tryd.underlying92
  a37 := Tryd.isAgg92
  z37 := Tryd.sizeOf92
  v37 := Tryd.zeroValue92
  t46 := Tryd.underlying93
  a46 := Tryd.isAgg93
  z46 := Tryd.sizeOf93
  v46 := Tryd.zeroValue93
  t51 := Tryd.underlying124
  a51 := Tryd.isAgg124
  z51 := Tryd.sizeOf124
  v51 := Tryd.zeroValue124
  t53 := Tryd.underlying125
  a53 := Tryd.isAgg125
  z53 := Tryd.sizeOf125
  v53 := Tryd.zeroValue125
  t171 := Tryd.underlying178
  a171 := Tryd.isAgg178
  z171 := Tryd.sizeOf178
  v171 := Tryd.zeroValue178
  t173 := Tryd.underlying180
  a173 := Tryd.isAgg180
  z173 := Tryd.sizeOf180
  v173 := Tryd.zeroValue180
  t212 := Tryd.underlying200
  a212 := Tryd.isAgg200
  z212 := Tryd.sizeOf200
  v212 := Tryd.zeroValue200
  t213 := Tryd.underlying201
  a213 := Tryd.isAgg201
  z213 := Tryd.sizeOf201
  t232 := Tryd.underlying38
  a232 := Tryd.isAgg38
  z232 := Tryd.sizeOf38
  v232 := Tryd.zeroValue38
  t233 := Tryd.underlying213
  a233 := Tryd.isAgg213
  z233 := Tryd.sizeOf213
  v233 := Tryd.zeroValue213
  g17 := by kernel_rfl
  g18 := by kernel_rfl
  g19 := by kernel_rfl
  i0 := by kernel_rfl
  i2 := by kernel_rfl
  i3 := by kernel_rfl
  i4 := by kernel_rfl
  i5 := by kernel_rfl
  i9 := by kernel_rfl
  i20 := by kernel_rfl
  i37 := by kernel_rfl
  i46 := by kernel_rfl
  i51 := by kernel_rfl
  i53 := by kernel_rfl
  i171 := by kernel_rfl
  i173 := by kernel_rfl
  i212 := by kernel_rfl
  i232 := by kernel_rfl
  i233 := by kernel_rfl
  m17 := by kernel_rfl
  m18 := by kernel_rfl
  m19 := by kernel_rfl }
open Go.RowKit Go.Sort Go.Lib in
/-- internal/strconv.Itoa: "Itoa is equivalent to FormatInt(int64(i), 10).": i's decimal numeral, for every int. (LAID: no walk: one application.) -/
theorem Tryd.internal_strconv_Itoa (n : Int) (h0 : -9223372036854775808 ≤ n) (h1 : n ≤ 9223372036854775807) (w : World) (htab : Lib.TabIs Tryd.prog w "internal/strconv.uint64pow10" .u64 Lib.pow10Tab) :
    Calls Tryd.prog 103 #[.int .i64 n] w fun e w' => e = .returned (.string ⟨(Lib.itoa n).toArray⟩) ∧ ∃ k os, w' = grow (w.drewN k) os := Any.internal_strconv_Itoa Tryd.laysM243 n h0 h1 w htab
def Tryd.lays243_ren : Go.Shelf.Ren := ⟨fun | 243 => 103 | 246 => 128 | 283 => 161 | 284 => 162 | 285 => 163 | 286 => 164 | 129 => 140 | 317 => 187 | 318 => 188 | 319 => 189 | 320 => 190 | 337 => 196 | 338 => 197 | n => n, fun | 3 => 3 | 9 => 9 | 2 => 2 | 4 => 4 | 171 => 178 | 0 => 0 | 53 => 125 | 37 => 92 | 5 => 5 | 173 => 180 | 212 => 200 | 51 => 124 | 20 => 20 | 213 => 201 | 46 => 93 | 232 => 38 | 233 => 213 | n => n, fun | 17 => 3 | 18 => 21 | 19 => 22 | n => n⟩
theorem Tryd.lays243 : Go.Proofs.Lays.n243 Tryd.prog Tryd.lays243_ren := {
  mixed := by kernel_rfl
  f129 := Tryd.func140.trans (congrArg some (by kernel_rfl))
  f243 := Tryd.func103.trans (congrArg some (by kernel_rfl))
  f246 := Tryd.func128.trans (congrArg some (by kernel_rfl))
  f283 := Tryd.func161.trans (congrArg some (by kernel_rfl))
  f284 := Tryd.func162.trans (congrArg some (by kernel_rfl))
  f285 := Tryd.func163.trans (congrArg some (by kernel_rfl))
  f286 := Tryd.func164.trans (congrArg some (by kernel_rfl))
  f317 := Tryd.func187.trans (congrArg some (by kernel_rfl))
  f318 := Tryd.func188.trans (congrArg some (by kernel_rfl))
  f319 := Tryd.func189.trans (congrArg some (by kernel_rfl))
  f320 := Tryd.func190.trans (congrArg some (by kernel_rfl))
  f337 := Tryd.func196.trans (congrArg some (by kernel_rfl))
  f338 := Tryd.func197.trans (congrArg some (by kernel_rfl))
  t0 := Tryd.underlying0
  a0 := Tryd.isAgg0
  z0 := Tryd.sizeOf0
  v0 := Tryd.zeroValue0
  t2 := Tryd.underlying2
  a2 := Tryd.isAgg2
  z2 := Tryd.sizeOf2
  v2 := Tryd.zeroValue2
  t3 := Tryd.underlying3
  a3 := Tryd.isAgg3
  z3 := Tryd.sizeOf3
  v3 := Tryd.zeroValue3
  t4 := Tryd.underlying4
  a4 := Tryd.isAgg4
  z4 := Tryd.sizeOf4
  v4 := Tryd.zeroValue4
  t5 := Tryd.underlying5
  a5 := Tryd.isAgg5
  z5 := Tryd.sizeOf5
  v5 := Tryd.zeroValue5
  t9 := Tryd.underlying9
  a9 := Tryd.isAgg9
  z9 := Tryd.sizeOf9
  v9 := Tryd.zeroValue9
  t20 := Tryd.underlying20
  a20 := Tryd.isAgg20
  z20 := Tryd.sizeOf20
  v20 := Tryd.zeroValue20
  t37 := Tryd.underlying92
  a37 := Tryd.isAgg92
  z37 := Tryd.sizeOf92
  v37 := Tryd.zeroValue92
  t46 := Tryd.underlying93
  a46 := Tryd.isAgg93
  z46 := Tryd.sizeOf93
  v46 := Tryd.zeroValue93
  t51 := Tryd.underlying124
  a51 := Tryd.isAgg124
  z51 := Tryd.sizeOf124
  v51 := Tryd.zeroValue124
  t53 := Tryd.underlying125
  a53 := Tryd.isAgg125
  z53 := Tryd.sizeOf125
  v53 := Tryd.zeroValue125
  t171 := Tryd.underlying178
  a171 := Tryd.isAgg178
  z171 := Tryd.sizeOf178
  v171 := Tryd.zeroValue178
  t173 := Tryd.underlying180
  a173 := Tryd.isAgg180
  z173 := Tryd.sizeOf180
  v173 := Tryd.zeroValue180
  t212 := Tryd.underlying200
  a212 := Tryd.isAgg200
  z212 := Tryd.sizeOf200
  v212 := Tryd.zeroValue200
  t213 := Tryd.underlying201
  a213 := Tryd.isAgg201
  z213 := Tryd.sizeOf201
  t232 := Tryd.underlying38
  a232 := Tryd.isAgg38
  z232 := Tryd.sizeOf38
  v232 := Tryd.zeroValue38
  t233 := Tryd.underlying213
  a233 := Tryd.isAgg213
  z233 := Tryd.sizeOf213
  v233 := Tryd.zeroValue213
  g17 := by kernel_rfl
  g18 := by kernel_rfl
  g19 := by kernel_rfl }
open Go.RowKit Go.Sort Go.Lib in
/-- THE ROAD WITHOUT THE TABLE: 0 <= i < 100. (LAID: no walk: one application.) -/
theorem Tryd.internal_strconv_Itoa_small (i : Nat) (hi : i < 100) (w : World) :
    Calls Tryd.prog 103 #[.int .i64 i] w fun e w' => e = .returned (.string ⟨(Lib.decDigits i).toArray⟩) ∧ w' = w := Any.internal_strconv_Itoa_small Tryd.lays243 i hi w
def Tryd.laysM171_ren : Go.Shelf.Ren := ⟨fun | 171 => 69 | 243 => 103 | 246 => 128 | 283 => 161 | 284 => 162 | 285 => 163 | 286 => 164 | 129 => 140 | 317 => 187 | 318 => 188 | 319 => 189 | 320 => 190 | 337 => 196 | 338 => 197 | n => n, fun | 3 => 3 | 9 => 9 | 2 => 2 | 4 => 4 | 171 => 178 | 0 => 0 | 53 => 125 | 37 => 92 | 5 => 5 | 173 => 180 | 212 => 200 | 51 => 124 | 20 => 20 | 213 => 201 | 46 => 93 | 232 => 38 | 233 => 213 | n => n, fun | 17 => 3 | 18 => 21 | 19 => 22 | n => n⟩
theorem Tryd.laysM171 : Go.Proofs.LaysM.n171 Tryd.prog Tryd.laysM171_ren := {
  mixed := by kernel_rfl
  f129 := Tryd.func140.trans (congrArg some (by kernel_rfl))
  f171 := Tryd.func69.trans (congrArg some (by kernel_rfl))
  f243 := Tryd.func103.trans (congrArg some (by kernel_rfl))
  f246 := Tryd.func128.trans (congrArg some (by kernel_rfl))
  f283 := Tryd.func161.trans (congrArg some (by kernel_rfl))
  f284 := Tryd.func162.trans (congrArg some (by kernel_rfl))
  f285 := Tryd.func163.trans (congrArg some (by kernel_rfl))
  f286 := Tryd.func164.trans (congrArg some (by kernel_rfl))
  f317 := Tryd.func187.trans (congrArg some (by kernel_rfl))
  f318 := Tryd.func188.trans (congrArg some (by kernel_rfl))
  f319 := Tryd.func189.trans (congrArg some (by kernel_rfl))
  f320 := Tryd.func190.trans (congrArg some (by kernel_rfl))
  f337 := Tryd.func196.trans (congrArg some (by kernel_rfl))
  f338 := Tryd.func197.trans (congrArg some (by kernel_rfl))
  t0 := Tryd.underlying0
  a0 := Tryd.isAgg0
  z0 := Tryd.sizeOf0
  v0 := Tryd.zeroValue0
  t2 := Tryd.underlying2
  a2 := Tryd.isAgg2
  z2 := Tryd.sizeOf2
  v2 := Tryd.zeroValue2
  t3 := Tryd.underlying3
  a3 := Tryd.isAgg3
  z3 := Tryd.sizeOf3
  v3 := Tryd.zeroValue3
  t4 := Tryd.underlying4
  a4 := Tryd.isAgg4
  z4 := Tryd.sizeOf4
  v4 := Tryd.zeroValue4
  t5 := Tryd.underlying5
  a5 := Tryd.isAgg5
  z5 := Tryd.sizeOf5
  v5 := Tryd.zeroValue5
  t9 := Tryd.underlying9
  a9 := Tryd.isAgg9
  z9 := Tryd.sizeOf9
  v9 := Tryd.zeroValue9
  t20 := Tryd.underlying20
  a20 := Tryd.isAgg20
  z20 := Tryd.sizeOf20
  v20 := Tryd.zeroValue20
  t37 := Tryd.underlying92
  a37 := Tryd.isAgg92
  z37 := Tryd.sizeOf92
  v37 := Tryd.zeroValue92
  t46 := Tryd.underlying93
  a46 := Tryd.isAgg93
  z46 := Tryd.sizeOf93
  v46 := Tryd.zeroValue93
  t51 := Tryd.underlying124
  a51 := Tryd.isAgg124
  z51 := Tryd.sizeOf124
  v51 := Tryd.zeroValue124
  t53 := Tryd.underlying125
  a53 := Tryd.isAgg125
  z53 := Tryd.sizeOf125
  v53 := Tryd.zeroValue125
  t171 := Tryd.underlying178
  a171 := Tryd.isAgg178
  z171 := Tryd.sizeOf178
  v171 := Tryd.zeroValue178
  t173 := Tryd.underlying180
  a173 := Tryd.isAgg180
  z173 := Tryd.sizeOf180
  v173 := Tryd.zeroValue180
  t212 := Tryd.underlying200
  a212 := Tryd.isAgg200
  z212 := Tryd.sizeOf200
  v212 := Tryd.zeroValue200
  t213 := Tryd.underlying201
  a213 := Tryd.isAgg201
  z213 := Tryd.sizeOf201
  t232 := Tryd.underlying38
  a232 := Tryd.isAgg38
  z232 := Tryd.sizeOf38
  v232 := Tryd.zeroValue38
  t233 := Tryd.underlying213
  a233 := Tryd.isAgg213
  z233 := Tryd.sizeOf213
  v233 := Tryd.zeroValue213
  g17 := by kernel_rfl
  g18 := by kernel_rfl
  g19 := by kernel_rfl
  i0 := by kernel_rfl
  i2 := by kernel_rfl
  i3 := by kernel_rfl
  i4 := by kernel_rfl
  i5 := by kernel_rfl
  i9 := by kernel_rfl
  i20 := by kernel_rfl
  i37 := by kernel_rfl
  i46 := by kernel_rfl
  i51 := by kernel_rfl
  i53 := by kernel_rfl
  i171 := by kernel_rfl
  i173 := by kernel_rfl
  i212 := by kernel_rfl
  i232 := by kernel_rfl
  i233 := by kernel_rfl
  m17 := by kernel_rfl
  m18 := by kernel_rfl
  m19 := by kernel_rfl }
open Go.RowKit Go.Sort Go.Lib in
/-- strconv.Itoa: "Itoa is equivalent to FormatInt(int64(i), 10).": i's DECIMAL NUMERAL ('Lib.itoa': a '-' where i is negative, then the digits), FOR EVERY int. The world behind the call: the world before it, new blocks behind the heap (the library's 'var a [24]byte'), draws. (LAID: no walk: one application.) -/
theorem Tryd.strconv_Itoa (n : Int) (h0 : -9223372036854775808 ≤ n) (h1 : n ≤ 9223372036854775807) (w : World) (htab : Lib.TabIs Tryd.prog w "internal/strconv.uint64pow10" .u64 Lib.pow10Tab) :
    Calls Tryd.prog 69 #[.int .i64 n] w fun e w' => e = .returned (.string ⟨(Lib.itoa n).toArray⟩) ∧ ∃ k os, w' = grow (w.drewN k) os := Any.strconv_Itoa Tryd.laysM171 n h0 h1 w htab
def Tryd.lays171_ren : Go.Shelf.Ren := ⟨fun | 171 => 69 | 243 => 103 | 246 => 128 | 283 => 161 | 284 => 162 | 285 => 163 | 286 => 164 | 129 => 140 | 317 => 187 | 318 => 188 | 319 => 189 | 320 => 190 | 337 => 196 | 338 => 197 | n => n, fun | 3 => 3 | 9 => 9 | 2 => 2 | 4 => 4 | 171 => 178 | 0 => 0 | 53 => 125 | 37 => 92 | 5 => 5 | 173 => 180 | 212 => 200 | 51 => 124 | 20 => 20 | 213 => 201 | 46 => 93 | 232 => 38 | 233 => 213 | n => n, fun | 17 => 3 | 18 => 21 | 19 => 22 | n => n⟩
theorem Tryd.lays171 : Go.Proofs.Lays.n171 Tryd.prog Tryd.lays171_ren := {
  mixed := by kernel_rfl
  f129 := Tryd.func140.trans (congrArg some (by kernel_rfl))
  f171 := Tryd.func69.trans (congrArg some (by kernel_rfl))
  f243 := Tryd.func103.trans (congrArg some (by kernel_rfl))
  f246 := Tryd.func128.trans (congrArg some (by kernel_rfl))
  f283 := Tryd.func161.trans (congrArg some (by kernel_rfl))
  f284 := Tryd.func162.trans (congrArg some (by kernel_rfl))
  f285 := Tryd.func163.trans (congrArg some (by kernel_rfl))
  f286 := Tryd.func164.trans (congrArg some (by kernel_rfl))
  f317 := Tryd.func187.trans (congrArg some (by kernel_rfl))
  f318 := Tryd.func188.trans (congrArg some (by kernel_rfl))
  f319 := Tryd.func189.trans (congrArg some (by kernel_rfl))
  f320 := Tryd.func190.trans (congrArg some (by kernel_rfl))
  f337 := Tryd.func196.trans (congrArg some (by kernel_rfl))
  f338 := Tryd.func197.trans (congrArg some (by kernel_rfl))
  t0 := Tryd.underlying0
  a0 := Tryd.isAgg0
  z0 := Tryd.sizeOf0
  v0 := Tryd.zeroValue0
  t2 := Tryd.underlying2
  a2 := Tryd.isAgg2
  z2 := Tryd.sizeOf2
  v2 := Tryd.zeroValue2
  t3 := Tryd.underlying3
  a3 := Tryd.isAgg3
  z3 := Tryd.sizeOf3
  v3 := Tryd.zeroValue3
  t4 := Tryd.underlying4
  a4 := Tryd.isAgg4
  z4 := Tryd.sizeOf4
  v4 := Tryd.zeroValue4
  t5 := Tryd.underlying5
  a5 := Tryd.isAgg5
  z5 := Tryd.sizeOf5
  v5 := Tryd.zeroValue5
  t9 := Tryd.underlying9
  a9 := Tryd.isAgg9
  z9 := Tryd.sizeOf9
  v9 := Tryd.zeroValue9
  t20 := Tryd.underlying20
  a20 := Tryd.isAgg20
  z20 := Tryd.sizeOf20
  v20 := Tryd.zeroValue20
  t37 := Tryd.underlying92
  a37 := Tryd.isAgg92
  z37 := Tryd.sizeOf92
  v37 := Tryd.zeroValue92
  t46 := Tryd.underlying93
  a46 := Tryd.isAgg93
  z46 := Tryd.sizeOf93
  v46 := Tryd.zeroValue93
  t51 := Tryd.underlying124
  a51 := Tryd.isAgg124
  z51 := Tryd.sizeOf124
  v51 := Tryd.zeroValue124
  t53 := Tryd.underlying125
  a53 := Tryd.isAgg125
  z53 := Tryd.sizeOf125
  v53 := Tryd.zeroValue125
  t171 := Tryd.underlying178
  a171 := Tryd.isAgg178
  z171 := Tryd.sizeOf178
  v171 := Tryd.zeroValue178
  t173 := Tryd.underlying180
  a173 := Tryd.isAgg180
  z173 := Tryd.sizeOf180
  v173 := Tryd.zeroValue180
  t212 := Tryd.underlying200
  a212 := Tryd.isAgg200
  z212 := Tryd.sizeOf200
  v212 := Tryd.zeroValue200
  t213 := Tryd.underlying201
  a213 := Tryd.isAgg201
  z213 := Tryd.sizeOf201
  t232 := Tryd.underlying38
  a232 := Tryd.isAgg38
  z232 := Tryd.sizeOf38
  v232 := Tryd.zeroValue38
  t233 := Tryd.underlying213
  a233 := Tryd.isAgg213
  z233 := Tryd.sizeOf213
  v233 := Tryd.zeroValue213
  g17 := by kernel_rfl
  g18 := by kernel_rfl
  g19 := by kernel_rfl }
open Go.RowKit Go.Sort Go.Lib in
/-- THE ROAD WITHOUT THE TABLE: 0 <= i < 100: NO PREMISE ON THE WORLD, AND THE WORLD IS AS IT WAS: a row that keeps its argument in that range need list no table ('laid = []'). (LAID: no walk: one application.) -/
theorem Tryd.strconv_Itoa_small (i : Nat) (hi : i < 100) (w : World) :
    Calls Tryd.prog 69 #[.int .i64 i] w fun e w' => e = .returned (.string ⟨(Lib.decDigits i).toArray⟩) ∧ w' = w := Any.strconv_Itoa_small Tryd.lays171 i hi w
def Tryd.lays217_ren : Go.Shelf.Ren := ⟨fun | 217 => 165 | 266 => 191 | n => n, fun | 9 => 9 | 5 => 5 | 3 => 3 | n => n, fun | n => n⟩
theorem Tryd.lays217 : Go.Proofs.Lays.n217 Tryd.prog Tryd.lays217_ren := {
  mixed := by kernel_rfl
  f217 := Tryd.func165.trans (congrArg some (by kernel_rfl))
  f266 := Tryd.func191.trans (congrArg some (by kernel_rfl))
  t3 := Tryd.underlying3
  a3 := Tryd.isAgg3
  z3 := Tryd.sizeOf3
  v3 := Tryd.zeroValue3
  t5 := Tryd.underlying5
  a5 := Tryd.isAgg5
  z5 := Tryd.sizeOf5
  v5 := Tryd.zeroValue5
  t9 := Tryd.underlying9
  a9 := Tryd.isAgg9
  z9 := Tryd.sizeOf9
  v9 := Tryd.zeroValue9 }
open Go.RowKit Go.Lib in
/-- internal/stringslite.IndexByte (what strings.IndexByte calls): IT RETURNS 'Lib.indexByte s c'; the world is as_ it was. (LAID: no walk: one application.) -/
theorem Tryd.stringslite_IndexByte (s : ByteArray) (c : Int) (w : World) :
    Calls Tryd.prog 165 #[.string s, .int .u8 c] w fun e w' => e = .returned (.int .i64 (Lib.indexByte s.data.toList c.toNat.toUInt8)) ∧ w' = w := Any.stringslite_IndexByte Tryd.lays217 s c w
def Tryd.lays224_ren : Go.Shelf.Ren := ⟨fun | 224 => 167 | n => n, fun | 3 => 3 | n => n, fun | n => n⟩
theorem Tryd.lays224 : Go.Proofs.Lays.n224 Tryd.prog Tryd.lays224_ren := {
  mixed := by kernel_rfl
  f224 := Tryd.func167.trans (congrArg some (by kernel_rfl))
  t3 := Tryd.underlying3
  a3 := Tryd.isAgg3
  z3 := Tryd.sizeOf3
  v3 := Tryd.zeroValue3 }
open Go.RowKit Go.Lib in
/-- internal/bytealg.Cutover: "Cutover reports the number of failures of IndexByte we should tolerate before switching over to Index. n is the number of bytes processed so far.": on amd64: (n + 16) / 8. (LAID: no walk: one application.) -/
theorem Tryd.bytealg_Cutover (n : Int) (h0 : 0 ≤ n) (h1 : n < 4611686018427387904) (w : World) :
    Calls Tryd.prog 167 #[.int .i64 n] w fun e w' => e = .returned (.int .i64 ((n + 16) / 8)) ∧ w' = w := Any.bytealg_Cutover Tryd.lays224 n h0 h1 w
def Tryd.lays314_ren : Go.Shelf.Ren := ⟨fun | 314 => 192 | n => n, fun | 9 => 9 | 51 => 124 | 3 => 3 | 4 => 4 | 5 => 5 | 46 => 93 | n => n, fun | n => n⟩
theorem Tryd.lays314 : Go.Proofs.Lays.n314 Tryd.prog Tryd.lays314_ren := {
  mixed := by kernel_rfl
  f314 := Tryd.func192.trans (congrArg some (by kernel_rfl))
  t3 := Tryd.underlying3
  a3 := Tryd.isAgg3
  z3 := Tryd.sizeOf3
  v3 := Tryd.zeroValue3
  t4 := Tryd.underlying4
  a4 := Tryd.isAgg4
  z4 := Tryd.sizeOf4
  v4 := Tryd.zeroValue4
  t5 := Tryd.underlying5
  a5 := Tryd.isAgg5
  z5 := Tryd.sizeOf5
  v5 := Tryd.zeroValue5
  t9 := Tryd.underlying9
  a9 := Tryd.isAgg9
  z9 := Tryd.sizeOf9
  v9 := Tryd.zeroValue9
  t46 := Tryd.underlying93
  a46 := Tryd.isAgg93
  z46 := Tryd.sizeOf93
  v46 := Tryd.zeroValue93
  t51 := Tryd.underlying124
  a51 := Tryd.isAgg124
  z51 := Tryd.sizeOf124
  v51 := Tryd.zeroValue124 }
open Go.RowKit Go.Lib in
/-- hashStr: "returns the hash and the appropriate multiplicative factor for use in Rabin-Karp algorithm": THE HASH OF ALL OF sep, AND 16777619 ^ len(sep), both in uint32. (LAID: no walk: one application.) -/
theorem Tryd.bytealg_hashStr (sep : ByteArray) (hs : sep.size < 4294967281) (w : World) :
    Calls Tryd.prog 192 #[.string sep] w fun e w' => e = .returned (.tuple #[.int .u32 (RK.H sep.data.toList % 4294967296), .int .u32 (16777619 ^ sep.size % 4294967296)]) ∧ w' = w := Any.bytealg_hashStr Tryd.lays314 sep hs w
def Tryd.lays267_ren : Go.Shelf.Ren := ⟨fun | 267 => 168 | 314 => 192 | n => n, fun | 9 => 9 | 3 => 3 | 146 => 203 | 51 => 124 | 4 => 4 | 5 => 5 | 46 => 93 | n => n, fun | n => n⟩
theorem Tryd.lays267 : Go.Proofs.Lays.n267 Tryd.prog Tryd.lays267_ren := {
  mixed := by kernel_rfl
  f267 := Tryd.func168.trans (congrArg some (by kernel_rfl))
  f314 := Tryd.func192.trans (congrArg some (by kernel_rfl))
  t3 := Tryd.underlying3
  a3 := Tryd.isAgg3
  z3 := Tryd.sizeOf3
  v3 := Tryd.zeroValue3
  t4 := Tryd.underlying4
  a4 := Tryd.isAgg4
  z4 := Tryd.sizeOf4
  v4 := Tryd.zeroValue4
  t5 := Tryd.underlying5
  a5 := Tryd.isAgg5
  z5 := Tryd.sizeOf5
  v5 := Tryd.zeroValue5
  t9 := Tryd.underlying9
  a9 := Tryd.isAgg9
  z9 := Tryd.sizeOf9
  v9 := Tryd.zeroValue9
  t46 := Tryd.underlying93
  a46 := Tryd.isAgg93
  z46 := Tryd.sizeOf93
  v46 := Tryd.zeroValue93
  t51 := Tryd.underlying124
  a51 := Tryd.isAgg124
  z51 := Tryd.sizeOf124
  v51 := Tryd.zeroValue124
  t146 := Tryd.underlying203
  a146 := Tryd.isAgg203
  z146 := Tryd.sizeOf203
  v146 := Tryd.zeroValue203 }
open Go.RowKit Go.Lib in
theorem Tryd.bytealg_IndexRabinKarp (s sep : ByteArray) (h1 : 1 ≤ sep.size) (h2 : sep.size ≤ s.size) (hs : s.size < 4294967281) (w : World) :
    Calls Tryd.prog 168 #[.string s, .string sep] w fun e w' => e = .returned (.int .i64 (Lib.index s.data.toList sep.data.toList)) ∧ w' = w := Any.bytealg_IndexRabinKarp Tryd.lays267 s sep h1 h2 hs w
def Tryd.lays219_ren : Go.Shelf.Ren := ⟨fun | 219 => 129 | 217 => 165 | 225 => 166 | 224 => 167 | 267 => 168 | 266 => 191 | 314 => 192 | n => n, fun | 9 => 9 | 3 => 3 | 4 => 4 | 5 => 5 | 46 => 93 | 146 => 203 | 51 => 124 | n => n, fun | 1 => 2 | n => n⟩
theorem Tryd.lays219 : Go.Proofs.Lays.n219 Tryd.prog Tryd.lays219_ren := {
  mixed := by kernel_rfl
  f217 := Tryd.func165.trans (congrArg some (by kernel_rfl))
  f219 := Tryd.func129.trans (congrArg some (by kernel_rfl))
  f224 := Tryd.func167.trans (congrArg some (by kernel_rfl))
  f225 := Tryd.func166.trans (congrArg some (by kernel_rfl))
  f266 := Tryd.func191.trans (congrArg some (by kernel_rfl))
  f267 := Tryd.func168.trans (congrArg some (by kernel_rfl))
  f314 := Tryd.func192.trans (congrArg some (by kernel_rfl))
  t3 := Tryd.underlying3
  a3 := Tryd.isAgg3
  z3 := Tryd.sizeOf3
  v3 := Tryd.zeroValue3
  t4 := Tryd.underlying4
  a4 := Tryd.isAgg4
  z4 := Tryd.sizeOf4
  v4 := Tryd.zeroValue4
  t5 := Tryd.underlying5
  a5 := Tryd.isAgg5
  z5 := Tryd.sizeOf5
  v5 := Tryd.zeroValue5
  t9 := Tryd.underlying9
  a9 := Tryd.isAgg9
  z9 := Tryd.sizeOf9
  v9 := Tryd.zeroValue9
  t46 := Tryd.underlying93
  a46 := Tryd.isAgg93
  z46 := Tryd.sizeOf93
  v46 := Tryd.zeroValue93
  t51 := Tryd.underlying124
  a51 := Tryd.isAgg124
  z51 := Tryd.sizeOf124
  v51 := Tryd.zeroValue124
  t146 := Tryd.underlying203
  a146 := Tryd.isAgg203
  z146 := Tryd.sizeOf203
  v146 := Tryd.zeroValue203
  g1 := by kernel_rfl }
open Go.RowKit Go.Lib in
/-- internal/stringslite.Index (what strings.Index calls) AT A substr OF ONE BYTE c: IT RETURNS 'Lib.indexByte s c'; the world is as_ it was. (LAID: no walk: one application.) -/
theorem Tryd.stringslite_Index_one (s : ByteArray) (c : UInt8) (w : World) :
    Calls Tryd.prog 129 #[.string s, .string ⟨#[c]⟩] w fun e w' => e = .returned (.int .i64 (Lib.indexByte s.data.toList c)) ∧ w' = w := Any.stringslite_Index_one Tryd.lays219 s c w
open Go.RowKit Go.Lib in
/-- internal/stringslite.Index (what strings.Index calls) AT A substr OF WHATEVER LENGTH: IT RETURNS 'Lib.index s substr'; the world is as_ it was. 'm': what internal/bytealg.MaxLen holds: whatever. (LAID: no walk: one application.) -/
theorem Tryd.stringslite_Index (s sub : ByteArray) (m : Int) (w : World) (hs : s.size < 4294967281) (hm : w.cell? ⟨2, 0, none⟩ = some (.int .i64 m)) :
    Calls Tryd.prog 129 #[.string s, .string sub] w fun e w' => e = .returned (.int .i64 (Lib.index s.data.toList sub.data.toList)) ∧ w' = w := Any.stringslite_Index Tryd.lays219 s sub m w hs hm
def Tryd.lays143_ren : Go.Shelf.Ren := ⟨fun | 143 => 143 | 219 => 129 | 217 => 165 | 225 => 166 | 224 => 167 | 267 => 168 | 266 => 191 | 314 => 192 | n => n, fun | 9 => 9 | 3 => 3 | 4 => 4 | 5 => 5 | 46 => 93 | 146 => 203 | 51 => 124 | n => n, fun | 1 => 2 | n => n⟩
theorem Tryd.lays143 : Go.Proofs.Lays.n143 Tryd.prog Tryd.lays143_ren := {
  mixed := by kernel_rfl
  f143 := Tryd.func143.trans (congrArg some (by kernel_rfl))
  f217 := Tryd.func165.trans (congrArg some (by kernel_rfl))
  f219 := Tryd.func129.trans (congrArg some (by kernel_rfl))
  f224 := Tryd.func167.trans (congrArg some (by kernel_rfl))
  f225 := Tryd.func166.trans (congrArg some (by kernel_rfl))
  f266 := Tryd.func191.trans (congrArg some (by kernel_rfl))
  f267 := Tryd.func168.trans (congrArg some (by kernel_rfl))
  f314 := Tryd.func192.trans (congrArg some (by kernel_rfl))
  t3 := Tryd.underlying3
  a3 := Tryd.isAgg3
  z3 := Tryd.sizeOf3
  v3 := Tryd.zeroValue3
  t4 := Tryd.underlying4
  a4 := Tryd.isAgg4
  z4 := Tryd.sizeOf4
  v4 := Tryd.zeroValue4
  t5 := Tryd.underlying5
  a5 := Tryd.isAgg5
  z5 := Tryd.sizeOf5
  v5 := Tryd.zeroValue5
  t9 := Tryd.underlying9
  a9 := Tryd.isAgg9
  z9 := Tryd.sizeOf9
  v9 := Tryd.zeroValue9
  t46 := Tryd.underlying93
  a46 := Tryd.isAgg93
  z46 := Tryd.sizeOf93
  v46 := Tryd.zeroValue93
  t51 := Tryd.underlying124
  a51 := Tryd.isAgg124
  z51 := Tryd.sizeOf124
  v51 := Tryd.zeroValue124
  t146 := Tryd.underlying203
  a146 := Tryd.isAgg203
  z146 := Tryd.sizeOf203
  v146 := Tryd.zeroValue203
  g1 := by kernel_rfl }
open Go.RowKit Go.Lib in
/-- strings.Index: "Index returns the index of the first instance of substr in s, or -1 if substr is not present in s.": AT A substr OF ONE BYTE c: IT RETURNS 'Lib.indexByte s c'; the world is as_ it was. (LAID: no walk: one application.) -/
theorem Tryd.strings_Index_one (s : ByteArray) (c : UInt8) (w : World) :
    Calls Tryd.prog 143 #[.string s, .string ⟨#[c]⟩] w fun e w' => e = .returned (.int .i64 (Lib.indexByte s.data.toList c)) ∧ w' = w := Any.strings_Index_one Tryd.lays143 s c w
open Go.RowKit Go.Lib in
/-- strings.Index: "Index returns the index of the first instance of substr in s, or -1 if substr is not present in s.": IT RETURNS 'Lib.index s substr'; the world is as_ it was. (LAID: no walk: one application.) -/
theorem Tryd.strings_Index (s sub : ByteArray) (m : Int) (w : World) (hs : s.size < 4294967281) (hm : w.cell? ⟨2, 0, none⟩ = some (.int .i64 m)) :
    Calls Tryd.prog 143 #[.string s, .string sub] w fun e w' => e = .returned (.int .i64 (Lib.index s.data.toList sub.data.toList)) ∧ w' = w := Any.strings_Index Tryd.lays143 s sub m w hs hm
def Tryd.lays144_ren : Go.Shelf.Ren := ⟨fun | 144 => 114 | 143 => 143 | 219 => 129 | 217 => 165 | 225 => 166 | 224 => 167 | 267 => 168 | 266 => 191 | 314 => 192 | n => n, fun | 9 => 9 | 4 => 4 | 3 => 3 | 5 => 5 | 46 => 93 | 146 => 203 | 51 => 124 | n => n, fun | 1 => 2 | n => n⟩
theorem Tryd.lays144 : Go.Proofs.Lays.n144 Tryd.prog Tryd.lays144_ren := {
  mixed := by kernel_rfl
  f143 := Tryd.func143.trans (congrArg some (by kernel_rfl))
  f144 := Tryd.func114.trans (congrArg some (by kernel_rfl))
  f217 := Tryd.func165.trans (congrArg some (by kernel_rfl))
  f219 := Tryd.func129.trans (congrArg some (by kernel_rfl))
  f224 := Tryd.func167.trans (congrArg some (by kernel_rfl))
  f225 := Tryd.func166.trans (congrArg some (by kernel_rfl))
  f266 := Tryd.func191.trans (congrArg some (by kernel_rfl))
  f267 := Tryd.func168.trans (congrArg some (by kernel_rfl))
  f314 := Tryd.func192.trans (congrArg some (by kernel_rfl))
  t3 := Tryd.underlying3
  a3 := Tryd.isAgg3
  z3 := Tryd.sizeOf3
  v3 := Tryd.zeroValue3
  t4 := Tryd.underlying4
  a4 := Tryd.isAgg4
  z4 := Tryd.sizeOf4
  v4 := Tryd.zeroValue4
  t5 := Tryd.underlying5
  a5 := Tryd.isAgg5
  z5 := Tryd.sizeOf5
  v5 := Tryd.zeroValue5
  t9 := Tryd.underlying9
  a9 := Tryd.isAgg9
  z9 := Tryd.sizeOf9
  v9 := Tryd.zeroValue9
  t46 := Tryd.underlying93
  a46 := Tryd.isAgg93
  z46 := Tryd.sizeOf93
  v46 := Tryd.zeroValue93
  t51 := Tryd.underlying124
  a51 := Tryd.isAgg124
  z51 := Tryd.sizeOf124
  v51 := Tryd.zeroValue124
  t146 := Tryd.underlying203
  a146 := Tryd.isAgg203
  z146 := Tryd.sizeOf203
  v146 := Tryd.zeroValue203
  g1 := by kernel_rfl }
open Go.RowKit Go.Lib in
/-- strings.Contains: "Contains reports whether substr is within s.": AT A substr OF ONE BYTE c: IT RETURNS 'decide (0 ≤ Lib.indexByte s c)'; the world is as_ it was. (LAID: no walk: one application.) -/
theorem Tryd.strings_Contains_one (s : ByteArray) (c : UInt8) (w : World) :
    Calls Tryd.prog 114 #[.string s, .string ⟨#[c]⟩] w fun e w' => e = .returned (.bool (decide (0 ≤ Lib.indexByte s.data.toList c))) ∧ w' = w := Any.strings_Contains_one Tryd.lays144 s c w
open Go.RowKit Go.Lib in
/-- strings.Contains: "Contains reports whether substr is within s.": IT RETURNS 'Lib.contains s substr'; the world is as_ it was. (LAID: no walk: one application.) -/
theorem Tryd.strings_Contains (s sub : ByteArray) (m : Int) (w : World) (hs : s.size < 4294967281) (hm : w.cell? ⟨2, 0, none⟩ = some (.int .i64 m)) :
    Calls Tryd.prog 114 #[.string s, .string sub] w fun e w' => e = .returned (.bool (Lib.contains s.data.toList sub.data.toList)) ∧ w' = w := Any.strings_Contains Tryd.lays144 s sub m w hs hm
def Tryd.lays220_ren : Go.Shelf.Ren := ⟨fun | 220 => 105 | 219 => 129 | 217 => 165 | 225 => 166 | 224 => 167 | 267 => 168 | 266 => 191 | 314 => 192 | n => n, fun | 9 => 9 | 4 => 4 | 3 => 3 | 5 => 5 | 46 => 93 | 146 => 203 | 51 => 124 | n => n, fun | 1 => 2 | n => n⟩
theorem Tryd.lays220 : Go.Proofs.Lays.n220 Tryd.prog Tryd.lays220_ren := {
  mixed := by kernel_rfl
  f217 := Tryd.func165.trans (congrArg some (by kernel_rfl))
  f219 := Tryd.func129.trans (congrArg some (by kernel_rfl))
  f220 := Tryd.func105.trans (congrArg some (by kernel_rfl))
  f224 := Tryd.func167.trans (congrArg some (by kernel_rfl))
  f225 := Tryd.func166.trans (congrArg some (by kernel_rfl))
  f266 := Tryd.func191.trans (congrArg some (by kernel_rfl))
  f267 := Tryd.func168.trans (congrArg some (by kernel_rfl))
  f314 := Tryd.func192.trans (congrArg some (by kernel_rfl))
  t3 := Tryd.underlying3
  a3 := Tryd.isAgg3
  z3 := Tryd.sizeOf3
  v3 := Tryd.zeroValue3
  t4 := Tryd.underlying4
  a4 := Tryd.isAgg4
  z4 := Tryd.sizeOf4
  v4 := Tryd.zeroValue4
  t5 := Tryd.underlying5
  a5 := Tryd.isAgg5
  z5 := Tryd.sizeOf5
  v5 := Tryd.zeroValue5
  t9 := Tryd.underlying9
  a9 := Tryd.isAgg9
  z9 := Tryd.sizeOf9
  v9 := Tryd.zeroValue9
  t46 := Tryd.underlying93
  a46 := Tryd.isAgg93
  z46 := Tryd.sizeOf93
  v46 := Tryd.zeroValue93
  t51 := Tryd.underlying124
  a51 := Tryd.isAgg124
  z51 := Tryd.sizeOf124
  v51 := Tryd.zeroValue124
  t146 := Tryd.underlying203
  a146 := Tryd.isAgg203
  z146 := Tryd.sizeOf203
  v146 := Tryd.zeroValue203
  g1 := by kernel_rfl }
open Go.RowKit Go.Lib in
/-- internal/stringslite.Cut (what strings.Cut calls): IT RETURNS 'Lib.cut s sep'; the world is as_ it was but for the count of draws. (LAID: no walk: one application.) -/
theorem Tryd.stringslite_Cut (s sep : ByteArray) (m : Int) (w : World) (hs : s.size < 4294967281) (hm : w.cell? ⟨2, 0, none⟩ = some (.int .i64 m)) :
    Calls Tryd.prog 105 #[.string s, .string sep] w fun e w' => e = .returned (.tuple #[.string ⟨(Lib.cut s.data.toList sep.data.toList).1.toArray⟩, .string ⟨(Lib.cut s.data.toList sep.data.toList).2.1.toArray⟩, .bool (Lib.cut s.data.toList sep.data.toList).2.2]) ∧ ∃ n, w' = w.drewN n := Any.stringslite_Cut Tryd.lays220 s sep m w hs hm
def Tryd.lays145_ren : Go.Shelf.Ren := ⟨fun | 145 => 72 | 220 => 105 | 219 => 129 | 217 => 165 | 225 => 166 | 224 => 167 | 267 => 168 | 266 => 191 | 314 => 192 | n => n, fun | 9 => 9 | 4 => 4 | 59 => 95 | 3 => 3 | 5 => 5 | 46 => 93 | 146 => 203 | 51 => 124 | n => n, fun | 1 => 2 | n => n⟩
theorem Tryd.lays145 : Go.Proofs.Lays.n145 Tryd.prog Tryd.lays145_ren := {
  mixed := by kernel_rfl
  f145 := Tryd.func72.trans (congrArg some (by kernel_rfl))
  f217 := Tryd.func165.trans (congrArg some (by kernel_rfl))
  f219 := Tryd.func129.trans (congrArg some (by kernel_rfl))
  f220 := Tryd.func105.trans (congrArg some (by kernel_rfl))
  f224 := Tryd.func167.trans (congrArg some (by kernel_rfl))
  f225 := Tryd.func166.trans (congrArg some (by kernel_rfl))
  f266 := Tryd.func191.trans (congrArg some (by kernel_rfl))
  f267 := Tryd.func168.trans (congrArg some (by kernel_rfl))
  f314 := Tryd.func192.trans (congrArg some (by kernel_rfl))
  t3 := Tryd.underlying3
  a3 := Tryd.isAgg3
  z3 := Tryd.sizeOf3
  v3 := Tryd.zeroValue3
  t4 := Tryd.underlying4
  a4 := Tryd.isAgg4
  z4 := Tryd.sizeOf4
  v4 := Tryd.zeroValue4
  t5 := Tryd.underlying5
  a5 := Tryd.isAgg5
  z5 := Tryd.sizeOf5
  v5 := Tryd.zeroValue5
  t9 := Tryd.underlying9
  a9 := Tryd.isAgg9
  z9 := Tryd.sizeOf9
  v9 := Tryd.zeroValue9
  t46 := Tryd.underlying93
  a46 := Tryd.isAgg93
  z46 := Tryd.sizeOf93
  v46 := Tryd.zeroValue93
  t51 := Tryd.underlying124
  a51 := Tryd.isAgg124
  z51 := Tryd.sizeOf124
  v51 := Tryd.zeroValue124
  t59 := Tryd.underlying95
  a59 := Tryd.isAgg95
  z59 := Tryd.sizeOf95
  v59 := Tryd.zeroValue95
  t146 := Tryd.underlying203
  a146 := Tryd.isAgg203
  z146 := Tryd.sizeOf203
  v146 := Tryd.zeroValue203
  g1 := by kernel_rfl }
open Go.RowKit Go.Lib in
/-- strings.Cut: "Cut slices s around the first instance of sep, returning the text before and after sep. The found result reports whether sep appears in s. If sep does not appear in s, cut returns s, "", false.": IT RETURNS 'Lib.cut s sep'; the world is as_ it was but for the count of draws. (LAID: no walk: one application.) -/
theorem Tryd.strings_Cut (s sep : ByteArray) (m : Int) (w : World) (hs : s.size < 4294967281) (hm : w.cell? ⟨2, 0, none⟩ = some (.int .i64 m)) :
    Calls Tryd.prog 72 #[.string s, .string sep] w fun e w' => e = .returned (.tuple #[.string ⟨(Lib.cut s.data.toList sep.data.toList).1.toArray⟩, .string ⟨(Lib.cut s.data.toList sep.data.toList).2.1.toArray⟩, .bool (Lib.cut s.data.toList sep.data.toList).2.2]) ∧ ∃ n, w' = w.drewN n := Any.strings_Cut Tryd.lays145 s sep m w hs hm
def Tryd.lays138_ren : Go.Shelf.Ren := ⟨fun | 138 => 142 | 195 => 175 | 218 => 177 | 143 => 143 | 219 => 129 | 217 => 165 | 225 => 166 | 224 => 167 | 267 => 168 | 266 => 191 | 314 => 192 | n => n, fun | 9 => 9 | 3 => 3 | 4 => 4 | 5 => 5 | 0 => 0 | 46 => 93 | 146 => 203 | 51 => 124 | n => n, fun | 1 => 2 | n => n⟩
theorem Tryd.lays138 : Go.Proofs.Lays.n138 Tryd.prog Tryd.lays138_ren := {
  mixed := by kernel_rfl
  f138 := Tryd.func142.trans (congrArg some (by kernel_rfl))
  f143 := Tryd.func143.trans (congrArg some (by kernel_rfl))
  f195 := Tryd.func175.trans (congrArg some (by kernel_rfl))
  f217 := Tryd.func165.trans (congrArg some (by kernel_rfl))
  f218 := Tryd.func177.trans (congrArg some (by kernel_rfl))
  f219 := Tryd.func129.trans (congrArg some (by kernel_rfl))
  f224 := Tryd.func167.trans (congrArg some (by kernel_rfl))
  f225 := Tryd.func166.trans (congrArg some (by kernel_rfl))
  f266 := Tryd.func191.trans (congrArg some (by kernel_rfl))
  f267 := Tryd.func168.trans (congrArg some (by kernel_rfl))
  f314 := Tryd.func192.trans (congrArg some (by kernel_rfl))
  t0 := Tryd.underlying0
  a0 := Tryd.isAgg0
  z0 := Tryd.sizeOf0
  v0 := Tryd.zeroValue0
  t3 := Tryd.underlying3
  a3 := Tryd.isAgg3
  z3 := Tryd.sizeOf3
  v3 := Tryd.zeroValue3
  t4 := Tryd.underlying4
  a4 := Tryd.isAgg4
  z4 := Tryd.sizeOf4
  v4 := Tryd.zeroValue4
  t5 := Tryd.underlying5
  a5 := Tryd.isAgg5
  z5 := Tryd.sizeOf5
  v5 := Tryd.zeroValue5
  t9 := Tryd.underlying9
  a9 := Tryd.isAgg9
  z9 := Tryd.sizeOf9
  v9 := Tryd.zeroValue9
  t46 := Tryd.underlying93
  a46 := Tryd.isAgg93
  z46 := Tryd.sizeOf93
  v46 := Tryd.zeroValue93
  t51 := Tryd.underlying124
  a51 := Tryd.isAgg124
  z51 := Tryd.sizeOf124
  v51 := Tryd.zeroValue124
  t146 := Tryd.underlying203
  a146 := Tryd.isAgg203
  z146 := Tryd.sizeOf203
  v146 := Tryd.zeroValue203
  g1 := by kernel_rfl }
open Go.RowKit Go.Lib in
/-- strings.Count AT A substr OF ONE BYTE ('hp'): "Count counts the number of non-overlapping instances of substr in s.": IT RETURNS 'Lib.countByte s (that byte)'; the world is as_ it was. ✋ NO CONTRACT HERE YET at an empty substr (utf8.RuneCountInString) or at a longer one (a loop over strings.Index). (LAID: no walk: one application.) -/
theorem Tryd.strings_Count_one (s : ByteArray) (c : UInt8) (w : World) :
    Calls Tryd.prog 142 #[.string s, .string ⟨#[c]⟩] w fun e w' => e = .returned (.int .i64 (Lib.countByte s.data.toList c)) ∧ w' = w := Any.strings_Count_one Tryd.lays138 s c w
open Go.RowKit Go.Lib in
/-- strings.Count AT A substr OF TWO BYTES OR MORE: "Count counts the number of non-overlapping instances of substr in s.": IT RETURNS 'Lib.count s substr'; the world is as_ it was. (LAID: no walk: one application.) -/
theorem Tryd.strings_Count (s sub : ByteArray) (m : Int) (w : World) (hs : s.size < 4294967281) (hm : w.cell? ⟨2, 0, none⟩ = some (.int .i64 m)) (h2 : 2 ≤ sub.size) :
    Calls Tryd.prog 142 #[.string s, .string sub] w fun e w' => e = .returned (.int .i64 (Lib.countB s sub)) ∧ w' = w := Any.strings_Count Tryd.lays138 s sub m w hs hm h2
def Tryd.laysM219_ren : Go.Shelf.Ren := ⟨fun | 219 => 129 | 217 => 165 | 225 => 166 | 224 => 167 | 267 => 168 | 266 => 191 | 314 => 192 | n => n, fun | 9 => 9 | 3 => 3 | 4 => 4 | 5 => 5 | 46 => 93 | 146 => 203 | 51 => 124 | n => n, fun | 1 => 2 | n => n⟩
theorem Tryd.laysM219 : Go.Proofs.LaysM.n219 Tryd.prog Tryd.laysM219_ren := {
  mixed := by kernel_rfl
  f217 := Tryd.func165.trans (congrArg some (by kernel_rfl))
  f219 := Tryd.func129.trans (congrArg some (by kernel_rfl))
  f224 := Tryd.func167.trans (congrArg some (by kernel_rfl))
  f225 := Tryd.func166.trans (congrArg some (by kernel_rfl))
  f266 := Tryd.func191.trans (congrArg some (by kernel_rfl))
  f267 := Tryd.func168.trans (congrArg some (by kernel_rfl))
  f314 := Tryd.func192.trans (congrArg some (by kernel_rfl))
  t3 := Tryd.underlying3
  a3 := Tryd.isAgg3
  z3 := Tryd.sizeOf3
  v3 := Tryd.zeroValue3
  t4 := Tryd.underlying4
  a4 := Tryd.isAgg4
  z4 := Tryd.sizeOf4
  v4 := Tryd.zeroValue4
  t5 := Tryd.underlying5
  a5 := Tryd.isAgg5
  z5 := Tryd.sizeOf5
  v5 := Tryd.zeroValue5
  t9 := Tryd.underlying9
  a9 := Tryd.isAgg9
  z9 := Tryd.sizeOf9
  v9 := Tryd.zeroValue9
  t46 := Tryd.underlying93
  a46 := Tryd.isAgg93
  z46 := Tryd.sizeOf93
  v46 := Tryd.zeroValue93
  t51 := Tryd.underlying124
  a51 := Tryd.isAgg124
  z51 := Tryd.sizeOf124
  v51 := Tryd.zeroValue124
  t146 := Tryd.underlying203
  a146 := Tryd.isAgg203
  z146 := Tryd.sizeOf203
  v146 := Tryd.zeroValue203
  g1 := by kernel_rfl
  i3 := by kernel_rfl
  i4 := by kernel_rfl
  i5 := by kernel_rfl
  i9 := by kernel_rfl
  i46 := by kernel_rfl
  i51 := by kernel_rfl
  i146 := by kernel_rfl
  m1 := by kernel_rfl
  s1_3 := fun w h => Go.Proofs.cell_of_shapedOpen_int (zero := #[.int .i64 0]) (t := 3) h (of_decide_eq_true (by kernel_rfl)) (by kernel_rfl) rfl (by kernel_rfl) (by kernel_rfl) Tryd.underlying3 }
open Go.RowKit Go.Lib in
theorem Tryd.stringslite_Index_shaped (s sub : ByteArray) (w : World) (h : w.ShapedOpen Tryd.prog) (hs : s.size < 4294967281) :
    Calls Tryd.prog 129 #[.string s, .string sub] w fun e w' => e = .returned (.int .i64 (Lib.index s.data.toList sub.data.toList)) ∧ w' = w := Any.stringslite_Index_shaped Tryd.laysM219 s sub w h hs
def Tryd.laysM143_ren : Go.Shelf.Ren := ⟨fun | 143 => 143 | 219 => 129 | 217 => 165 | 225 => 166 | 224 => 167 | 267 => 168 | 266 => 191 | 314 => 192 | n => n, fun | 9 => 9 | 3 => 3 | 4 => 4 | 5 => 5 | 46 => 93 | 146 => 203 | 51 => 124 | n => n, fun | 1 => 2 | n => n⟩
theorem Tryd.laysM143 : Go.Proofs.LaysM.n143 Tryd.prog Tryd.laysM143_ren := {
  mixed := by kernel_rfl
  f143 := Tryd.func143.trans (congrArg some (by kernel_rfl))
  f217 := Tryd.func165.trans (congrArg some (by kernel_rfl))
  f219 := Tryd.func129.trans (congrArg some (by kernel_rfl))
  f224 := Tryd.func167.trans (congrArg some (by kernel_rfl))
  f225 := Tryd.func166.trans (congrArg some (by kernel_rfl))
  f266 := Tryd.func191.trans (congrArg some (by kernel_rfl))
  f267 := Tryd.func168.trans (congrArg some (by kernel_rfl))
  f314 := Tryd.func192.trans (congrArg some (by kernel_rfl))
  t3 := Tryd.underlying3
  a3 := Tryd.isAgg3
  z3 := Tryd.sizeOf3
  v3 := Tryd.zeroValue3
  t4 := Tryd.underlying4
  a4 := Tryd.isAgg4
  z4 := Tryd.sizeOf4
  v4 := Tryd.zeroValue4
  t5 := Tryd.underlying5
  a5 := Tryd.isAgg5
  z5 := Tryd.sizeOf5
  v5 := Tryd.zeroValue5
  t9 := Tryd.underlying9
  a9 := Tryd.isAgg9
  z9 := Tryd.sizeOf9
  v9 := Tryd.zeroValue9
  t46 := Tryd.underlying93
  a46 := Tryd.isAgg93
  z46 := Tryd.sizeOf93
  v46 := Tryd.zeroValue93
  t51 := Tryd.underlying124
  a51 := Tryd.isAgg124
  z51 := Tryd.sizeOf124
  v51 := Tryd.zeroValue124
  t146 := Tryd.underlying203
  a146 := Tryd.isAgg203
  z146 := Tryd.sizeOf203
  v146 := Tryd.zeroValue203
  g1 := by kernel_rfl
  i3 := by kernel_rfl
  i4 := by kernel_rfl
  i5 := by kernel_rfl
  i9 := by kernel_rfl
  i46 := by kernel_rfl
  i51 := by kernel_rfl
  i146 := by kernel_rfl
  m1 := by kernel_rfl
  s1_3 := fun w h => Go.Proofs.cell_of_shapedOpen_int (zero := #[.int .i64 0]) (t := 3) h (of_decide_eq_true (by kernel_rfl)) (by kernel_rfl) rfl (by kernel_rfl) (by kernel_rfl) Tryd.underlying3 }
open Go.RowKit Go.Lib in
theorem Tryd.strings_Index_shaped (s sub : ByteArray) (w : World) (h : w.ShapedOpen Tryd.prog) (hs : s.size < 4294967281) :
    Calls Tryd.prog 143 #[.string s, .string sub] w fun e w' => e = .returned (.int .i64 (Lib.index s.data.toList sub.data.toList)) ∧ w' = w := Any.strings_Index_shaped Tryd.laysM143 s sub w h hs
def Tryd.laysM144_ren : Go.Shelf.Ren := ⟨fun | 144 => 114 | 143 => 143 | 219 => 129 | 217 => 165 | 225 => 166 | 224 => 167 | 267 => 168 | 266 => 191 | 314 => 192 | n => n, fun | 9 => 9 | 4 => 4 | 3 => 3 | 5 => 5 | 46 => 93 | 146 => 203 | 51 => 124 | n => n, fun | 1 => 2 | n => n⟩
theorem Tryd.laysM144 : Go.Proofs.LaysM.n144 Tryd.prog Tryd.laysM144_ren := {
  mixed := by kernel_rfl
  f143 := Tryd.func143.trans (congrArg some (by kernel_rfl))
  f144 := Tryd.func114.trans (congrArg some (by kernel_rfl))
  f217 := Tryd.func165.trans (congrArg some (by kernel_rfl))
  f219 := Tryd.func129.trans (congrArg some (by kernel_rfl))
  f224 := Tryd.func167.trans (congrArg some (by kernel_rfl))
  f225 := Tryd.func166.trans (congrArg some (by kernel_rfl))
  f266 := Tryd.func191.trans (congrArg some (by kernel_rfl))
  f267 := Tryd.func168.trans (congrArg some (by kernel_rfl))
  f314 := Tryd.func192.trans (congrArg some (by kernel_rfl))
  t3 := Tryd.underlying3
  a3 := Tryd.isAgg3
  z3 := Tryd.sizeOf3
  v3 := Tryd.zeroValue3
  t4 := Tryd.underlying4
  a4 := Tryd.isAgg4
  z4 := Tryd.sizeOf4
  v4 := Tryd.zeroValue4
  t5 := Tryd.underlying5
  a5 := Tryd.isAgg5
  z5 := Tryd.sizeOf5
  v5 := Tryd.zeroValue5
  t9 := Tryd.underlying9
  a9 := Tryd.isAgg9
  z9 := Tryd.sizeOf9
  v9 := Tryd.zeroValue9
  t46 := Tryd.underlying93
  a46 := Tryd.isAgg93
  z46 := Tryd.sizeOf93
  v46 := Tryd.zeroValue93
  t51 := Tryd.underlying124
  a51 := Tryd.isAgg124
  z51 := Tryd.sizeOf124
  v51 := Tryd.zeroValue124
  t146 := Tryd.underlying203
  a146 := Tryd.isAgg203
  z146 := Tryd.sizeOf203
  v146 := Tryd.zeroValue203
  g1 := by kernel_rfl
  i3 := by kernel_rfl
  i4 := by kernel_rfl
  i5 := by kernel_rfl
  i9 := by kernel_rfl
  i46 := by kernel_rfl
  i51 := by kernel_rfl
  i146 := by kernel_rfl
  m1 := by kernel_rfl
  s1_3 := fun w h => Go.Proofs.cell_of_shapedOpen_int (zero := #[.int .i64 0]) (t := 3) h (of_decide_eq_true (by kernel_rfl)) (by kernel_rfl) rfl (by kernel_rfl) (by kernel_rfl) Tryd.underlying3 }
open Go.RowKit Go.Lib in
theorem Tryd.strings_Contains_shaped (s sub : ByteArray) (w : World) (h : w.ShapedOpen Tryd.prog) (hs : s.size < 4294967281) :
    Calls Tryd.prog 114 #[.string s, .string sub] w fun e w' => e = .returned (.bool (Lib.contains s.data.toList sub.data.toList)) ∧ w' = w := Any.strings_Contains_shaped Tryd.laysM144 s sub w h hs
def Tryd.laysM220_ren : Go.Shelf.Ren := ⟨fun | 220 => 105 | 219 => 129 | 217 => 165 | 225 => 166 | 224 => 167 | 267 => 168 | 266 => 191 | 314 => 192 | n => n, fun | 9 => 9 | 4 => 4 | 3 => 3 | 5 => 5 | 46 => 93 | 146 => 203 | 51 => 124 | n => n, fun | 1 => 2 | n => n⟩
theorem Tryd.laysM220 : Go.Proofs.LaysM.n220 Tryd.prog Tryd.laysM220_ren := {
  mixed := by kernel_rfl
  f217 := Tryd.func165.trans (congrArg some (by kernel_rfl))
  f219 := Tryd.func129.trans (congrArg some (by kernel_rfl))
  f220 := Tryd.func105.trans (congrArg some (by kernel_rfl))
  f224 := Tryd.func167.trans (congrArg some (by kernel_rfl))
  f225 := Tryd.func166.trans (congrArg some (by kernel_rfl))
  f266 := Tryd.func191.trans (congrArg some (by kernel_rfl))
  f267 := Tryd.func168.trans (congrArg some (by kernel_rfl))
  f314 := Tryd.func192.trans (congrArg some (by kernel_rfl))
  t3 := Tryd.underlying3
  a3 := Tryd.isAgg3
  z3 := Tryd.sizeOf3
  v3 := Tryd.zeroValue3
  t4 := Tryd.underlying4
  a4 := Tryd.isAgg4
  z4 := Tryd.sizeOf4
  v4 := Tryd.zeroValue4
  t5 := Tryd.underlying5
  a5 := Tryd.isAgg5
  z5 := Tryd.sizeOf5
  v5 := Tryd.zeroValue5
  t9 := Tryd.underlying9
  a9 := Tryd.isAgg9
  z9 := Tryd.sizeOf9
  v9 := Tryd.zeroValue9
  t46 := Tryd.underlying93
  a46 := Tryd.isAgg93
  z46 := Tryd.sizeOf93
  v46 := Tryd.zeroValue93
  t51 := Tryd.underlying124
  a51 := Tryd.isAgg124
  z51 := Tryd.sizeOf124
  v51 := Tryd.zeroValue124
  t146 := Tryd.underlying203
  a146 := Tryd.isAgg203
  z146 := Tryd.sizeOf203
  v146 := Tryd.zeroValue203
  g1 := by kernel_rfl
  i3 := by kernel_rfl
  i4 := by kernel_rfl
  i5 := by kernel_rfl
  i9 := by kernel_rfl
  i46 := by kernel_rfl
  i51 := by kernel_rfl
  i146 := by kernel_rfl
  m1 := by kernel_rfl
  s1_3 := fun w h => Go.Proofs.cell_of_shapedOpen_int (zero := #[.int .i64 0]) (t := 3) h (of_decide_eq_true (by kernel_rfl)) (by kernel_rfl) rfl (by kernel_rfl) (by kernel_rfl) Tryd.underlying3 }
open Go.RowKit Go.Lib in
theorem Tryd.stringslite_Cut_shaped (s sep : ByteArray) (w : World) (h : w.ShapedOpen Tryd.prog) (hs : s.size < 4294967281) :
    Calls Tryd.prog 105 #[.string s, .string sep] w fun e w' => e = .returned (.tuple #[.string ⟨(Lib.cut s.data.toList sep.data.toList).1.toArray⟩, .string ⟨(Lib.cut s.data.toList sep.data.toList).2.1.toArray⟩, .bool (Lib.cut s.data.toList sep.data.toList).2.2]) ∧ ∃ n, w' = w.drewN n := Any.stringslite_Cut_shaped Tryd.laysM220 s sep w h hs
def Tryd.laysM145_ren : Go.Shelf.Ren := ⟨fun | 145 => 72 | 220 => 105 | 219 => 129 | 217 => 165 | 225 => 166 | 224 => 167 | 267 => 168 | 266 => 191 | 314 => 192 | n => n, fun | 9 => 9 | 4 => 4 | 59 => 95 | 3 => 3 | 5 => 5 | 46 => 93 | 146 => 203 | 51 => 124 | n => n, fun | 1 => 2 | n => n⟩
theorem Tryd.laysM145 : Go.Proofs.LaysM.n145 Tryd.prog Tryd.laysM145_ren := {
  mixed := by kernel_rfl
  f145 := Tryd.func72.trans (congrArg some (by kernel_rfl))
  f217 := Tryd.func165.trans (congrArg some (by kernel_rfl))
  f219 := Tryd.func129.trans (congrArg some (by kernel_rfl))
  f220 := Tryd.func105.trans (congrArg some (by kernel_rfl))
  f224 := Tryd.func167.trans (congrArg some (by kernel_rfl))
  f225 := Tryd.func166.trans (congrArg some (by kernel_rfl))
  f266 := Tryd.func191.trans (congrArg some (by kernel_rfl))
  f267 := Tryd.func168.trans (congrArg some (by kernel_rfl))
  f314 := Tryd.func192.trans (congrArg some (by kernel_rfl))
  t3 := Tryd.underlying3
  a3 := Tryd.isAgg3
  z3 := Tryd.sizeOf3
  v3 := Tryd.zeroValue3
  t4 := Tryd.underlying4
  a4 := Tryd.isAgg4
  z4 := Tryd.sizeOf4
  v4 := Tryd.zeroValue4
  t5 := Tryd.underlying5
  a5 := Tryd.isAgg5
  z5 := Tryd.sizeOf5
  v5 := Tryd.zeroValue5
  t9 := Tryd.underlying9
  a9 := Tryd.isAgg9
  z9 := Tryd.sizeOf9
  v9 := Tryd.zeroValue9
  t46 := Tryd.underlying93
  a46 := Tryd.isAgg93
  z46 := Tryd.sizeOf93
  v46 := Tryd.zeroValue93
  t51 := Tryd.underlying124
  a51 := Tryd.isAgg124
  z51 := Tryd.sizeOf124
  v51 := Tryd.zeroValue124
  t59 := Tryd.underlying95
  a59 := Tryd.isAgg95
  z59 := Tryd.sizeOf95
  v59 := Tryd.zeroValue95
  t146 := Tryd.underlying203
  a146 := Tryd.isAgg203
  z146 := Tryd.sizeOf203
  v146 := Tryd.zeroValue203
  g1 := by kernel_rfl
  i3 := by kernel_rfl
  i4 := by kernel_rfl
  i5 := by kernel_rfl
  i9 := by kernel_rfl
  i46 := by kernel_rfl
  i51 := by kernel_rfl
  i59 := by kernel_rfl
  i146 := by kernel_rfl
  m1 := by kernel_rfl
  s1_3 := fun w h => Go.Proofs.cell_of_shapedOpen_int (zero := #[.int .i64 0]) (t := 3) h (of_decide_eq_true (by kernel_rfl)) (by kernel_rfl) rfl (by kernel_rfl) (by kernel_rfl) Tryd.underlying3 }
open Go.RowKit Go.Lib in
theorem Tryd.strings_Cut_shaped (s sep : ByteArray) (w : World) (h : w.ShapedOpen Tryd.prog) (hs : s.size < 4294967281) :
    Calls Tryd.prog 72 #[.string s, .string sep] w fun e w' => e = .returned (.tuple #[.string ⟨(Lib.cut s.data.toList sep.data.toList).1.toArray⟩, .string ⟨(Lib.cut s.data.toList sep.data.toList).2.1.toArray⟩, .bool (Lib.cut s.data.toList sep.data.toList).2.2]) ∧ ∃ n, w' = w.drewN n := Any.strings_Cut_shaped Tryd.laysM145 s sep w h hs
def Tryd.laysM138_ren : Go.Shelf.Ren := ⟨fun | 138 => 142 | 195 => 175 | 218 => 177 | 143 => 143 | 219 => 129 | 217 => 165 | 225 => 166 | 224 => 167 | 267 => 168 | 266 => 191 | 314 => 192 | n => n, fun | 9 => 9 | 3 => 3 | 4 => 4 | 5 => 5 | 0 => 0 | 46 => 93 | 146 => 203 | 51 => 124 | n => n, fun | 1 => 2 | n => n⟩
theorem Tryd.laysM138 : Go.Proofs.LaysM.n138 Tryd.prog Tryd.laysM138_ren := {
  mixed := by kernel_rfl
  f138 := Tryd.func142.trans (congrArg some (by kernel_rfl))
  f143 := Tryd.func143.trans (congrArg some (by kernel_rfl))
  f195 := Tryd.func175.trans (congrArg some (by kernel_rfl))
  f217 := Tryd.func165.trans (congrArg some (by kernel_rfl))
  f218 := Tryd.func177.trans (congrArg some (by kernel_rfl))
  f219 := Tryd.func129.trans (congrArg some (by kernel_rfl))
  f224 := Tryd.func167.trans (congrArg some (by kernel_rfl))
  f225 := Tryd.func166.trans (congrArg some (by kernel_rfl))
  f266 := Tryd.func191.trans (congrArg some (by kernel_rfl))
  f267 := Tryd.func168.trans (congrArg some (by kernel_rfl))
  f314 := Tryd.func192.trans (congrArg some (by kernel_rfl))
  t0 := Tryd.underlying0
  a0 := Tryd.isAgg0
  z0 := Tryd.sizeOf0
  v0 := Tryd.zeroValue0
  t3 := Tryd.underlying3
  a3 := Tryd.isAgg3
  z3 := Tryd.sizeOf3
  v3 := Tryd.zeroValue3
  t4 := Tryd.underlying4
  a4 := Tryd.isAgg4
  z4 := Tryd.sizeOf4
  v4 := Tryd.zeroValue4
  t5 := Tryd.underlying5
  a5 := Tryd.isAgg5
  z5 := Tryd.sizeOf5
  v5 := Tryd.zeroValue5
  t9 := Tryd.underlying9
  a9 := Tryd.isAgg9
  z9 := Tryd.sizeOf9
  v9 := Tryd.zeroValue9
  t46 := Tryd.underlying93
  a46 := Tryd.isAgg93
  z46 := Tryd.sizeOf93
  v46 := Tryd.zeroValue93
  t51 := Tryd.underlying124
  a51 := Tryd.isAgg124
  z51 := Tryd.sizeOf124
  v51 := Tryd.zeroValue124
  t146 := Tryd.underlying203
  a146 := Tryd.isAgg203
  z146 := Tryd.sizeOf203
  v146 := Tryd.zeroValue203
  g1 := by kernel_rfl
  i0 := by kernel_rfl
  i3 := by kernel_rfl
  i4 := by kernel_rfl
  i5 := by kernel_rfl
  i9 := by kernel_rfl
  i46 := by kernel_rfl
  i51 := by kernel_rfl
  i146 := by kernel_rfl
  m1 := by kernel_rfl
  s1_3 := fun w h => Go.Proofs.cell_of_shapedOpen_int (zero := #[.int .i64 0]) (t := 3) h (of_decide_eq_true (by kernel_rfl)) (by kernel_rfl) rfl (by kernel_rfl) (by kernel_rfl) Tryd.underlying3 }
open Go.RowKit Go.Lib in
theorem Tryd.strings_Count_shaped (s sub : ByteArray) (w : World) (h : w.ShapedOpen Tryd.prog) (hs : s.size < 4294967281) (h2 : 2 ≤ sub.size) :
    Calls Tryd.prog 142 #[.string s, .string sub] w fun e w' => e = .returned (.int .i64 (Lib.countB s sub)) ∧ w' = w := Any.strings_Count_shaped Tryd.laysM138 s sub w h hs h2
def Tryd.lays190_ren : Go.Shelf.Ren := ⟨fun | 190 => 91 | 125 => 109 | 258 => 123 | 128 => 139 | 129 => 140 | 302 => 148 | 303 => 149 | 304 => 150 | 305 => 151 | 306 => 152 | 307 => 153 | 308 => 154 | 309 => 155 | 310 => 156 | 333 => 180 | 329 => 171 | 330 => 172 | 334 => 181 | 335 => 182 | 336 => 183 | 344 => 195 | n => n, fun | 31 => 22 | 9 => 9 | 3 => 3 | 46 => 93 | 0 => 0 | 51 => 124 | 53 => 125 | 4 => 4 | 183 => 156 | 182 => 155 | 131 => 160 | 5 => 5 | 218 => 183 | 222 => 187 | 228 => 205 | 229 => 206 | n => n, fun | n => n⟩
theorem Tryd.lays190 : Go.Proofs.Lays.n190 Tryd.prog Tryd.lays190_ren := {
  mixed := by kernel_rfl
  f125 := Tryd.func109.trans (congrArg some (by kernel_rfl))
  f128 := Tryd.func139.trans (congrArg some (by kernel_rfl))
  f129 := Tryd.func140.trans (congrArg some (by kernel_rfl))
  f190 := Tryd.func91.trans (congrArg some (by kernel_rfl))
  f258 := Tryd.func123.trans (congrArg some (by kernel_rfl))
  f302 := Tryd.func148.trans (congrArg some (by kernel_rfl))
  f303 := Tryd.func149.trans (congrArg some (by kernel_rfl))
  f304 := Tryd.func150.trans (congrArg some (by kernel_rfl))
  f305 := Tryd.func151.trans (congrArg some (by kernel_rfl))
  f306 := Tryd.func152.trans (congrArg some (by kernel_rfl))
  f307 := Tryd.func153.trans (congrArg some (by kernel_rfl))
  f308 := Tryd.func154.trans (congrArg some (by kernel_rfl))
  f309 := Tryd.func155.trans (congrArg some (by kernel_rfl))
  f310 := Tryd.func156.trans (congrArg some (by kernel_rfl))
  f329 := Tryd.func171.trans (congrArg some (by kernel_rfl))
  f330 := Tryd.func172.trans (congrArg some (by kernel_rfl))
  f333 := Tryd.func180.trans (congrArg some (by kernel_rfl))
  f334 := Tryd.func181.trans (congrArg some (by kernel_rfl))
  f335 := Tryd.func182.trans (congrArg some (by kernel_rfl))
  f336 := Tryd.func183.trans (congrArg some (by kernel_rfl))
  f344 := Tryd.func195.trans (congrArg some (by kernel_rfl))
  t0 := Tryd.underlying0
  a0 := Tryd.isAgg0
  z0 := Tryd.sizeOf0
  v0 := Tryd.zeroValue0
  t3 := Tryd.underlying3
  a3 := Tryd.isAgg3
  z3 := Tryd.sizeOf3
  v3 := Tryd.zeroValue3
  t4 := Tryd.underlying4
  a4 := Tryd.isAgg4
  z4 := Tryd.sizeOf4
  v4 := Tryd.zeroValue4
  t5 := Tryd.underlying5
  a5 := Tryd.isAgg5
  z5 := Tryd.sizeOf5
  v5 := Tryd.zeroValue5
  t9 := Tryd.underlying9
  a9 := Tryd.isAgg9
  z9 := Tryd.sizeOf9
  v9 := Tryd.zeroValue9
  t31 := Tryd.underlying22
  a31 := Tryd.isAgg22
  z31 := Tryd.sizeOf22
  v31 := Tryd.zeroValue22
  t46 := Tryd.underlying93
  a46 := Tryd.isAgg93
  z46 := Tryd.sizeOf93
  v46 := Tryd.zeroValue93
  t51 := Tryd.underlying124
  a51 := Tryd.isAgg124
  z51 := Tryd.sizeOf124
  v51 := Tryd.zeroValue124
  t53 := Tryd.underlying125
  a53 := Tryd.isAgg125
  z53 := Tryd.sizeOf125
  v53 := Tryd.zeroValue125
  t131 := Tryd.underlying160
  a131 := Tryd.isAgg160
  z131 := Tryd.sizeOf160
  v131 := Tryd.zeroValue160
  t182 := Tryd.underlying155
  a182 := Tryd.isAgg155
  z182 := Tryd.sizeOf155
  v182 := Tryd.zeroValue155
  t183 := Tryd.underlying156
  a183 := Tryd.isAgg156
  z183 := Tryd.sizeOf156
  v183 := Tryd.zeroValue156
  t218 := Tryd.underlying183
  a218 := Tryd.isAgg183
  z218 := Tryd.sizeOf183
  v218 := Tryd.zeroValue183
  t222 := Tryd.underlying187
  a222 := Tryd.isAgg187
  z222 := Tryd.sizeOf187
  v222 := Tryd.zeroValue187
  t228 := Tryd.underlying205
  a228 := Tryd.isAgg205
  z228 := Tryd.sizeOf205
  v228 := Tryd.zeroValue205
  t229 := Tryd.underlying206
  a229 := Tryd.isAgg206
  z229 := Tryd.sizeOf206
  v229 := Tryd.zeroValue206 }
open Go.Sort Go.RowKit in
theorem Tryd.slices_Sort_string (blk off cap : Nat) (ss : List (List UInt8)) (w : World) (hH : Holds encStr w blk off ss.toArray) (hblk : blk < w.heap.size) (hsz : ss.length < 4611686018427387904) :
    Calls Tryd.prog 91 #[.slice (some ⟨blk, off, none⟩) ss.length cap] w fun e w' =>
      e = .returned (.tuple #[]) ∧ ∃ n os, w' = grow (putRow encStr (Sort.ahead w n) blk off (ss.mergeSort fun x y => decide (x ≤ y)).toArray) os := Any.slices_Sort_string Tryd.lays190 blk off cap ss w hH hblk hsz
open Go.RowKit Go.Lib in
/-- strings.Count at whatever sep that is not empty: the two roads under one statement. (LAID: no walk: one application.) -/
theorem Tryd.strings_Count_any (s sep : ByteArray) (m : Int) (w : World) (hs : s.size < 4294967281) (hm : w.cell? ⟨2, 0, none⟩ = some (.int .i64 m)) (h1 : 1 ≤ sep.size) :
    Calls Tryd.prog 142 #[.string s, .string sep] w fun e w' => e = .returned (.int .i64 (Lib.countB s sep)) ∧ w' = w := Any.strings_Count_any Tryd.lays138 s sep m w hs hm h1
def Tryd.lays221_ren : Go.Shelf.Ren := ⟨fun | 221 => 110 | 268 => 141 | 138 => 142 | 143 => 143 | 195 => 175 | 197 => 176 | 218 => 177 | 219 => 129 | 260 => 194 | 217 => 165 | 225 => 166 | 224 => 167 | 267 => 168 | 266 => 191 | 314 => 192 | n => n, fun | 9 => 9 | 3 => 3 | 31 => 22 | 4 => 4 | 0 => 0 | 105 => 190 | 21 => 21 | 5 => 5 | 46 => 93 | 119 => 209 | 139 => 212 | 138 => 211 | 146 => 203 | 51 => 124 | n => n, fun | 1 => 2 | 3 => 19 | 4 => 20 | n => n⟩
theorem Tryd.lays221 : Go.Proofs.Lays.n221 Tryd.prog Tryd.lays221_ren := {
  mixed := by kernel_rfl
  f138 := Tryd.func142.trans (congrArg some (by kernel_rfl))
  f143 := Tryd.func143.trans (congrArg some (by kernel_rfl))
  f195 := Tryd.func175.trans (congrArg some (by kernel_rfl))
  f197 := Tryd.func176.trans (congrArg some (by kernel_rfl))
  f217 := Tryd.func165.trans (congrArg some (by kernel_rfl))
  f218 := Tryd.func177.trans (congrArg some (by kernel_rfl))
  f219 := Tryd.func129.trans (congrArg some (by kernel_rfl))
  f221 := Tryd.func110.trans (congrArg some (by kernel_rfl))
  f224 := Tryd.func167.trans (congrArg some (by kernel_rfl))
  f225 := Tryd.func166.trans (congrArg some (by kernel_rfl))
  f260 := Tryd.func194.trans (congrArg some (by kernel_rfl))
  f266 := Tryd.func191.trans (congrArg some (by kernel_rfl))
  f267 := Tryd.func168.trans (congrArg some (by kernel_rfl))
  f268 := Tryd.func141.trans (congrArg some (by kernel_rfl))
  f314 := Tryd.func192.trans (congrArg some (by kernel_rfl))
  t0 := Tryd.underlying0
  a0 := Tryd.isAgg0
  z0 := Tryd.sizeOf0
  v0 := Tryd.zeroValue0
  t3 := Tryd.underlying3
  a3 := Tryd.isAgg3
  z3 := Tryd.sizeOf3
  v3 := Tryd.zeroValue3
  t4 := Tryd.underlying4
  a4 := Tryd.isAgg4
  z4 := Tryd.sizeOf4
  v4 := Tryd.zeroValue4
  t5 := Tryd.underlying5
  a5 := Tryd.isAgg5
  z5 := Tryd.sizeOf5
  v5 := Tryd.zeroValue5
  t9 := Tryd.underlying9
  a9 := Tryd.isAgg9
  z9 := Tryd.sizeOf9
  v9 := Tryd.zeroValue9
  t21 := Tryd.underlying21
  a21 := Tryd.isAgg21
  z21 := Tryd.sizeOf21
  v21 := Tryd.zeroValue21
  t31 := Tryd.underlying22
  a31 := Tryd.isAgg22
  z31 := Tryd.sizeOf22
  v31 := Tryd.zeroValue22
  t46 := Tryd.underlying93
  a46 := Tryd.isAgg93
  z46 := Tryd.sizeOf93
  v46 := Tryd.zeroValue93
  t51 := Tryd.underlying124
  a51 := Tryd.isAgg124
  z51 := Tryd.sizeOf124
  v51 := Tryd.zeroValue124
  t105 := Tryd.underlying190
  a105 := Tryd.isAgg190
  z105 := Tryd.sizeOf190
  v105 := Tryd.zeroValue190
  t119 := Tryd.underlying209
  a119 := Tryd.isAgg209
  z119 := Tryd.sizeOf209
  t138 := Tryd.underlying211
  a138 := Tryd.isAgg211
  z138 := Tryd.sizeOf211
  v138 := Tryd.zeroValue211
  t139 := Tryd.underlying212
  a139 := Tryd.isAgg212
  z139 := Tryd.sizeOf212
  v139 := Tryd.zeroValue212
  t146 := Tryd.underlying203
  a146 := Tryd.isAgg203
  z146 := Tryd.sizeOf203
  v146 := Tryd.zeroValue203
  g1 := by kernel_rfl
  g3 := by kernel_rfl
  g4 := by kernel_rfl }
open Go.RowKit Go.Lib in
theorem Tryd.strings_genSplit (s sep : ByteArray) (sv : Nat) (n : Int) (N : Nat) (m : Int) (w : World) (hs : s.size < 4294967281) (hm : w.cell? ⟨2, 0, none⟩ = some (.int .i64 m)) (h1 : 1 ≤ sep.size) (hsv : sv ≤ sep.size) (hn0 : n ≠ 0) (hn63 : n ≤ 9223372036854775807) (hN : (N : Int) = min (if n < 0 then (Lib.countB s sep : Int) + 1 else n) ((s.size : Int) + 1)) :
    Calls Tryd.prog 110 #[.string s, .string sep, .int .i64 sv, .int .i64 n] w fun e w' =>
      e = .returned (.slice (some ⟨w.heap.size, 0, none⟩) (Lib.splitB sep sv (N - 1) s).length N) ∧ w' = w.alloc (.cells (Lib.cellsOf (Lib.splitB sep sv (N - 1) s) N) 9) := Any.strings_genSplit Tryd.lays221 (by kernel_rfl) s sep sv n N m w hs hm h1 hsv hn0 hn63 hN
def Tryd.lays146_ren : Go.Shelf.Ren := ⟨fun | 146 => 77 | 221 => 110 | 268 => 141 | 138 => 142 | 143 => 143 | 195 => 175 | 197 => 176 | 218 => 177 | 219 => 129 | 260 => 194 | 217 => 165 | 225 => 166 | 224 => 167 | 267 => 168 | 266 => 191 | 314 => 192 | n => n, fun | 9 => 9 | 31 => 22 | 3 => 3 | 4 => 4 | 0 => 0 | 105 => 190 | 21 => 21 | 5 => 5 | 46 => 93 | 119 => 209 | 139 => 212 | 138 => 211 | 146 => 203 | 51 => 124 | n => n, fun | 1 => 2 | 3 => 19 | 4 => 20 | n => n⟩
theorem Tryd.lays146 : Go.Proofs.Lays.n146 Tryd.prog Tryd.lays146_ren := {
  mixed := by kernel_rfl
  f138 := Tryd.func142.trans (congrArg some (by kernel_rfl))
  f143 := Tryd.func143.trans (congrArg some (by kernel_rfl))
  f146 := Tryd.func77.trans (congrArg some (by kernel_rfl))
  f195 := Tryd.func175.trans (congrArg some (by kernel_rfl))
  f197 := Tryd.func176.trans (congrArg some (by kernel_rfl))
  f217 := Tryd.func165.trans (congrArg some (by kernel_rfl))
  f218 := Tryd.func177.trans (congrArg some (by kernel_rfl))
  f219 := Tryd.func129.trans (congrArg some (by kernel_rfl))
  f221 := Tryd.func110.trans (congrArg some (by kernel_rfl))
  f224 := Tryd.func167.trans (congrArg some (by kernel_rfl))
  f225 := Tryd.func166.trans (congrArg some (by kernel_rfl))
  f260 := Tryd.func194.trans (congrArg some (by kernel_rfl))
  f266 := Tryd.func191.trans (congrArg some (by kernel_rfl))
  f267 := Tryd.func168.trans (congrArg some (by kernel_rfl))
  f268 := Tryd.func141.trans (congrArg some (by kernel_rfl))
  f314 := Tryd.func192.trans (congrArg some (by kernel_rfl))
  t0 := Tryd.underlying0
  a0 := Tryd.isAgg0
  z0 := Tryd.sizeOf0
  v0 := Tryd.zeroValue0
  t3 := Tryd.underlying3
  a3 := Tryd.isAgg3
  z3 := Tryd.sizeOf3
  v3 := Tryd.zeroValue3
  t4 := Tryd.underlying4
  a4 := Tryd.isAgg4
  z4 := Tryd.sizeOf4
  v4 := Tryd.zeroValue4
  t5 := Tryd.underlying5
  a5 := Tryd.isAgg5
  z5 := Tryd.sizeOf5
  v5 := Tryd.zeroValue5
  t9 := Tryd.underlying9
  a9 := Tryd.isAgg9
  z9 := Tryd.sizeOf9
  v9 := Tryd.zeroValue9
  t21 := Tryd.underlying21
  a21 := Tryd.isAgg21
  z21 := Tryd.sizeOf21
  v21 := Tryd.zeroValue21
  t31 := Tryd.underlying22
  a31 := Tryd.isAgg22
  z31 := Tryd.sizeOf22
  v31 := Tryd.zeroValue22
  t46 := Tryd.underlying93
  a46 := Tryd.isAgg93
  z46 := Tryd.sizeOf93
  v46 := Tryd.zeroValue93
  t51 := Tryd.underlying124
  a51 := Tryd.isAgg124
  z51 := Tryd.sizeOf124
  v51 := Tryd.zeroValue124
  t105 := Tryd.underlying190
  a105 := Tryd.isAgg190
  z105 := Tryd.sizeOf190
  v105 := Tryd.zeroValue190
  t119 := Tryd.underlying209
  a119 := Tryd.isAgg209
  z119 := Tryd.sizeOf209
  t138 := Tryd.underlying211
  a138 := Tryd.isAgg211
  z138 := Tryd.sizeOf211
  v138 := Tryd.zeroValue211
  t139 := Tryd.underlying212
  a139 := Tryd.isAgg212
  z139 := Tryd.sizeOf212
  v139 := Tryd.zeroValue212
  t146 := Tryd.underlying203
  a146 := Tryd.isAgg203
  z146 := Tryd.sizeOf203
  v146 := Tryd.zeroValue203
  g1 := by kernel_rfl
  g3 := by kernel_rfl
  g4 := by kernel_rfl }
open Go.RowKit Go.Lib in
/-- strings.Split. (LAID: no walk: one application.) -/
theorem Tryd.strings_Split (s sep : ByteArray) (m : Int) (w : World) (hs : s.size < 4294967281) (hm : w.cell? ⟨2, 0, none⟩ = some (.int .i64 m)) (h1 : 1 ≤ sep.size) :
    Calls Tryd.prog 77 #[.string s, .string sep] w fun e w' =>
      e = .returned (.slice (some ⟨w.heap.size, 0, none⟩) (Lib.countB s sep + 1) (Lib.countB s sep + 1)) ∧ w' = w.alloc (.cells ((Lib.splitB sep 0 (Lib.countB s sep) s).map Value.string).toArray 9) := Any.strings_Split Tryd.lays146 (by kernel_rfl) s sep m w hs hm h1
def Tryd.lays154_ren : Go.Shelf.Ren := ⟨fun | 154 => 145 | 138 => 142 | 165 => 118 | 143 => 143 | 166 => 119 | 197 => 176 | 169 => 120 | 195 => 175 | 218 => 177 | 240 => 146 | 241 => 147 | 219 => 129 | 260 => 194 | 276 => 178 | 277 => 179 | 217 => 165 | 225 => 166 | 224 => 167 | 267 => 168 | 266 => 191 | 314 => 192 | n => n, fun | 9 => 9 | 3 => 3 | 4 => 4 | 72 => 136 | 0 => 0 | 76 => 138 | 105 => 190 | 21 => 21 | 5 => 5 | 70 => 134 | 20 => 20 | 37 => 92 | 75 => 30 | 127 => 166 | 164 => 192 | 46 => 93 | 119 => 209 | 139 => 212 | 138 => 211 | 146 => 203 | 51 => 124 | 80 => 50 | n => n, fun | 1 => 2 | 3 => 19 | 4 => 20 | n => n⟩
theorem Tryd.lays154 : Go.Proofs.Lays.n154 Tryd.prog Tryd.lays154_ren := {
  mixed := by kernel_rfl
  f138 := Tryd.func142.trans (congrArg some (by kernel_rfl))
  f143 := Tryd.func143.trans (congrArg some (by kernel_rfl))
  f154 := Tryd.func145.trans (congrArg some (by kernel_rfl))
  f165 := Tryd.func118.trans (congrArg some (by kernel_rfl))
  f166 := Tryd.func119.trans (congrArg some (by kernel_rfl))
  f169 := Tryd.func120.trans (congrArg some (by kernel_rfl))
  f195 := Tryd.func175.trans (congrArg some (by kernel_rfl))
  f197 := Tryd.func176.trans (congrArg some (by kernel_rfl))
  f217 := Tryd.func165.trans (congrArg some (by kernel_rfl))
  f218 := Tryd.func177.trans (congrArg some (by kernel_rfl))
  f219 := Tryd.func129.trans (congrArg some (by kernel_rfl))
  f224 := Tryd.func167.trans (congrArg some (by kernel_rfl))
  f225 := Tryd.func166.trans (congrArg some (by kernel_rfl))
  f240 := Tryd.func146.trans (congrArg some (by kernel_rfl))
  f241 := Tryd.func147.trans (congrArg some (by kernel_rfl))
  f260 := Tryd.func194.trans (congrArg some (by kernel_rfl))
  f266 := Tryd.func191.trans (congrArg some (by kernel_rfl))
  f267 := Tryd.func168.trans (congrArg some (by kernel_rfl))
  f276 := Tryd.func178.trans (congrArg some (by kernel_rfl))
  f277 := Tryd.func179.trans (congrArg some (by kernel_rfl))
  f314 := Tryd.func192.trans (congrArg some (by kernel_rfl))
  t0 := Tryd.underlying0
  a0 := Tryd.isAgg0
  z0 := Tryd.sizeOf0
  v0 := Tryd.zeroValue0
  t3 := Tryd.underlying3
  a3 := Tryd.isAgg3
  z3 := Tryd.sizeOf3
  v3 := Tryd.zeroValue3
  t4 := Tryd.underlying4
  a4 := Tryd.isAgg4
  z4 := Tryd.sizeOf4
  v4 := Tryd.zeroValue4
  t5 := Tryd.underlying5
  a5 := Tryd.isAgg5
  z5 := Tryd.sizeOf5
  v5 := Tryd.zeroValue5
  t9 := Tryd.underlying9
  a9 := Tryd.isAgg9
  z9 := Tryd.sizeOf9
  v9 := Tryd.zeroValue9
  t20 := Tryd.underlying20
  a20 := Tryd.isAgg20
  z20 := Tryd.sizeOf20
  v20 := Tryd.zeroValue20
  t21 := Tryd.underlying21
  a21 := Tryd.isAgg21
  z21 := Tryd.sizeOf21
  v21 := Tryd.zeroValue21
  t37 := Tryd.underlying92
  a37 := Tryd.isAgg92
  z37 := Tryd.sizeOf92
  v37 := Tryd.zeroValue92
  t46 := Tryd.underlying93
  a46 := Tryd.isAgg93
  z46 := Tryd.sizeOf93
  v46 := Tryd.zeroValue93
  t51 := Tryd.underlying124
  a51 := Tryd.isAgg124
  z51 := Tryd.sizeOf124
  v51 := Tryd.zeroValue124
  t70 := Tryd.underlying134
  a70 := Tryd.isAgg134
  z70 := Tryd.sizeOf134
  v70 := Tryd.zeroValue134
  t72 := Tryd.underlying136
  a72 := Tryd.isAgg136
  z72 := Tryd.sizeOf136
  v72 := Tryd.zeroValue136
  t75 := Tryd.underlying30
  a75 := Tryd.isAgg30
  z75 := Tryd.sizeOf30
  v75 := Tryd.zeroValue30
  t76 := Tryd.underlying138
  a76 := Tryd.isAgg138
  z76 := Tryd.sizeOf138
  v76 := Tryd.zeroValue138
  t105 := Tryd.underlying190
  a105 := Tryd.isAgg190
  z105 := Tryd.sizeOf190
  v105 := Tryd.zeroValue190
  t119 := Tryd.underlying209
  a119 := Tryd.isAgg209
  z119 := Tryd.sizeOf209
  t127 := Tryd.underlying166
  a127 := Tryd.isAgg166
  z127 := Tryd.sizeOf166
  v127 := Tryd.zeroValue166
  t138 := Tryd.underlying211
  a138 := Tryd.isAgg211
  z138 := Tryd.sizeOf211
  v138 := Tryd.zeroValue211
  t139 := Tryd.underlying212
  a139 := Tryd.isAgg212
  z139 := Tryd.sizeOf212
  v139 := Tryd.zeroValue212
  t146 := Tryd.underlying203
  a146 := Tryd.isAgg203
  z146 := Tryd.sizeOf203
  v146 := Tryd.zeroValue203
  t164 := Tryd.underlying192
  a164 := Tryd.isAgg192
  z164 := Tryd.sizeOf192
  v164 := Tryd.zeroValue192
  g1 := by kernel_rfl
  g3 := by kernel_rfl
  g4 := by kernel_rfl }
theorem Tryd.Builder_Extra_154 : Builder.Extra Tryd.prog Tryd.lays154_ren := {
  sizeBuilder := by kernel_rfl
  liesBuilder := by kernel_rfl
  t5 := Tryd.underlying5
  a5 := Tryd.isAgg5
  z5 := Tryd.sizeOf5
  v5 := Tryd.zeroValue5
  infoByte := by kernel_rfl
  cellsByte := by kernel_rfl
  sizeByte := by kernel_rfl
  neB5 := by decide }
open Go.RowKit Go.Lib in
/-- WHERE SOMETHING IS REPLACED: old is not new, n is not 0, there is an instance. (LAID: no walk: one application.) -/
theorem Tryd.strings_Replace_some (s old new : ByteArray) (n : Int) (m : Int) (w : World) (hs : s.size < 4294967281) (hm : w.cell? ⟨2, 0, none⟩ = some (.int .i64 m)) (h1 : 1 ≤ old.size) (hne : old ≠ new) (hn0 : n ≠ 0) (hc0 : Lib.countB s old ≠ 0) (hlen : s.size + Lib.countB s old * new.size ≤ 140737488355328) :
    Calls Tryd.prog 145 #[.string s, .string old, .string new, .int .i64 n] w fun e w' =>
      e = .returned (.string ⟨(Lib.replaceK old.data.toList new.data.toList (Lib.replaceNum s.data.toList old.data.toList n) s.data.toList).toArray⟩) ∧ Below w.heap.size w w' := Any.strings_Replace_some Tryd.lays154 Tryd.Builder_Extra_154 s old new n m w hs hm h1 hne hn0 hc0 hlen
open Go.RowKit Go.Lib in
/-- 'if old == new || n == 0 { return s }'. (LAID: no walk: one application.) -/
theorem Tryd.strings_Replace_none (s old new : ByteArray) (n : Int) (w : World) (h : old = new ∨ n = 0) :
    Calls Tryd.prog 145 #[.string s, .string old, .string new, .int .i64 n] w fun e w' => e = .returned (.string s) ∧ w' = w := Any.strings_Replace_none Tryd.lays154 s old new n w h
open Go.RowKit Go.Lib in
/-- 'if m := Count(s, old); m == 0 { return s }'. (LAID: no walk: one application.) -/
theorem Tryd.strings_Replace_absent (s old new : ByteArray) (n : Int) (m : Int) (w : World) (hs : s.size < 4294967281) (hm : w.cell? ⟨2, 0, none⟩ = some (.int .i64 m)) (h1 : 1 ≤ old.size) (hne : old ≠ new) (hn0 : n ≠ 0) (hc0 : Lib.countB s old = 0) :
    Calls Tryd.prog 145 #[.string s, .string old, .string new, .int .i64 n] w fun e w' => e = .returned (.string s) ∧ w' = w := Any.strings_Replace_absent Tryd.lays154 s old new n m w hs hm h1 hne hn0 hc0
open Go.RowKit Go.Lib in
/-- strings.Replace: "Replace returns a copy of the string s with the first n non-overlapping instances of old replaced by new. .. If n < 0, there is no limit on the number of replacements.": AT AN old THAT IS NOT EMPTY: IT RETURNS 'Lib.replace s old new n'. Below the heap's end the world is as_ it was. IT ASKS, as_ strings.Index's contract: 'len(s) < 4294967281', 'hm'; and that what comes out has room: 'len(s) + Count(s, old) * len(new) ≤ 2^47'. (LAID: no walk: one application.) -/
theorem Tryd.strings_Replace (s old new : ByteArray) (n : Int) (m : Int) (w : World) (hs : s.size < 4294967281) (hm : w.cell? ⟨2, 0, none⟩ = some (.int .i64 m)) (h1 : 1 ≤ old.size) (hlen : s.size + Lib.countB s old * new.size ≤ 140737488355328) :
    Calls Tryd.prog 145 #[.string s, .string old, .string new, .int .i64 n] w fun e w' =>
      e = .returned (.string ⟨(Lib.replace s.data.toList old.data.toList new.data.toList n).toArray⟩) ∧ Below w.heap.size w w' := Any.strings_Replace Tryd.lays154 Tryd.Builder_Extra_154 s old new n m w hs hm h1 hlen
def Tryd.lays155_ren : Go.Shelf.Ren := ⟨fun | 155 => 115 | 154 => 145 | 138 => 142 | 165 => 118 | 143 => 143 | 166 => 119 | 197 => 176 | 169 => 120 | 195 => 175 | 218 => 177 | 240 => 146 | 241 => 147 | 219 => 129 | 260 => 194 | 276 => 178 | 277 => 179 | 217 => 165 | 225 => 166 | 224 => 167 | 267 => 168 | 266 => 191 | 314 => 192 | n => n, fun | 9 => 9 | 3 => 3 | 4 => 4 | 72 => 136 | 0 => 0 | 76 => 138 | 105 => 190 | 21 => 21 | 5 => 5 | 70 => 134 | 20 => 20 | 37 => 92 | 75 => 30 | 127 => 166 | 164 => 192 | 46 => 93 | 119 => 209 | 139 => 212 | 138 => 211 | 146 => 203 | 51 => 124 | 80 => 50 | n => n, fun | 1 => 2 | 3 => 19 | 4 => 20 | n => n⟩
theorem Tryd.lays155 : Go.Proofs.Lays.n155 Tryd.prog Tryd.lays155_ren := {
  mixed := by kernel_rfl
  f138 := Tryd.func142.trans (congrArg some (by kernel_rfl))
  f143 := Tryd.func143.trans (congrArg some (by kernel_rfl))
  f154 := Tryd.func145.trans (congrArg some (by kernel_rfl))
  f155 := Tryd.func115.trans (congrArg some (by kernel_rfl))
  f165 := Tryd.func118.trans (congrArg some (by kernel_rfl))
  f166 := Tryd.func119.trans (congrArg some (by kernel_rfl))
  f169 := Tryd.func120.trans (congrArg some (by kernel_rfl))
  f195 := Tryd.func175.trans (congrArg some (by kernel_rfl))
  f197 := Tryd.func176.trans (congrArg some (by kernel_rfl))
  f217 := Tryd.func165.trans (congrArg some (by kernel_rfl))
  f218 := Tryd.func177.trans (congrArg some (by kernel_rfl))
  f219 := Tryd.func129.trans (congrArg some (by kernel_rfl))
  f224 := Tryd.func167.trans (congrArg some (by kernel_rfl))
  f225 := Tryd.func166.trans (congrArg some (by kernel_rfl))
  f240 := Tryd.func146.trans (congrArg some (by kernel_rfl))
  f241 := Tryd.func147.trans (congrArg some (by kernel_rfl))
  f260 := Tryd.func194.trans (congrArg some (by kernel_rfl))
  f266 := Tryd.func191.trans (congrArg some (by kernel_rfl))
  f267 := Tryd.func168.trans (congrArg some (by kernel_rfl))
  f276 := Tryd.func178.trans (congrArg some (by kernel_rfl))
  f277 := Tryd.func179.trans (congrArg some (by kernel_rfl))
  f314 := Tryd.func192.trans (congrArg some (by kernel_rfl))
  t0 := Tryd.underlying0
  a0 := Tryd.isAgg0
  z0 := Tryd.sizeOf0
  v0 := Tryd.zeroValue0
  t3 := Tryd.underlying3
  a3 := Tryd.isAgg3
  z3 := Tryd.sizeOf3
  v3 := Tryd.zeroValue3
  t4 := Tryd.underlying4
  a4 := Tryd.isAgg4
  z4 := Tryd.sizeOf4
  v4 := Tryd.zeroValue4
  t5 := Tryd.underlying5
  a5 := Tryd.isAgg5
  z5 := Tryd.sizeOf5
  v5 := Tryd.zeroValue5
  t9 := Tryd.underlying9
  a9 := Tryd.isAgg9
  z9 := Tryd.sizeOf9
  v9 := Tryd.zeroValue9
  t20 := Tryd.underlying20
  a20 := Tryd.isAgg20
  z20 := Tryd.sizeOf20
  v20 := Tryd.zeroValue20
  t21 := Tryd.underlying21
  a21 := Tryd.isAgg21
  z21 := Tryd.sizeOf21
  v21 := Tryd.zeroValue21
  t37 := Tryd.underlying92
  a37 := Tryd.isAgg92
  z37 := Tryd.sizeOf92
  v37 := Tryd.zeroValue92
  t46 := Tryd.underlying93
  a46 := Tryd.isAgg93
  z46 := Tryd.sizeOf93
  v46 := Tryd.zeroValue93
  t51 := Tryd.underlying124
  a51 := Tryd.isAgg124
  z51 := Tryd.sizeOf124
  v51 := Tryd.zeroValue124
  t70 := Tryd.underlying134
  a70 := Tryd.isAgg134
  z70 := Tryd.sizeOf134
  v70 := Tryd.zeroValue134
  t72 := Tryd.underlying136
  a72 := Tryd.isAgg136
  z72 := Tryd.sizeOf136
  v72 := Tryd.zeroValue136
  t75 := Tryd.underlying30
  a75 := Tryd.isAgg30
  z75 := Tryd.sizeOf30
  v75 := Tryd.zeroValue30
  t76 := Tryd.underlying138
  a76 := Tryd.isAgg138
  z76 := Tryd.sizeOf138
  v76 := Tryd.zeroValue138
  t105 := Tryd.underlying190
  a105 := Tryd.isAgg190
  z105 := Tryd.sizeOf190
  v105 := Tryd.zeroValue190
  t119 := Tryd.underlying209
  a119 := Tryd.isAgg209
  z119 := Tryd.sizeOf209
  t127 := Tryd.underlying166
  a127 := Tryd.isAgg166
  z127 := Tryd.sizeOf166
  v127 := Tryd.zeroValue166
  t138 := Tryd.underlying211
  a138 := Tryd.isAgg211
  z138 := Tryd.sizeOf211
  v138 := Tryd.zeroValue211
  t139 := Tryd.underlying212
  a139 := Tryd.isAgg212
  z139 := Tryd.sizeOf212
  v139 := Tryd.zeroValue212
  t146 := Tryd.underlying203
  a146 := Tryd.isAgg203
  z146 := Tryd.sizeOf203
  v146 := Tryd.zeroValue203
  t164 := Tryd.underlying192
  a164 := Tryd.isAgg192
  z164 := Tryd.sizeOf192
  v164 := Tryd.zeroValue192
  g1 := by kernel_rfl
  g3 := by kernel_rfl
  g4 := by kernel_rfl }
theorem Tryd.Builder_Extra_155 : Builder.Extra Tryd.prog Tryd.lays155_ren := {
  sizeBuilder := by kernel_rfl
  liesBuilder := by kernel_rfl
  t5 := Tryd.underlying5
  a5 := Tryd.isAgg5
  z5 := Tryd.sizeOf5
  v5 := Tryd.zeroValue5
  infoByte := by kernel_rfl
  cellsByte := by kernel_rfl
  sizeByte := by kernel_rfl
  neB5 := by decide }
open Go.RowKit Go.Lib in
/-- strings.ReplaceAll: "ReplaceAll returns a copy of the string s with all non-overlapping instances of old replaced by new.": AT AN old THAT IS NOT EMPTY: 'Lib.replaceAll s old new'. (LAID: no walk: one application.) -/
theorem Tryd.strings_ReplaceAll (s old new : ByteArray) (m : Int) (w : World) (hs : s.size < 4294967281) (hm : w.cell? ⟨2, 0, none⟩ = some (.int .i64 m)) (h1 : 1 ≤ old.size) (hlen : s.size + Lib.countB s old * new.size ≤ 140737488355328) :
    Calls Tryd.prog 115 #[.string s, .string old, .string new] w fun e w' =>
      e = .returned (.string ⟨(Lib.replaceAll s.data.toList old.data.toList new.data.toList).toArray⟩) ∧ Below w.heap.size w w' := Any.strings_ReplaceAll Tryd.lays155 Tryd.Builder_Extra_155 s old new m w hs hm h1 hlen
def Tryd.lays260_ren : Go.Shelf.Ren := ⟨fun | 260 => 194 | n => n, fun | 9 => 9 | 21 => 21 | 3 => 3 | 4 => 4 | 5 => 5 | 119 => 209 | 0 => 0 | 46 => 93 | 139 => 212 | 138 => 211 | n => n, fun | 3 => 19 | 4 => 20 | n => n⟩
theorem Tryd.lays260 : Go.Proofs.Lays.n260 Tryd.prog Tryd.lays260_ren := {
  mixed := by kernel_rfl
  f260 := Tryd.func194.trans (congrArg some (by kernel_rfl))
  t0 := Tryd.underlying0
  a0 := Tryd.isAgg0
  z0 := Tryd.sizeOf0
  v0 := Tryd.zeroValue0
  t3 := Tryd.underlying3
  a3 := Tryd.isAgg3
  z3 := Tryd.sizeOf3
  v3 := Tryd.zeroValue3
  t4 := Tryd.underlying4
  a4 := Tryd.isAgg4
  z4 := Tryd.sizeOf4
  v4 := Tryd.zeroValue4
  t5 := Tryd.underlying5
  a5 := Tryd.isAgg5
  z5 := Tryd.sizeOf5
  v5 := Tryd.zeroValue5
  t9 := Tryd.underlying9
  a9 := Tryd.isAgg9
  z9 := Tryd.sizeOf9
  v9 := Tryd.zeroValue9
  t21 := Tryd.underlying21
  a21 := Tryd.isAgg21
  z21 := Tryd.sizeOf21
  v21 := Tryd.zeroValue21
  t46 := Tryd.underlying93
  a46 := Tryd.isAgg93
  z46 := Tryd.sizeOf93
  v46 := Tryd.zeroValue93
  t119 := Tryd.underlying209
  a119 := Tryd.isAgg209
  z119 := Tryd.sizeOf209
  t138 := Tryd.underlying211
  a138 := Tryd.isAgg211
  z138 := Tryd.sizeOf211
  v138 := Tryd.zeroValue211
  t139 := Tryd.underlying212
  a139 := Tryd.isAgg212
  z139 := Tryd.sizeOf212
  v139 := Tryd.zeroValue212
  g3 := by kernel_rfl
  g4 := by kernel_rfl }
open Go.RowKit Go.Lib in
theorem Tryd.utf8_decodeRuneInStringSlow (s : ByteArray) (w : World) (hT : Lib.Utf8Tabs 19 20 w) :
    Calls Tryd.prog 194 #[.string s] w fun e w' => e = .returned (.tuple #[.int .i32 (Lib.decodeGo s).1, .int .i64 (Lib.decodeGo s).2]) ∧ Below w.heap.size w w' := Any.utf8_decodeRuneInStringSlow Tryd.lays260 s w hT
def Tryd.lays197_ren : Go.Shelf.Ren := ⟨fun | 197 => 176 | 260 => 194 | n => n, fun | 9 => 9 | 21 => 21 | 3 => 3 | 4 => 4 | 5 => 5 | 105 => 190 | 119 => 209 | 0 => 0 | 46 => 93 | 139 => 212 | 138 => 211 | n => n, fun | 3 => 19 | 4 => 20 | n => n⟩
theorem Tryd.lays197 : Go.Proofs.Lays.n197 Tryd.prog Tryd.lays197_ren := {
  mixed := by kernel_rfl
  f197 := Tryd.func176.trans (congrArg some (by kernel_rfl))
  f260 := Tryd.func194.trans (congrArg some (by kernel_rfl))
  t0 := Tryd.underlying0
  a0 := Tryd.isAgg0
  z0 := Tryd.sizeOf0
  v0 := Tryd.zeroValue0
  t3 := Tryd.underlying3
  a3 := Tryd.isAgg3
  z3 := Tryd.sizeOf3
  v3 := Tryd.zeroValue3
  t4 := Tryd.underlying4
  a4 := Tryd.isAgg4
  z4 := Tryd.sizeOf4
  v4 := Tryd.zeroValue4
  t5 := Tryd.underlying5
  a5 := Tryd.isAgg5
  z5 := Tryd.sizeOf5
  v5 := Tryd.zeroValue5
  t9 := Tryd.underlying9
  a9 := Tryd.isAgg9
  z9 := Tryd.sizeOf9
  v9 := Tryd.zeroValue9
  t21 := Tryd.underlying21
  a21 := Tryd.isAgg21
  z21 := Tryd.sizeOf21
  v21 := Tryd.zeroValue21
  t46 := Tryd.underlying93
  a46 := Tryd.isAgg93
  z46 := Tryd.sizeOf93
  v46 := Tryd.zeroValue93
  t105 := Tryd.underlying190
  a105 := Tryd.isAgg190
  z105 := Tryd.sizeOf190
  v105 := Tryd.zeroValue190
  t119 := Tryd.underlying209
  a119 := Tryd.isAgg209
  z119 := Tryd.sizeOf209
  t138 := Tryd.underlying211
  a138 := Tryd.isAgg211
  z138 := Tryd.sizeOf211
  v138 := Tryd.zeroValue211
  t139 := Tryd.underlying212
  a139 := Tryd.isAgg212
  z139 := Tryd.sizeOf212
  v139 := Tryd.zeroValue212
  g3 := by kernel_rfl
  g4 := by kernel_rfl }
open Go.RowKit Go.Lib in
/-- **unicode/utf8.DecodeRuneInString AT EVERY STRING.** (LAID: no walk: one application.) -/
theorem Tryd.utf8_DecodeRuneInString (s : ByteArray) (w : World) (hT : Lib.Utf8Tabs 19 20 w) :
    Calls Tryd.prog 176 #[.string s] w fun e w' => e = .returned (.tuple #[.int .i32 (Lib.decodeGo s).1, .int .i64 (Lib.decodeGo s).2]) ∧ Below w.heap.size w w' := Any.utf8_DecodeRuneInString Tryd.lays197 s w hT
def Tryd.lays194_ren : Go.Shelf.Ren := ⟨fun | 194 => 92 | n => n, fun | 31 => 22 | 9 => 9 | 3 => 3 | 4 => 4 | 0 => 0 | n => n, fun | n => n⟩
theorem Tryd.lays194 : Go.Proofs.Lays.n194 Tryd.prog Tryd.lays194_ren := {
  mixed := by kernel_rfl
  f194 := Tryd.func92.trans (congrArg some (by kernel_rfl))
  t0 := Tryd.underlying0
  a0 := Tryd.isAgg0
  z0 := Tryd.sizeOf0
  v0 := Tryd.zeroValue0
  t3 := Tryd.underlying3
  a3 := Tryd.isAgg3
  z3 := Tryd.sizeOf3
  v3 := Tryd.zeroValue3
  t4 := Tryd.underlying4
  a4 := Tryd.isAgg4
  z4 := Tryd.sizeOf4
  v4 := Tryd.zeroValue4
  t9 := Tryd.underlying9
  a9 := Tryd.isAgg9
  z9 := Tryd.sizeOf9
  v9 := Tryd.zeroValue9
  t31 := Tryd.underlying22
  a31 := Tryd.isAgg22
  z31 := Tryd.sizeOf22
  v31 := Tryd.zeroValue22 }
open Go.RowKit Go.Lib Go.Sort in
/-- slices.Compact at []string, over an array: the library's two loops are walked. (LAID: no walk: one application.) -/
theorem Tryd.slices_Compact_string_arr (blk off cap : Nat) (d : Array (List UInt8)) (w : World) (hH : Holds encStr w blk off d) (hsz : d.size ≤ 9223372036854775807) (hcap : d.size ≤ cap) :
    Calls Tryd.prog 92 #[.slice (some ⟨blk, off, none⟩) d.size cap] w fun e w' => e = .returned (.slice (some ⟨blk, off, none⟩) (compactUpTo d d.size).length cap) ∧ ∃ q, w' = putRow encStr (Sort.ahead w q) blk off (compactUpTo d d.size ++ List.replicate (d.size - (compactUpTo d d.size).length) []).toArray := Any.slices_Compact_string_arr Tryd.lays194 blk off cap d w hH hsz hcap
open Go.RowKit Go.Lib Go.Sort in
/-- slices.Compact at []string: "Compact replaces consecutive runs of equal elements with a single copy. This is like the uniq command found on Unix. Compact modifies the contents of the slice s and returns the modified slice, which may have a smaller length. Compact zeroes the elements between the new length and the original length. The result preserves the nilness of s.": IT RETURNS THE SLICE CUT TO 'Lib.compact zs'; ITS CELLS HOLD 'Lib.compact zs', THEN ZERO VALUES up to the old length; all else is as_ it was, but for the count of draws. IN THE WORDS OF slices.Sort's CONTRACT ('Holds', 'putRow'): so the everyday 'slices.Sort(xs); xs = slices.Compact(xs)' goes from the one contract to the other. It asks 'zs.length ≤ cap' (every slice's: the reslicing 's[:k]' looks at it). Length 0, nil: '.._empty'. (LAID: no walk: one application.) -/
theorem Tryd.slices_Compact_string (blk off cap : Nat) (zs : List (List UInt8)) (w : World) (hH : Holds encStr w blk off zs.toArray) (hsz : zs.length ≤ 9223372036854775807) (hcap : zs.length ≤ cap) :
    Calls Tryd.prog 92 #[.slice (some ⟨blk, off, none⟩) zs.length cap] w fun e w' => e = .returned (.slice (some ⟨blk, off, none⟩) (Lib.compact zs).length cap) ∧ ∃ q, w' = putRow encStr (Sort.ahead w q) blk off (Lib.compact zs ++ List.replicate (zs.length - (Lib.compact zs).length) []).toArray := Any.slices_Compact_string Tryd.lays194 blk off cap zs w hH hsz hcap
open Go.RowKit Go.Lib Go.Sort in
/-- The same at a slice of length 0, a nil one too: it comes back as_ it is. (LAID: no walk: one application.) -/
theorem Tryd.slices_Compact_string_empty (a : Option Addr) (cap : Nat) (w : World) :
    Calls Tryd.prog 92 #[.slice a 0 cap] w fun e w' => e = .returned (.slice a 0 cap) ∧ w' = w := Any.slices_Compact_string_empty Tryd.lays194 a cap w
open Go.RowKit Go.Lib Go.Sort in
/-- slices.Compact at []string, of an argument. (LAID: no walk: one application.) -/
theorem Tryd.slices_Compact_string_cells (b off n c : Nat) (Sx : Nat → ByteArray) (w : World) (hbig : n ≤ 9223372036854775807) (hcap : n ≤ c) (hc : ∀ i, i < n → w.cell? ⟨b, off + i, none⟩ = some (.string (Sx i))) (hf : ∀ j, j < n → w.frozen? ⟨b, off + j, none⟩ = false) :
    Calls Tryd.prog 92 #[.slice (some ⟨b, off, none⟩) n c] w fun e w' => e = .returned (.slice (some ⟨b, off, none⟩) (Lib.compact (Lib.strsOf Sx n)).length c) ∧ ∃ q, w' = (w.drewN q).setCells b off ((Lib.compact (Lib.strsOf Sx n) ++ List.replicate (n - (Lib.compact (Lib.strsOf Sx n)).length) []).map encStr) := Any.slices_Compact_string_cells Tryd.lays194 b off n c Sx w hbig hcap hc hf
open Go.RowKit Go.Sort in
/-- .. and plain. (LAID: no walk: one application.) -/
theorem Tryd.slices_Sort_string_none (p : Option Addr) (cap : Nat) (w : World) :
    Calls Tryd.prog 91 #[.slice p 0 cap] w fun e w' => e = .returned (.tuple #[]) ∧ w' = w := Any.slices_Sort_string_none Tryd.lays190 p cap w
end Go.Proofs
 /- The library's contracts (the kit's shelf) in the generator's form. -/
namespace Go.Proofs.YtcfljnfaakjdjaaDoor
open Go Go.RowKit
theorem Fn.ofCalls {P : Program} {f : FuncId} {args : Array Value} {w : World} {v : Value} (hgo : goesIn P f = true) (h : ∀ w1, Calls P f args w1 fun e w' => e = .returned v ∧ w' = w1) : Fn P f args w (fun r w' => w = w' ∧ r = v) :=
  ⟨hgo, fun w1 e => (h w1).mono fun _ _ ⟨he, hw⟩ => ⟨v, w, he, by rw [hw]; exact e, rfl, rfl⟩⟩
theorem bs (l : List UInt8) : (Value.string ⟨⟨l⟩⟩) = vs l := rfl
def M_strings_IndexByte (s : List UInt8) (c : Int) (K : Int → Prop) : Prop := K (Lib.indexByte s c.toNat.toUInt8)
theorem W_strings_IndexByte {w : World} {s : List UInt8} {c : Int} {K : Int → Prop} (H : M_strings_IndexByte s c K) : Fn Tryd.prog 144 ⟨[vs s, .int .u8 c]⟩ w (fun v w' => w = w' ∧ ∃ r : Int, v = .int .i64 r ∧ K r) :=
  (Fn.ofCalls (by kernel_rfl) (fun w1 => Tryd.strings_IndexByte ⟨⟨s⟩⟩ c w1)).mono fun _ _ ⟨h1, h2⟩ => ⟨h1, _, h2, H⟩
def M_strings_Contains (s sub : List UInt8) (K : Bool → Prop) : Prop := s.length < 4294967281 ∧ K (Lib.contains s sub)
theorem W_strings_Contains {S : List Nat} {w : World} {s sub : List UInt8} {K : Bool → Prop} (hG : GOK S w) (h100 : 100 ∈ S) (H : M_strings_Contains s sub K) : Fn Tryd.prog 114 ⟨[vs s, vs sub]⟩ w (fun v w' => w = w' ∧ ∃ r : Bool, v = .bool r ∧ K r) := by
  obtain ⟨m, hm⟩ := hG.ml h100
  refine ⟨by kernel_rfl, fun w1 e => (Tryd.strings_Contains ⟨⟨s⟩⟩ ⟨⟨sub⟩⟩ m w1 H.1 (by rw [e.cell]; exact hm)).mono fun _ _ ⟨he, hw⟩ => ⟨_, w, he, by rw [hw]; exact e, rfl, _, rfl, H.2⟩⟩
def splitL (sep s : List UInt8) : List (List UInt8) := Lib.splitK sep 0 (Lib.countB ⟨⟨s⟩⟩ ⟨⟨sep⟩⟩) s
theorem splitL_map (sep s : List UInt8) : (Lib.splitB ⟨⟨sep⟩⟩ 0 (Lib.countB ⟨⟨s⟩⟩ ⟨⟨sep⟩⟩) ⟨⟨s⟩⟩).map Value.string = (splitL sep s).map vs := by
  have h := Lib.splitB_data ⟨⟨sep⟩⟩ 0 (Lib.countB ⟨⟨s⟩⟩ ⟨⟨sep⟩⟩) ⟨⟨s⟩⟩
  unfold splitL
  rw [show Lib.splitK sep 0 (Lib.countB ⟨⟨s⟩⟩ ⟨⟨sep⟩⟩) s = _ from h.symm, List.map_map]
  rfl
def M_strings_Split (s sep : List UInt8) (K : List (List UInt8) → Prop) : Prop := s.length < 4294967281 ∧ 1 ≤ sep.length ∧ K (splitL sep s)
theorem splitL_length {sep : List UInt8} (h : 1 ≤ sep.length) (s : List UInt8) : (splitL sep s).length = Lib.countB ⟨⟨s⟩⟩ ⟨⟨sep⟩⟩ + 1 := by
  have h1 := Lib.splitB_all ⟨⟨sep⟩⟩ h 0 _ ⟨⟨s⟩⟩ rfl
  have h2 := congrArg List.length (splitL_map sep s)
  simp only [List.length_map] at h2
  omega
theorem W_strings_Split {S : List Nat} {w : World} {s sep : List UInt8} {K : List (List UInt8) → Prop} (hG : GOK S w) (h100 : 100 ∈ S) (H : M_strings_Split s sep K) : Fn Tryd.prog 77 ⟨[vs s, vs sep]⟩ w (fun v w' => w.grownBy w' none ∧ ∃ (r : List (List UInt8)) (A : Option Addr) (c : Nat), v = .slice A r.length c ∧ Own vs w' w.heap.size 9 A c r ∧ K r) := by
  obtain ⟨m, hm⟩ := hG.ml h100
  refine ⟨by kernel_rfl, fun w1 e => (Tryd.strings_Split ⟨⟨s⟩⟩ ⟨⟨sep⟩⟩ m w1 H.1 (by rw [e.cell]; exact hm) H.2.1).mono fun _ w' ⟨he, hw⟩ => ?_⟩
  have hlen := splitL_length H.2.1 s
  obtain ⟨hB, hg⟩ := newBlock w1 e ((splitL sep s).map vs) 9
  have hw' : w' = w1.alloc (.cells ⟨(splitL sep s).map vs⟩ 9) := by rw [hw, splitL_map]
  rw [← hw'] at hB hg
  have hml : (splitL sep s).length ≤ maxLen := by
    have h3 := Lib.countB_le ⟨⟨sep⟩⟩ H.2.1 s.length ⟨⟨s⟩⟩ (Nat.le_refl _)
    have h3' : Lib.countB ⟨⟨s⟩⟩ ⟨⟨sep⟩⟩ ≤ s.length := h3
    have h4 := H.1
    simp only [maxLen]
    omega
  exact ⟨_, w', he, Eqv.refl _, hg, splitL sep s, some ⟨w.heap.size, 0, none⟩, Lib.countB ⟨⟨s⟩⟩ ⟨⟨sep⟩⟩ + 1, by rw [e.heap, hlen], Own.ofBl hB (Nat.le_refl _) hml hlen.symm, H.2.2⟩
def M_strings_Join (l : List (List UInt8)) (sep : List UInt8) (K : List UInt8 → Prop) : Prop := l.length ≤ 140737488355328 ∧ (Lib.join l sep).length ≤ 140737488355328 ∧ K (Lib.join l sep)
theorem W_strings_Join {w : World} {l : List (List UInt8)} {A : Option Addr} {c n : Nat} {sep : List UInt8} {K : List UInt8 → Prop} (hR : Rd vs w A c l) (hn : n = l.length) (H : M_strings_Join l sep K) : Fn Tryd.prog 83 ⟨[.slice A n c, vs sep]⟩ w (fun v w' => w.grownBy w' none ∧ ∃ r : List UInt8, v = vs r ∧ K r) := by
  subst hn
  cases l with
  | nil =>
    refine ⟨by kernel_rfl, fun w1 e => (Tryd.strings_Join_none A c ⟨⟨sep⟩⟩ w1).mono fun _ w' ⟨he, hw⟩ => ⟨_, w, he, by rw [hw]; exact e, gr_refl _ _, [], rfl, ?_⟩⟩
    exact H.2.2
  | cons x l =>
    obtain ⟨ad, rfl, hc⟩ := hR.cells (by simp)
    have h0 := hc 0 x rfl
    obtain ⟨bk, o, sp⟩ := ad
    have hsp : sp = none := by
      simp only [Addr.add, if_true] at h0
      unfold World.cell? at h0
      split at h0
      · cases sp with
        | none => rfl
        | some q => simp at h0
      · cases h0
    subst hsp
    have hlt := hR.lt (by simp) (g := bk) rfl
    have e1 : ((x :: l).map fun y => (⟨⟨y⟩⟩ : ByteArray)).map (fun y => y.data.toList) = x :: l := by
      rw [List.map_map]
      exact List.map_id _
    refine ⟨by kernel_rfl, fun w1 e => ?_⟩
    have h := Tryd.strings_Join bk o c ((x :: l).map fun y => (⟨⟨y⟩⟩ : ByteArray)) ⟨⟨sep⟩⟩ w1 (fun j y hj => by
      rw [List.getElem?_map] at hj
      cases hy : (x :: l)[j]? with
      | none => rw [hy] at hj; cases hj
      | some z =>
        rw [hy] at hj
        simp only [Option.map_some, Option.some.injEq] at hj
        subst hj
        have h2 := hc j z hy
        rw [e.cell]
        change w.cell? _ = some (vs z)
        cases j with
        | zero => simpa [Addr.add] using h2
        | succ j => simpa [Addr.add] using h2) (by rw [e.heap]; exact hlt) (by rw [List.length_map]; exact H.1) (by rw [List.length_map]; exact hR.cap) (by rw [e1]; exact H.2.1)
    rw [e1, List.length_map] at h
    exact h.mono fun _ w' ⟨he, hb⟩ => ⟨_, w', he, Eqv.refl _, eqv_gr e (gr_below hb none), _, rfl, H.2.2⟩
def M_strings_ReplaceAll (s old new : List UInt8) (K : List UInt8 → Prop) : Prop := s.length < 4294967281 ∧ 1 ≤ old.length ∧ s.length + Lib.countB ⟨⟨s⟩⟩ ⟨⟨old⟩⟩ * new.length ≤ 140737488355328 ∧ K (Lib.replaceAll s old new)
theorem W_strings_ReplaceAll {S : List Nat} {w : World} {s old new : List UInt8} {K : List UInt8 → Prop} (hG : GOK S w) (h100 : 100 ∈ S) (H : M_strings_ReplaceAll s old new K) : Fn Tryd.prog 115 ⟨[vs s, vs old, vs new]⟩ w (fun v w' => w.grownBy w' none ∧ ∃ r : List UInt8, v = vs r ∧ K r) := by
  obtain ⟨m, hm⟩ := hG.ml h100
  refine ⟨by kernel_rfl, fun w1 e => (Tryd.strings_ReplaceAll ⟨⟨s⟩⟩ ⟨⟨old⟩⟩ ⟨⟨new⟩⟩ m w1 H.1 (by rw [e.cell]; exact hm) H.2.1 H.2.2.1).mono fun _ w' ⟨he, hb⟩ => ⟨_, w', he, Eqv.refl _, eqv_gr e (gr_below hb none), _, rfl, H.2.2.2⟩⟩
end Go.Proofs.YtcfljnfaakjdjaaDoor
 