/- Texts of this claim, joined by a program: Chain4, More6, Fast, Vg, Eq, Err, Laid, Shp, Row2, Srt, Lin, Shelf, ToolA, ToolV. -/
import Derived.Test.YtilphcippnfklaaDoorJ1
import Derived.LaidEql
import Derived.Lib.LaidTab
import Derived.Lib.ItoaNum
import Derived.HandedShaped
import Derived.Shelf.Vars
import Derived.Lib.SmallJoins
import Derived.ChangeMaps5
import Derived.Lib.SlicesCompact
import Derived.Sort.Walk0
import Derived.Lib.SplitLaws
import Derived.Lib.Strings
import Derived.Shelf.SlIter.Sorted
import Derived.Ground.GgzProg
import Derived.Shelf.Strings.Builder1
import Derived.Shelf.Strings.Builder2
import Derived.Shelf.Small.Bits
import Derived.Shelf.Small.Strs
import Derived.Shelf.Strings.BuilderF
import Derived.Shelf.Strings.BuilderK
import Derived.Shelf.Strings.Builder2Cap
import Derived.Shelf.Strconv.Itoa0
import Derived.Shelf.Strings.Search1
import Derived.Shelf.Strings.Search2
import Derived.Shelf.Strings.Search3
import Derived.Shelf.Strings.Cut
import Derived.Shelf.Strings.Count
import Derived.Shelf.LaysM
import Derived.Shelf.Strings.Shaped
import Derived.Shelf.Sort.Plain
import Derived.Shelf.Strings.Prefix
import Derived.Shelf.Strings.Split
import Derived.Shelf.Strings.Replace
import Derived.Shelf.Unicode.DecodeSlow
import Derived.Shelf.Strings.BuilderCap
import Derived.Shelf.Slices.Turned
import Derived.Ground.Names2Prog
import Derived.Shelf.Slices.ReverseS
import Derived.Shelf.Slices.CompactS
import Derived.Shelf.Slices.Cells
import Derived.Shelf.Slices.In.SortNone
import Derived.Test.YtilphcippnfklaaDoorProg
/- Chain regions where what a float reads need stay only as_ long as_ the float may still come. -/
namespace Go.Proofs.YtilphcippnfklaaDoor
open Go Go.RowKit
section
variable {P : Program} {ops : Array Oper} {md : Region.Mode} {fl : Nat → Bool} {D : Nat → World → Prop} {Q : Act → World → Prop}
def DD (md : Region.Mode) (ops : Array Oper) (fl : Nat → Bool) (D : Nat → World → Prop) (j : Nat) (w : World) : Prop := ∀ k, fl k = true → reach md ops ops.size j k = false → D k w
def Hold (fl : Nat → Bool) (D : Nat → World → Prop) (listed : Array Bool) (w : World) : Prop := ∀ k, fl k = true → listed.getD k true = false → D k w
theorem Hold.set {listed : Array Bool} {w : World} (h : Hold fl D listed w) (j : Nat) : Hold fl D (listed.setIfInBounds j true) w := fun k hk hl => h k hk (by
  by_cases hjk : j = k
  · subst hjk
    rcases Nat.lt_or_ge j listed.size with h' | h'
    · simp [h'] at hl
    · simp at hl
  · rw [getD_set_ne true hjk] at hl; exact hl)
theorem DD.hold {listed : Array Bool} {w : World} {j : Nat} (h : DD md ops fl D j w) (hcl : Closed md ops listed) (hj : j ∈ Region.ready md ops listed) : Hold fl D (listed.setIfInBounds j true) w := fun k hk hl => by
  obtain ⟨hjun, oj, hoj, hall⟩ := mem_ready.1 hj
  have hku : listed.getD k true = false := by
    by_cases hjk : j = k
    · subst hjk
      rcases Nat.lt_or_ge j listed.size with h' | h'
      · simp [h'] at hl
      · simp at hl
    · rw [getD_set_ne true hjk] at hl; exact hl
  refine h k hk ?_
  cases hq : reach md ops ops.size j k with
  | false => rfl
  | true => exact absurd hall (not_listed_of_reach hcl (getD_both hku) ops.size j hq oj hoj)
theorem sRun_some2 {E : World → Prop} {o : Oper} {a : Act} {w : World} {K : Act → World → Prop} (hh : sRun P ops E o a w K) : ∃ u w', (E w' ∨ w' = w) ∧ K (a.put o.dst u) w' := by
  unfold sRun at hh
  split at hh
  · generalize (execOp a.eval o).run P w = r at hh
    cases r with
    | halt => exact hh.elim
    | ok x w' => cases x with
      | value v => exact ⟨v, w', .inl hh.1, hh.2⟩
      | skip => exact ⟨undef, w', .inl hh.1, hh.2⟩
      | enter f args =>
        obtain ⟨e, w2, fr, ⟨v, _, d, k⟩, _⟩ := hh []
        exact ⟨v, w2, .inl d, k⟩
      | _ => exact hh.elim
  · exact ⟨undef, w, .inr rfl, hh⟩
theorem sRun_mono2 {E : World → Prop} {o : Oper} {a : Act} {w : World} {K K' : Act → World → Prop} (h : ∀ a w, E w → K a w → K' a w) (h2 : ∀ a, K a w → K' a w) (hh : sRun P ops E o a w K) : sRun P ops E o a w K' := by
  unfold sRun at hh ⊢
  split
  · rename_i hw'
    rw [if_pos hw'] at hh
    generalize (execOp a.eval o).run P w = r at hh ⊢
    cases r with
    | halt => exact hh.elim
    | ok x w' => cases x with
      | value v => exact ⟨hh.1, h _ _ hh.1 hh.2⟩
      | skip => exact ⟨hh.1, h _ _ hh.1 hh.2⟩
      | enter f args => exact Calls.mono hh fun e w'' ⟨v, e1, d, k⟩ => ⟨v, e1, d, h _ _ d k⟩
      | _ => exact hh.elim
  · rename_i hw'
    rw [if_neg hw'] at hh
    exact h2 _ hh
def anyJ (P : Program) (md : Region.Mode) (ops : Array Oper) (fl : Nat → Bool) (D : Nat → World → Prop) (Q : Act → World → Prop) : Nat → Array Bool → Act → World → Prop
  | 0, listed, a, w => Region.ready md ops listed = [] ∧ Q a w
  | f + 1, listed, a, w => (Region.ready md ops listed = [] → Q a w) ∧ ∀ i ∈ Region.ready md ops listed, ∃ o, ops[i]? = some o ∧
      ((fl i = true ∧ ∃ v, fYld P ops (D i) o a v ∧ anyJ P md ops fl D Q f (listed.setIfInBounds i true) (a.put o.dst v) w) ∨
       (fl i = false ∧ sRun P ops (DD md ops fl D i) o a w fun a' w' => anyJ P md ops fl D Q f (listed.setIfInBounds i true) a' w'))
theorem any_of_anyJ {Q' : Post} (hQ : ∀ a w, Q a w → Q' .normal a w) : ∀ (f : Nat) (listed : Array Bool) (a : Act) (w : World), Hold fl D listed w → Closed md ops listed → anyJ P md ops fl D Q f listed a w → wpAny P md ops Q' f listed a w := by
  intro f
  induction f with
  | zero => intro listed a w _ _ h; exact ⟨h.1, hQ _ _ h.2⟩
  | succ f ih =>
    intro listed a w hw hcl h
    refine ⟨fun h0 => hQ _ _ (h.1 h0), fun i hi => ?_⟩
    obtain ⟨o, ho, h1⟩ := h.2 i hi
    rcases h1 with ⟨hf, v, hy, hn⟩ | ⟨_, hs⟩
    · unfold wpOp
      simp only [ho]
      rcases hy with ⟨hwn, hv⟩ | ⟨hwn, hv⟩
      · rw [if_pos hwn]
        refine .inl ?_
        unfold Oper.wp
        rw [hv w (hw i hf (mem_ready.1 hi).1)]
        exact ih _ _ _ (hw.set i) (hcl.set hi) hn
      · rw [if_neg (by simp [hwn])]
        subst hv
        exact ih _ _ _ (hw.set i) (hcl.set hi) hn
    · exact wp_of_sRun (D := DD md ops fl D i) ho (sRun_mono2 (fun a' w' hw' h' => ih _ _ _ (hw'.hold hcl hi) (hcl.set hi) h') (fun a' h' => ih _ _ _ (hw.set i) (hcl.set hi) h') hs)
theorem float_firstJ {i : Nat} {oi : Oper} {v : Value} (hi : ops[i]? = some oi) (hf : fl i = true) (hsel : ∀ (j : Nat) (o : Oper) cs b, ops[j]? = some o → o.op ≠ .select cs b) :
    ∀ (f : Nat) (listed : Array Bool) (a : Act) (w : World), Hold fl D listed w → Closed md ops listed →
      (∀ j oj, ops[j]? = some oj → j ≠ i → listed.getD j true = false → (∀ e ∈ oj.after, Region.binds md e = true → e.on ≠ i) → oi.apart ops oj = true) →
      i ∈ Region.ready md ops listed → fYld P ops (D i) oi a v → anyJ P md ops fl D Q f (listed.setIfInBounds i true) (a.put oi.dst v) w → anyJ P md ops fl D Q (f + 1) listed a w := by
  intro f
  induction f with
  | zero =>
    intro listed a w _ _ _ hr hy H
    refine ⟨fun h => (by rw [h] at hr; cases hr), fun j hj => ?_⟩
    by_cases hji : j = i
    · subst hji; exact ⟨oi, hi, .inl ⟨hf, v, hy, H⟩⟩
    · have := ready_mono hj hji
      rw [H.1] at this
      cases this
  | succ f ih =>
    intro listed a w hw hcl hfree hr hy H
    refine ⟨fun h => (by rw [h] at hr; cases hr), fun j hj => ?_⟩
    by_cases hji : j = i
    · subst hji; exact ⟨oi, hi, .inl ⟨hf, v, hy, H⟩⟩
    · obtain ⟨oj, hoj, h1⟩ := H.2 j (ready_mono hj hji)
      obtain ⟨hjun, oj', hoj', hall⟩ := mem_ready.1 hj
      obtain rfl : oj' = oj := Option.some.inj (hoj'.symm.trans hoj)
      have hnot : ∀ e ∈ oj'.after, Region.binds md e = true → e.on ≠ i := fun e he hb heq => by
        have := hall e he hb
        rw [heq, getD_both (mem_ready.1 hr).1] at this
        cases this
      have hap := hfree j oj' hoj hji hjun hnot
      have hfree' : ∀ k ok, ops[k]? = some ok → k ≠ i → (listed.setIfInBounds j true).getD k true = false → (∀ e ∈ ok.after, Region.binds md e = true → e.on ≠ i) → oi.apart ops ok = true := fun k ok hk hki hun hno => by
        refine hfree k ok hk hki ?_ hno
        by_cases hjk : j = k
        · subst hjk; exact hjun
        · rw [getD_set_ne true hjk] at hun; exact hun
      have hr' := ready_mono hr (Ne.symm hji)
      refine ⟨oj', hoj, ?_⟩
      rcases h1 with ⟨hfj, u, hyj, hn⟩ | ⟨hfj, hs⟩
      · refine .inl ⟨hfj, u, (fYld_put hap (fun cs b => hsel j oj' cs b hoj)).1 hyj, ih _ _ w (hw.set j) (hcl.set hj) hfree' hr' ((fYld_put' hap (fun cs b => hsel i oi cs b hi)).2 hy) ?_⟩
        rw [Array.setIfInBounds_comm _ _ hji, ← apart_symm_dst hap]
        exact hn
      · refine .inr ⟨hfj, ?_⟩
        have hs' := (sRun_put hap (fun cs b => hsel j oj' cs b hoj)).1 hs
        have key : ∀ a' w', Hold fl D (listed.setIfInBounds j true) w' → fYld P ops (D i) oi a' v → anyJ P md ops fl D Q f ((listed.setIfInBounds i true).setIfInBounds j true) (a'.put oi.dst v) w' → anyJ P md ops fl D Q (f + 1) (listed.setIfInBounds j true) a' w' := fun a' w' hw' hy' h' =>
          ih _ _ w' hw' (hcl.set hj) hfree' hr' hy' (by rw [Array.setIfInBounds_comm _ _ hji]; exact h')
        -- every outcome's frame is a with j's slot written
        have hput : ∀ u, fYld P ops (D i) oi (a.put oj'.dst u) v := fun u => (fYld_put' hap (fun cs b => hsel i oi cs b hi)).2 hy
        unfold sRun at hs' ⊢
        split
        · rename_i hwn
          rw [if_pos hwn] at hs'
          generalize (execOp a.eval oj').run P w = r at hs' ⊢
          cases r with
          | halt => exact hs'.elim
          | ok x w' => cases x with
            | value u => exact ⟨hs'.1, key _ _ (hs'.1.hold hcl hj) (hput u) hs'.2⟩
            | skip => exact ⟨hs'.1, key _ _ (hs'.1.hold hcl hj) (hput _) hs'.2⟩
            | enter g args => exact Calls.mono hs' fun e w'' ⟨u, e1, d, k⟩ => ⟨u, e1, d, key _ _ (d.hold hcl hj) (hput u) k⟩
            | _ => exact hs'.elim
        · rename_i hwn
          rw [if_neg hwn] at hs'
          exact key _ _ (hw.set j) (hput _) hs'

theorem seq_firstJ {i : Nat} {oi : Oper} (hi : ops[i]? = some oi) (hf : fl i = false) (hsel : ∀ (j : Nat) (o : Oper) cs b, ops[j]? = some o → o.op ≠ .select cs b) :
    ∀ (f : Nat) (listed : Array Bool) (a : Act) (w : World), Hold fl D listed w → Closed md ops listed →
      (∀ j oj, ops[j]? = some oj → j ≠ i → listed.getD j true = false → (∀ e ∈ oj.after, Region.binds md e = true → e.on ≠ i) → oi.apart ops oj = true) →
      (∀ j oj, ops[j]? = some oj → j ≠ i → listed.getD j true = false → fl j = true ∨ reach md ops ops.size j i = true) →
      i ∈ Region.ready md ops listed → sRun P ops (DD md ops fl D i) oi a w (fun a' w' => anyJ P md ops fl D Q f (listed.setIfInBounds i true) a' w') → anyJ P md ops fl D Q (f + 1) listed a w := by
  intro f
  induction f with
  | zero =>
    intro listed a w hw _ _ _ hr H
    refine ⟨fun h => (by rw [h] at hr; cases hr), fun j hj => ?_⟩
    by_cases hji : j = i
    · subst hji; exact ⟨oi, hi, .inr ⟨hf, H⟩⟩
    · obtain ⟨u, w', _, h⟩ := sRun_some2 H
      have := ready_mono hj hji
      rw [h.1] at this
      cases this
  | succ f ih =>
    intro listed a w hw hcl hfree hseq hr H
    refine ⟨fun h => (by rw [h] at hr; cases hr), fun j hj => ?_⟩
    by_cases hji : j = i
    · subst hji; exact ⟨oi, hi, .inr ⟨hf, H⟩⟩
    · obtain ⟨hjun, oj, hoj, hall⟩ := mem_ready.1 hj
      have hiun := getD_both (mem_ready.1 hr).1
      have hfj : fl j = true := by
        rcases hseq j oj hoj hji hjun with h | h
        · exact h
        · exact absurd hall (not_listed_of_reach hcl hiun ops.size j h oj hoj)
      have hnot : ∀ e ∈ oj.after, Region.binds md e = true → e.on ≠ i := fun e he hb heq => by
        have := hall e he hb
        rw [heq, hiun] at this
        cases this
      have hap := hfree j oj hoj hji hjun hnot
      have hsi := fun cs b => hsel i oi cs b hi
      have hsj := fun cs b => hsel j oj cs b hoj
      obtain ⟨u, w', hw', h⟩ := sRun_some2 H
      obtain ⟨oj2, hoj2, h2⟩ := h.2 j (ready_mono hj hji)
      obtain rfl : oj2 = oj := Option.some.inj (hoj2.symm.trans hoj)
      rcases h2 with ⟨_, v, hy, _⟩ | ⟨hno, _⟩
      · have hya : fYld P ops (D j) oj2 a v := (fYld_put hap hsj).1 hy
        refine ⟨oj2, hoj, .inl ⟨hfj, v, hya, ih _ _ w (hw.set j) (hcl.set hj) (fun k ok hk hki hun hno => hfree k ok hk hki ?_ hno) (fun k ok hk hki hun => hseq k ok hk hki ?_) (ready_mono hr (Ne.symm hji)) ?_⟩⟩
        · by_cases hjk : j = k
          · subst hjk; exact hjun
          · rw [getD_set_ne true hjk] at hun; exact hun
        · by_cases hjk : j = k
          · subst hjk; exact hjun
          · rw [getD_set_ne true hjk] at hun; exact hun
        · -- the others' run, with j's value already laid
          obtain ⟨g1, g2, g3⟩ := Oper.apart_spec hap
          have hc : ∀ u, (a.put oi.dst u).put oj2.dst v = (a.put oj2.dst v).put oi.dst u := fun u => Act.put_comm a u v g2
          have huniq : ∀ u2, fYld P ops (D j) oj2 (a.put oi.dst u2) v := fun u2 => (fYld_put hap hsj).2 hya
          have hnr : reach md ops ops.size i j = false := by
            cases hq : reach md ops ops.size i j with
            | false => rfl
            | true => exact absurd (mem_ready.1 hr).2 (fun ⟨oi', hoi', hall'⟩ => not_listed_of_reach hcl (getD_both hjun) ops.size i hq oi' hoi' hall')
          have key : ∀ u2 w2, D j w2 → anyJ P md ops fl D Q (f + 1) (listed.setIfInBounds i true) (a.put oi.dst u2) w2 → anyJ P md ops fl D Q f ((listed.setIfInBounds j true).setIfInBounds i true) ((a.put oj2.dst v).put oi.dst u2) w2 := fun u2 w2 hw2 hh => by
            obtain ⟨oj3, hoj3, h3⟩ := hh.2 j (ready_mono hj hji)
            obtain rfl : oj3 = oj2 := Option.some.inj (hoj3.symm.trans hoj)
            rcases h3 with ⟨_, v2, hy2, hn2⟩ | ⟨hno, _⟩
            · have hv : v2 = v := by
                have hu := huniq u2
                rcases hy2 with ⟨p1, p2⟩ | ⟨p1, p2⟩ <;> rcases hu with ⟨q1, q2⟩ | ⟨q1, q2⟩
                · have := (p2 w2 hw2).symm.trans (q2 w2 hw2)
                  simpa using this
                · rw [p1] at q1; cases q1
                · rw [p1] at q1; cases q1
                · rw [p2, q2]
              subst hv
              rw [Array.setIfInBounds_comm _ _ hji, ← hc]
              exact hn2
            · rw [hfj] at hno; cases hno
          unfold sRun at H ⊢
          rw [execOp_put oi hsi a oj2.dst v g3, wanted_put oi a oj2.dst v g3]
          split
          · rename_i hwn
            rw [if_pos hwn] at H
            generalize (execOp a.eval oi).run P w = r at H ⊢
            cases r with
            | halt => exact H.elim
            | ok x w' => cases x with
              | value u => exact ⟨H.1, key _ _ (H.1 j hfj hnr) H.2⟩
              | skip => exact ⟨H.1, key _ _ (H.1 j hfj hnr) H.2⟩
              | enter g args => exact Calls.mono H fun e w'' ⟨u, e1, d, k⟩ => ⟨u, e1, d, key _ _ (d j hfj hnr) k⟩
              | _ => exact H.elim
          · rename_i hwn
            rw [if_neg hwn] at H
            exact key _ _ (hw j hfj hjun) H
      · rw [hfj] at hno; cases hno

def wpJ (P : Program) (md : Region.Mode) (ops : Array Oper) (fl : Nat → Bool) (D : Nat → World → Prop) (Q : Act → World → Prop) : List Oper → Nat → Act → World → Prop
  | [], _, a, w => Q a w
  | o :: rest, k, a, w => bif fl k then ∃ v, fYld P ops (D k) o a v ∧ wpJ P md ops fl D Q rest (k + 1) (a.put o.dst v) w else sRun P ops (DD md ops fl D k) o a w fun a' w' => wpJ P md ops fl D Q rest (k + 1) a' w'
theorem anyJ_lex (hsel : Region.noSelect ops = true) : ∀ (l : List Oper) (k : Nat) (listed : Array Bool) (a : Act) (w : World), Hold fl D listed w → (∀ j, l[j]? = ops[k + j]?) → Closed md ops listed →
    Region.lexC md ops fl l.length k listed = true → wpJ P md ops fl D Q l k a w → anyJ P md ops fl D Q l.length listed a w := by
  intro l
  induction l with
  | nil =>
    intro k listed a w _ _ _ hB h
    exact ⟨by simpa [Region.lexC] using hB, h⟩
  | cons o l ih =>
    intro k listed a w hw hl hcl hB h
    have h0 : ops[k]? = some o := by simpa using (hl 0).symm
    have hl' : ∀ j, l[j]? = ops[(k + 1) + j]? := fun j => by have := hl (j + 1); simpa [Nat.add_assoc, Nat.add_comm 1 j] using this
    simp only [List.length_cons, Region.lexC, Bool.and_eq_true] at hB
    obtain ⟨⟨⟨hr, hf⟩, hs⟩, hB'⟩ := hB
    have hr' : k ∈ Region.ready md ops listed := by simpa using hr
    unfold wpJ at h
    cases hfl : fl k with
    | true =>
      rw [hfl] at h
      obtain ⟨v, hy, hn⟩ := h
      exact float_firstJ h0 hfl (Region.noSelect_spec hsel) l.length listed a w hw hcl (Region.free_spec h0 hf) hr' hy (ih (k + 1) _ _ w (hw.set k) hl' (hcl.set hr') hB' hn)
    | false =>
      rw [hfl] at h
      refine seq_firstJ h0 hfl (Region.noSelect_spec hsel) l.length listed a w hw hcl (Region.free_spec h0 hf) (fun j oj hj hji hun => ?_) hr' (sRun_mono2 (fun a' w' hw' h' => ih (k + 1) _ a' w' (hw'.hold hcl hr') hl' (hcl.set hr') hB' h') (fun a' h' => ih (k + 1) _ a' w (hw.set k) hl' (hcl.set hr') hB' h') h)
      rw [hfl] at hs
      simp only [Bool.false_or] at hs
      have hjl : j < ops.size := (Array.getElem?_eq_some_iff.1 hj).1
      have := List.all_eq_true.1 hs j (List.mem_range.2 hjl)
      simp only [Bool.or_eq_true] at this
      rcases this with ((h1 | h1) | h1) | h1
      · exact absurd (Nat.eq_of_beq_eq_true h1) hji
      · rw [hun] at h1; cases h1
      · exact .inl h1
      · exact .inr h1
theorem wp_region_chainJ {id : Nat} {Q' : Post} {a : Act} {w : World} {l : List Oper} (fl : Nat → Bool) (D : Nat → World → Prop) (hm : P.follows .mixedOrders = true) (hB : Region.chainOk .any l.toArray fl = true) (hD : ∀ k, fl k = true → D k { w with drawn := w.drawn + 1 })
    (h : wpJ P .any l.toArray fl D (fun a' w' => Q' .normal a' w') l 0 a { w with drawn := w.drawn + 1 }) : (Code.region id l.toArray true).wp P Q' a w := by
  simp only [Region.chainOk, Bool.and_eq_true] at hB
  refine wp_region_any hm ?_
  have hcl : Closed .any l.toArray (Array.replicate l.toArray.size false) := fun j oj _ hl => (by rw [getD_replicate_false] at hl; cases hl)
  have hh : Hold fl D (Array.replicate l.toArray.size false) { w with drawn := w.drawn + 1 } := fun k hk _ => hD k hk
  have := anyJ_lex (md := .any) (D := D) hB.1 l 0 (Array.replicate l.toArray.size false) a _ hh (by simp) hcl (by simpa using hB.2) h
  have h2 := any_of_anyJ (Q' := Q') (fun _ _ hq => hq) _ _ _ _ hh hcl this
  simpa using h2
end
/-! ## the judgement -/
def WJ (P : Program) (N : Nat) (ops : Array Oper) (fl : Nat → Bool) (D : Nat → World → Prop) (Q : Post) (l : List Oper) (k : Nat) (L : Slots) (w : World) : Prop :=
  ∀ a w1, Eqv w w1 → Has N L a → wpJ P .any ops fl D (fun a' w' => Q .normal a' w') l k a w1
section
variable {P : Program} {N : Nat} {ops : Array Oper} {fl : Nat → Bool} {D : Nat → World → Prop} {Q : Post} {L : Slots} {w : World} {k d : Nat} {op : Op} {ty : TypeId} {pos : String} {af : Array Edge} {rest : List Oper} {gd : Option (Nat × Bool)}
theorem WC.chainJ {i : Nat} {l : List Oper} (fl : Nat → Bool) (D : Nat → World → Prop) (hm : P.follows .mixedOrders = true) (hB : Region.chainOk .any l.toArray fl = true) (hE : ∀ k w', Eqv w w' → D k w') (h : WJ P N l.toArray fl D Q l 0 L w) : WC P N Q (.region i l.toArray true) L w := fun a _ e ha =>
  wp_region_chainJ fl D hm hB (fun k _ => hE k _ (e.drawn _)) (h a _ (e.drawn _) ha)
theorem WJ.nil (h : WX N Q .normal L w) : WJ P N ops fl D Q [] k L w := fun a w1 e ha => h a w1 e ha
theorem WJ.yw {v : Value} (hf : fl k = true) (hg : Wants N ops L gd) (hd : Nat.blt d N = true) (hy : ∀ w', D k w' → Yld P N w' ⟨some d, op, ty, pos, af, none⟩ L v) (h : WJ P N ops fl D Q rest (k + 1) ((d, v) :: L) w) :
    WJ P N ops fl D Q (⟨some d, op, ty, pos, af, gd⟩ :: rest) k L w := fun a w1 e ha => by
  unfold wpJ
  rw [hf]
  exact ⟨v, .inl ⟨Wants.wanted (o := ⟨some d, op, ty, pos, af, gd⟩) hg ha, fun w' hw' => hy w' hw' a w' (Eqv.refl _) ha⟩, h _ _ e (ha.put hd v)⟩
theorem WJ.y {v : Value} (hf : fl k = true) (hd : Nat.blt d N = true) (hy : ∀ w', D k w' → Yld P N w' ⟨some d, op, ty, pos, af, none⟩ L v) (h : WJ P N ops fl D Q rest (k + 1) ((d, v) :: L) w) :
    WJ P N ops fl D Q (⟨some d, op, ty, pos, af, none⟩ :: rest) k L w := WJ.yw hf wants_none hd hy h
theorem WJ.putw {R : Value → World → Prop} (hf : fl k = false) (hg : Wants N ops L gd) (hd : Nat.blt d N = true) (hr : Eff P N w ⟨some d, op, ty, pos, af, none⟩ L R) (hD : ∀ v w', R v w' → DD .any ops fl D k w')
    (hk : ∀ v w', R v w' → WJ P N ops fl D Q rest (k + 1) ((d, v) :: L) w') : WJ P N ops fl D Q (⟨some d, op, ty, pos, af, gd⟩ :: rest) k L w := fun a w1 e ha => by
  unfold wpJ
  rw [hf]
  show sRun _ _ _ _ _ _ _
  unfold sRun
  rw [if_pos (Wants.wanted (o := ⟨some d, op, ty, pos, af, gd⟩) hg ha)]
  obtain ⟨v, w', h, hR⟩ := hr a w1 e ha
  have h' : (execOp a.eval ⟨some d, op, ty, pos, af, gd⟩).run P w1 = .ok (.value v) w' := h
  rw [h']
  exact ⟨hD v w' hR, hk v w' hR _ w' (Eqv.refl _) (ha.put hd v)⟩
theorem WJ.call {R : Value → World → Prop} {g : FuncId} {as_ : List Operand} {ts : Array TypeId} {vs : List Value} (hf : fl k = false) (hg : Wants N ops L gd) (hd : Nat.blt d N = true) (hv : opvs L as_ = some vs) (hc : Fn P g ⟨vs⟩ w R) (hD : ∀ v w', R v w' → ∀ w2, Eqv w' w2 → DD .any ops fl D k w2)
    (hk : ∀ v w', R v w' → WJ P N ops fl D Q rest (k + 1) ((d, v) :: L) w') : WJ P N ops fl D Q (⟨some d, .call ⟨.value (.func g), ⟨as_⟩, ts⟩, ty, pos, af, gd⟩ :: rest) k L w := fun a w1 e ha => by
  unfold wpJ
  rw [hf]
  show sRun _ _ _ _ _ _ _
  unfold sRun
  rw [if_pos (Wants.wanted (o := ⟨some d, .call ⟨.value (.func g), ⟨as_⟩, ts⟩, ty, pos, af, gd⟩) hg ha), run_enter ha hv hc.1]
  refine (hc.2 w1 e).mono ?_
  rintro en w' ⟨v, w0, rfl, h0, hR⟩
  exact ⟨v, rfl, hD v w0 hR w' h0, hk v w0 hR _ w' h0 (ha.put hd v)⟩
theorem WJ.no {j d' : Nat} {t : Bool} (hj : (ops[j]?).bind (·.dst) = some d') (hN : Nat.blt d' N = true) (hb : lk L d' = some (.bool (!t))) (hd : Nat.blt d N = true) (h : WJ P N ops fl D Q rest (k + 1) ((d, undef) :: L) w) :
    WJ P N ops fl D Q (⟨some d, op, ty, pos, af, some (j, t)⟩ :: rest) k L w := fun a w1 e ha => by
  have hno : Region.wanted ⟨some d, op, ty, pos, af, some (j, t)⟩ (yielded ops a.tmps) = false := by
    have := yielded_of ha hj hN hb
    simp [Region.wanted, this]
  unfold wpJ
  cases hf : fl k with
  | true => exact ⟨undef, .inr ⟨hno, rfl⟩, h _ _ e (ha.put hd undef)⟩
  | false =>
    show sRun _ _ _ _ _ _ _
    unfold sRun
    rw [if_neg (by rw [hno]; simp)]
    exact h _ _ e (ha.put hd undef)
theorem WJ.eff {R : World → Prop} (hf : fl k = false) (hr : Ef0 P N w ⟨none, op, ty, pos, af, none⟩ L R) (hD : ∀ w', R w' → DD .any ops fl D k w') (hk : ∀ w', R w' → WJ P N ops fl D Q rest (k + 1) L w') :
    WJ P N ops fl D Q (⟨none, op, ty, pos, af, none⟩ :: rest) k L w := fun a w1 e ha => by
  unfold wpJ
  rw [hf]
  show sRun _ _ _ _ _ _ _
  unfold sRun
  rw [if_pos (by simp [Region.wanted])]
  obtain ⟨w', h, hR⟩ := hr a w1 e ha
  rw [h]
  exact ⟨hD w' hR, hk w' hR _ w' (Eqv.refl _) ha⟩
/-- the floats of lo read what I tells of -/
def LD (lo : List Nat) (I : World → Prop) (k : Nat) (w : World) : Prop := lo.contains k = true → I w
theorem DD.past {lo : List Nat} {I : World → Prop} {w' : World} (h : lo.all (fun k => reach .any ops ops.size d k) = true) : DD .any ops fl (LD lo I) d w' := fun k _ hr hk => by
  have := List.all_eq_true.1 h k (by simpa using hk)
  rw [hr] at this
  cases this
theorem DD.keep {lo : List Nat} {I : World → Prop} {w' : World} (h : I w') : DD .any ops fl (LD lo I) d w' := fun _ _ _ _ => h
end
end Go.Proofs.YtilphcippnfklaaDoor
 /- An element's address: in whatever world. -/
namespace Go.Proofs.YtilphcippnfklaaDoor
open Go Go.RowKit
section
variable {P : Program} {T : Tab} {N : Nat} {L : Slots} {w w0 : World} {ty : TypeId} {pos : String} {af : Array Edge} {t : TypeId} {x i : Operand} {k : IntKind} {q : Int} {α : Type} {f : α → Value} {A : Option Addr} {c n : Nat} {xs : List α}
theorem Yld.iaddrW {dd : Option Tmp} {e : TypeId} (hT : T.Ok P) (hR : Rd f w0 A c xs) (hs : nk T.sl t = some (e, 1)) (hx : opv L x = some (.slice A n c)) (hn : n = xs.length) (hi : opv L i = some (.int k q)) (h0 : 0 ≤ q) (h1 : q < n) :
    Yld P N w ⟨dd, .indexAddr t x i, ty, pos, af, none⟩ L (.pointer (A.map (·.add q.toNat))) := fun a w1 _ ha => by
  obtain ⟨hu, j, hj, hj1⟩ := hT.sl hs
  obtain ⟨ad, rfl, _⟩ := hR.cells (fun e => by rw [e] at hn; simp at hn; omega)
  unfold execOp
  simp [ha.ev hx, ha.ev hi, Instr.indexAt, run_underlying hu, asIntOf, h0, h1, sizeOf, typeInfo, hj, hj1]
theorem Yld.iaddrNW {dd : Option Tmp} {e : TypeId} {j : Nat} (hT : T.Ok P) (hR : Rd f w0 A c xs) (hs : nk T.sl t = some (e, 1)) (hx : opv L x = some (.slice A n c)) (hn : n = xs.length) (hi : opv L i = some (.int k (j : Int))) (h1 : j < n) :
    Yld P N w ⟨dd, .indexAddr t x i, ty, pos, af, none⟩ L (.pointer (A.map (·.add j))) := by
  have := Yld.iaddrW (N := N) (w := w) (dd := dd) (ty := ty) (pos := pos) (af := af) hT hR hs hx hn hi (by omega) (by omega)
  rwa [Int.toNat_natCast] at this
variable {y : Operand} {us : List Value} {e : TypeId} {B : Nat}
theorem Ef0.store1 {g o : Nat} {u : Value} (h1 : sz1 P t = true) (hx : opv L x = some (.pointer (some ⟨g, o, none⟩))) (hy : opv L y = some u) (hu : u.oneCell' = true) (hB : Bl w g e us) (ho : o < us.length) :
    Ef0 P N w ⟨none, .store t x y, ty, pos, af, none⟩ L (fun w' => Bl w' g e (us.set o u) ∧ w.grownBy w' (some g)) := fun a w1 hw ha => by
  have hB1 := bl_eqv hw hB
  unfold sz1 at h1
  split at h1
  · rename_i j hj
    refine ⟨_, ?_, bl_set (o := o) (u := u) hB1, eqv_gr hw (gr_set w1 ⟨g, o, none⟩ u)⟩
    unfold execOp
    simp only [ha.ev hx, ha.ev hy, Sem.run_bind, run_store1 hB1 ho hu hj (Nat.eq_of_beq_eq_true h1), Result.andThen_ok, Sem.run_pure]
  · cases h1
theorem Ef0.ostore {j : Nat} {v : α} (h1 : sz1 P t = true) (hf : One f) (hO : Own f w B e A c xs) (hx : opv L x = some (.pointer (A.map (·.add j)))) (hy : opv L y = some (f v)) (hj : j < xs.length) :
    Ef0 P N w ⟨none, .store t x y, ty, pos, af, none⟩ L (fun w' => Own f w' B e A c (xs.set j v) ∧ w.grownBy w' (blk A)) := fun a w1 hw ha => by
  unfold Own at hO
  rcases hO.2 with ⟨hv, hn⟩ | ⟨g, cap, cur, hv, hb, hg, hnc, hcm, hcs, htake⟩
  · omega
  · simp only [Value.slice.injEq] at hv
    obtain ⟨rfl, _, rfl⟩ := hv
    obtain ⟨w', hr, hB', hgr⟩ := Ef0.store1 (P := P) (N := N) (ty := ty) (pos := pos) (af := af) (g := g) (o := j) (e := e) (us := cur.toList) (u := f v) h1 (by rw [hx]; simp [Addr.add_mid]) hy (hf v) (by unfold Bl; exact hg) (by have : cur.size = c * 1 := hcs; rw [Array.length_toList]; omega) a w1 hw ha
    refine ⟨w', hr, ?_, hgr⟩
    unfold Own
    refine ⟨by simp, .inr ⟨g, c, _, by simp, hb, hB', by simpa using hnc, hcm, by simpa using hcs, ?_⟩⟩
    simp only [List.length_set, List.map_set]
    rw [List.take_set, ← htake]
end
section
variable {P : Program} {N : Nat} {ops : Array Oper} {Q : Post} {L : Slots} {w : World} {ty : TypeId} {pos : String} {af : Array Edge} {rest : List Oper} {op : Op} {j d' d k : Nat} {t : Bool}
theorem not_wanted_undef {o : Oper} {a : Act} (hg : o.guard = some (j, t)) (hj : (ops[j]?).bind (·.dst) = some d') (hN : Nat.blt d' N = true) (hb : lk L d' = some undef) (ha : Has N L a) : Region.wanted o (yielded ops a.tmps) = false := by
  have h1 : d' < a.tmps.size := by rw [ha.size]; simpa [Nat.blt_eq] using hN
  have h2 := ha.get d' _ hb
  have h3 : a.tmps[d'] = undef := by rw [← h2]; simp [Array.getD, h1]
  have h4 : yielded ops a.tmps j = none := by
    unfold yielded
    rw [hj]
    simp only [Option.bind_some, Array.getElem?_eq_getElem h1, h3]
    rfl
  simp [Region.wanted, hg, h4]
/-- the guard itself was not reached -/
theorem WL.gun (hj : (ops[j]?).bind (·.dst) = some d') (hN : Nat.blt d' N = true) (hb : lk L d' = some undef) (hd : Nat.blt d N = true) (h : WL P N ops Q rest ((d, undef) :: L) w) :
    WL P N ops Q (⟨some d, op, ty, pos, af, some (j, t)⟩ :: rest) L w := fun a w1 e ha => by
  refine wpList_step fun K hK => ?_
  rw [if_neg (by rw [not_wanted_undef (o := ⟨some d, op, ty, pos, af, some (j, t)⟩) rfl hj hN hb ha]; simp)]
  exact hK _ _ (h _ _ e (ha.put hd undef))
theorem WQ.gun {K : Act → Prop} (hj : (ops[j]?).bind (·.dst) = some d') (hN : Nat.blt d' N = true) (hb : lk L d' = some undef) (hd : Nat.blt d N = true) (h : WQ P N ops K rest ((d, undef) :: L) w) :
    WQ P N ops K (⟨some d, op, ty, pos, af, some (j, t)⟩ :: rest) L w := fun a ha => by
  refine wpQuiet_step fun K' hK => ?_
  rw [if_neg (by rw [not_wanted_undef (o := ⟨some d, op, ty, pos, af, some (j, t)⟩) rfl hj hN hb ha]; simp)]
  exact hK _ (h _ (ha.put hd undef))
theorem WJ.gun {fl : Nat → Bool} {D : Nat → World → Prop} (hj : (ops[j]?).bind (·.dst) = some d') (hN : Nat.blt d' N = true) (hb : lk L d' = some undef) (hd : Nat.blt d N = true) (h : WJ P N ops fl D Q rest (k + 1) ((d, undef) :: L) w) :
    WJ P N ops fl D Q (⟨some d, op, ty, pos, af, some (j, t)⟩ :: rest) k L w := fun a w1 e ha => by
  have hno := not_wanted_undef (o := ⟨some d, op, ty, pos, af, some (j, t)⟩) rfl hj hN hb ha
  unfold wpJ
  cases hf : fl k with
  | true => exact ⟨undef, .inr ⟨hno, rfl⟩, h _ _ e (ha.put hd undef)⟩
  | false =>
    show sRun _ _ _ _ _ _ _
    unfold sRun
    rw [if_neg (by rw [hno]; simp)]
    exact h _ _ e (ha.put hd undef)
end
theorem WL.weaken {P : Program} {N : Nat} {ops : Array Oper} {Q : Post} {L L' : Slots} {w : World} {l : List Oper} (hs : Sub L L') (h : WL P N ops Q l L' w) : WL P N ops Q l L w := fun a w1 e ha => h a w1 e (ha.sub hs)
/-- a piece of code that comes to one frame in the same world: what stands behind is walked once -/
theorem WC.seqW {P : Program} {N : Nat} {Q : Post} {L : Slots} {w : World} {x y : Code} (L' : Slots) (h1 : ∀ Q' : Post, WX N Q' .normal L' w → WC P N Q' x L w) (h2 : WC P N Q y L' w) : WC P N Q (.seq x y) L w := WC.seq (h1 _ (WX.then_normal h2))
/-- .. or to one kind of frame and world -/
theorem WC.seqI {P : Program} {N : Nat} {Q : Post} {L : Slots} {w : World} {x y : Code} {S : Type} (Ls : S → Slots) (I : S → World → Prop) (h1 : ∀ Q' : Post, (∀ s w', I s w' → WX N Q' .normal (Ls s) w') → WC P N Q' x L w) (h2 : ∀ s w', I s w' → WC P N Q y (Ls s) w') : WC P N Q (.seq x y) L w := WC.seq (h1 _ fun s w' h => WX.then_normal (h2 s w' h))
end Go.Proofs.YtilphcippnfklaaDoor
 /- A quick check of a drawn region's chain: who waits for whom, as_ sets of bits. -/
namespace Go.Proofs.YtilphcippnfklaaDoor
open Go Go.RowKit
theorem reach_mono {md : Region.Mode} {ops : Array Oper} : ∀ (f g j k : Nat), f ≤ g → reach md ops f j k = true → reach md ops g j k = true
  | 0, _, _, _, _, h => by simp [reach] at h
  | f + 1, 0, _, _, hg, _ => by omega
  | f + 1, g + 1, j, k, hg, h => by
    unfold reach at h ⊢
    cases ho : ops[j]? with
    | none => rw [ho] at h; cases h
    | some oj =>
      rw [ho] at h
      simp only at h ⊢
      obtain ⟨e, he, h2⟩ := Array.any_eq_true'.1 h
      refine Array.any_eq_true'.2 ⟨e, he, ?_⟩
      simp only [Bool.and_eq_true, Bool.or_eq_true] at h2 ⊢
      exact ⟨h2.1, h2.2.imp id (fun h3 => reach_mono f g _ _ (by omega) h3)⟩
def emask (md : Region.Mode) (acc : List Nat) : List Edge → Nat
  | [] => 0
  | e :: es => bif Region.binds md e then Nat.lor (Nat.lor (Nat.shiftLeft 1 e.on) (acc.getD e.on 0)) (emask md acc es) else emask md acc es
def maskL (md : Region.Mode) : List Oper → List Nat → List Nat
  | [], acc => acc
  | o :: l, acc => maskL md l (acc ++ [emask md acc o.after.toList])
theorem emask_spec {md : Region.Mode} {acc : List Nat} : ∀ {es : List Edge} {k : Nat}, (emask md acc es).testBit k = true → ∃ e ∈ es, Region.binds md e = true ∧ (e.on = k ∨ (acc.getD e.on 0).testBit k = true)
  | [], k, h => by simp [emask] at h
  | e :: es, k, h => by
    unfold emask at h
    cases hb : Region.binds md e with
    | false =>
      rw [hb] at h
      obtain ⟨e', he', h'⟩ := emask_spec (by simpa using h)
      exact ⟨e', by simp [he'], h'⟩
    | true =>
      rw [hb] at h
      simp only [cond_true] at h
      have h : ((1 <<< e.on ||| acc.getD e.on 0) ||| emask md acc es).testBit k = true := h
      rw [Nat.testBit_or, Nat.testBit_or, Bool.or_eq_true, Bool.or_eq_true] at h
      rcases h with (h | h) | h
      · refine ⟨e, by simp, hb, .inl ?_⟩
        rw [Nat.testBit_shiftLeft] at h
        simp only [Bool.and_eq_true, decide_eq_true_eq, ge_iff_le] at h
        have h2 := h.2
        rw [Nat.testBit_one_eq_true_iff_self_eq_zero] at h2
        omega
      · exact ⟨e, by simp, hb, .inr h⟩
      · obtain ⟨e', he', h'⟩ := emask_spec h
        exact ⟨e', by simp [he'], h'⟩
def MaskOk (md : Region.Mode) (ops : Array Oper) (acc : List Nat) : Prop := ∀ j k, (acc.getD j 0).testBit k = true → reach md ops (j + 1) j k = true
def backL (md : Region.Mode) : Nat → List Oper → Bool
  | _, [] => true
  | k, o :: l => o.after.toList.all (fun e => !Region.binds md e || Nat.blt e.on k) && backL md (k + 1) l
theorem maskL_ok {md : Region.Mode} {ops : Array Oper} : ∀ (l : List Oper) (acc : List Nat), (∀ j, l[j]? = ops[acc.length + j]?) → backL md acc.length l = true → MaskOk md ops acc → MaskOk md ops (maskL md l acc) ∧ (maskL md l acc).length = acc.length + l.length
  | [], acc, _, _, h => ⟨h, by simp [maskL]⟩
  | o :: l, acc, hl, hb, h => by
    have h0 : ops[acc.length]? = some o := by simpa using (hl 0).symm
    simp only [backL, Bool.and_eq_true] at hb
    have ih := maskL_ok l (acc ++ [emask md acc o.after.toList]) (fun j => by
      have := hl (j + 1)
      simp only [List.getElem?_cons_succ, List.length_append, List.length_singleton] at this ⊢
      rw [this]; congr 1; omega) (by simpa using hb.2) (fun j k hj => by
      rcases Nat.lt_trichotomy j acc.length with hlt | heq | hgt
      · rw [List.getD_eq_getElem?_getD, List.getElem?_append_left hlt, ← List.getD_eq_getElem?_getD] at hj
        exact h j k hj
      · subst heq
        have : (acc ++ [emask md acc o.after.toList]).getD acc.length 0 = emask md acc o.after.toList := by simp [List.getD]
        rw [this] at hj
        obtain ⟨e, he, hbind, h3⟩ := emask_spec hj
        unfold reach
        rw [h0]
        refine Array.any_eq_true'.2 ⟨e, by simpa using he, ?_⟩
        simp only [Bool.and_eq_true, Bool.or_eq_true]
        refine ⟨hbind, h3.imp (fun h => by rw [h]; exact Nat.beq_refl _) (fun h3 => ?_)⟩
        have hlt : e.on < acc.length := by
          have := List.all_eq_true.1 hb.1 e he
          simpa [hbind, Nat.blt_eq] using this
        exact reach_mono _ _ _ _ (by omega) (h e.on k h3)
      · rw [List.getD_eq_getElem?_getD, List.getElem?_eq_none (by simp; omega)] at hj
        simp at hj)
    refine ⟨ih.1, ?_⟩
    have h5 := ih.2
    have e5 : maskL md (o :: l) acc = maskL md l (acc ++ [emask md acc o.after.toList]) := rfl
    rw [e5, h5]
    simp only [List.length_append, List.length_cons, List.length_nil]
    omega
def flAll (fl : Nat → Bool) (k : Nat) : Nat → List Nat → Bool
  | _, [] => true
  | j, m :: ms => (fl j || Nat.testBit m k) && flAll fl k (j + 1) ms
theorem flAll_spec {fl : Nat → Bool} {k : Nat} : ∀ {ms : List Nat} {j i : Nat}, flAll fl k j ms = true → i < ms.length → fl (j + i) = true ∨ (ms.getD i 0).testBit k = true
  | [], _, _, _, h => by simp at h
  | m :: ms, j, 0, h, _ => by simp only [flAll, Bool.and_eq_true, Bool.or_eq_true] at h; simpa using h.1
  | m :: ms, j, i + 1, h, hi => by
    simp only [flAll, Bool.and_eq_true, Bool.or_eq_true] at h
    have := flAll_spec h.2 (i := i) (by simpa using hi)
    rw [show j + (i + 1) = j + 1 + i by omega]
    simpa using this
def lex2 (md : Region.Mode) (ops : Array Oper) (fl : Nat → Bool) : Nat → List Oper → List Nat → Bool
  | _, [], [] => true
  | k, o :: rest, _ :: ms => rest.all (fun oj => oj.after.any (fun e => Region.binds md e && e.on == k) || o.apart ops oj) && ((fl k || flAll fl k (k + 1) ms) && lex2 md ops fl (k + 1) rest ms)
  | _, _, _ => false
theorem lexC_of {md : Region.Mode} {ops : Array Oper} {fl : Nat → Bool} {M : List Nat} (hM : MaskOk md ops M) (hlen : M.length = ops.size) : ∀ (l : List Oper) (k : Nat) (listed : Array Bool), listed.size = ops.size → (∀ j, j < ops.size → ∀ b, listed.getD j b = decide (j < k)) → (∀ j, l[j]? = ops[k + j]?) → k + l.length = ops.size →
    backL md k l = true → lex2 md ops fl k l (M.drop k) = true → Region.lexC md ops fl l.length k listed = true
  | [], k, listed, hs, hlis, hl, hk, hb, h => by
    simp only [List.length_nil, Region.lexC, Nat.add_zero] at *
    rw [List.isEmpty_iff, Region.ready, List.filter_eq_nil_iff]
    intro i hi
    rw [List.mem_range] at hi
    simp [hlis i hi true, hk, hi]
  | o :: rest, k, listed, hs, hlis, hl, hk, hb, h => by
    have h0 : ops[k]? = some o := by simpa using (hl 0).symm
    have hkn : k < ops.size := by simp at hk; omega
    have hdrop : M.drop k = M.getD k 0 :: M.drop (k + 1) := by
      rw [List.drop_eq_getElem_cons (by omega)]
      simp [List.getD, List.getElem?_eq_getElem (by omega : k < M.length)]
    rw [hdrop] at h
    simp only [lex2, Bool.and_eq_true] at h
    obtain ⟨hap, hfl, hrest⟩ := h
    simp only [backL, Bool.and_eq_true] at hb
    simp only [List.length_cons, Region.lexC, Bool.and_eq_true]
    have hrj : ∀ j, k < j → ∀ oj, ops[j]? = some oj → oj ∈ rest := fun j hj oj hoj => by
      have := hl (j - k)
      rw [show k + (j - k) = j by omega, hoj, show j - k = (j - k - 1) + 1 by omega, List.getElem?_cons_succ] at this
      exact List.mem_of_getElem? this
    refine ⟨⟨⟨?_, ?_⟩, ?_⟩, ?_⟩
    · rw [List.contains_iff_mem, mem_ready]
      refine ⟨by rw [hlis k hkn]; simp, o, h0, fun e he hbe => ?_⟩
      have := List.all_eq_true.1 hb.1 e (by simpa using he)
      simp only [hbe, Bool.not_true, Bool.false_or, Nat.blt_eq] at this
      rw [hlis e.on (by omega)]
      simpa using this
    · simp only [Region.free, h0, List.all_eq_true, List.mem_range]
      intro j hj
      rcases Nat.lt_trichotomy j k with hlt | heq | hgt
      · rw [hlis j hj]; simp [hlt]
      · simp [heq]
      · have hoj : ops[j]? = some ops[j] := Array.getElem?_eq_getElem hj
        rw [hoj]
        have := List.all_eq_true.1 hap _ (hrj j hgt _ hoj)
        show (j == k || listed.getD j true || ((ops[j].after.any fun e => Region.binds md e && e.on == k) || Oper.apart ops o ops[j])) = true
        rw [this]; simp
    · rcases Bool.or_eq_true _ _ ▸ hfl with h1 | h1
      · rw [h1]; rfl
      · rw [Bool.or_eq_true]; right
        rw [List.all_eq_true]
        intro j hj
        rw [List.mem_range] at hj
        rcases Nat.lt_trichotomy j k with hlt | heq | hgt
        · rw [hlis j hj]; simp [hlt]
        · simp [heq]
        · have h3 := flAll_spec h1 (i := j - (k + 1)) (by rw [List.length_drop]; omega)
          rw [show k + 1 + (j - (k + 1)) = j by omega] at h3
          rcases h3 with h3 | h3
          · rw [h3]; simp
          · have h4 : (M.getD j 0).testBit k = true := by
              rw [List.getD_eq_getElem?_getD, List.getElem?_drop, show k + 1 + (j - (k + 1)) = j by omega] at h3
              rwa [List.getD_eq_getElem?_getD]
            rw [reach_mono _ _ _ _ (by omega) (hM j k h4)]; simp
    · refine lexC_of hM hlen rest (k + 1) (listed.setIfInBounds k true) (by simp [hs]) (fun j hj b => ?_) (fun j => ?_) (by simp at hk; omega) hb.2 hrest
      · rcases Nat.lt_trichotomy j k with hlt | heq | hgt
        · rw [getD_set_ne b (by omega), hlis j hj]; simp [hlt]; omega
        · subst heq; simp [Array.getD, hs, hj]
        · rw [getD_set_ne b (by omega), hlis j hj]
          rw [decide_eq_decide]; omega
      · have := hl (j + 1)
        simp only [List.getElem?_cons_succ] at this
        rw [this]; congr 1; omega
def chain2 (md : Region.Mode) (l : List Oper) (fl : Nat → Bool) : Bool := Region.noSelect l.toArray && (backL md 0 l && lex2 md l.toArray fl 0 l (maskL md l []))
theorem chain2_ok {md : Region.Mode} {l : List Oper} {fl : Nat → Bool} (h : chain2 md l fl = true) : Region.chainOk md l.toArray fl = true := by
  simp only [chain2, Bool.and_eq_true] at h
  obtain ⟨h1, h2, h3⟩ := h
  obtain ⟨hM, hlen⟩ := maskL_ok (ops := l.toArray) l [] (fun j => by simp) h2 (fun j k hj => by simp at hj)
  unfold Region.chainOk
  rw [h1, Bool.true_and]
  exact lexC_of (l := l) hM (by simpa using hlen) 0 _ (by simp) (fun j hj b => by simp at hj; simp [Array.getD, hj]) (fun j => by simp) (by simp) h2 (by simpa using h3)
section
variable {P : Program} {N : Nat} {Q : Post} {L : Slots} {w : World}
theorem WC.chainF {i : Nat} {l : List Oper} (fl : Nat → Bool) (D : Nat → World → Prop) (hm : P.follows .mixedOrders = true) (hB : chain2 .any l fl = true) (hE : ∀ k w', Eqv w w' → D k w') (h : WJ P N l.toArray fl D Q l 0 L w) : WC P N Q (.region i l.toArray true) L w := WC.chainJ fl D hm (chain2_ok hB) hE h
end
end Go.Proofs.YtilphcippnfklaaDoor
 /- The generator's rules: joins and loops over any number of ghosts; objects that lie apart; guards by an equation; results in a row. -/
namespace Go.Proofs.YtilphcippnfklaaDoor
open Go Go.RowKit
/-! ## the plain side: loops as_ 'there is an invariant and a measure' -/
def Lp1 {A : Type} (b : A → (A → Prop) → Prop) (a : A) : Prop := ∃ (I : A → Prop) (mu : A → Nat), I a ∧ ∀ a, I a → b a fun a' => I a' ∧ mu a' < mu a
def Lp2 {A B : Type} (b : A → B → (A → B → Prop) → Prop) (x : A) (y : B) : Prop := ∃ (I : A → B → Prop) (mu : A → B → Nat), I x y ∧ ∀ x y, I x y → b x y fun x' y' => I x' y' ∧ mu x' y' < mu x y
def Lp3 {A B C : Type} (b : A → B → C → (A → B → C → Prop) → Prop) (x : A) (y : B) (z : C) : Prop := ∃ (I : A → B → C → Prop) (mu : A → B → C → Nat), I x y z ∧ ∀ x y z, I x y z → b x y z fun x' y' z' => I x' y' z' ∧ mu x' y' z' < mu x y z
def Lp4 {A B C D : Type} (b : A → B → C → D → (A → B → C → D → Prop) → Prop) (x : A) (y : B) (z : C) (u : D) : Prop := ∃ (I : A → B → C → D → Prop) (mu : A → B → C → D → Nat), I x y z u ∧ ∀ x y z u, I x y z u → b x y z u fun x' y' z' u' => I x' y' z' u' ∧ mu x' y' z' u' < mu x y z u
def Lp5 {A B C D E : Type} (b : A → B → C → D → E → (A → B → C → D → E → Prop) → Prop) (x : A) (y : B) (z : C) (u : D) (v : E) : Prop := ∃ (I : A → B → C → D → E → Prop) (mu : A → B → C → D → E → Nat), I x y z u v ∧ ∀ x y z u v, I x y z u v → b x y z u v fun x' y' z' u' v' => I x' y' z' u' v' ∧ mu x' y' z' u' v' < mu x y z u v
def Lp6 {A B C D E F : Type} (b : A → B → C → D → E → F → (A → B → C → D → E → F → Prop) → Prop) (x : A) (y : B) (z : C) (u : D) (v : E) (s : F) : Prop := ∃ (I : A → B → C → D → E → F → Prop) (mu : A → B → C → D → E → F → Nat), I x y z u v s ∧ ∀ x y z u v s, I x y z u v s → b x y z u v s fun x' y' z' u' v' s' => I x' y' z' u' v' s' ∧ mu x' y' z' u' v' s' < mu x y z u v s
def vB (b : Bool) : Value := .bool b
theorem One.B : One vB := fun _ => rfl
/-- what lies at p is not what lies at q -/
def Dj (p q : Option Nat) : Prop := ∀ g, p = some g → q ≠ some g
theorem Dj.symm {p q : Option Nat} (h : Dj p q) : Dj q p := fun g hq hp => h g hp hq
def Dn {α : Type} (xs : List α) (p q : Option Nat) : Prop := xs ≠ [] → Dj p q
theorem Dn.of {α : Type} {xs : List α} {p q : Option Nat} (h : Dj p q) : Dn xs p q := fun _ => h
theorem Dn.sub {α β : Type} {xs : List α} {ys : List β} {p p' q : Option Nat} (h : Dn xs p q) (hx : ys ≠ [] → xs ≠ []) (hb : ∀ g, p' = some g → p = some g) : Dn ys p' q := fun hy g hg => h (hx hy) g (hb g hg)
theorem Dj.nl {q : Option Nat} : Dj none q := fun _ h => by cases h
theorem Dj.nr {q : Option Nat} : Dj q none := fun _ _ h => by cases h
theorem Dn.nr {α : Type} {xs : List α} {q : Option Nat} : Dn xs q none := fun _ => Dj.nr
/-- old and new -/
def Lt (p : Option Nat) (n : Nat) : Prop := ∀ g, p = some g → g < n
def Ge (p : Option Nat) (n : Nat) : Prop := ∀ g, p = some g → n ≤ g
theorem Dj.new {p q : Option Nat} {n : Nat} (h : Lt p n) (k : Ge q n) : Dj p q := fun g hp hq => by have := h g hp; have := k g hq; omega
theorem Dn.new {α : Type} {xs : List α} {p q : Option Nat} {n : Nat} (h : xs ≠ [] → Lt p n) (k : Ge q n) : Dn xs p q := fun hx => Dj.new (h hx) k
/-- what grew of p stays apart from q -/
theorem Dj.app {p p' q : Option Nat} {n : Nat} (h : Dj p q) (hq : Lt q n) (k : ∀ g, p' = some g → p = some g ∨ n ≤ g) : Dj p' q := fun g hp hqg => by
  rcases k g hp with h1 | h1
  · exact h g h1 hqg
  · have := hq g hqg; omega
theorem Dn.app {α : Type} {xs : List α} {r p p' : Option Nat} {n : Nat} (h : Dn xs r p) (hq : xs ≠ [] → Lt r n) (k : ∀ g, p' = some g → p = some g ∨ n ≤ g) : Dn xs r p' := fun hx => ((h hx).symm.app (hq hx) k).symm
theorem Lt.box {g n : Nat} (h : g < n) : Lt (some g) n := fun _ e => by cases e; exact h
theorem Ge.box {g n : Nat} (h : n ≤ g) : Ge (some g) n := fun _ e => by cases e; exact h
section
variable {α : Type} {f : α → Value} {w w' w0 : World} {A : Option Addr} {c B g : Nat} {xs : List α} {e : TypeId} {us : List Value} {row : Option Nat}
theorem Bl.lt' (h : Bl w g e us) : Lt (some g) w.heap.size := Lt.box h.lt
theorem Own.lt' (h : Own f w B e A c xs) : Lt (blk A) w.heap.size := fun _ hg => (h.lt hg).2
theorem Own.ge' (h : Own f w B e A c xs) : Ge (blk A) B := fun _ hg => (h.lt hg).1
theorem Rd.lt' (h : Rd f w A c xs) (hx : xs ≠ []) : Lt (blk A) w.heap.size := fun _ hg => h.lt hx hg
theorem Bl.go (h : Bl w g e us) (hg : w.grownBy w' row) (hd : Dj (some g) row) : Bl w' g e us := h.keep hg fun e => hd g rfl e
theorem Own.go (h : Own f w B e A c xs) (hg : w.grownBy w' row) (hd : Dj (blk A) row) : Own f w' B e A c xs := h.keep hg fun g e k => hd g k e
theorem Rd.go (h : Rd f w A c xs) (hg : w.grownBy w' row) (hd : Dn xs (blk A) row) : Rd f w' A c xs := h.keep' hg fun hx g e k => hd hx g k e
theorem Bl.g0 (h : Bl w g e us) (hg : w.grownBy w' none) : Bl w' g e us := h.keep hg (by simp)
theorem cell_g0 {p : Addr} {v : Value} (h : w.cell? p = some v) (hg : w.grownBy w' none) : w'.cell? p = some v := by
  have hlt := World.block_lt_of_cell? w _ h
  have := hg.block p.block hlt (by simp)
  unfold World.cell? at h ⊢
  rw [this]; exact h
/-- a write to what the call made itself -/
theorem gr_mod (h : w0.grownBy w none) (k : w.grownBy w' row) (hn : Ge row w0.heap.size) : w0.grownBy w' none := by
  cases row with
  | none => exact gr_trans h k
  | some g => exact gr_new h k (hn g rfl)
theorem size_le (h : w.grownBy w' row) : w.heap.size ≤ w'.heap.size := h.size
theorem Ge.none {n : Nat} : Ge Option.none n := fun _ h => by cases h
theorem Ge.le {p : Option Nat} {m n : Nat} (h : Ge p n) (k : m ≤ n) : Ge p m := fun g hg => Nat.le_trans k (h g hg)
end
/-! ## joins and loops -/
section
variable {P : Program} {N : Nat} {Q : Post} {L : Slots} {w : World}
theorem WC.midF {x : Code} (F : Slots → World → Prop) (h2 : ∀ L' w', F L' w' → WX N Q .normal L' w') (h1 : (∀ L' w', F L' w' → WX N Q .normal L' w') → WC P N Q x L w) : WC P N Q x L w := h1 h2
theorem WC.loopF {k : Code} (F : Nat → Slots → World → Prop) (n0 : Nat) (L0 : Slots) (h0 : F n0 L0 w) (hL : Sub L L0)
    (round : ∀ n L w, F n L w → WC P N (Exit.then (fun a' w' => ∃ n' L' w0, F n' L' w0 ∧ Eqv w0 w' ∧ Has N L' a' ∧ n' < n) Q) k L w) : WC P N Q (.loop k) L w :=
  WC.loopG (S := Nat × Slots) (fun s a' w' => ∃ n' L' w0, F n' L' w0 ∧ Eqv w0 w' ∧ Has N L' a' ∧ n' < s.1) (fun s => s.1) (fun s => s.2) (fun s => F s.1 s.2)
    (fun _ _ _ ⟨n', L', w0, h⟩ => ⟨(n', L'), w0, h⟩) (n0, L0) h0 hL (fun s w h => round s.1 s.2 w h)
theorem WX.roundF {F : Nat → Slots → World → Prop} {n n' : Nat} (L' : Slots) (hI : F n' L' w) (hL : Sub L L') (hm : n' < n) :
    WX N (Exit.then (fun a' w' => ∃ n' L' w0, F n' L' w0 ∧ Eqv w0 w' ∧ Has N L' a' ∧ n' < n) Q) .normal L w := fun _ _ e ha => ⟨n', L', w, hI, e, ha.sub hL, hm⟩
theorem WC.cut {c : Code} {L' : Slots} (hs : Sub L L') (h : WC P N Q c L' w) : WC P N Q c L w := h.weaken hs
end
theorem all1n : ∀ u ∈ ([] : List Value), u.oneCell' = true := fun _ h => by cases h
theorem all1c {u : Value} {us : List Value} (h : u.oneCell' = true) (t : ∀ v ∈ us, v.oneCell' = true) : ∀ v ∈ u :: us, v.oneCell' = true := fun v hv => by
  rcases List.mem_cons.1 hv with rfl | hv
  · exact h
  · exact t v hv
/-! ## guards -/
theorem okb {e t : Bool} (h : e = t) : some (Value.bool e) = some (Value.bool t) := by rw [h]
section
variable {P : Program} {T : Tab} {N : Nat} {L : Slots} {w : World} {ty : TypeId} {pos : String} {af : Array Edge} {dd : Option Tmp} {t t' : TypeId} {x y c i : Operand} {k : IntKind} {q : Int}
theorem Yld.pickT {u : Value} (hc : opv L c = some (.bool true)) (hx : opv L x = some u) : Yld P N w ⟨dd, .pick c x y, ty, pos, af, none⟩ L u := fun a w1 _ ha => by
  unfold execOp
  simp only [ha.ev hc, ha.ev hx, Sem.run_bind, asBool, Sem.run_pure, Result.andThen_ok]
  rfl
theorem Yld.pickF {u : Value} (hc : opv L c = some (.bool false)) (hy : opv L y = some u) : Yld P N w ⟨dd, .pick c x y, ty, pos, af, none⟩ L u := fun a w1 _ ha => by
  unfold execOp
  simp only [ha.ev hc, ha.ev hy, Sem.run_bind, asBool, Sem.run_pure, Result.andThen_ok]
  rfl
theorem Yld.scutF (hT : T.Ok P) {lo : Operand} {p : List UInt8} {u : Unit} {l : Int} (ht : nk T.str t = some u) (hx : opv L x = some (.string ⟨⟨p⟩⟩)) (hl : optv L (some lo) 0 = some l) (h0 : 0 ≤ l) (h1 : l ≤ p.length) : Yld P N w ⟨dd, .slice t x (some lo) none none, ty, pos, af, none⟩ L (.string ⟨⟨p.drop l.toNat⟩⟩) := by
  have h := Yld.scut (P := P) (N := N) (w := w) (d := dd) (ty := ty) (pos := pos) (af := af) hT ht hx hl (hi := none) (h := (p.length : Int)) rfl h0 h1 (by omega)
  have e : (p.drop l.toNat).take ((p.length : Int).toNat - l.toNat) = p.drop l.toNat := List.take_of_length_le (by simp)
  rw [e] at h
  exact h
end
section
variable {P : Program} {T : Tab} {N : Nat} {L : Slots} {w : World} {ty : TypeId} {pos : String} {af : Array Edge} {dd : Option Tmp} {t : TypeId} {x : Operand} {k : IntKind} {q : Int}
theorem Yld.neg (hT : T.Ok P) (hx : opv L x = some (.int k q)) (hi : In k (0 - q)) : Yld P N w ⟨dd, .unOp .neg t x, ty, pos, af, none⟩ L (.int k (0 - q)) := by
  have h := Yld.pure (P := P) (T := T) (L := L) (N := N) (w := w) (d := dd) (ty := ty) (pos := pos) (af := af) hT (op := .unOp .neg t x) (v := .int k (k.wrap (0 - q))) (by simp only [pv, hx, o1, pvUn])
  rw [In.wrap hi] at h
  exact h
end
/-! ## small facts -/
theorem nd_true {p : Prop} [Decidable p] (h : (!decide p) = true) : ¬ p := by simpa using h
theorem nd_false {p : Prop} [Decidable p] (h : (!decide p) = false) : p := by simpa using h
theorem iltN {α : Type} {xs : List α} {i : Int} {n : Nat} (h : 0 ≤ i ∧ i < (n : Int)) (hn : n = xs.length) : i.toNat < xs.length := by omega
theorem applen {a b c : Nat} (h : (a + b) * (c + 1) ≤ 140737488355328) : a + b ≤ maxLen := by
  have : (a + b) * 1 ≤ (a + b) * (c + 1) := Nat.mul_le_mul_left _ (by omega)
  simp only [maxLen]; omega
theorem ne_take {α : Type} {xs : List α} {n : Nat} (h : xs.take n ≠ []) : xs ≠ [] := fun e => h (by rw [e]; simp)
theorem ne_drop {α : Type} {xs : List α} {n : Nat} (h : xs.drop n ≠ []) : xs ≠ [] := fun e => h (by rw [e]; simp)
theorem ne_cut {α : Type} {xs : List α} {n m : Nat} (h : (xs.drop n).take m ≠ []) : xs ≠ [] := fun e => h (by rw [e]; simp)
theorem byte_eq {k : IntKind} {e : Int} (h : 0 ≤ e ∧ e ≤ 255) : some (Value.int k e) = some (Value.int k ((UInt8.ofNat e.toNat).toNat : Int)) := by
  have : ((UInt8.ofNat e.toNat).toNat : Int) = e := by rw [UInt8.toNat_ofNat']; omega
  rw [this]
theorem byte_eq' {e : Int} (h : 0 ≤ e ∧ e ≤ 255) : Value.int .u8 e = vb (UInt8.ofNat e.toNat) := by
  have : ((UInt8.ofNat e.toNat).toNat : Int) = e := by rw [UInt8.toNat_ofNat']; omega
  unfold vb; rw [this]
/-! ## where a result lies: new, or where an argument lies -/
def Orig (ne : Prop) (p : Option Nat) (n : Nat) (ps : List (Prop × Option Nat)) : Prop := ne → ∀ g, p = some g → n ≤ g ∨ ∃ x, List.Mem x ps ∧ x.1 ∧ x.2 = some g
def OrAll (Q : Prop → Option Nat → Prop) (ps : List (Prop × Option Nat)) : Prop := ∀ x, List.Mem x ps → Q x.1 x.2
theorem orN {Q : Prop → Option Nat → Prop} : OrAll Q [] := fun _ h => by cases h
theorem orC {Q : Prop → Option Nat → Prop} {a : Prop} {b : Option Nat} {ps : List (Prop × Option Nat)} (h : Q a b) (t : OrAll Q ps) : OrAll Q ((a, b) :: ps) := fun x hx => by
  cases hx with
  | head => exact h
  | tail _ hx => exact t x hx
theorem Orig.apart {α : Type} {ys : List α} {p z : Option Nat} {n : Nat} {ps : List (Prop × Option Nat)} (h : Orig (ys ≠ []) p n ps) (hz : Lt z n) (hs : OrAll (fun ne q => ne → Dj q z) ps) : Dn ys p z := fun hy g hg hzg => by
  rcases h hy g hg with h1 | ⟨x, hx, hne, hxg⟩
  · have := hz g hzg; omega
  · exact hs x hx hne g hxg hzg
theorem Orig.par {ne : Prop} {p : Option Nat} {n : Nat} {ps : List (Prop × Option Nat)} (h : List.Mem (ne, p) ps) : Orig ne p n ps := fun hn _ hg => .inr ⟨_, h, hn, hg⟩
theorem Orig.new {ne : Prop} {p : Option Nat} {n : Nat} {ps : List (Prop × Option Nat)} (h : Ge p n) : Orig ne p n ps := fun _ g hg => .inl (h g hg)
theorem Orig.sub {ne ne' : Prop} {p p' : Option Nat} {n : Nat} {ps : List (Prop × Option Nat)} (h : Orig ne p n ps) (hx : ne' → ne) (hb : ∀ g, p' = some g → p = some g) : Orig ne' p' n ps := fun hn g hg => h (hx hn) g (hb g hg)
theorem Orig.trans {ne : Prop} {p : Option Nat} {n m : Nat} {ps qs : List (Prop × Option Nat)} (h : Orig ne p n qs) (hm : m ≤ n) (hs : OrAll (fun ne q => Orig ne q m ps) qs) : Orig ne p m ps := fun hn g hg => by
  rcases h hn g hg with h1 | ⟨x, hx, hne, hxg⟩
  · exact .inl (by omega)
  · exact hs x hx hne g hxg
section
variable {P : Program} {T : Tab} {N : Nat} {ops : Array Oper} {Q : Post} {L : Slots} {w : World} {rest : List Oper} {d : Nat} {ty : TypeId} {pos : String} {af : Array Edge} {t t' : TypeId} {x y i : Operand} {k k' : IntKind} {q : Int}
variable {α : Type} {f : α → Value} {A : Option Addr} {c n B : Nat} {xs ys : List α} {e : TypeId}
theorem WL.cutF {e : TypeId} {lo : Operand} {l : Int} (hT : T.Ok P) (hR : Rd f w A c xs) (hd : Nat.blt d N = true) (hs : nk T.sl t = some (e, 1)) (hx : opv L x = some (.slice A n c)) (hn : n = xs.length) (hl : optv L (some lo) 0 = some l) (h0 : 0 ≤ l) (h1 : l ≤ (n : Int))
    (hk : ∀ A' c', Rd f w A' c' (xs.drop l.toNat) → (∀ g, blk A' = some g → blk A = some g) → WL P N ops Q rest ((d, .slice A' (xs.drop l.toNat).length c') :: L) w) : WL P N ops Q (⟨some d, .slice t x (some lo) none none, ty, pos, af, none⟩ :: rest) L w := by
  refine WL.cut (h := (n : Int)) hT hR hd hs hx hn hl rfl h0 h1 (Int.le_refl _) (fun A' c' => ?_)
  have e : (xs.drop l.toNat).take ((n : Int).toNat - l.toNat) = xs.drop l.toNat := List.take_of_length_le (by simp; omega)
  rw [e]
  exact hk A' c'
theorem WL.makeZI {q : Int} {z : α} {b : Nat} (hT : T.Ok P) (hd : Nat.blt d N = true) (hs : nk T.ow t = some (e, b)) (hz : zeroOf P e = some [f z]) (hx : opv L x = some (.int k q)) (hy : opv L y = some (.int k' q)) (h0 : 0 ≤ q) (hm : q * (b : Int) ≤ 140737488355328) (h63 : q ≤ 140737488355328) (hB : B ≤ w.heap.size)
    (hk : ∀ g w', Own f w' B e (some ⟨g, 0, none⟩) q.toNat (List.replicate q.toNat z) → w.grownBy w' none → w.heap.size ≤ g → WL P N ops Q rest ((d, .slice (some ⟨g, 0, none⟩) q.toNat q.toNat) :: L) w') :
    WL P N ops Q (⟨some d, .makeSlice t x y, ty, pos, af, none⟩ :: rest) L w := by
  have e1 : ((q.toNat : Nat) : Int) = q := Int.toNat_of_nonneg h0
  have e2 : q.toNat * b ≤ 140737488355328 := by
    have : ((q.toNat * b : Nat) : Int) ≤ 140737488355328 := by rw [Int.natCast_mul, e1]; exact hm
    omega
  exact WL.makeZ hT hd hs hz (by rw [e1]; exact hx) (by rw [e1]; exact hy) e2 (by omega) hB hk
theorem WL.makeCI {q : Int} {b : Nat} (hT : T.Ok P) (hd : Nat.blt d N = true) (hs : nk T.ow t = some (e, b)) (hx : opv L x = some (.int k 0)) (hy : opv L y = some (.int k' q)) (h0 : 0 ≤ q) (hm : q * (b : Int) ≤ 140737488355328) (h63 : q ≤ 140737488355328) (hB : B ≤ w.heap.size)
    (hk : ∀ g w', Own f w' B e (some ⟨g, 0, none⟩) q.toNat [] → w.grownBy w' none → w.heap.size ≤ g → WL P N ops Q rest ((d, .slice (some ⟨g, 0, none⟩) 0 q.toNat) :: L) w') :
    WL P N ops Q (⟨some d, .makeSlice t x y, ty, pos, af, none⟩ :: rest) L w := by
  have e1 : ((q.toNat : Nat) : Int) = q := Int.toNat_of_nonneg h0
  have e2 : q.toNat * b ≤ 140737488355328 := by
    have : ((q.toNat * b : Nat) : Int) ≤ 140737488355328 := by rw [Int.natCast_mul, e1]; exact hm
    omega
  exact WL.makeC hT hd hs hx (by rw [e1]; exact hy) e2 (by omega) hB hk
/-! ## in the midst of a region -/
theorem WL.midF {l : List Oper} (m : Nat) (F : Slots → World → Prop) (h2 : ∀ L' w', F L' w' → WL P N ops Q (l.drop m) L' w') (h1 : (∀ L' w', F L' w' → WL P N ops Q (l.drop m) L' w') → WL P N ops Q l L w) : WL P N ops Q l L w := h1 h2
theorem WQ.midF {K : Act → Prop} {l : List Oper} (m : Nat) (F : Slots → World → Prop) (h2 : ∀ L' w', F L' w' → WQ P N ops K (l.drop m) L' w') (h1 : (∀ L' w', F L' w' → WQ P N ops K (l.drop m) L' w') → WQ P N ops K l L w) : WQ P N ops K l L w := h1 h2
theorem WJ.midF {fl : Nat → Bool} {D : Nat → World → Prop} {l : List Oper} {j : Nat} (m : Nat) (F : Slots → World → Prop) (h2 : ∀ L' w', F L' w' → WJ P N ops fl D Q (l.drop m) (j + m) L' w') (h1 : (∀ L' w', F L' w' → WJ P N ops fl D Q (l.drop m) (j + m) L' w') → WJ P N ops fl D Q l j L w) : WJ P N ops fl D Q l j L w := h1 h2
theorem WQ.weaken {K : Act → Prop} {l : List Oper} {L' : Slots} (hs : Sub L L') (h : WQ P N ops K l L' w) : WQ P N ops K l L w := fun a ha => h a (ha.sub hs)
theorem WJ.weaken {fl : Nat → Bool} {D : Nat → World → Prop} {l : List Oper} {j : Nat} {L' : Slots} (hs : Sub L L') (h : WJ P N ops fl D Q l j L' w) : WJ P N ops fl D Q l j L w := fun a w1 e ha => h a w1 e (ha.sub hs)
end
theorem Bl.cast {w : World} {g : Nat} {e : TypeId} {us vs : List Value} (h : us = vs) (hB : Bl w g e us) : Bl w g e vs := h ▸ hB
theorem lnil {α : Type} {f : α → Value} : ([] : List Value) = [].map f := rfl
theorem lcons {α : Type} {f : α → Value} {v : Value} {l : List Value} {x : α} {xs : List α} (h : v = f x) (t : l = xs.map f) : v :: l = (x :: xs).map f := by rw [h, t]; rfl
end Go.Proofs.YtilphcippnfklaaDoor
 /- A pointer or an interface's value held against nil. -/
namespace Go.Proofs.YtilphcippnfklaaDoor
open Go Go.RowKit
section
variable {P : Program} {N : Nat} {L : Slots} {w : World} {ty : TypeId} {pos : String} {af : Array Edge} {dd : Option Tmp} {t t' : TypeId} {x : Operand}
theorem Yld.peqnil {e : TypeId} {y : Operand} {p : Option Addr} (h : P.underlying t = some (.pointer e)) (hx : opv L x = some (.pointer p)) (hy : opv L y = some (.pointer none)) : Yld P N w ⟨dd, .binOp .eql t x y t', ty, pos, af, none⟩ L (.bool p.isNone) := fun a w1 _ ha => by
  refine exec_bin (ha.ev hx) (ha.ev hy) (by unfold eqGuard; rfl) ?_
  have h : (Op.equal t (.pointer p) (.pointer none)).run P w1 = .ok p.isNone w1 := run_equal_of fun d => by
    cases p <;> simp [Op.equalIn, run_underlying h]
  simp [binOp, h]
theorem Yld.ieqnil0 {ms : Array (String × TypeId)} {y : Value} (h : P.underlying t = some (.interface ms)) (hx : opv L x = some .nilIface) (hy : y = .nilIface) : Yld P N w ⟨dd, .binOp .eql t x (.const y) t', ty, pos, af, none⟩ L (.bool true) := fun a w1 _ ha => by
  subst hy
  refine exec_bin (ha.ev hx) rfl ?_ ?_
  · unfold eqGuard; cases x <;> rfl
  have h : (Op.equal t .nilIface .nilIface).run P w1 = .ok true w1 := run_equal_of fun d => by
    simp [Op.equalIn, run_underlying h]
  have ec : a.eval (.const .nilIface) = .nilIface := rfl
  simp [binOp, h, ec]
theorem Yld.ieqnil1 {ms : Array (String × TypeId)} {y u : Value} {tx : TypeId} (h : P.underlying t = some (.interface ms)) (hx : opv L x = some (.iface tx u)) (hy : y = .nilIface) : Yld P N w ⟨dd, .binOp .eql t x (.const y) t', ty, pos, af, none⟩ L (.bool false) := fun a w1 _ ha => by
  subst hy
  refine exec_bin (ha.ev hx) rfl ?_ ?_
  · unfold eqGuard; cases x <;> rfl
  have h : (Op.equal t (.iface tx u) .nilIface).run P w1 = .ok false w1 := run_equal_of fun d => by
    simp [Op.equalIn, run_underlying h]
  have ec : a.eval (.const .nilIface) = .nilIface := rfl
  simp [binOp, h, ec]
end
end Go.Proofs.YtilphcippnfklaaDoor
 /- Errors, as_ plain data: none, one of api's variables, or one of them with a place. -/
namespace Go.Proofs.YtilphcippnfklaaDoor
open Go Go.RowKit
inductive Er where
  | ok
  | e (n : Nat)
  | at_ (pos : Int) (n : Nat)
  deriving DecidableEq, Inhabited
/-- the variables of api, by their numbers -/
def eglob : List (Option Nat) := [some 6, some 7, some 8, some 9, some 10, some 4, some 11, some 1, some 12, some 13, some 3, some 14, some 0, some 15, some 16, some 17, some 2]
def etext : List (List UInt8) := [[108, 101, 120], [112, 97, 114, 115, 101], [114, 101, 115, 111, 108, 118, 101], [100, 121, 110, 97, 109, 105, 99], [99, 121, 99, 108, 101], [118, 105, 115, 105, 98, 105, 108, 105, 116, 121], [97, 110, 97, 108, 121, 115, 105, 115], [108, 105, 109, 105, 116], [109, 105, 115, 115, 105, 110, 103], [116, 111, 111, 32, 109, 97, 110, 121], [110, 111, 32, 115, 117, 99, 104, 32, 107, 105, 110, 100], [110, 111, 32, 112, 97, 116, 104], [110, 111, 116, 32, 116, 104, 101, 32, 115, 104, 97, 112, 101, 32, 116, 104, 97, 116, 32, 105, 116, 32, 104, 97, 115, 32, 116, 111, 32, 104, 97, 118, 101], [105, 116, 32, 101, 110, 100, 115, 32, 116, 111, 111, 32, 101, 97, 114, 108, 121], [97, 32, 110, 117, 109, 98, 101, 114, 32, 111, 117, 116, 32, 111, 102, 32, 105, 116, 115, 32, 114, 97, 110, 103, 101], [116, 104, 101, 32, 112, 111, 119, 101, 114, 32, 104, 97, 115, 32, 103, 111, 110, 101], [105, 116, 32, 104, 97, 115, 32, 102, 97, 105, 108, 101, 100]]
/-- v is the value of api's variable n -/
structure ErV (w : World) (v : Value) (n : Nat) : Prop where
  ex : ∃ g t a, eglob[n]? = some (some g) ∧ etext[n]? = some t ∧ w.cell? ⟨g, 0, none⟩ = some v ∧ v = .iface 217 (.pointer (some a)) ∧ w.cell? a = some (vs t) ∧ ∃ c e, w.heap[a.block]? = some (.cells c e (0, 0))
def ErrR (S : List Nat) (w : World) (v : Value) : Er → Prop
  | .ok => v = .nilIface
  | .e n => ErV w v n ∧ n ∈ S
  | .at_ pos n => ∃ b u, v = .iface 130 (.pointer (some ⟨b, 0, none⟩)) ∧ Bl w b 132 [.int .i64 pos, u] ∧ ErV w u n ∧ n ∈ S
/-- the variables hold what they were laid with -/
structure GOK (S : List Nat) (w : World) : Prop where
  er : ∀ n ∈ S, n < 17 → ∃ v, ErV w v n
  /-- 100: a variable of the library's own holds some number -/
  ml : 100 ∈ S → ∃ m, w.cell? ⟨5, 0, none⟩ = some (.int .i64 m)
  /-- 101: a table of the library's own is as_ it was laid -/
  p10 : 101 ∈ S → Lib.TabIs Tryd.prog w "internal/strconv.uint64pow10" .u64 Lib.pow10Tab
theorem tab_grown {P : Program} {nm : String} {k : IntKind} {w w' : World} {zs : List Int} (h : Lib.TabIs P w nm k zs) (hg : w.grownBy w' none) : Lib.TabIs P w' nm k zs := by
  unfold Lib.TabIs World.var? at h ⊢
  obtain ⟨o, ho⟩ : ∃ o, P.globalNamed nm = o := ⟨_, rfl⟩
  rw [ho] at h ⊢
  cases o with
  | none => cases h
  | some g =>
    simp only [Option.bind_some] at h ⊢
    have hlt : g < w.heap.size := by
      rcases Nat.lt_or_ge g w.heap.size with h' | h'
      · exact h'
      · rw [Array.getElem?_eq_none h'] at h; cases h
    rw [hg.block g hlt (by simp)]
    exact h
variable {S : List Nat}
theorem ErV.grown {w w' : World} {v : Value} {n : Nat} (h : ErV w v n) (hg : w.grownBy w' none) : ErV w' v n := by
  obtain ⟨g, t, a, h1, h2, h3, h4, h5⟩ := h
  obtain ⟨h5, c, e, h6⟩ := h5
  exact ⟨g, t, a, h1, h2, cell_g0 h3 hg, h4, cell_g0 h5 hg, c, e, (hg.block a.block (World.block_lt_of_cell? w _ h5) (by simp)).trans h6⟩
theorem ErV.uniq {w : World} {u v : Value} {n : Nat} (h : ErV w u n) (k : ErV w v n) : u = v := by
  obtain ⟨g, t, a, h1, h2, h3, h4, h5⟩ := h
  obtain ⟨g', t', a', k1, k2, k3, k4, k5⟩ := k
  have e1 := Option.some.inj (Option.some.inj (h1.symm.trans k1))
  subst e1
  exact Option.some.inj (h3.symm.trans k3)
theorem ErV.lt {w : World} {v : Value} {n : Nat} (h : ErV w v n) : n < 17 := by
  obtain ⟨g, t, a, h1, _⟩ := h
  have := (List.getElem?_eq_some_iff.1 h1).1
  simpa [eglob] using this
/-- two of the variables hold unlike values -/
theorem ErV.inj {w : World} {v : Value} {n m : Nat} (h : ErV w v n) (k : ErV w v m) : n = m := by
  have hn := h.lt
  have hm := k.lt
  obtain ⟨g, t, a, h1, h2, h3, h4, h5⟩ := h
  obtain ⟨g', t', a', k1, k2, k3, k4, k5⟩ := k
  have e := h4.symm.trans k4
  simp only [Value.iface.injEq, true_and, Value.pointer.injEq, Option.some.injEq] at e
  subst e
  have e2 := Option.some.inj (h5.1.symm.trans k5.1)
  simp only [vs, Value.string.injEq, ByteArray.mk.injEq, Array.mk.injEq] at e2
  subst e2
  have key : (List.range 17).all (fun i => (List.range 17).all fun j => !(decide (etext[i]? = etext[j]?)) || decide (i = j)) = true := by decide +kernel
  have k6 := List.all_eq_true.1 (List.all_eq_true.1 key n (by simpa using hn)) m (by simpa using hm)
  rw [h2, k2] at k6
  simpa using k6
theorem ErV.back {w w' : World} {v : Value} {n : Nat} (h : ErV w' v n) (hS : n ∈ S) (hG : GOK S w) (hg : w.grownBy w' none) : ErV w v n := by
  obtain ⟨u, hu⟩ := hG.er n hS h.lt
  rw [ErV.uniq h (hu.grown hg)]
  exact hu
theorem ErV.iface {w : World} {v : Value} {n : Nat} (h : ErV w v n) : ∃ a, v = .iface 217 (.pointer (some a)) := by
  obtain ⟨g, t, a, h1, h2, h3, h4, h5⟩ := h
  exact ⟨a, h4⟩
theorem ErrR.grown {w w' : World} {v : Value} {e : Er} (h : ErrR S w v e) (hg : w.grownBy w' none) : ErrR S w' v e := by
  cases e with
  | ok => exact h
  | e n => exact ⟨ErV.grown h.1 hg, h.2⟩
  | at_ pos n =>
    obtain ⟨b, u, h1, h2, h3, h4⟩ := h
    exact ⟨b, u, h1, h2.g0 hg, h3.grown hg, h4⟩
theorem ErrR.eqv {w w' : World} {v : Value} {e : Er} (h : ErrR S w v e) (hg : Eqv w w') : ErrR S w' v e := h.grown (gr_eqv (gr_refl w none) hg)
/-- behind a write to a block of another kind -/
theorem ErrR.go {w0 w w' : World} {v : Value} {e : Er} {g : Nat} {t : TypeId} {us : List Value} (h : ErrR S w v e) (hG : GOK S w0) (h0 : w0.grownBy w none) (hg : w.grownBy w' (some g)) (h1 : w0.grownBy w' none) (hB : Bl w g t us) (ht : Nat.beq t 132 = false) : ErrR S w' v e := by
  cases e with
  | ok => exact h
  | e n => exact ⟨(ErV.back h.1 h.2 hG h0).grown h1, h.2⟩
  | at_ pos n =>
    obtain ⟨b, u, k1, k2, k3, k4⟩ := h
    refine ⟨b, u, k1, k2.keep hg (fun e => ?_), (ErV.back k3 k4 hG h0).grown h1, k4⟩
    injection e with e
    subst e
    exact Bl.ne k2 hB (fun e => Nat.ne_of_beq_eq_false ht e.symm) rfl
/-- behind a write to a slice of one's own -/
theorem ErrR.goO {α : Type} {f : α → Value} {w0 w w' : World} {v : Value} {e : Er} {t B c : Nat} {A : Option Addr} {xs : List α} (h : ErrR S w v e) (hG : GOK S w0) (h0 : w0.grownBy w none) (hg : w.grownBy w' (blk A)) (h1 : w0.grownBy w' none) (hO : Own f w B t A c xs) (ht : Nat.beq t 132 = false) : ErrR S w' v e := by
  rcases hO.2 with ⟨hv, _⟩ | ⟨g, cap, cur, hv, _, hb, _⟩
  · simp only [Value.slice.injEq] at hv
    obtain ⟨rfl, _⟩ := hv
    exact h.grown hg
  · simp only [Value.slice.injEq] at hv
    obtain ⟨rfl, _⟩ := hv
    exact ErrR.go (g := g) (us := cur.toList) h hG h0 hg h1 hb ht
theorem ErrR.one {w : World} {v : Value} {e : Er} (h : ErrR S w v e) : v.oneCell' = true := by
  cases e with
  | ok => rw [show v = .nilIface from h]; rfl
  | e n => obtain ⟨a, rfl⟩ := ErV.iface h.1; rfl
  | at_ pos n => obtain ⟨b, u, rfl, _⟩ := h; rfl
theorem ErrR.okR {w : World} : ErrR S w .nilIface .ok := rfl
theorem GOK.grown {w w' : World} (h : GOK S w) (hg : w.grownBy w' none) : GOK S w' := ⟨fun n hn hl => by
  obtain ⟨v, hv⟩ := h.er n hn hl
  exact ⟨v, hv.grown hg⟩, fun hn => by
  obtain ⟨m, hm⟩ := h.ml hn
  exact ⟨m, cell_g0 hm hg⟩, fun hn => tab_grown (h.p10 hn) hg⟩
section
variable {P : Program} {N : Nat} {L : Slots} {w w0 : World} {ty : TypeId} {pos : String} {af : Array Edge} {dd : Option Tmp} {t t' : TypeId} {x : Operand}
theorem Yld.inenil0 {ms : Array (String × TypeId)} {y : Value} (h : P.underlying t = some (.interface ms)) (hx : opv L x = some .nilIface) (hy : y = .nilIface) : Yld P N w ⟨dd, .binOp .neq t x (.const y) t', ty, pos, af, none⟩ L (.bool false) := fun a w1 _ ha => by
  subst hy
  refine exec_bin (ha.ev hx) rfl ?_ ?_
  · unfold eqGuard; cases x <;> rfl
  have h : (Op.equal t .nilIface .nilIface).run P w1 = .ok true w1 := run_equal_of fun d => by
    simp [Op.equalIn, run_underlying h]
  have ec : a.eval (.const .nilIface) = .nilIface := rfl
  simp [binOp, h, ec]
theorem Yld.inenil1 {ms : Array (String × TypeId)} {y u : Value} {tx : TypeId} (h : P.underlying t = some (.interface ms)) (hx : opv L x = some (.iface tx u)) (hy : y = .nilIface) : Yld P N w ⟨dd, .binOp .neq t x (.const y) t', ty, pos, af, none⟩ L (.bool true) := fun a w1 _ ha => by
  subst hy
  refine exec_bin (ha.ev hx) rfl ?_ ?_
  · unfold eqGuard; cases x <;> rfl
  have h : (Op.equal t (.iface tx u) .nilIface).run P w1 = .ok false w1 := run_equal_of fun d => by
    simp [Op.equalIn, run_underlying h]
  have ec : a.eval (.const .nilIface) = .nilIface := rfl
  simp [binOp, h, ec]
theorem Yld.erreql {ms : Array (String × TypeId)} {v : Value} {e : Er} (h : P.underlying t = some (.interface ms)) (hE : ErrR S w0 v e) (hx : opv L x = some v) : Yld P N w ⟨dd, .binOp .eql t x (.const .nilIface) t', ty, pos, af, none⟩ L (.bool (decide (e = .ok))) := by
  cases e with
  | ok => rw [show v = .nilIface from hE] at hx; exact Yld.ieqnil0 h hx rfl
  | e n => obtain ⟨a, rfl⟩ := ErV.iface hE.1; exact Yld.ieqnil1 h hx rfl
  | at_ p n => obtain ⟨b, u, rfl, _⟩ := hE; exact Yld.ieqnil1 h hx rfl
theorem Yld.errneq {ms : Array (String × TypeId)} {v : Value} {e : Er} (h : P.underlying t = some (.interface ms)) (hE : ErrR S w0 v e) (hx : opv L x = some v) : Yld P N w ⟨dd, .binOp .neq t x (.const .nilIface) t', ty, pos, af, none⟩ L (.bool (!decide (e = .ok))) := by
  cases e with
  | ok => rw [show v = .nilIface from hE] at hx; exact Yld.inenil0 h hx rfl
  | e n => obtain ⟨a, rfl⟩ := ErV.iface hE.1; exact Yld.inenil1 h hx rfl
  | at_ p n => obtain ⟨b, u, rfl, _⟩ := hE; exact Yld.inenil1 h hx rfl
end
section
variable {P : Program} {N : Nat} {L : Slots} {w w0 : World} {ty : TypeId} {pos : String} {af : Array Edge} {dd : Option Tmp} {t t' ta e0 : TypeId} {x y : Operand}
theorem Yld.assertNo {v : Value} {er : Er} (hu : P.underlying ta = some (.pointer e0)) (hz : ∀ w, (zeroValue ta).run P w = .ok (.pointer none) w) (hE : ErrR S w0 v er) (hx : opv L x = some v) (h1 : Nat.beq 217 ta = false) (h2 : Nat.beq 130 ta = false ∨ ∀ p n, er ≠ .at_ p n) :
    Yld P N w ⟨dd, .typeAssert x t ta true, ty, pos, af, none⟩ L (.tuple #[.pointer none, .bool false]) := fun a w1 _ ha => by
  have hx' := ha.ev hx
  have n1 : ¬ (217 : Nat) = ta := Nat.ne_of_beq_eq_false h1
  cases er with
  | ok =>
    obtain rfl : v = .nilIface := hE
    simp [execOp, Instr.typeAssert, run_underlying hu, hx', hz]
  | e n =>
    obtain ⟨a', rfl⟩ := ErV.iface hE.1
    simp [execOp, Instr.typeAssert, run_underlying hu, hx', hz, n1]
  | at_ p n =>
    obtain ⟨b, u, rfl, _⟩ := hE
    rcases h2 with h2 | h2
    · have n2 : ¬ (130 : Nat) = ta := Nat.ne_of_beq_eq_false h2
      simp [execOp, Instr.typeAssert, run_underlying hu, hx', hz, n2]
    · exact absurd rfl (h2 p n)
theorem Yld.assertYes {v u : Value} (hu : P.underlying ta = some (.pointer e0)) (hx : opv L x = some v) (hv : v = .iface ta u) :
    Yld P N w ⟨dd, .typeAssert x t ta true, ty, pos, af, none⟩ L (.tuple #[u, .bool true]) := fun a w1 _ ha => by
  have hx' := ha.ev hx
  subst hv
  simp [execOp, Instr.typeAssert, run_underlying hu, hx']
theorem Er.atCases (e : Er) : (∃ p n, e = .at_ p n) ∨ ∀ p n, e ≠ .at_ p n := by
  cases e with
  | at_ p n => exact .inl ⟨p, n, rfl⟩
  | ok => right; intro p n h; cases h
  | e k => right; intro p n h; cases h
theorem ErrR.atOut {v : Value} {p : Int} {n : Nat} (h : ErrR S w v (.at_ p n)) : ∃ b u, v = .iface 130 (.pointer (some ⟨b, 0, none⟩)) ∧ Bl w b 132 [.int .i64 p, u] ∧ ErrR S w u (.e n) := by
  obtain ⟨b, u, h1, h2, h3, h4⟩ := h
  exact ⟨b, u, h1, h2, h3, h4⟩
theorem ErrR.mkAt {u : Value} {b : Nat} {p : Int} {n : Nat} (hB : Bl w b 132 [.int .i64 p, u]) (hE : ErrR S w u (.e n)) : ErrR S w (.iface 130 (.pointer (some ⟨b, 0, none⟩))) (.at_ p n) := ⟨b, u, rfl, hB, hE.1, hE.2⟩
/-- two errors held against each other, not both nil, not both with a place -/
theorem Yld.erreq2 {ms : Array (String × TypeId)} {ii ij : TypeInfo} {u v : Value} {d e : Er} (h : P.underlying t = some (.interface ms)) (hp : P.underlying 217 = some (.pointer e0)) (hinfo : P.info? 217 = some ii) (hcomp : ii.comparable = true) (hte : P.info? e0 = some ij) (hsz : ij.size ≠ 0)
    (hD : ErrR S w u d) (hE : ErrR S w v e) (hx : opv L x = some u) (hy : opv L y = some v)
    (h0 : ¬ (d = .ok ∧ e = .ok)) (h1 : (∀ p n, d ≠ .at_ p n) ∨ ∀ p n, e ≠ .at_ p n) : Yld P N w ⟨dd, .binOp .eql t x y t', ty, pos, af, none⟩ L (.bool (decide (d = e))) := by
  have key : ∀ b, (u ≠ .nilIface ∨ v ≠ .nilIface) → ((∃ t1 u1, u = .iface t1 u1) ∨ u = .nilIface) → ((∃ t1 u1, v = .iface t1 u1) ∨ v = .nilIface) → (∀ w1, Eqv w w1 → (binOp .eql t u v).run P w1 = .ok (.bool b) w1) → Yld P N w ⟨dd, .binOp .eql t x y t', ty, pos, af, none⟩ L (.bool b) := fun b hn hu hv hb => fun a w1 hw ha => by
    refine exec_bin (ha.ev hx) (ha.ev hy) ?_ (hb w1 hw)
    unfold eqGuard
    rcases hu with ⟨t1, u1, rfl⟩ | rfl <;> rcases hv with ⟨t2, u2, rfl⟩ | rfl <;> first | rfl | simp at hn
  have nl : ∀ tp q w1, (binOp .eql t .nilIface (.iface tp q)).run P w1 = .ok (.bool false) w1 := fun tp q w1 => run_eql_iface_nil_left w1 tp q h
  have nr : ∀ tp q w1, (binOp .eql t (.iface tp q) .nilIface).run P w1 = .ok (.bool false) w1 := fun tp q w1 => by
    have h2 : (Op.equal t (.iface tp q) .nilIface).run P w1 = .ok false w1 := run_equal_of fun d => by simp [Op.equalIn, run_underlying h]
    simp [binOp, h2]
  have ne : ∀ tp q tp' q' w1, tp ≠ tp' → (binOp .eql t (.iface tp q) (.iface tp' q')).run P w1 = .ok (.bool false) w1 := fun tp q tp' q' w1 hne => by
    have h2 : (Op.equal t (.iface tp q) (.iface tp' q')).run P w1 = .ok false w1 := run_equal_of fun d => by simp [Op.equalIn, run_underlying h, hne]
    simp [binOp, h2]
  have tne : (217 : Nat) ≠ 130 := by decide
  cases d with
  | ok =>
    obtain rfl : u = .nilIface := hD
    cases e with
    | ok => exact absurd ⟨rfl, rfl⟩ h0
    | e n => obtain ⟨a, rfl⟩ := ErV.iface hE.1; exact key false (by simp) (by simp) (by simp) fun w1 _ => nl _ _ w1
    | at_ p n => obtain ⟨b, u, rfl, _⟩ := hE; exact key false (by simp) (by simp) (by simp) fun w1 _ => nl _ _ w1
  | e m =>
    cases e with
    | ok => obtain ⟨a, rfl⟩ := ErV.iface hD.1; obtain rfl : v = .nilIface := hE; exact key false (by simp) (by simp) (by simp) fun w1 _ => nr _ _ w1
    | e n =>
      have hD' := hD.1
      have hE' := hE.1
      obtain ⟨g, tx, a, k1, k2, k3, rfl, k5, c, e', k6⟩ := hD.1
      obtain ⟨g', tx', a', l1, l2, l3, rfl, l5, c', e'', l6⟩ := hE.1
      by_cases haa : a = a'
      · subst haa
        have hmn : m = n := ErV.inj hD' hE'
        subst hmn
        rw [decide_eq_true rfl]
        exact key true (by simp) (by simp) (by simp) fun w1 hw => run_eql_iface_ptr_same w1 a h hp hinfo hcomp hte
      · have hmn : ¬ (Er.e m = Er.e n) := fun hh => by
          cases hh
          have := ErV.uniq hD' hE'
          simp only [Value.iface.injEq, true_and, Value.pointer.injEq, Option.some.injEq] at this
          exact haa this
        rw [decide_eq_false hmn]
        exact key false (by simp) (by simp) (by simp) fun w1 hw => run_eql_iface_ptr_other w1 h hp hinfo hcomp hte hsz haa (by rw [hw.heap]; exact k6) (by rw [hw.heap]; exact l6)
    | at_ p n => obtain ⟨a, rfl⟩ := ErV.iface hD.1; obtain ⟨b, u, rfl, _⟩ := hE; exact key false (by simp) (by simp) (by simp) fun w1 _ => ne _ _ _ _ w1 tne
  | at_ p m =>
    obtain ⟨b, u', rfl, _⟩ := hD
    cases e with
    | ok => obtain rfl : v = .nilIface := hE; exact key false (by simp) (by simp) (by simp) fun w1 _ => nr _ _ w1
    | e n => obtain ⟨a, rfl⟩ := ErV.iface hE.1; exact key false (by simp) (by simp) (by simp) fun w1 _ => ne _ _ _ _ w1 tne.symm
    | at_ p' n => rcases h1 with h1 | h1 <;> exact absurd rfl (h1 _ _)
end
/-- the variable n, read -/
theorem ErV.read {w : World} {v u : Value} {n g : Nat} (h : ErV w v n) (hg : eglob[n]? = some (some g)) (hu : w.cell? ⟨g, 0, none⟩ = some u) : u = v := by
  obtain ⟨g', t, a, h1, h2, h3, h4, h5⟩ := h
  have e1 := Option.some.inj (Option.some.inj (h1.symm.trans hg))
  subst e1
  exact Option.some.inj (hu.symm.trans h3)
theorem GOK.get {w : World} (h : GOK S w) (n g : Nat) (hS : n ∈ S) (hl : Nat.blt n 17 = true) (hg : eglob[n]? = some (some g)) : ∃ v, w.cell? ⟨g, 0, none⟩ = some v ∧ ErrR S w v (.e n) := by
  obtain ⟨v, hv⟩ := h.er n hS (by simpa [Nat.blt_eq] using hl)
  obtain ⟨g', t, a, h1, h2, h3, h4, h5⟩ := id hv
  have e1 := Option.some.inj (Option.some.inj (h1.symm.trans hg))
  subst e1
  exact ⟨v, h3, hv, hS⟩
theorem ErrR.cell {w : World} {v : Value} {n g : Nat} (h : ErrR S w v (.e n)) (hg : eglob[n]? = some (some g)) : w.cell? ⟨g, 0, none⟩ = some v := by
  obtain ⟨⟨g', t, a, h1, h2, h3, h4, h5⟩, _⟩ := h
  have e1 := Option.some.inj (Option.some.inj (h1.symm.trans hg))
  subst e1
  exact h3
theorem noC {u : Value} {us : List Value} (h : ∀ x, u ≠ vd x) (t : ∀ v ∈ us, ∀ x, v ≠ vd x) : ∀ v ∈ u :: us, ∀ x, v ≠ vd x := fun v hv => by
  rcases List.mem_cons.1 hv with rfl | hv
  · exact h
  · exact t v hv
theorem noN : ∀ v ∈ ([] : List Value), ∀ x, v ≠ vd x := fun _ h => by cases h
theorem esCmp : (Tryd.prog.info? 217).map (·.comparable) = some true := by kernel_rfl
theorem esSz : (Tryd.prog.info? 231).map (fun i => Nat.beq i.size 0) = some false := by kernel_rfl
theorem Yld.erreqA {N : Nat} {L : Slots} {w : World} {ty : TypeId} {pos : String} {af : Array Edge} {dd : Option Tmp} {t' : TypeId} {x y : Operand} {u v : Value} {d e : Er} (hD : ErrR S w u d) (hE : ErrR S w v e)
    (h0 : ¬ (d = .ok ∧ e = .ok) ∧ ((∀ p n, d ≠ .at_ p n) ∨ ∀ p n, e ≠ .at_ p n)) (hx : opv L x = some u) (hy : opv L y = some v) : Yld Tryd.prog N w ⟨dd, .binOp .eql 28 x y t', ty, pos, af, none⟩ L (.bool (decide (d = e))) := by
  have h1 := esCmp
  have h2 := esSz
  rw [Option.map_eq_some_iff] at h1 h2
  obtain ⟨i, h1, h3⟩ := h1
  obtain ⟨j, h2, h4⟩ := h2
  exact Yld.erreq2 Tryd.underlying28 Tryd.underlying217 h1 h3 h2 (Nat.ne_of_beq_eq_false h4) hD hE hx hy h0.1 h0.2
end Go.Proofs.YtilphcippnfklaaDoor
 /- What a row's listed variables give: the errors of api, each at its place. -/
namespace Go.Proofs.YtilphcippnfklaaDoor
open Go Go.RowKit Go.WideShapes Go.ChangeShapes Go.ChangeAt
def ename : List String := ["smithy/api.ErrLex", "smithy/api.ErrParse", "smithy/api.ErrResolve", "smithy/api.ErrDynamic", "smithy/api.ErrCycle", "smithy/api.ErrVisibility", "smithy/api.ErrAnalysis", "smithy/api.ErrLimit", "smithy/api.ErrMissing", "smithy/api.ErrMany", "smithy/api.ErrKind", "smithy/api.ErrPath", "smithy/api.ErrShape", "smithy/api.ErrEnd", "smithy/api.ErrRange", "smithy/api.ErrDown", "smithy/api.ErrFail"]
theorem cellsEs : Tryd.prog.cellsOf 231 = 1 := by kernel_rfl
theorem cellsStr : Tryd.prog.cellsOf 9 = 1 := by kernel_rfl
theorem starEs : "*" ++ "errors.errorString" = "*errors.errorString" := by decide
theorem rowEs (u : TypeId) (h : Tryd.prog.typeName? 3 u = some "*errors.errorString") : u = 217 :=
  typeName_ptr_named (nm := "errors.errorString") (by rw [starEs]; kernel_rfl) (by kernel_rfl) (by decide) u (by rw [starEs]; exact h)
set_option maxRecDepth 100000 in
theorem erv_of_vars {W : World} : ∀ {l : List (String × DataW Unit)} {ps : List MemPlace}, DataW.LaidVars Tryd.prog W l ps → (∀ b off, MemPlace.cell b off ∈ ps → (∃ c t, W.heap[b]? = some (.cells c t (0, 0))) ∧ ∀ u v, W.cell? ⟨b, off, none⟩ = some (.iface u v) → Value.okWide Tryd.prog W .any 0 u v) →
    ∀ nm t g, (nm, DataW.iface "*errors.errorString" (.ptr (.agg [.lit (.string t)]))) ∈ l → Tryd.prog.globalNamed nm = some g → (Tryd.prog.globals[g]?).map (·.type) = some 28 → ∃ a, W.cell? ⟨g, 0, none⟩ = some (.iface 217 (.pointer (some a))) ∧ W.cell? a = some (vs t) ∧ ∃ c e, W.heap[a.block]? = some (.cells c e (0, 0))
  | [], _, _, _, _, _, _, h, _, _ => by cases h
  | (n0, d0) :: r, ps, hL, hok, nm, t, g, h, hg, ht => by
    obtain ⟨g0, t0, cs0, f0, p0, q0, hg0, ht0, hv0, hd0, hr, rfl⟩ := hL
    rcases List.mem_cons.1 h with h | h
    · simp only [Prod.mk.injEq] at h
      obtain ⟨rfl, rfl⟩ := h
      obtain rfl := Option.some.inj (hg.symm.trans hg0)
      obtain rfl := Option.some.inj (ht.symm.trans ht0)
      obtain ⟨l0⟩ := cs0
      have ok0 : ∀ u v, l0 = [.iface u v] → Value.okWide Tryd.prog W .any 0 u v := fun u v e => by
        subst e
        exact (hok g 0 (by simp [MemPlace.row])).2 u v (by simpa using World.var?_cell hg0 hv0 0)
      obtain ⟨a0, s0, rfl, hc0, hs0, hz0, rfl⟩ := errorString_of_trod Tryd.underlying28 rowEs Tryd.underlying217 Tryd.underlying231 rfl rfl Tryd.underlying9 cellsEs cellsStr hd0 ok0
      refine ⟨a0, by simpa using World.var?_cell hg0 hv0 0, ?_, (hok a0.block a0.off (by simp [MemPlace.row])).1⟩
      rw [hc0, ← hs0]
      rfl
    · exact erv_of_vars hr (fun b off hb => hok b off (by simp [hb])) nm t g h hg ht
theorem tab_of_vars {P : Program} {W : World} {name : String} {k : IntKind} {zs : List Int} {g : Nat} {t e : TypeId} {n : Nat}
    (hg : P.globalNamed name = some g) (hty : (P.globals[g]?).map (·.type) = some t) (ht : P.underlying t = some (.array n e)) (he : P.underlying e = some (.int k)) (hce : P.cellsOf e = 1) (hct : P.cellsOf t = n) :
    ∀ {l : List (String × DataW Unit)} {ps : List MemPlace}, DataW.LaidVars P W l ps → (name, Lib.tabData k zs) ∈ l → Lib.TabIs P W name k zs
  | [], _, _, h => by cases h
  | (n0, d0) :: r, ps, hL, h => by
    obtain ⟨g0, t0, cs0, f0, p0, q0, hg0, ht0, hv0, hd0, hr, rfl⟩ := hL
    rcases List.mem_cons.1 h with h | h
    · simp only [Prod.mk.injEq] at h
      obtain ⟨rfl, rfl⟩ := h
      obtain rfl := Option.some.inj (hg.symm.trans hg0)
      obtain rfl := Option.some.inj (hty.symm.trans ht0)
      unfold Lib.TabIs
      rw [hv0, ← Lib.cells_of_tab ht he hce hct hd0]
    · exact tab_of_vars hg hty ht he hce hct hr h
theorem tab_of_laid {P : Program} {W : World} {name : String} {k : IntKind} {zs : List Int} {g : Nat} {t e : TypeId} {n : Nat} {l : List (String × DataW Unit)} (h : laidMetH P l W) (hp : (l.all fun x => x.2.handleName?.isNone) = true)
    (hg : P.globalNamed name = some g) (hty : (P.globals[g]?).map (·.type) = some t) (ht : P.underlying t = some (.array n e)) (he : P.underlying e = some (.int k)) (hce : P.cellsOf e = 1) (hct : P.cellsOf t = n) (hm : (name, Lib.tabData k zs) ∈ l) : Lib.TabIs P W name k zs := by
  rw [MakeChecks.laidMetH_plain _ _ _ hp] at h
  obtain ⟨ps, hL, _⟩ := h
  exact tab_of_vars hg hty ht he hce hct hL hm
def errText? : DataW Unit → Option (List UInt8)
  | .iface n (.ptr (.agg [.lit (.string t)])) => if n == "*errors.errorString" then some t else none
  | _ => none
theorem errText_spec {d : DataW Unit} {t : List UInt8} (h : errText? d = some t) : d = .iface "*errors.errorString" (.ptr (.agg [.lit (.string t)])) := by
  unfold errText? at h
  split at h
  · rename_i n t'
    split at h
    · rename_i hn
      have := eq_of_beq hn
      subst this
      cases h
      rfl
    · cases h
  · cases h
def gokB (P : Program) (S : List Nat) (l : List (String × DataW Unit)) : Bool := S.all fun n => match eglob[n]?, etext[n]?, ename[n]? with
  | some (some g), some t, some nm => decide (P.globalNamed nm = some g) && (decide ((P.globals[g]?).map (·.type) = some 28) && l.any fun x => decide (x.1 = nm) && decide (errText? x.2 = some t))
  | _, _, _ => false
set_option maxRecDepth 100000 in
theorem gok_of_laid {S : List Nat} {W : World} {l : List (String × DataW Unit)} (h : laidMetH Tryd.prog l W) (hp : (l.all fun x => x.2.handleName?.isNone) = true) (hB : gokB Tryd.prog (S.filter fun n => Nat.blt n 17) l = true) (hM : 100 ∈ S → ∃ m, W.cell? ⟨5, 0, none⟩ = some (.int .i64 m)) (hP : 101 ∈ S → Lib.TabIs Tryd.prog W "internal/strconv.uint64pow10" .u64 Lib.pow10Tab) : GOK S W := by
  refine ⟨fun n hn hl => ?_, hM, hP⟩
  rw [MakeChecks.laidMetH_plain _ _ _ hp] at h
  obtain ⟨ps, hL, _, hrows⟩ := h
  have hb := List.all_eq_true.1 hB n (by simp [hn, Nat.blt_eq, hl])
  split at hb
  · rename_i g t nm h1 h2 h3
    simp only [Bool.and_eq_true, decide_eq_true_eq, List.any_eq_true] at hb
    obtain ⟨hg, ht, ⟨n', d'⟩, hm, he1, he2⟩ := hb
    simp only at he1 he2
    subst he1
    rw [errText_spec he2] at hm
    obtain ⟨a, k1, k2⟩ := erv_of_vars hL (fun b off hb => hrows b off hb) _ t g hm hg ht
    exact ⟨_, g, t, a, h1, h2, k1, rfl, k2⟩
  · cases hb
end Go.Proofs.YtilphcippnfklaaDoor

 /- A row that lists variables, for a law that reads a variable of the library's own too: both facts. -/
namespace Go.Proofs.YtilphcippnfklaaDoor
open Go Go.RowKit Go.WideShapes Go.ChangeShapes Go.ChangeAt
theorem handed_both {H : Type} {enc : TypeId × Value → H} {a : Assume} {C : Checked} {os : Os} {f : FuncId} {fn : Func} {s : ChangeSpec} {conds : List PathCond} {apart fresh handsOn again : Bool} {X : World → Array Value → Prop}
    (hX : ∀ (w w' : World) (args : Array Value), w.heap = w'.heap → X w args → X w' args)
    (own : ownKnob C.prog.godebug = none) (started : os.Started) (noInit : C.prog.inits.idxOf? f = none) (hfn : C.prog.funcs[f]? = some fn)
    (wit : ∃ (w : World) (tape : Tape) (i : Input), w.os = os ∧ (w.forCall tape i).Shaped C.prog ∧ i.vars = [] ∧ Input.okWide C.prog (w.forCall tape i) .any w.heap.size f i ∧
      ((s.pre enc C.prog fn conds apart (w.forCall tape i).memory i.args ∧ X (w.forCall tape i).memory i.args) ∧ sizedMet enc C.prog fn (OpenSpec.ofChange s) apart (w.forCall tape i).memory i.args) ∧ a.holds C.prog (lone (Frame.enter C.prog f i.args .normal) [] (w.forCall tape i)))
    (law : ∀ (W : World) (base : Nat) (args : Array Value) (ds gs : List (DataW H)) (before : List MemPlace),
      (∀ (j : Nat) t v, fn.params[j]? = some t → args[j]? = some v → Value.okWide C.prog W .any base t v) →
      DataW.Whole enc C.prog fn.params.toList s.vars apart W args.toList ds gs before → X W args → W.ShapedOpen C.prog →
      Calls C.prog f args W fun e W' => ∃ v, e = .returned v ∧ s.post enc C.prog fn apart fresh handsOn again W args v W') :
    ReturnsInHanded a C os f .any (fun w args => (s.pre enc C.prog fn conds apart w args ∧ X w args) ∧ sizedMet enc C.prog fn (OpenSpec.ofChange s) apart w args) (s.post enc C.prog fn apart fresh handsOn again) := by
  refine returnsInHanded_of_calls own started noInit wit fun w tape i _ hsh _ hok hpre _ => ?_
  obtain ⟨_, _, _, fn', hfn', _, _, _, _, hval⟩ := hok
  obtain rfl : fn' = fn := Option.some.inj (hfn'.symm.trans hfn)
  obtain ⟨⟨⟨ds, gs, before, hw, _⟩, hx⟩, _⟩ := hpre
  refine (law (w.forCall tape i) w.heap.size i.args ds gs before hval (DataW.Whole.of_heap (w' := w.forCall tape i) (by rfl) hw) (hX _ _ _ (by rfl) hx) hsh).mono fun e W' ⟨v, he, hp⟩ => ?_
  subst he
  exact ChangeSpec.post_blind hp
theorem maxLenCell {W : World} (h : W.ShapedOpen Tryd.prog) : ∃ m, W.cell? ⟨5, 0, none⟩ = some (.int .i64 m) :=
  cell_of_shapedOpen_int (P := Tryd.prog) (g := 5) (t := 3) (zero := #[.int .i64 0]) h (of_decide_eq_true (by kernel_rfl)) (by kernel_rfl) rfl (by kernel_rfl) (by kernel_rfl) Tryd.underlying3
end Go.Proofs.YtilphcippnfklaaDoor

 /- More arguments, opened: five and six of them; a struct of two texts. -/
namespace Go.Proofs.YtilphcippnfklaaDoor
open Go Go.RowKit Go.WideShapes Go.ChangeShapes Go.ChangeAt Go.Joins Go.Deep
section
variable {H : Type} {enc : TypeId × Value → H} {P : Program} {w : World} {base : Nat} {spare : Nat → Bool} {held : Bool}
theorem trodAll_five {t0 t1 t2 t3 t4 : TypeId} {args : Array Value} {ds : List (DataW H)} {ps : List MemPlace} (h : DataW.TrodAll enc P w base spare held [t0, t1, t2, t3, t4] args.toList ds ps) :
    ∃ v0 v1 v2 v3 v4 d0 d1 d2 d3 d4 p0 p1 p2 p3 p4, args = #[v0, v1, v2, v3, v4] ∧ ds = [d0, d1, d2, d3, d4] ∧ ps = p0 ++ p1 ++ p2 ++ p3 ++ p4 ∧ DataW.Trod enc P w base spare held t0 v0 d0 p0 ∧ DataW.Trod enc P w base spare held t1 v1 d1 p1 ∧ DataW.Trod enc P w base spare held t2 v2 d2 p2 ∧ DataW.Trod enc P w base spare held t3 v3 d3 p3 ∧ DataW.Trod enc P w base spare held t4 v4 d4 p4 := by
  obtain ⟨v0, u0, d0, e0, p0, q0, hargs, rfl, rfl, h0, k0⟩ := trodAll_cons h
  obtain ⟨v1, u1, d1, e1, p1, q1, rfl, rfl, rfl, h1, k1⟩ := trodAll_cons k0
  obtain ⟨v2, u2, d2, e2, p2, q2, rfl, rfl, rfl, h2, k2⟩ := trodAll_cons k1
  obtain ⟨v3, u3, d3, e3, p3, q3, rfl, rfl, rfl, h3, k3⟩ := trodAll_cons k2
  obtain ⟨v4, u4, d4, e4, p4, q4, rfl, rfl, rfl, h4, k4⟩ := trodAll_cons k3
  obtain ⟨rfl, rfl, rfl⟩ := trodAll_nil k4
  exact ⟨v0, v1, v2, v3, v4, d0, d1, d2, d3, d4, p0, p1, p2, p3, p4, by cases args; simp_all, rfl, by simp, h0, h1, h2, h3, h4⟩
theorem trodAll_six {t0 t1 t2 t3 t4 t5 : TypeId} {args : Array Value} {ds : List (DataW H)} {ps : List MemPlace} (h : DataW.TrodAll enc P w base spare held [t0, t1, t2, t3, t4, t5] args.toList ds ps) :
    ∃ v0 v1 v2 v3 v4 v5 d0 d1 d2 d3 d4 d5 p0 p1 p2 p3 p4 p5, args = #[v0, v1, v2, v3, v4, v5] ∧ ds = [d0, d1, d2, d3, d4, d5] ∧ ps = p0 ++ p1 ++ p2 ++ p3 ++ p4 ++ p5 ∧ DataW.Trod enc P w base spare held t0 v0 d0 p0 ∧ DataW.Trod enc P w base spare held t1 v1 d1 p1 ∧ DataW.Trod enc P w base spare held t2 v2 d2 p2 ∧ DataW.Trod enc P w base spare held t3 v3 d3 p3 ∧ DataW.Trod enc P w base spare held t4 v4 d4 p4 ∧ DataW.Trod enc P w base spare held t5 v5 d5 p5 := by
  obtain ⟨v0, u0, d0, e0, p0, q0, hargs, rfl, rfl, h0, k0⟩ := trodAll_cons h
  obtain ⟨v1, u1, d1, e1, p1, q1, rfl, rfl, rfl, h1, k1⟩ := trodAll_cons k0
  obtain ⟨v2, u2, d2, e2, p2, q2, rfl, rfl, rfl, h2, k2⟩ := trodAll_cons k1
  obtain ⟨v3, u3, d3, e3, p3, q3, rfl, rfl, rfl, h3, k3⟩ := trodAll_cons k2
  obtain ⟨v4, u4, d4, e4, p4, q4, rfl, rfl, rfl, h4, k4⟩ := trodAll_cons k3
  obtain ⟨v5, u5, d5, e5, p5, q5, rfl, rfl, rfl, h5, k5⟩ := trodAll_cons k4
  obtain ⟨rfl, rfl, rfl⟩ := trodAll_nil k5
  exact ⟨v0, v1, v2, v3, v4, v5, d0, d1, d2, d3, d4, d5, p0, p1, p2, p3, p4, p5, by cases args; simp_all, rfl, by simp, h0, h1, h2, h3, h4, h5⟩
theorem open_two {r : Reach} {b0 : Nat} {t : TypeId} {f0 f1 : Field} {v : Value} {d : DataW H} {p : List MemPlace} (hs : P.underlying t = some (.struct #[f0, f1])) (hone : oneCellFields P #[f0, f1] = true) (hC : P.cellsOf t = 2) (h0 : P.underlying f0.type = some .string) (h1 : P.underlying f1.type = some .string)
    (hv : Value.okWide P w r b0 t v) (h : DataW.Trod enc P w base spare held t v d p) : ∃ a b : List UInt8, v = .agg ⟨[vs a, vs b]⟩ ∧ a.length ≤ maxLen ∧ b.length ≤ maxLen := by
  obtain ⟨v0, v1, y0, y1, n, rfl, _, _, k0, k1⟩ := open_agg2 hs hone hC hv h
  obtain ⟨s0, e0, _, l0⟩ := DataW.trod_string h0 k0
  obtain ⟨s1, e1, _, l1⟩ := DataW.trod_string h1 k1
  simp only [List.cons.injEq, and_true] at e0 e1
  subst e0; subst e1
  obtain ⟨⟨a⟩⟩ := s0
  obtain ⟨⟨b⟩⟩ := s1
  exact ⟨a, b, rfl, l0, l1⟩
end
end Go.Proofs.YtilphcippnfklaaDoor

 /- Texts in order, each once: plain, no program. -/
namespace Go.Proofs.YtilphcippnfklaaDoor
open Go
abbrev Bs := List UInt8
theorem bs_lt_or (a b : Bs) : a < b ∨ a = b ∨ b < a := by
  by_cases h : a < b
  · exact .inl h
  · by_cases k : b < a
    · exact .inr (.inr k)
    · exact .inr (.inl (List.le_antisymm (List.not_lt.1 k) (List.not_lt.1 h)))
theorem bs_lt_of {a b : Bs} (h : a ≤ b) (hne : a ≠ b) : a < b := by
  rcases bs_lt_or a b with h1 | h1 | h1
  · exact h1
  · exact absurd h1 hne
  · exact absurd h1 (List.not_lt.2 h)
theorem bs_le_lt {a b c : Bs} (h : a ≤ b) (k : b < c) : a < c := by
  by_cases e : a = b
  · rw [e]; exact k
  · exact List.lt_trans (bs_lt_of h e) k
def Strict (l : List Bs) : Prop := l.Pairwise (· < ·)
theorem Strict.nodup {l : List Bs} (h : Strict l) : l.Nodup := List.Pairwise.imp (fun {a b} (hab : a < b) (e : a = b) => List.lt_irrefl b (e ▸ hab)) h
theorem strict_uniq : ∀ {a b : List Bs}, Strict a → Strict b → (∀ x, x ∈ a ↔ x ∈ b) → a = b
  | [], [], _, _, _ => rfl
  | [], y :: b, _, _, h => by have := (h y).2 (by simp); simp at this
  | x :: a, [], _, _, h => by have := (h x).1 (by simp); simp at this
  | x :: a, y :: b, ha, hb, h => by
    have ha' := List.pairwise_cons.1 ha
    have hb' := List.pairwise_cons.1 hb
    have hxy : x = y := by
      rcases List.mem_cons.1 ((h x).1 (by simp)) with e | hx
      · exact e
      · rcases List.mem_cons.1 ((h y).2 (by simp)) with e | hy
        · exact e.symm
        · exact absurd (ha'.1 y hy) (List.lt_asymm (hb'.1 x hx))
    subst hxy
    rw [strict_uniq ha'.2 hb'.2 (fun z => ?_)]
    constructor
    · intro hz
      rcases List.mem_cons.1 ((h z).1 (by simp [hz])) with e | hz'
      · subst e; exact absurd (ha'.1 z hz) (List.lt_irrefl z)
      · exact hz'
    · intro hz
      rcases List.mem_cons.1 ((h z).2 (by simp [hz])) with e | hz'
      · subst e; exact absurd (hb'.1 z hz) (List.lt_irrefl z)
      · exact hz'
def sortB (l : List Bs) : List Bs := l.mergeSort fun x y => decide (x ≤ y)
theorem sortB_le (l : List Bs) : (sortB l).Pairwise (· ≤ ·) := by
  have h := List.pairwise_mergeSort (le := fun (x y : Bs) => decide (x ≤ y)) (fun a b c h k => by
    simp only [decide_eq_true_eq] at h k ⊢
    exact List.le_trans h k) (fun a b => by
    simp only [Bool.or_eq_true, decide_eq_true_eq]
    exact List.le_total a b) l
  exact h.imp fun h => by simpa using h
theorem sortB_mem (l : List Bs) (x : Bs) : x ∈ sortB l ↔ x ∈ l := (List.mergeSort_perm l _).mem_iff
theorem compactUpTo_strict {ys : List Bs} (h : ys.Pairwise (· ≤ ·)) : ∀ m, m ≤ ys.length → Strict (Lib.compactUpTo ys.toArray m) ∧ ∀ x, x ∈ Lib.compactUpTo ys.toArray m ↔ x ∈ ys.take m
  | 0, _ => ⟨List.Pairwise.nil, fun x => by simp [Lib.compactUpTo]⟩
  | m + 1, hm => by
    obtain ⟨h1, h2⟩ := compactUpTo_strict h m (by omega)
    have hget : ∀ i, i < ys.length → ys.toArray[i]! = ys.getD i [] := fun i hi => by simp [List.getD, hi]
    have hlast : ys.take (m + 1) = ys.take m ++ [ys.getD m []] := by rw [List.take_succ_eq_append_getElem (by omega)]; simp [List.getD, show m < ys.length by omega]
    rw [Lib.compactUpTo_succ, hlast, hget m (by omega)]
    cases hk : Lib.keeps ys.toArray m with
    | true =>
      simp only [if_true]
      refine ⟨List.pairwise_append.2 ⟨h1, List.pairwise_singleton _ _, fun x hx y hy => ?_⟩, fun x => by rw [List.mem_append, List.mem_append, h2]⟩
      simp only [List.mem_singleton] at hy
      subst hy
      have hx' := (h2 x).1 hx
      obtain ⟨i, hi, he⟩ := List.getElem_of_mem hx'
      simp only [List.length_take] at hi
      simp only [List.getElem_take] at he
      have hpw := List.pairwise_iff_getElem.1 h
      have h0 : m ≠ 0 := by omega
      simp only [Lib.keeps, h0, false_or, decide_eq_true_eq, ne_eq] at hk
      rw [hget m (by omega), hget (m - 1) (by omega)] at hk
      have hle : x ≤ ys.getD (m - 1) [] := by
        have e1 : ys.getD (m - 1) [] = ys[m - 1]'(by omega) := by simp [List.getD, show m - 1 < ys.length by omega]
        rw [e1, ← he]
        by_cases e : i = m - 1
        · subst e; exact List.le_refl _
        · exact hpw i (m - 1) (by omega) (by omega) (by omega)
      refine bs_le_lt hle (bs_lt_of ?_ (fun e => hk e.symm))
      have e1 : ys.getD (m - 1) [] = ys[m - 1]'(by omega) := by simp [List.getD, show m - 1 < ys.length by omega]
      have e2 : ys.getD m [] = ys[m]'(by omega) := by simp [List.getD, show m < ys.length by omega]
      rw [e1, e2]
      exact hpw (m - 1) m (by omega) (by omega) (by omega)
    | false =>
      simp only [Bool.false_eq_true, if_false, List.append_nil]
      refine ⟨h1, fun x => ?_⟩
      rw [h2, List.mem_append]
      refine ⟨.inl, fun hx => hx.elim id fun hx => ?_⟩
      simp only [List.mem_singleton] at hx
      subst hx
      simp only [Lib.keeps, decide_eq_false_iff_not, not_or, ne_eq, Classical.not_not] at hk
      have h0 : m ≠ 0 := hk.1
      have he := hk.2
      rw [hget m (by omega), hget (m - 1) (by omega)] at he
      rw [he]
      have : ys.getD (m - 1) [] = (ys.take m)[m - 1]'(by simp; omega) := by simp [List.getD, show m - 1 < ys.length by omega]
      rw [this]
      exact List.getElem_mem _
/-- sorted, each once -/
def sortU (l : List Bs) : List Bs := Lib.compact (sortB l)
theorem sortU_strict (l : List Bs) : Strict (sortU l) := (compactUpTo_strict (sortB_le l) _ (Nat.le_refl _)).1
theorem sortU_mem (l : List Bs) (x : Bs) : x ∈ sortU l ↔ x ∈ l := by
  have := (compactUpTo_strict (sortB_le l) _ (Nat.le_refl _)).2 x
  rw [List.take_length, sortB_mem] at this
  exact this
theorem sortU_of {a l : List Bs} (h : Strict a) (k : ∀ x, x ∈ a ↔ x ∈ l) : a = sortU l := strict_uniq h (sortU_strict l) fun x => (k x).trans (sortU_mem l x).symm
theorem sortU_filter (l : List Bs) (p : Bs → Bool) : sortU (l.filter p) = (sortU l).filter p := (sortU_of (List.Pairwise.filter p (sortU_strict l)) fun x => by
  rw [List.mem_filter, List.mem_filter, sortU_mem]).symm
theorem compactUpTo_len {α : Type} [Inhabited α] [DecidableEq α] (d : Array α) (m : Nat) : (Lib.compactUpTo d m).length ≤ m := by
  unfold Lib.compactUpTo
  rw [List.length_map]
  exact Nat.le_trans (List.length_filter_le _ _) (by simp)
theorem sortU_length (l : List Bs) : (sortU l).length ≤ l.length := by
  have h := compactUpTo_len (sortB l).toArray (sortB l).length
  have h2 : (sortB l).length = l.length := List.length_mergeSort l
  unfold sortU Lib.compact
  omega
/-- laid in where it belongs -/
theorem strict_insert {out : List Bs} {x : Bs} {k : Nat} (h : Strict out) (hk : k ≤ out.length) (h1 : ∀ j, j < k → out.getD j [] < x) (h2 : k < out.length → x < out.getD k []) : Strict (out.take k ++ ([x] ++ out.drop k)) := by
  have hp := List.pairwise_iff_getElem.1 h
  refine List.pairwise_append.2 ⟨List.Pairwise.take h, List.pairwise_append.2 ⟨List.pairwise_singleton _ _, List.Pairwise.drop h, fun a ha b hb => ?_⟩, fun a ha b hb => ?_⟩
  · simp only [List.mem_singleton] at ha
    subst ha
    obtain ⟨i, hi, rfl⟩ := List.getElem_of_mem hb
    simp only [List.length_drop] at hi
    rw [List.getElem_drop]
    have hk' : k < out.length := by omega
    have e : out.getD k [] = out[k] := by simp [List.getD, hk']
    have h3 := h2 hk'
    rw [e] at h3
    by_cases h0 : i = 0
    · subst h0; exact h3
    · exact List.lt_trans h3 (hp k (k + i) hk' (by omega) (by omega))
  · obtain ⟨i, hi, rfl⟩ := List.getElem_of_mem ha
    simp only [List.length_take] at hi
    rw [List.getElem_take]
    have h3 : out[i]'(by omega) < x := by
      have := h1 i (by omega)
      rwa [show out.getD i [] = out[i]'(by omega) by simp [List.getD, show i < out.length by omega]] at this
    rcases List.mem_append.1 hb with hb | hb
    · simp only [List.mem_singleton] at hb
      subst hb; exact h3
    · obtain ⟨j, hj, rfl⟩ := List.getElem_of_mem hb
      simp only [List.length_drop] at hj
      rw [List.getElem_drop]
      exact hp i (k + j) (by omega) (by omega) (by omega)
end Go.Proofs.YtilphcippnfklaaDoor

 /- Lines, plainly; sorting, plainly. -/
namespace Go.Proofs.YtilphcippnfklaaDoor
open Go Go.RowKit
/-- a text between the bytes c -/
def cutC (c : UInt8) : Bs → List Bs
  | [] => [[]]
  | x :: s => if x = c then [] :: cutC c s else match cutC c s with
    | [] => [[x]]
    | h :: t => (x :: h) :: t
theorem cutC_ne (c : UInt8) (s : Bs) : cutC c s ≠ [] := by
  cases s with
  | nil => simp [cutC]
  | cons x s =>
    unfold cutC
    split
    · simp
    · split <;> simp
theorem split_cutC (d : UInt8) : ∀ s : Bs, Lib.split s [d] = cutC d s
  | [] => by simp [Lib.split, Lib.count_miss, Lib.index, Lib.splitK, cutC]
  | c :: s => by
    have ih := split_cutC d s
    unfold Lib.split at ih ⊢
    by_cases hc : c = d
    · subst hc
      have hix : Lib.index (c :: s) [c] = 0 := by rw [Lib.index]; simp [List.isPrefixOf]
      rw [Lib.count_cons_eq, Nat.add_comm, Lib.splitK, if_neg (by rw [hix]; decide), hix]
      simp only [cutC, if_true]
      rw [← ih]
      simp
    · have hp : ([d] : List UInt8).isPrefixOf (c :: s) = false := by simp [List.isPrefixOf, Ne.symm hc]
      have hix : Lib.index (c :: s) [d] = if Lib.index s [d] == -1 then -1 else Lib.index s [d] + 1 := by rw [Lib.index, hp]; simp
      rw [Lib.count_cons_ne c d s hc]
      simp only [cutC, if_neg hc]
      rw [← ih]
      cases hk : Lib.count s [d] with
      | zero => simp [Lib.splitK]
      | succ k =>
        have hne : Lib.index s [d] ≠ -1 := fun e => by rw [Lib.count_miss e] at hk; cases hk
        have hge := Lib.index_ge s [d]
        obtain ⟨j, hj⟩ : ∃ j : Nat, Lib.index s [d] = j := ⟨(Lib.index s [d]).toNat, by omega⟩
        have hix' : Lib.index (c :: s) [d] = ((j + 1 : Nat) : Int) := by rw [hix, if_neg (fun e => hne (beq_iff_eq.1 e)), hj]; omega
        rw [Lib.splitK, Lib.splitK, if_neg (fun e => hne (beq_iff_eq.1 e)), if_neg (by rw [hix']; simp; omega), hix', hj]
        simp
/-- a text's lines -/
def lineR : Bs → List Bs
  | [] => []
  | x :: s => if x = 10 then [] :: lineR s else match lineR s with
    | [] => [[x]]
    | h :: t => (x :: h) :: t
theorem suffix_one (x : UInt8) : ∀ s : Bs, s ≠ [] → Lib.hasSuffix (x :: s) [10] = Lib.hasSuffix s [10] := by
  intro s hs
  unfold Lib.hasSuffix
  rw [Bool.eq_iff_iff, List.isSuffixOf_iff_suffix, List.isSuffixOf_iff_suffix, List.suffix_cons_iff]
  constructor
  · rintro (h | h)
    · cases s with
      | nil => exact absurd rfl hs
      | cons y s => cases h
    · exact h
  · exact .inr
theorem trim_cons (x : UInt8) {s : Bs} (hs : s ≠ []) : Lib.trimSuffix (x :: s) [10] = x :: Lib.trimSuffix s [10] := by
  unfold Lib.trimSuffix
  rw [suffix_one x s hs]
  have hl : 0 < s.length := List.length_pos_iff.2 hs
  split
  · rw [show (x :: s).length - ([10] : Bs).length = (s.length - ([10] : Bs).length) + 1 by simp; omega]
    rfl
  · rfl
theorem lineR_cut : ∀ s : Bs, lineR s = if s = [] then [] else cutC 10 (Lib.trimSuffix s [10])
  | [] => by simp [lineR]
  | x :: s => by
    rw [if_neg (by simp)]
    have ih := lineR_cut s
    by_cases hs : s = []
    · subst hs
      by_cases hx : x = 10
      · subst hx; decide
      · have : Lib.hasSuffix [x] [10] = false := by
          unfold Lib.hasSuffix
          rw [← Bool.not_eq_true, List.isSuffixOf_iff_suffix]
          intro h
          have := h.eq_of_length rfl
          simp at this
          exact hx this.symm
        unfold Lib.trimSuffix
        rw [this]
        simp [lineR, cutC, hx]
    · rw [if_neg hs] at ih
      rw [trim_cons x hs]
      unfold lineR cutC
      rw [ih]
def cutO (s : Bs) (k : Nat) : Prop := ∀ j, j < k → s.getD j 0 ≠ 10
theorem lineR_hit : ∀ (a t : Bs), (10 : UInt8) ∉ a → lineR (a ++ 10 :: t) = a :: lineR t
  | [], t, _ => by simp [lineR]
  | x :: a, t, h => by
    have hx : x ≠ 10 := fun e => h (by simp [e])
    have ih := lineR_hit a t fun hm => h (by simp [hm])
    rw [List.cons_append, lineR, if_neg hx, ih]
theorem lineR_last : ∀ {a : Bs}, (10 : UInt8) ∉ a → a ≠ [] → lineR a = [a]
  | [], _, h => absurd rfl h
  | x :: a, h, _ => by
    have hx : x ≠ 10 := fun e => h (by simp [e])
    by_cases ha : a = []
    · subst ha; simp [lineR, hx]
    · rw [lineR, if_neg hx, lineR_last (fun hm => h (by simp [hm])) ha]
theorem lineR_free : ∀ (s x : Bs), x ∈ lineR s → (10 : UInt8) ∉ x
  | [], x, h => by simp [lineR] at h
  | c :: s, x, h => by
    unfold lineR at h
    split at h
    · rcases List.mem_cons.1 h with h | h
      · subst h; simp
      · exact lineR_free s x h
    · rename_i hc
      split at h
      · simp at h; subst h; simpa using Ne.symm hc
      · rename_i y t e
        have ih := lineR_free s
        rw [e] at ih
        rcases List.mem_cons.1 h with h | h
        · subst h
          have := ih y (by simp)
          simp [this, Ne.symm hc]
        · exact ih x (by simp [h])
/-- lines, each with a newline -/
def jn (l : List Bs) : Bs := l.flatMap fun x => x ++ [10]
theorem lineR_jn : ∀ (l : List Bs), (∀ x ∈ l, (10 : UInt8) ∉ x) → lineR (jn l) = l
  | [], _ => rfl
  | x :: l, h => by
    have ih := lineR_jn l fun y hy => h y (by simp [hy])
    have e : jn (x :: l) = x ++ 10 :: jn l := by simp [jn]
    rw [e, lineR_hit x _ (h x (by simp)), ih]
def wtL (l : List Bs) : Nat := (l.map fun x => x.length + 1).sum
theorem jn_length (l : List Bs) : (jn l).length = wtL l := by
  induction l with
  | nil => rfl
  | cons x l ih => simp only [jn, wtL, List.flatMap_cons, List.length_append, List.map_cons, List.sum_cons, List.length_cons, List.length_nil] at ih ⊢; omega
theorem lineR_wt : ∀ s : Bs, wtL (lineR s) ≤ s.length + 1
  | [] => by simp [lineR, wtL]
  | c :: s => by
    have ih := lineR_wt s
    unfold lineR
    split
    · simp only [wtL, List.map_cons, List.sum_cons, List.length_nil, List.length_cons] at ih ⊢; omega
    · split
      · simp [wtL]
      · rename_i h t e
        rw [e] at ih
        simp only [wtL, List.map_cons, List.sum_cons, List.length_cons] at ih ⊢; omega
theorem wtL_app (a b : List Bs) : wtL (a ++ b) = wtL a + wtL b := by simp [wtL]
theorem wtL_perm {a b : List Bs} (h : a.Perm b) : wtL a = wtL b := (h.map _).sum_nat
theorem wtL_mem {a : List Bs} {x : Bs} (h : x ∈ a) : x.length + 1 ≤ wtL a := by
  induction a with
  | nil => cases h
  | cons y a ih =>
    rcases List.mem_cons.1 h with h | h
    · subst h; simp only [wtL, List.map_cons, List.sum_cons]; omega
    · have := ih h; simp only [wtL, List.map_cons, List.sum_cons] at this ⊢; omega
theorem wtL_len (a : List Bs) : a.length ≤ wtL a := by
  induction a with
  | nil => simp [wtL]
  | cons y a ih => simp only [wtL, List.map_cons, List.sum_cons, List.length_cons] at ih ⊢; omega
def linesA (l : List Bs) : List Bs := l.flatMap lineR
/-! sorting -/
theorem sorted_uniq : ∀ {a b : List Bs}, a.Pairwise (· ≤ ·) → b.Pairwise (· ≤ ·) → a.Perm b → a = b
  | [], b, _, _, h => h.nil_eq.symm ▸ rfl
  | x :: a, [], _, _, h => absurd h.eq_nil (by simp)
  | x :: a, y :: b, ha, hb, h => by
    have ha' := List.pairwise_cons.1 ha
    have hb' := List.pairwise_cons.1 hb
    have h1 : y ≤ x := by
      rcases List.mem_cons.1 (h.mem_iff.1 (List.mem_cons_self (a := x) (l := a))) with e | e
      · rw [e]; exact List.le_refl _
      · exact hb'.1 x e
    have h2 : x ≤ y := by
      rcases List.mem_cons.1 (h.mem_iff.2 (List.mem_cons_self (a := y) (l := b))) with e | e
      · rw [e]; exact List.le_refl _
      · exact ha'.1 y e
    obtain rfl : x = y := List.le_antisymm h2 h1
    rw [sorted_uniq ha'.2 hb'.2 h.cons_inv]
theorem sortB_perm (l : List Bs) : (sortB l).Perm l := List.mergeSort_perm l _
theorem sortB_of {a l : List Bs} (h : a.Pairwise (· ≤ ·)) (k : a.Perm l) : a = sortB l := sorted_uniq h (sortB_le l) (k.trans (sortB_perm l).symm)
theorem sortB_congr {a b : List Bs} (h : a.Perm b) : sortB a = sortB b := sortB_of (sortB_le a) ((sortB_perm a).trans h)
theorem sortB_sortB (l : List Bs) : sortB (sortB l) = sortB l := sortB_congr (sortB_perm l)
theorem sortU_sortB (l : List Bs) : sortU (sortB l) = sortU l := by unfold sortU; rw [sortB_sortB]
theorem filter_perm (p : Bs → Bool) (l : List Bs) : (l.filter p ++ l.filter fun x => !p x).Perm l := by
  induction l with
  | nil => exact List.Perm.nil
  | cons x l ih =>
    cases h : p x with
    | true => simp only [List.filter_cons, h, if_true, Bool.not_true, Bool.false_eq_true, if_false, List.cons_append]; exact ih.cons x
    | false => simp only [List.filter_cons, h, Bool.false_eq_true, if_false, Bool.not_false, if_true]; exact List.perm_middle.trans (ih.cons x)
end Go.Proofs.YtilphcippnfklaaDoor

 /-
  DERIVED: THE SHELF's CONTRACTS AT THIS DUMP, IN PLAIN WORDS (tools/lay-plain.mjs out of 'TrydShelf.lean', which tools/lay-shelf.mjs wrote): THE SAME DECLARATIONS UNDER THE SAME NAMES: 'import', 'namespace', 'open', 'def', 'theorem' AND NOTHING ELSE: no command of the shelf's: FOR A HAND-IN. Each laying: the table of numbers ('.._ren') and one theorem, a field a fact of the dump's own or the kernel's comparison; each contract: ONE APPLICATION.
-/
namespace Go.Proofs
open Go.Shelf
def Tryd.sorted136_ren : Go.Shelf.Ren := ⟨fun | 6 => 136 | 8 => 161 | 9 => 99 | 11 => 181 | 13 => 122 | 12 => 121 | 23 => 154 | 24 => 155 | 14 => 145 | 15 => 146 | 16 => 147 | 17 => 148 | 18 => 149 | 19 => 150 | 20 => 151 | 21 => 152 | 22 => 153 | 25 => 169 | 26 => 170 | 27 => 171 | 28 => 172 | 29 => 173 | 30 => 174 | 31 => 187 | n => n, fun | 26 => 9 | 28 => 172 | 24 => 23 | 0 => 0 | 3 => 3 | 37 => 92 | 48 => 98 | 50 => 99 | 4 => 4 | 40 => 180 | 39 => 179 | 45 => 183 | 5 => 5 | 9 => 9 | 51 => 197 | 55 => 201 | 57 => 207 | 58 => 208 | 33 => 129 | n => n, fun | n => n⟩
theorem Tryd.sorted136 : Go.Proofs.SlLaysZ.n6 Tryd.prog Tryd.sorted136_ren := {
  mixed := by kernel_rfl
  f6 := ⟨Tryd.f136.name, by decide, Tryd.func136.trans (congrArg some (by kernel_rfl))⟩
  f8 := ⟨Tryd.f161.name, by decide, Tryd.func161.trans (congrArg some (by kernel_rfl))⟩
  f11 := ⟨Tryd.f181.name, by decide, Tryd.func181.trans (congrArg some (by kernel_rfl))⟩
  t0 := Tryd.underlying0
  a0 := Tryd.isAgg0
  z0 := Tryd.sizeOf0
  v0 := Tryd.zeroValue0
  t24 := Tryd.underlying23
  a24 := Tryd.isAgg23
  z24 := Tryd.sizeOf23
  v24 := Tryd.zeroValue23
  t26 := Tryd.underlying9
  a26 := Tryd.isAgg9
  z26 := Tryd.sizeOf9
  v26 := Tryd.zeroValue9
  t28 := Tryd.underlying172
  a28 := Tryd.isAgg172
  z28 := Tryd.sizeOf172
  v28 := Tryd.zeroValue172
  i26 := by kernel_rfl }
def Tryd.lays169_ren : Go.Shelf.Ren := ⟨fun | 169 => 116 | n => n, fun | 70 => 147 | 9 => 9 | 0 => 0 | 72 => 149 | 37 => 22 | 127 => 174 | 3 => 3 | 5 => 5 | n => n, fun | n => n⟩
theorem Tryd.lays169 : Go.Proofs.Lays.n169 Tryd.prog Tryd.lays169_ren := {
  mixed := by kernel_rfl
  f169 := Tryd.func116.trans (congrArg some (by kernel_rfl))
  t0 := Tryd.underlying0
  a0 := Tryd.isAgg0
  z0 := Tryd.sizeOf0
  v0 := Tryd.zeroValue0
  t3 := Tryd.underlying3
  a3 := Tryd.isAgg3
  z3 := Tryd.sizeOf3
  v3 := Tryd.zeroValue3
  t9 := Tryd.underlying9
  a9 := Tryd.isAgg9
  z9 := Tryd.sizeOf9
  v9 := Tryd.zeroValue9
  t37 := Tryd.underlying22
  a37 := Tryd.isAgg22
  z37 := Tryd.sizeOf22
  v37 := Tryd.zeroValue22
  t70 := Tryd.underlying147
  a70 := Tryd.isAgg147
  z70 := Tryd.sizeOf147
  v70 := Tryd.zeroValue147
  t72 := Tryd.underlying149
  a72 := Tryd.isAgg149
  z72 := Tryd.sizeOf149
  v72 := Tryd.zeroValue149
  t127 := Tryd.underlying174
  a127 := Tryd.isAgg174
  z127 := Tryd.sizeOf174
  v127 := Tryd.zeroValue174 }
theorem Tryd.Builder_Extra_169 : Builder.Extra Tryd.prog Tryd.lays169_ren := {
  sizeBuilder := by kernel_rfl
  liesBuilder := by kernel_rfl
  t5 := Tryd.underlying5
  a5 := Tryd.isAgg5
  z5 := Tryd.sizeOf5
  v5 := Tryd.zeroValue5
  infoByte := by kernel_rfl
  cellsByte := by kernel_rfl
  sizeByte := by kernel_rfl
  neB5 := by decide }
open Go.RowKit in
/-- (*strings.Builder).String: "String returns the accumulated string.": OF A BUILDER THAT HOLDS AT LEAST ONE BYTE. ✋ THE MODEL FREEZES THOSE BYTES IN THE BUFFER (unsafe.String): a later write INTO them ends the model's run without an answer; a later append BEHIND them goes on. The statement's order of evaluation is drawn: one draw. (LAID: no walk: one application.) -/
theorem Tryd.Builder_String (B b : Nat) (l : List UInt8) (w : World) (h : Lib.IsBuilder 149 5 B b (Lib.byteCells l) w) (h0 : l ≠ []) :
    Calls Tryd.prog 116 #[.pointer (some ⟨b, 0, none⟩)] w fun e w' => e = .returned (.string ⟨l.toArray⟩) ∧ Below B w w' := Any.Builder_String Tryd.lays169 Tryd.Builder_Extra_169 B b l w h h0
open Go.RowKit in
/-- (*strings.Builder).String OF A BUILDER THAT HOLDS NO BYTE: the empty string. (Its buffer is nil, or a row of which it has taken nothing yet; where that row has NO capacity the model lays one new block for unsafe.SliceData's 'some address'.) One draw. (LAID: no walk: one application.) -/
theorem Tryd.Builder_String_empty (B b : Nat) (w : World) (h : Lib.IsBuilder 149 5 B b [] w) (hBw : B ≤ w.heap.size) :
    Calls Tryd.prog 116 #[.pointer (some ⟨b, 0, none⟩)] w fun e w' => e = .returned (.string ⟨#[]⟩) ∧ Below B w w' := Any.Builder_String_empty Tryd.lays169 Tryd.Builder_Extra_169 B b w h hBw
open Go.RowKit in
/-- (*strings.Builder).String: "String returns the accumulated string.": WHATEVER THE BUILDER HOLDS. (LAID: no walk: one application.) -/
theorem Tryd.Builder_String_any (B b : Nat) (l : List UInt8) (w : World) (h : Lib.IsBuilder 149 5 B b (Lib.byteCells l) w) (hBw : B ≤ w.heap.size) :
    Calls Tryd.prog 116 #[.pointer (some ⟨b, 0, none⟩)] w fun e w' => e = .returned (.string ⟨l.toArray⟩) ∧ Below B w w' := Any.Builder_String_any Tryd.lays169 Tryd.Builder_Extra_169 B b l w h hBw
def Tryd.lays241_ren : Go.Shelf.Ren := ⟨fun | 241 => 180 | 277 => 190 | n => n, fun | 70 => 147 | 3 => 3 | 0 => 0 | 72 => 149 | 37 => 22 | 5 => 5 | n => n, fun | n => n⟩
theorem Tryd.lays241 : Go.Proofs.Lays.n241 Tryd.prog Tryd.lays241_ren := {
  mixed := by kernel_rfl
  f241 := Tryd.func180.trans (congrArg some (by kernel_rfl))
  f277 := Tryd.func190.trans (congrArg some (by kernel_rfl))
  t0 := Tryd.underlying0
  a0 := Tryd.isAgg0
  z0 := Tryd.sizeOf0
  v0 := Tryd.zeroValue0
  t3 := Tryd.underlying3
  a3 := Tryd.isAgg3
  z3 := Tryd.sizeOf3
  v3 := Tryd.zeroValue3
  t37 := Tryd.underlying22
  a37 := Tryd.isAgg22
  z37 := Tryd.sizeOf22
  v37 := Tryd.zeroValue22
  t70 := Tryd.underlying147
  a70 := Tryd.isAgg147
  z70 := Tryd.sizeOf147
  v70 := Tryd.zeroValue147
  t72 := Tryd.underlying149
  a72 := Tryd.isAgg149
  z72 := Tryd.sizeOf149
  v72 := Tryd.zeroValue149 }
theorem Tryd.Builder_Extra_241 : Builder.Extra Tryd.prog Tryd.lays241_ren := {
  sizeBuilder := by kernel_rfl
  liesBuilder := by kernel_rfl
  t5 := Tryd.underlying5
  a5 := Tryd.isAgg5
  z5 := Tryd.sizeOf5
  v5 := Tryd.zeroValue5
  infoByte := by kernel_rfl
  cellsByte := by kernel_rfl
  sizeByte := by kernel_rfl
  neB5 := by decide }
open Go.RowKit in
/-- (*strings.Builder).grow (no doc but "grow copies the buffer to a new, larger buffer so that there are at least n bytes of capacity beyond len(b.buf)."): AT A BUILDER WITHOUT A BUFFER: a new row of whatever bytes for its buffer, none of them its own yet. Three draws. (LAID: no walk: one application.) -/
theorem Tryd.Builder_grow_fresh (B b n : Nat) (w : World) (hB : B ≤ b) (hbk : w.heap[b]? = some (.cells #[.pointer (some ⟨b, 0, none⟩), .slice none 0 0] 149 (0, 0))) (hBw : B ≤ w.heap.size) (hn : n ≤ 281474976710656) :
    Calls Tryd.prog 180 #[.pointer (some ⟨b, 0, none⟩), .int .i64 n] w fun e w' => e = .returned (.tuple #[]) ∧ (Lib.BuilderAt 149 5 B b (.pointer (some ⟨b, 0, none⟩)) [] w' ∧ Below B w w') := Any.Builder_grow_fresh Tryd.lays241 Tryd.Builder_Extra_241 B b n w hB hbk hBw hn
def Tryd.lays165_ren : Go.Shelf.Ren := ⟨fun | 165 => 159 | 240 => 139 | 241 => 180 | 276 => 163 | 277 => 190 | n => n, fun | 70 => 147 | 3 => 3 | 0 => 0 | 4 => 4 | 9 => 9 | 20 => 20 | 72 => 149 | 37 => 22 | 164 => 191 | 5 => 5 | n => n, fun | n => n⟩
theorem Tryd.lays165 : Go.Proofs.Lays.n165 Tryd.prog Tryd.lays165_ren := {
  mixed := by kernel_rfl
  f165 := Tryd.func159.trans (congrArg some (by kernel_rfl))
  f240 := Tryd.func139.trans (congrArg some (by kernel_rfl))
  f241 := Tryd.func180.trans (congrArg some (by kernel_rfl))
  f276 := Tryd.func163.trans (congrArg some (by kernel_rfl))
  f277 := Tryd.func190.trans (congrArg some (by kernel_rfl))
  t0 := Tryd.underlying0
  a0 := Tryd.isAgg0
  z0 := Tryd.sizeOf0
  v0 := Tryd.zeroValue0
  t3 := Tryd.underlying3
  a3 := Tryd.isAgg3
  z3 := Tryd.sizeOf3
  v3 := Tryd.zeroValue3
  t4 := Tryd.underlying4
  a4 := Tryd.isAgg4
  z4 := Tryd.sizeOf4
  v4 := Tryd.zeroValue4
  t9 := Tryd.underlying9
  a9 := Tryd.isAgg9
  z9 := Tryd.sizeOf9
  v9 := Tryd.zeroValue9
  t20 := Tryd.underlying20
  a20 := Tryd.isAgg20
  z20 := Tryd.sizeOf20
  v20 := Tryd.zeroValue20
  t37 := Tryd.underlying22
  a37 := Tryd.isAgg22
  z37 := Tryd.sizeOf22
  v37 := Tryd.zeroValue22
  t70 := Tryd.underlying147
  a70 := Tryd.isAgg147
  z70 := Tryd.sizeOf147
  v70 := Tryd.zeroValue147
  t72 := Tryd.underlying149
  a72 := Tryd.isAgg149
  z72 := Tryd.sizeOf149
  v72 := Tryd.zeroValue149
  t164 := Tryd.underlying191
  a164 := Tryd.isAgg191
  z164 := Tryd.sizeOf191
  v164 := Tryd.zeroValue191 }
theorem Tryd.Builder_Extra_165 : Builder.Extra Tryd.prog Tryd.lays165_ren := {
  sizeBuilder := by kernel_rfl
  liesBuilder := by kernel_rfl
  t5 := Tryd.underlying5
  a5 := Tryd.isAgg5
  z5 := Tryd.sizeOf5
  v5 := Tryd.zeroValue5
  infoByte := by kernel_rfl
  cellsByte := by kernel_rfl
  sizeByte := by kernel_rfl
  neB5 := by decide }
open Go.RowKit in
/-- (*strings.Builder).Grow AT A BUILDER THAT HAS NOT BEEN WRITTEN ('var b strings.Builder; b.Grow(n)'): "Grow grows b's capacity, if necessary, to guarantee space for another n bytes.": it holds no byte behind it as_ before it. (LAID: no walk: one application.) -/
theorem Tryd.Builder_Grow_fresh (B b n : Nat) (w : World) (hB : B ≤ b) (hbk : w.heap[b]? = some (.cells #[.pointer none, .slice none 0 0] 149 (0, 0))) (hBw : B ≤ w.heap.size) (hn : n ≤ 281474976710656) :
    Calls Tryd.prog 159 #[.pointer (some ⟨b, 0, none⟩), .int .i64 n] w fun e w' => e = .returned (.tuple #[]) ∧ (Lib.BuilderAt 149 5 B b (.pointer (some ⟨b, 0, none⟩)) [] w' ∧ Below B w w') := Any.Builder_Grow_fresh Tryd.lays165 Tryd.Builder_Extra_165 B b n w hB hbk hBw hn
def Tryd.lays128_ren : Go.Shelf.Ren := ⟨fun | 128 => 154 | n => n, fun | 51 => 98 | 3 => 3 | 4 => 4 | 46 => 92 | 5 => 5 | 9 => 9 | n => n, fun | n => n⟩
theorem Tryd.lays128 : Go.Proofs.Lays.n128 Tryd.prog Tryd.lays128_ren := {
  mixed := by kernel_rfl
  f128 := Tryd.func154.trans (congrArg some (by kernel_rfl))
  t3 := Tryd.underlying3
  a3 := Tryd.isAgg3
  z3 := Tryd.sizeOf3
  v3 := Tryd.zeroValue3
  t4 := Tryd.underlying4
  a4 := Tryd.isAgg4
  z4 := Tryd.sizeOf4
  v4 := Tryd.zeroValue4
  t5 := Tryd.underlying5
  a5 := Tryd.isAgg5
  z5 := Tryd.sizeOf5
  v5 := Tryd.zeroValue5
  t9 := Tryd.underlying9
  a9 := Tryd.isAgg9
  z9 := Tryd.sizeOf9
  v9 := Tryd.zeroValue9
  t46 := Tryd.underlying92
  a46 := Tryd.isAgg92
  z46 := Tryd.sizeOf92
  v46 := Tryd.zeroValue92
  t51 := Tryd.underlying98
  a51 := Tryd.isAgg98
  z51 := Tryd.sizeOf98
  v51 := Tryd.zeroValue98 }
/-- bits.Len32: "Len32 returns the minimum number of bits required to represent x; the result is 0 for x == 0.": IT RETURNS 'Lib.bitLen x'; the world is as_ it was. ('h0', 'h1': x is a uint32.) (LAID: no walk: one application.) -/
theorem Tryd.bits_Len32 (x : Int) (w : World) (h0 : 0 ≤ x) (h1 : x ≤ 4294967295) :
    Calls Tryd.prog 154 #[.int .u32 x] w fun e w' => e = .returned (.int .i64 (Lib.bitLen x.toNat)) ∧ w' = w := Any.bits_Len32 Tryd.lays128 x w h0 h1
def Tryd.lays125_ren : Go.Shelf.Ren := ⟨fun | 125 => 122 | 128 => 154 | 129 => 155 | n => n, fun | 46 => 92 | 3 => 3 | 51 => 98 | 53 => 99 | 4 => 4 | 5 => 5 | 9 => 9 | n => n, fun | n => n⟩
theorem Tryd.lays125 : Go.Proofs.Lays.n125 Tryd.prog Tryd.lays125_ren := {
  mixed := by kernel_rfl
  f125 := Tryd.func122.trans (congrArg some (by kernel_rfl))
  f128 := Tryd.func154.trans (congrArg some (by kernel_rfl))
  f129 := Tryd.func155.trans (congrArg some (by kernel_rfl))
  t3 := Tryd.underlying3
  a3 := Tryd.isAgg3
  z3 := Tryd.sizeOf3
  v3 := Tryd.zeroValue3
  t4 := Tryd.underlying4
  a4 := Tryd.isAgg4
  z4 := Tryd.sizeOf4
  v4 := Tryd.zeroValue4
  t5 := Tryd.underlying5
  a5 := Tryd.isAgg5
  z5 := Tryd.sizeOf5
  v5 := Tryd.zeroValue5
  t9 := Tryd.underlying9
  a9 := Tryd.isAgg9
  z9 := Tryd.sizeOf9
  v9 := Tryd.zeroValue9
  t46 := Tryd.underlying92
  a46 := Tryd.isAgg92
  z46 := Tryd.sizeOf92
  v46 := Tryd.zeroValue92
  t51 := Tryd.underlying98
  a51 := Tryd.isAgg98
  z51 := Tryd.sizeOf98
  v51 := Tryd.zeroValue98
  t53 := Tryd.underlying99
  a53 := Tryd.isAgg99
  z53 := Tryd.sizeOf99
  v53 := Tryd.zeroValue99 }
/-- bits.Len: "Len returns the minimum number of bits required to represent x; the result is 0 for x == 0.": IT RETURNS 'Lib.bitLen x'; the world is as_ it was. (A uint has 64 bits in the model.) ITS CALLEE bits.Len64 IS MET BY ITS OWN CONTRACT OFF THE SHELF (lay that first). (LAID: no walk: one application.) -/
theorem Tryd.bits_Len (x : Int) (w : World) (h0 : 0 ≤ x) (h1 : x ≤ 18446744073709551615) :
    Calls Tryd.prog 122 #[.int .u64 x] w fun e w' => e = .returned (.int .i64 (Lib.bitLen x.toNat)) ∧ w' = w := Any.bits_Len Tryd.lays125 x w h0 h1
def Tryd.lays137_ren : Go.Shelf.Ren := ⟨fun | 137 => 192 | 217 => 176 | 266 => 188 | n => n, fun | 9 => 9 | 5 => 5 | 3 => 3 | n => n, fun | n => n⟩
theorem Tryd.lays137 : Go.Proofs.Lays.n137 Tryd.prog Tryd.lays137_ren := {
  mixed := by kernel_rfl
  f137 := Tryd.func192.trans (congrArg some (by kernel_rfl))
  f217 := Tryd.func176.trans (congrArg some (by kernel_rfl))
  f266 := Tryd.func188.trans (congrArg some (by kernel_rfl))
  t3 := Tryd.underlying3
  a3 := Tryd.isAgg3
  z3 := Tryd.sizeOf3
  v3 := Tryd.zeroValue3
  t5 := Tryd.underlying5
  a5 := Tryd.isAgg5
  z5 := Tryd.sizeOf5
  v5 := Tryd.zeroValue5
  t9 := Tryd.underlying9
  a9 := Tryd.isAgg9
  z9 := Tryd.sizeOf9
  v9 := Tryd.zeroValue9 }
open Go.RowKit in
/-- strings.IndexByte: "IndexByte returns the index of the first instance of c in s, or -1 if c is not present in s.": IT RETURNS 'Lib.indexByte s c'; the world is as_ it was. (LAID: no walk: one application.) -/
theorem Tryd.strings_IndexByte (s : ByteArray) (c : Int) (w : World) :
    Calls Tryd.prog 192 #[.string s, .int .u8 c] w fun e w' => e = .returned (.int .i64 (Lib.indexByte s.data.toList c.toNat.toUInt8)) ∧ w' = w := Any.strings_IndexByte Tryd.lays137 s c w
open Go.RowKit in
/-- (*strings.Builder).String: "String returns the accumulated string.": OF A BUILDER THAT HOLDS AT LEAST ONE BYTE. ✋ THE MODEL FREEZES THOSE BYTES IN THE BUFFER (unsafe.String): a later write INTO them ends the model's run without an answer; a later append BEHIND them goes on. The statement's order of evaluation is drawn: one draw. THE FORM '_f': IT SAYS BESIDES THAT THE BUILDER IS A BUILDER STILL ('Lib.IsBuilderF', the same bytes): SO IT CAN BE WRITTEN ON: 'b.WriteString(b.String()[:k])'. (LAID: no walk: one application.) -/
theorem Tryd.Builder_String_f (B b : Nat) (l : List UInt8) (w : World) (h : Lib.IsBuilderF 149 5 B b (Lib.byteCells l) w) (h0 : l ≠ []) :
    Calls Tryd.prog 116 #[.pointer (some ⟨b, 0, none⟩)] w fun e w' => e = .returned (.string ⟨l.toArray⟩) ∧ (Lib.IsBuilderF 149 5 B b (Lib.byteCells l) w' ∧ Below B w w') := Any.Builder_String_f Tryd.lays169 Tryd.Builder_Extra_169 B b l w h h0
open Go.RowKit in
/-- (*strings.Builder).String OF A BUILDER THAT HOLDS NO BYTE: the empty string; THE FORM '_f': a builder still. (LAID: no walk: one application.) -/
theorem Tryd.Builder_String_empty_f (B b : Nat) (w : World) (h : Lib.IsBuilderF 149 5 B b [] w) (hBw : B ≤ w.heap.size) :
    Calls Tryd.prog 116 #[.pointer (some ⟨b, 0, none⟩)] w fun e w' => e = .returned (.string ⟨#[]⟩) ∧ (Lib.IsBuilderF 149 5 B b [] w' ∧ Below B w w') := Any.Builder_String_empty_f Tryd.lays169 Tryd.Builder_Extra_169 B b w h hBw
open Go.RowKit in
/-- (*strings.Builder).String: "String returns the accumulated string.": WHATEVER THE BUILDER HOLDS; THE FORM '_f': OF A BUILDER THAT MAY HAVE BEEN READ BEFORE; AND IT IS A BUILDER STILL, holding the same bytes: it can be written on. (LAID: no walk: one application.) -/
theorem Tryd.Builder_String_any_f (B b : Nat) (l : List UInt8) (w : World) (h : Lib.IsBuilderF 149 5 B b (Lib.byteCells l) w) (hBw : B ≤ w.heap.size) :
    Calls Tryd.prog 116 #[.pointer (some ⟨b, 0, none⟩)] w fun e w' => e = .returned (.string ⟨l.toArray⟩) ∧ (Lib.IsBuilderF 149 5 B b (Lib.byteCells l) w' ∧ Below B w w') := Any.Builder_String_any_f Tryd.lays169 Tryd.Builder_Extra_169 B b l w h hBw
open Go.RowKit in
/-- (*strings.Builder).String: "String returns the accumulated string.": OF A BUILDER THAT HOLDS AT LEAST ONE BYTE. ✋ THE MODEL FREEZES THOSE BYTES IN THE BUFFER (unsafe.String): a later write INTO them ends the model's run without an answer; a later append BEHIND them goes on. The statement's order of evaluation is drawn: one draw. THE FORM '_k': OVER 'Lib.IsBuilderF' (a builder that 'String()' may have read), AND WITH THE FRAME THAT REACHES ABOVE THE BUILDER: 'Lib.OthersKept': every block that is not b and is no row of uint8's stands as_ it stood: the iterator of a range among them. (LAID: no walk: one application.) -/
theorem Tryd.Builder_String_k (B b : Nat) (l : List UInt8) (w : World) (h : Lib.IsBuilderF 149 5 B b (Lib.byteCells l) w) (h0 : l ≠ []) :
    Calls Tryd.prog 116 #[.pointer (some ⟨b, 0, none⟩)] w fun e w' => e = .returned (.string ⟨l.toArray⟩) ∧ (Lib.IsBuilderF 149 5 B b (Lib.byteCells l) w' ∧ Below B w w' ∧ Lib.OthersKept 5 (some b) w w') := Any.Builder_String_k Tryd.lays169 Tryd.Builder_Extra_169 B b l w h h0
open Go.RowKit in
/-- (*strings.Builder).String OF A BUILDER THAT HOLDS NO BYTE: the empty string; THE FORM '_k': OVER 'Lib.IsBuilderF' (a builder that 'String()' may have read), AND WITH THE FRAME THAT REACHES ABOVE THE BUILDER: 'Lib.OthersKept': every block that is not b and is no row of uint8's stands as_ it stood: the iterator of a range among them. (LAID: no walk: one application.) -/
theorem Tryd.Builder_String_empty_k (B b : Nat) (w : World) (h : Lib.IsBuilderF 149 5 B b [] w) (hBw : B ≤ w.heap.size) :
    Calls Tryd.prog 116 #[.pointer (some ⟨b, 0, none⟩)] w fun e w' => e = .returned (.string ⟨#[]⟩) ∧ (Lib.IsBuilderF 149 5 B b [] w' ∧ Below B w w' ∧ Lib.OthersKept 5 (some b) w w') := Any.Builder_String_empty_k Tryd.lays169 Tryd.Builder_Extra_169 B b w h hBw
open Go.RowKit in
/-- (*strings.Builder).String: "String returns the accumulated string.": WHATEVER THE BUILDER HOLDS; THE FORM '_k': OVER 'Lib.IsBuilderF' (a builder that 'String()' may have read), AND WITH THE FRAME THAT REACHES ABOVE THE BUILDER: 'Lib.OthersKept': every block that is not b and is no row of uint8's stands as_ it stood: the iterator of a range among them. (LAID: no walk: one application.) -/
theorem Tryd.Builder_String_any_k (B b : Nat) (l : List UInt8) (w : World) (h : Lib.IsBuilderF 149 5 B b (Lib.byteCells l) w) (hBw : B ≤ w.heap.size) :
    Calls Tryd.prog 116 #[.pointer (some ⟨b, 0, none⟩)] w fun e w' => e = .returned (.string ⟨l.toArray⟩) ∧ (Lib.IsBuilderF 149 5 B b (Lib.byteCells l) w' ∧ Below B w w' ∧ Lib.OthersKept 5 (some b) w w') := Any.Builder_String_any_k Tryd.lays169 Tryd.Builder_Extra_169 B b l w h hBw
open Go.RowKit in
/-- (*strings.Builder).grow (no doc but "grow copies the buffer to a new, larger buffer so that there are at least n bytes of capacity beyond len(b.buf)."): AT A BUILDER WITHOUT A BUFFER: a new row of whatever bytes for its buffer, none of them its own yet. Three draws. (LAID: no walk: one application.) -/
theorem Tryd.Builder_grow_fresh_cap (B b n : Nat) (w : World) (hB : B ≤ b) (hbk : w.heap[b]? = some (.cells #[.pointer (some ⟨b, 0, none⟩), .slice none 0 0] 149 (0, 0))) (hBw : B ≤ w.heap.size) (hn : n ≤ 281474976710656) :
    Calls Tryd.prog 180 #[.pointer (some ⟨b, 0, none⟩), .int .i64 n] w fun e w' => e = .returned (.tuple #[]) ∧ (Lib.BuilderAt 149 5 B b (.pointer (some ⟨b, 0, none⟩)) [] w' ∧ Below B w w') ∧ ∃ p cap, w'.cell? ⟨b, 1, none⟩ = some (.slice p 0 cap) ∧ n ≤ cap := Any.Builder_grow_fresh_cap Tryd.lays241 Tryd.Builder_Extra_241 B b n w hB hbk hBw hn
open Go.RowKit in
/-- (*strings.Builder).Grow AT A BUILDER THAT HAS NOT BEEN WRITTEN ('var b strings.Builder; b.Grow(n)'): "Grow grows b's capacity, if necessary, to guarantee space for another n bytes.": it holds no byte behind it as_ before it. (LAID: no walk: one application.) -/
theorem Tryd.Builder_Grow_fresh_cap (B b n : Nat) (w : World) (hB : B ≤ b) (hbk : w.heap[b]? = some (.cells #[.pointer none, .slice none 0 0] 149 (0, 0))) (hBw : B ≤ w.heap.size) (hn : n ≤ 281474976710656) :
    Calls Tryd.prog 159 #[.pointer (some ⟨b, 0, none⟩), .int .i64 n] w fun e w' => e = .returned (.tuple #[]) ∧ (Lib.BuilderAt 149 5 B b (.pointer (some ⟨b, 0, none⟩)) [] w' ∧ Below B w w') ∧ ∃ p cap, w'.cell? ⟨b, 1, none⟩ = some (.slice p 0 cap) ∧ n ≤ cap := Any.Builder_Grow_fresh_cap Tryd.lays165 Tryd.Builder_Extra_165 B b n w hB hbk hBw hn
def Tryd.lays129_ren : Go.Shelf.Ren := ⟨fun | 129 => 155 | n => n, fun | 53 => 99 | 3 => 3 | 4 => 4 | 46 => 92 | 5 => 5 | 9 => 9 | n => n, fun | n => n⟩
theorem Tryd.lays129 : Go.Proofs.Lays.n129 Tryd.prog Tryd.lays129_ren := {
  mixed := by kernel_rfl
  f129 := Tryd.func155.trans (congrArg some (by kernel_rfl))
  t3 := Tryd.underlying3
  a3 := Tryd.isAgg3
  z3 := Tryd.sizeOf3
  v3 := Tryd.zeroValue3
  t4 := Tryd.underlying4
  a4 := Tryd.isAgg4
  z4 := Tryd.sizeOf4
  v4 := Tryd.zeroValue4
  t5 := Tryd.underlying5
  a5 := Tryd.isAgg5
  z5 := Tryd.sizeOf5
  v5 := Tryd.zeroValue5
  t9 := Tryd.underlying9
  a9 := Tryd.isAgg9
  z9 := Tryd.sizeOf9
  v9 := Tryd.zeroValue9
  t46 := Tryd.underlying92
  a46 := Tryd.isAgg92
  z46 := Tryd.sizeOf92
  v46 := Tryd.zeroValue92
  t53 := Tryd.underlying99
  a53 := Tryd.isAgg99
  z53 := Tryd.sizeOf99
  v53 := Tryd.zeroValue99 }
/-- bits.Len64: "Len64 returns the minimum number of bits required to represent x; the result is 0 for x == 0.": IT RETURNS 'Lib.bitLen x'; the world is as_ it was. ('h0', 'h1': x is a uint64.) (LAID: no walk: one application.) -/
theorem Tryd.bits_Len64 (x : Int) (w : World) (h0 : 0 ≤ x) (h1 : x ≤ 18446744073709551615) :
    Calls Tryd.prog 155 #[.int .u64 x] w fun e w' => e = .returned (.int .i64 (Lib.bitLen x.toNat)) ∧ w' = w := Any.bits_Len64 Tryd.lays129 x w h0 h1
def Tryd.lays217_ren : Go.Shelf.Ren := ⟨fun | 217 => 176 | 266 => 188 | n => n, fun | 9 => 9 | 5 => 5 | 3 => 3 | n => n, fun | n => n⟩
theorem Tryd.lays217 : Go.Proofs.Lays.n217 Tryd.prog Tryd.lays217_ren := {
  mixed := by kernel_rfl
  f217 := Tryd.func176.trans (congrArg some (by kernel_rfl))
  f266 := Tryd.func188.trans (congrArg some (by kernel_rfl))
  t3 := Tryd.underlying3
  a3 := Tryd.isAgg3
  z3 := Tryd.sizeOf3
  v3 := Tryd.zeroValue3
  t5 := Tryd.underlying5
  a5 := Tryd.isAgg5
  z5 := Tryd.sizeOf5
  v5 := Tryd.zeroValue5
  t9 := Tryd.underlying9
  a9 := Tryd.isAgg9
  z9 := Tryd.sizeOf9
  v9 := Tryd.zeroValue9 }
open Go.RowKit Go.Lib in
/-- internal/stringslite.IndexByte (what strings.IndexByte calls): IT RETURNS 'Lib.indexByte s c'; the world is as_ it was. (LAID: no walk: one application.) -/
theorem Tryd.stringslite_IndexByte (s : ByteArray) (c : Int) (w : World) :
    Calls Tryd.prog 176 #[.string s, .int .u8 c] w fun e w' => e = .returned (.int .i64 (Lib.indexByte s.data.toList c.toNat.toUInt8)) ∧ w' = w := Any.stringslite_IndexByte Tryd.lays217 s c w
def Tryd.lays224_ren : Go.Shelf.Ren := ⟨fun | 224 => 178 | n => n, fun | 3 => 3 | n => n, fun | n => n⟩
theorem Tryd.lays224 : Go.Proofs.Lays.n224 Tryd.prog Tryd.lays224_ren := {
  mixed := by kernel_rfl
  f224 := Tryd.func178.trans (congrArg some (by kernel_rfl))
  t3 := Tryd.underlying3
  a3 := Tryd.isAgg3
  z3 := Tryd.sizeOf3
  v3 := Tryd.zeroValue3 }
open Go.RowKit Go.Lib in
/-- internal/bytealg.Cutover: "Cutover reports the number of failures of IndexByte we should tolerate before switching over to Index. n is the number of bytes processed so far.": on amd64: (n + 16) / 8. (LAID: no walk: one application.) -/
theorem Tryd.bytealg_Cutover (n : Int) (h0 : 0 ≤ n) (h1 : n < 4611686018427387904) (w : World) :
    Calls Tryd.prog 178 #[.int .i64 n] w fun e w' => e = .returned (.int .i64 ((n + 16) / 8)) ∧ w' = w := Any.bytealg_Cutover Tryd.lays224 n h0 h1 w
def Tryd.lays314_ren : Go.Shelf.Ren := ⟨fun | 314 => 189 | n => n, fun | 9 => 9 | 51 => 98 | 3 => 3 | 4 => 4 | 5 => 5 | 46 => 92 | n => n, fun | n => n⟩
theorem Tryd.lays314 : Go.Proofs.Lays.n314 Tryd.prog Tryd.lays314_ren := {
  mixed := by kernel_rfl
  f314 := Tryd.func189.trans (congrArg some (by kernel_rfl))
  t3 := Tryd.underlying3
  a3 := Tryd.isAgg3
  z3 := Tryd.sizeOf3
  v3 := Tryd.zeroValue3
  t4 := Tryd.underlying4
  a4 := Tryd.isAgg4
  z4 := Tryd.sizeOf4
  v4 := Tryd.zeroValue4
  t5 := Tryd.underlying5
  a5 := Tryd.isAgg5
  z5 := Tryd.sizeOf5
  v5 := Tryd.zeroValue5
  t9 := Tryd.underlying9
  a9 := Tryd.isAgg9
  z9 := Tryd.sizeOf9
  v9 := Tryd.zeroValue9
  t46 := Tryd.underlying92
  a46 := Tryd.isAgg92
  z46 := Tryd.sizeOf92
  v46 := Tryd.zeroValue92
  t51 := Tryd.underlying98
  a51 := Tryd.isAgg98
  z51 := Tryd.sizeOf98
  v51 := Tryd.zeroValue98 }
open Go.RowKit Go.Lib in
/-- hashStr: "returns the hash and the appropriate multiplicative factor for use in Rabin-Karp algorithm": THE HASH OF ALL OF sep, AND 16777619 ^ len(sep), both in uint32. (LAID: no walk: one application.) -/
theorem Tryd.bytealg_hashStr (sep : ByteArray) (hs : sep.size < 4294967281) (w : World) :
    Calls Tryd.prog 189 #[.string sep] w fun e w' => e = .returned (.tuple #[.int .u32 (RK.H sep.data.toList % 4294967296), .int .u32 (16777619 ^ sep.size % 4294967296)]) ∧ w' = w := Any.bytealg_hashStr Tryd.lays314 sep hs w
def Tryd.lays267_ren : Go.Shelf.Ren := ⟨fun | 267 => 179 | 314 => 189 | n => n, fun | 9 => 9 | 3 => 3 | 146 => 214 | 51 => 98 | 4 => 4 | 5 => 5 | 46 => 92 | n => n, fun | n => n⟩
theorem Tryd.lays267 : Go.Proofs.Lays.n267 Tryd.prog Tryd.lays267_ren := {
  mixed := by kernel_rfl
  f267 := Tryd.func179.trans (congrArg some (by kernel_rfl))
  f314 := Tryd.func189.trans (congrArg some (by kernel_rfl))
  t3 := Tryd.underlying3
  a3 := Tryd.isAgg3
  z3 := Tryd.sizeOf3
  v3 := Tryd.zeroValue3
  t4 := Tryd.underlying4
  a4 := Tryd.isAgg4
  z4 := Tryd.sizeOf4
  v4 := Tryd.zeroValue4
  t5 := Tryd.underlying5
  a5 := Tryd.isAgg5
  z5 := Tryd.sizeOf5
  v5 := Tryd.zeroValue5
  t9 := Tryd.underlying9
  a9 := Tryd.isAgg9
  z9 := Tryd.sizeOf9
  v9 := Tryd.zeroValue9
  t46 := Tryd.underlying92
  a46 := Tryd.isAgg92
  z46 := Tryd.sizeOf92
  v46 := Tryd.zeroValue92
  t51 := Tryd.underlying98
  a51 := Tryd.isAgg98
  z51 := Tryd.sizeOf98
  v51 := Tryd.zeroValue98
  t146 := Tryd.underlying214
  a146 := Tryd.isAgg214
  z146 := Tryd.sizeOf214
  v146 := Tryd.zeroValue214 }
open Go.RowKit Go.Lib in
theorem Tryd.bytealg_IndexRabinKarp (s sep : ByteArray) (h1 : 1 ≤ sep.size) (h2 : sep.size ≤ s.size) (hs : s.size < 4294967281) (w : World) :
    Calls Tryd.prog 179 #[.string s, .string sep] w fun e w' => e = .returned (.int .i64 (Lib.index s.data.toList sep.data.toList)) ∧ w' = w := Any.bytealg_IndexRabinKarp Tryd.lays267 s sep h1 h2 hs w
def Tryd.lays219_ren : Go.Shelf.Ren := ⟨fun | 219 => 158 | 217 => 176 | 225 => 177 | 224 => 178 | 267 => 179 | 266 => 188 | 314 => 189 | n => n, fun | 9 => 9 | 3 => 3 | 4 => 4 | 5 => 5 | 46 => 92 | 146 => 214 | 51 => 98 | n => n, fun | 1 => 5 | n => n⟩
theorem Tryd.lays219 : Go.Proofs.Lays.n219 Tryd.prog Tryd.lays219_ren := {
  mixed := by kernel_rfl
  f217 := Tryd.func176.trans (congrArg some (by kernel_rfl))
  f219 := Tryd.func158.trans (congrArg some (by kernel_rfl))
  f224 := Tryd.func178.trans (congrArg some (by kernel_rfl))
  f225 := Tryd.func177.trans (congrArg some (by kernel_rfl))
  f266 := Tryd.func188.trans (congrArg some (by kernel_rfl))
  f267 := Tryd.func179.trans (congrArg some (by kernel_rfl))
  f314 := Tryd.func189.trans (congrArg some (by kernel_rfl))
  t3 := Tryd.underlying3
  a3 := Tryd.isAgg3
  z3 := Tryd.sizeOf3
  v3 := Tryd.zeroValue3
  t4 := Tryd.underlying4
  a4 := Tryd.isAgg4
  z4 := Tryd.sizeOf4
  v4 := Tryd.zeroValue4
  t5 := Tryd.underlying5
  a5 := Tryd.isAgg5
  z5 := Tryd.sizeOf5
  v5 := Tryd.zeroValue5
  t9 := Tryd.underlying9
  a9 := Tryd.isAgg9
  z9 := Tryd.sizeOf9
  v9 := Tryd.zeroValue9
  t46 := Tryd.underlying92
  a46 := Tryd.isAgg92
  z46 := Tryd.sizeOf92
  v46 := Tryd.zeroValue92
  t51 := Tryd.underlying98
  a51 := Tryd.isAgg98
  z51 := Tryd.sizeOf98
  v51 := Tryd.zeroValue98
  t146 := Tryd.underlying214
  a146 := Tryd.isAgg214
  z146 := Tryd.sizeOf214
  v146 := Tryd.zeroValue214
  g1 := by kernel_rfl }
open Go.RowKit Go.Lib in
/-- internal/stringslite.Index (what strings.Index calls) AT A substr OF ONE BYTE c: IT RETURNS 'Lib.indexByte s c'; the world is as_ it was. (LAID: no walk: one application.) -/
theorem Tryd.stringslite_Index_one (s : ByteArray) (c : UInt8) (w : World) :
    Calls Tryd.prog 158 #[.string s, .string ⟨#[c]⟩] w fun e w' => e = .returned (.int .i64 (Lib.indexByte s.data.toList c)) ∧ w' = w := Any.stringslite_Index_one Tryd.lays219 s c w
open Go.RowKit Go.Lib in
/-- internal/stringslite.Index (what strings.Index calls) AT A substr OF WHATEVER LENGTH: IT RETURNS 'Lib.index s substr'; the world is as_ it was. 'm': what internal/bytealg.MaxLen holds: whatever. (LAID: no walk: one application.) -/
theorem Tryd.stringslite_Index (s sub : ByteArray) (m : Int) (w : World) (hs : s.size < 4294967281) (hm : w.cell? ⟨5, 0, none⟩ = some (.int .i64 m)) :
    Calls Tryd.prog 158 #[.string s, .string sub] w fun e w' => e = .returned (.int .i64 (Lib.index s.data.toList sub.data.toList)) ∧ w' = w := Any.stringslite_Index Tryd.lays219 s sub m w hs hm
def Tryd.lays143_ren : Go.Shelf.Ren := ⟨fun | 143 => 129 | 219 => 158 | 217 => 176 | 225 => 177 | 224 => 178 | 267 => 179 | 266 => 188 | 314 => 189 | n => n, fun | 9 => 9 | 3 => 3 | 4 => 4 | 5 => 5 | 46 => 92 | 146 => 214 | 51 => 98 | n => n, fun | 1 => 5 | n => n⟩
theorem Tryd.lays143 : Go.Proofs.Lays.n143 Tryd.prog Tryd.lays143_ren := {
  mixed := by kernel_rfl
  f143 := Tryd.func129.trans (congrArg some (by kernel_rfl))
  f217 := Tryd.func176.trans (congrArg some (by kernel_rfl))
  f219 := Tryd.func158.trans (congrArg some (by kernel_rfl))
  f224 := Tryd.func178.trans (congrArg some (by kernel_rfl))
  f225 := Tryd.func177.trans (congrArg some (by kernel_rfl))
  f266 := Tryd.func188.trans (congrArg some (by kernel_rfl))
  f267 := Tryd.func179.trans (congrArg some (by kernel_rfl))
  f314 := Tryd.func189.trans (congrArg some (by kernel_rfl))
  t3 := Tryd.underlying3
  a3 := Tryd.isAgg3
  z3 := Tryd.sizeOf3
  v3 := Tryd.zeroValue3
  t4 := Tryd.underlying4
  a4 := Tryd.isAgg4
  z4 := Tryd.sizeOf4
  v4 := Tryd.zeroValue4
  t5 := Tryd.underlying5
  a5 := Tryd.isAgg5
  z5 := Tryd.sizeOf5
  v5 := Tryd.zeroValue5
  t9 := Tryd.underlying9
  a9 := Tryd.isAgg9
  z9 := Tryd.sizeOf9
  v9 := Tryd.zeroValue9
  t46 := Tryd.underlying92
  a46 := Tryd.isAgg92
  z46 := Tryd.sizeOf92
  v46 := Tryd.zeroValue92
  t51 := Tryd.underlying98
  a51 := Tryd.isAgg98
  z51 := Tryd.sizeOf98
  v51 := Tryd.zeroValue98
  t146 := Tryd.underlying214
  a146 := Tryd.isAgg214
  z146 := Tryd.sizeOf214
  v146 := Tryd.zeroValue214
  g1 := by kernel_rfl }
open Go.RowKit Go.Lib in
/-- strings.Index: "Index returns the index of the first instance of substr in s, or -1 if substr is not present in s.": AT A substr OF ONE BYTE c: IT RETURNS 'Lib.indexByte s c'; the world is as_ it was. (LAID: no walk: one application.) -/
theorem Tryd.strings_Index_one (s : ByteArray) (c : UInt8) (w : World) :
    Calls Tryd.prog 129 #[.string s, .string ⟨#[c]⟩] w fun e w' => e = .returned (.int .i64 (Lib.indexByte s.data.toList c)) ∧ w' = w := Any.strings_Index_one Tryd.lays143 s c w
open Go.RowKit Go.Lib in
/-- strings.Index: "Index returns the index of the first instance of substr in s, or -1 if substr is not present in s.": IT RETURNS 'Lib.index s substr'; the world is as_ it was. (LAID: no walk: one application.) -/
theorem Tryd.strings_Index (s sub : ByteArray) (m : Int) (w : World) (hs : s.size < 4294967281) (hm : w.cell? ⟨5, 0, none⟩ = some (.int .i64 m)) :
    Calls Tryd.prog 129 #[.string s, .string sub] w fun e w' => e = .returned (.int .i64 (Lib.index s.data.toList sub.data.toList)) ∧ w' = w := Any.strings_Index Tryd.lays143 s sub m w hs hm
def Tryd.lays144_ren : Go.Shelf.Ren := ⟨fun | 144 => 134 | 143 => 129 | 219 => 158 | 217 => 176 | 225 => 177 | 224 => 178 | 267 => 179 | 266 => 188 | 314 => 189 | n => n, fun | 9 => 9 | 4 => 4 | 3 => 3 | 5 => 5 | 46 => 92 | 146 => 214 | 51 => 98 | n => n, fun | 1 => 5 | n => n⟩
theorem Tryd.lays144 : Go.Proofs.Lays.n144 Tryd.prog Tryd.lays144_ren := {
  mixed := by kernel_rfl
  f143 := Tryd.func129.trans (congrArg some (by kernel_rfl))
  f144 := Tryd.func134.trans (congrArg some (by kernel_rfl))
  f217 := Tryd.func176.trans (congrArg some (by kernel_rfl))
  f219 := Tryd.func158.trans (congrArg some (by kernel_rfl))
  f224 := Tryd.func178.trans (congrArg some (by kernel_rfl))
  f225 := Tryd.func177.trans (congrArg some (by kernel_rfl))
  f266 := Tryd.func188.trans (congrArg some (by kernel_rfl))
  f267 := Tryd.func179.trans (congrArg some (by kernel_rfl))
  f314 := Tryd.func189.trans (congrArg some (by kernel_rfl))
  t3 := Tryd.underlying3
  a3 := Tryd.isAgg3
  z3 := Tryd.sizeOf3
  v3 := Tryd.zeroValue3
  t4 := Tryd.underlying4
  a4 := Tryd.isAgg4
  z4 := Tryd.sizeOf4
  v4 := Tryd.zeroValue4
  t5 := Tryd.underlying5
  a5 := Tryd.isAgg5
  z5 := Tryd.sizeOf5
  v5 := Tryd.zeroValue5
  t9 := Tryd.underlying9
  a9 := Tryd.isAgg9
  z9 := Tryd.sizeOf9
  v9 := Tryd.zeroValue9
  t46 := Tryd.underlying92
  a46 := Tryd.isAgg92
  z46 := Tryd.sizeOf92
  v46 := Tryd.zeroValue92
  t51 := Tryd.underlying98
  a51 := Tryd.isAgg98
  z51 := Tryd.sizeOf98
  v51 := Tryd.zeroValue98
  t146 := Tryd.underlying214
  a146 := Tryd.isAgg214
  z146 := Tryd.sizeOf214
  v146 := Tryd.zeroValue214
  g1 := by kernel_rfl }
open Go.RowKit Go.Lib in
/-- strings.Contains: "Contains reports whether substr is within s.": AT A substr OF ONE BYTE c: IT RETURNS 'decide (0 ≤ Lib.indexByte s c)'; the world is as_ it was. (LAID: no walk: one application.) -/
theorem Tryd.strings_Contains_one (s : ByteArray) (c : UInt8) (w : World) :
    Calls Tryd.prog 134 #[.string s, .string ⟨#[c]⟩] w fun e w' => e = .returned (.bool (decide (0 ≤ Lib.indexByte s.data.toList c))) ∧ w' = w := Any.strings_Contains_one Tryd.lays144 s c w
open Go.RowKit Go.Lib in
/-- strings.Contains: "Contains reports whether substr is within s.": IT RETURNS 'Lib.contains s substr'; the world is as_ it was. (LAID: no walk: one application.) -/
theorem Tryd.strings_Contains (s sub : ByteArray) (m : Int) (w : World) (hs : s.size < 4294967281) (hm : w.cell? ⟨5, 0, none⟩ = some (.int .i64 m)) :
    Calls Tryd.prog 134 #[.string s, .string sub] w fun e w' => e = .returned (.bool (Lib.contains s.data.toList sub.data.toList)) ∧ w' = w := Any.strings_Contains Tryd.lays144 s sub m w hs hm
def Tryd.lays220_ren : Go.Shelf.Ren := ⟨fun | 220 => 167 | 219 => 158 | 217 => 176 | 225 => 177 | 224 => 178 | 267 => 179 | 266 => 188 | 314 => 189 | n => n, fun | 9 => 9 | 4 => 4 | 3 => 3 | 5 => 5 | 46 => 92 | 146 => 214 | 51 => 98 | n => n, fun | 1 => 5 | n => n⟩
theorem Tryd.lays220 : Go.Proofs.Lays.n220 Tryd.prog Tryd.lays220_ren := {
  mixed := by kernel_rfl
  f217 := Tryd.func176.trans (congrArg some (by kernel_rfl))
  f219 := Tryd.func158.trans (congrArg some (by kernel_rfl))
  f220 := Tryd.func167.trans (congrArg some (by kernel_rfl))
  f224 := Tryd.func178.trans (congrArg some (by kernel_rfl))
  f225 := Tryd.func177.trans (congrArg some (by kernel_rfl))
  f266 := Tryd.func188.trans (congrArg some (by kernel_rfl))
  f267 := Tryd.func179.trans (congrArg some (by kernel_rfl))
  f314 := Tryd.func189.trans (congrArg some (by kernel_rfl))
  t3 := Tryd.underlying3
  a3 := Tryd.isAgg3
  z3 := Tryd.sizeOf3
  v3 := Tryd.zeroValue3
  t4 := Tryd.underlying4
  a4 := Tryd.isAgg4
  z4 := Tryd.sizeOf4
  v4 := Tryd.zeroValue4
  t5 := Tryd.underlying5
  a5 := Tryd.isAgg5
  z5 := Tryd.sizeOf5
  v5 := Tryd.zeroValue5
  t9 := Tryd.underlying9
  a9 := Tryd.isAgg9
  z9 := Tryd.sizeOf9
  v9 := Tryd.zeroValue9
  t46 := Tryd.underlying92
  a46 := Tryd.isAgg92
  z46 := Tryd.sizeOf92
  v46 := Tryd.zeroValue92
  t51 := Tryd.underlying98
  a51 := Tryd.isAgg98
  z51 := Tryd.sizeOf98
  v51 := Tryd.zeroValue98
  t146 := Tryd.underlying214
  a146 := Tryd.isAgg214
  z146 := Tryd.sizeOf214
  v146 := Tryd.zeroValue214
  g1 := by kernel_rfl }
open Go.RowKit Go.Lib in
/-- internal/stringslite.Cut (what strings.Cut calls): IT RETURNS 'Lib.cut s sep'; the world is as_ it was but for the count of draws. (LAID: no walk: one application.) -/
theorem Tryd.stringslite_Cut (s sep : ByteArray) (m : Int) (w : World) (hs : s.size < 4294967281) (hm : w.cell? ⟨5, 0, none⟩ = some (.int .i64 m)) :
    Calls Tryd.prog 167 #[.string s, .string sep] w fun e w' => e = .returned (.tuple #[.string ⟨(Lib.cut s.data.toList sep.data.toList).1.toArray⟩, .string ⟨(Lib.cut s.data.toList sep.data.toList).2.1.toArray⟩, .bool (Lib.cut s.data.toList sep.data.toList).2.2]) ∧ ∃ n, w' = w.drewN n := Any.stringslite_Cut Tryd.lays220 s sep m w hs hm
def Tryd.lays145_ren : Go.Shelf.Ren := ⟨fun | 145 => 142 | 220 => 167 | 219 => 158 | 217 => 176 | 225 => 177 | 224 => 178 | 267 => 179 | 266 => 188 | 314 => 189 | n => n, fun | 9 => 9 | 4 => 4 | 59 => 156 | 3 => 3 | 5 => 5 | 46 => 92 | 146 => 214 | 51 => 98 | n => n, fun | 1 => 5 | n => n⟩
theorem Tryd.lays145 : Go.Proofs.Lays.n145 Tryd.prog Tryd.lays145_ren := {
  mixed := by kernel_rfl
  f145 := Tryd.func142.trans (congrArg some (by kernel_rfl))
  f217 := Tryd.func176.trans (congrArg some (by kernel_rfl))
  f219 := Tryd.func158.trans (congrArg some (by kernel_rfl))
  f220 := Tryd.func167.trans (congrArg some (by kernel_rfl))
  f224 := Tryd.func178.trans (congrArg some (by kernel_rfl))
  f225 := Tryd.func177.trans (congrArg some (by kernel_rfl))
  f266 := Tryd.func188.trans (congrArg some (by kernel_rfl))
  f267 := Tryd.func179.trans (congrArg some (by kernel_rfl))
  f314 := Tryd.func189.trans (congrArg some (by kernel_rfl))
  t3 := Tryd.underlying3
  a3 := Tryd.isAgg3
  z3 := Tryd.sizeOf3
  v3 := Tryd.zeroValue3
  t4 := Tryd.underlying4
  a4 := Tryd.isAgg4
  z4 := Tryd.sizeOf4
  v4 := Tryd.zeroValue4
  t5 := Tryd.underlying5
  a5 := Tryd.isAgg5
  z5 := Tryd.sizeOf5
  v5 := Tryd.zeroValue5
  t9 := Tryd.underlying9
  a9 := Tryd.isAgg9
  z9 := Tryd.sizeOf9
  v9 := Tryd.zeroValue9
  t46 := Tryd.underlying92
  a46 := Tryd.isAgg92
  z46 := Tryd.sizeOf92
  v46 := Tryd.zeroValue92
  t51 := Tryd.underlying98
  a51 := Tryd.isAgg98
  z51 := Tryd.sizeOf98
  v51 := Tryd.zeroValue98
  t59 := Tryd.underlying156
  a59 := Tryd.isAgg156
  z59 := Tryd.sizeOf156
  v59 := Tryd.zeroValue156
  t146 := Tryd.underlying214
  a146 := Tryd.isAgg214
  z146 := Tryd.sizeOf214
  v146 := Tryd.zeroValue214
  g1 := by kernel_rfl }
open Go.RowKit Go.Lib in
/-- strings.Cut: "Cut slices s around the first instance of sep, returning the text before and after sep. The found result reports whether sep appears in s. If sep does not appear in s, cut returns s, "", false.": IT RETURNS 'Lib.cut s sep'; the world is as_ it was but for the count of draws. (LAID: no walk: one application.) -/
theorem Tryd.strings_Cut (s sep : ByteArray) (m : Int) (w : World) (hs : s.size < 4294967281) (hm : w.cell? ⟨5, 0, none⟩ = some (.int .i64 m)) :
    Calls Tryd.prog 142 #[.string s, .string sep] w fun e w' => e = .returned (.tuple #[.string ⟨(Lib.cut s.data.toList sep.data.toList).1.toArray⟩, .string ⟨(Lib.cut s.data.toList sep.data.toList).2.1.toArray⟩, .bool (Lib.cut s.data.toList sep.data.toList).2.2]) ∧ ∃ n, w' = w.drewN n := Any.strings_Cut Tryd.lays145 s sep m w hs hm
def Tryd.lays138_ren : Go.Shelf.Ren := ⟨fun | 138 => 110 | 195 => 131 | 218 => 132 | 143 => 129 | 219 => 158 | 217 => 176 | 225 => 177 | 224 => 178 | 267 => 179 | 266 => 188 | 314 => 189 | n => n, fun | 9 => 9 | 3 => 3 | 4 => 4 | 5 => 5 | 0 => 0 | 46 => 92 | 146 => 214 | 51 => 98 | n => n, fun | 1 => 5 | n => n⟩
theorem Tryd.lays138 : Go.Proofs.Lays.n138 Tryd.prog Tryd.lays138_ren := {
  mixed := by kernel_rfl
  f138 := Tryd.func110.trans (congrArg some (by kernel_rfl))
  f143 := Tryd.func129.trans (congrArg some (by kernel_rfl))
  f195 := Tryd.func131.trans (congrArg some (by kernel_rfl))
  f217 := Tryd.func176.trans (congrArg some (by kernel_rfl))
  f218 := Tryd.func132.trans (congrArg some (by kernel_rfl))
  f219 := Tryd.func158.trans (congrArg some (by kernel_rfl))
  f224 := Tryd.func178.trans (congrArg some (by kernel_rfl))
  f225 := Tryd.func177.trans (congrArg some (by kernel_rfl))
  f266 := Tryd.func188.trans (congrArg some (by kernel_rfl))
  f267 := Tryd.func179.trans (congrArg some (by kernel_rfl))
  f314 := Tryd.func189.trans (congrArg some (by kernel_rfl))
  t0 := Tryd.underlying0
  a0 := Tryd.isAgg0
  z0 := Tryd.sizeOf0
  v0 := Tryd.zeroValue0
  t3 := Tryd.underlying3
  a3 := Tryd.isAgg3
  z3 := Tryd.sizeOf3
  v3 := Tryd.zeroValue3
  t4 := Tryd.underlying4
  a4 := Tryd.isAgg4
  z4 := Tryd.sizeOf4
  v4 := Tryd.zeroValue4
  t5 := Tryd.underlying5
  a5 := Tryd.isAgg5
  z5 := Tryd.sizeOf5
  v5 := Tryd.zeroValue5
  t9 := Tryd.underlying9
  a9 := Tryd.isAgg9
  z9 := Tryd.sizeOf9
  v9 := Tryd.zeroValue9
  t46 := Tryd.underlying92
  a46 := Tryd.isAgg92
  z46 := Tryd.sizeOf92
  v46 := Tryd.zeroValue92
  t51 := Tryd.underlying98
  a51 := Tryd.isAgg98
  z51 := Tryd.sizeOf98
  v51 := Tryd.zeroValue98
  t146 := Tryd.underlying214
  a146 := Tryd.isAgg214
  z146 := Tryd.sizeOf214
  v146 := Tryd.zeroValue214
  g1 := by kernel_rfl }
open Go.RowKit Go.Lib in
/-- strings.Count AT A substr OF ONE BYTE ('hp'): "Count counts the number of non-overlapping instances of substr in s.": IT RETURNS 'Lib.countByte s (that byte)'; the world is as_ it was. ✋ NO CONTRACT HERE YET at an empty substr (utf8.RuneCountInString) or at a longer one (a loop over strings.Index). (LAID: no walk: one application.) -/
theorem Tryd.strings_Count_one (s : ByteArray) (c : UInt8) (w : World) :
    Calls Tryd.prog 110 #[.string s, .string ⟨#[c]⟩] w fun e w' => e = .returned (.int .i64 (Lib.countByte s.data.toList c)) ∧ w' = w := Any.strings_Count_one Tryd.lays138 s c w
open Go.RowKit Go.Lib in
/-- strings.Count AT A substr OF TWO BYTES OR MORE: "Count counts the number of non-overlapping instances of substr in s.": IT RETURNS 'Lib.count s substr'; the world is as_ it was. (LAID: no walk: one application.) -/
theorem Tryd.strings_Count (s sub : ByteArray) (m : Int) (w : World) (hs : s.size < 4294967281) (hm : w.cell? ⟨5, 0, none⟩ = some (.int .i64 m)) (h2 : 2 ≤ sub.size) :
    Calls Tryd.prog 110 #[.string s, .string sub] w fun e w' => e = .returned (.int .i64 (Lib.countB s sub)) ∧ w' = w := Any.strings_Count Tryd.lays138 s sub m w hs hm h2
def Tryd.laysM219_ren : Go.Shelf.Ren := ⟨fun | 219 => 158 | 217 => 176 | 225 => 177 | 224 => 178 | 267 => 179 | 266 => 188 | 314 => 189 | n => n, fun | 9 => 9 | 3 => 3 | 4 => 4 | 5 => 5 | 46 => 92 | 146 => 214 | 51 => 98 | n => n, fun | 1 => 5 | n => n⟩
theorem Tryd.laysM219 : Go.Proofs.LaysM.n219 Tryd.prog Tryd.laysM219_ren := {
  mixed := by kernel_rfl
  f217 := Tryd.func176.trans (congrArg some (by kernel_rfl))
  f219 := Tryd.func158.trans (congrArg some (by kernel_rfl))
  f224 := Tryd.func178.trans (congrArg some (by kernel_rfl))
  f225 := Tryd.func177.trans (congrArg some (by kernel_rfl))
  f266 := Tryd.func188.trans (congrArg some (by kernel_rfl))
  f267 := Tryd.func179.trans (congrArg some (by kernel_rfl))
  f314 := Tryd.func189.trans (congrArg some (by kernel_rfl))
  t3 := Tryd.underlying3
  a3 := Tryd.isAgg3
  z3 := Tryd.sizeOf3
  v3 := Tryd.zeroValue3
  t4 := Tryd.underlying4
  a4 := Tryd.isAgg4
  z4 := Tryd.sizeOf4
  v4 := Tryd.zeroValue4
  t5 := Tryd.underlying5
  a5 := Tryd.isAgg5
  z5 := Tryd.sizeOf5
  v5 := Tryd.zeroValue5
  t9 := Tryd.underlying9
  a9 := Tryd.isAgg9
  z9 := Tryd.sizeOf9
  v9 := Tryd.zeroValue9
  t46 := Tryd.underlying92
  a46 := Tryd.isAgg92
  z46 := Tryd.sizeOf92
  v46 := Tryd.zeroValue92
  t51 := Tryd.underlying98
  a51 := Tryd.isAgg98
  z51 := Tryd.sizeOf98
  v51 := Tryd.zeroValue98
  t146 := Tryd.underlying214
  a146 := Tryd.isAgg214
  z146 := Tryd.sizeOf214
  v146 := Tryd.zeroValue214
  g1 := by kernel_rfl
  i3 := by kernel_rfl
  i4 := by kernel_rfl
  i5 := by kernel_rfl
  i9 := by kernel_rfl
  i46 := by kernel_rfl
  i51 := by kernel_rfl
  i146 := by kernel_rfl
  m1 := by kernel_rfl
  s1_3 := fun w h => Go.Proofs.cell_of_shapedOpen_int (zero := #[.int .i64 0]) (t := 3) h (of_decide_eq_true (by kernel_rfl)) (by kernel_rfl) rfl (by kernel_rfl) (by kernel_rfl) Tryd.underlying3 }
open Go.RowKit Go.Lib in
theorem Tryd.stringslite_Index_shaped (s sub : ByteArray) (w : World) (h : w.ShapedOpen Tryd.prog) (hs : s.size < 4294967281) :
    Calls Tryd.prog 158 #[.string s, .string sub] w fun e w' => e = .returned (.int .i64 (Lib.index s.data.toList sub.data.toList)) ∧ w' = w := Any.stringslite_Index_shaped Tryd.laysM219 s sub w h hs
def Tryd.laysM143_ren : Go.Shelf.Ren := ⟨fun | 143 => 129 | 219 => 158 | 217 => 176 | 225 => 177 | 224 => 178 | 267 => 179 | 266 => 188 | 314 => 189 | n => n, fun | 9 => 9 | 3 => 3 | 4 => 4 | 5 => 5 | 46 => 92 | 146 => 214 | 51 => 98 | n => n, fun | 1 => 5 | n => n⟩
theorem Tryd.laysM143 : Go.Proofs.LaysM.n143 Tryd.prog Tryd.laysM143_ren := {
  mixed := by kernel_rfl
  f143 := Tryd.func129.trans (congrArg some (by kernel_rfl))
  f217 := Tryd.func176.trans (congrArg some (by kernel_rfl))
  f219 := Tryd.func158.trans (congrArg some (by kernel_rfl))
  f224 := Tryd.func178.trans (congrArg some (by kernel_rfl))
  f225 := Tryd.func177.trans (congrArg some (by kernel_rfl))
  f266 := Tryd.func188.trans (congrArg some (by kernel_rfl))
  f267 := Tryd.func179.trans (congrArg some (by kernel_rfl))
  f314 := Tryd.func189.trans (congrArg some (by kernel_rfl))
  t3 := Tryd.underlying3
  a3 := Tryd.isAgg3
  z3 := Tryd.sizeOf3
  v3 := Tryd.zeroValue3
  t4 := Tryd.underlying4
  a4 := Tryd.isAgg4
  z4 := Tryd.sizeOf4
  v4 := Tryd.zeroValue4
  t5 := Tryd.underlying5
  a5 := Tryd.isAgg5
  z5 := Tryd.sizeOf5
  v5 := Tryd.zeroValue5
  t9 := Tryd.underlying9
  a9 := Tryd.isAgg9
  z9 := Tryd.sizeOf9
  v9 := Tryd.zeroValue9
  t46 := Tryd.underlying92
  a46 := Tryd.isAgg92
  z46 := Tryd.sizeOf92
  v46 := Tryd.zeroValue92
  t51 := Tryd.underlying98
  a51 := Tryd.isAgg98
  z51 := Tryd.sizeOf98
  v51 := Tryd.zeroValue98
  t146 := Tryd.underlying214
  a146 := Tryd.isAgg214
  z146 := Tryd.sizeOf214
  v146 := Tryd.zeroValue214
  g1 := by kernel_rfl
  i3 := by kernel_rfl
  i4 := by kernel_rfl
  i5 := by kernel_rfl
  i9 := by kernel_rfl
  i46 := by kernel_rfl
  i51 := by kernel_rfl
  i146 := by kernel_rfl
  m1 := by kernel_rfl
  s1_3 := fun w h => Go.Proofs.cell_of_shapedOpen_int (zero := #[.int .i64 0]) (t := 3) h (of_decide_eq_true (by kernel_rfl)) (by kernel_rfl) rfl (by kernel_rfl) (by kernel_rfl) Tryd.underlying3 }
open Go.RowKit Go.Lib in
theorem Tryd.strings_Index_shaped (s sub : ByteArray) (w : World) (h : w.ShapedOpen Tryd.prog) (hs : s.size < 4294967281) :
    Calls Tryd.prog 129 #[.string s, .string sub] w fun e w' => e = .returned (.int .i64 (Lib.index s.data.toList sub.data.toList)) ∧ w' = w := Any.strings_Index_shaped Tryd.laysM143 s sub w h hs
def Tryd.laysM144_ren : Go.Shelf.Ren := ⟨fun | 144 => 134 | 143 => 129 | 219 => 158 | 217 => 176 | 225 => 177 | 224 => 178 | 267 => 179 | 266 => 188 | 314 => 189 | n => n, fun | 9 => 9 | 4 => 4 | 3 => 3 | 5 => 5 | 46 => 92 | 146 => 214 | 51 => 98 | n => n, fun | 1 => 5 | n => n⟩
theorem Tryd.laysM144 : Go.Proofs.LaysM.n144 Tryd.prog Tryd.laysM144_ren := {
  mixed := by kernel_rfl
  f143 := Tryd.func129.trans (congrArg some (by kernel_rfl))
  f144 := Tryd.func134.trans (congrArg some (by kernel_rfl))
  f217 := Tryd.func176.trans (congrArg some (by kernel_rfl))
  f219 := Tryd.func158.trans (congrArg some (by kernel_rfl))
  f224 := Tryd.func178.trans (congrArg some (by kernel_rfl))
  f225 := Tryd.func177.trans (congrArg some (by kernel_rfl))
  f266 := Tryd.func188.trans (congrArg some (by kernel_rfl))
  f267 := Tryd.func179.trans (congrArg some (by kernel_rfl))
  f314 := Tryd.func189.trans (congrArg some (by kernel_rfl))
  t3 := Tryd.underlying3
  a3 := Tryd.isAgg3
  z3 := Tryd.sizeOf3
  v3 := Tryd.zeroValue3
  t4 := Tryd.underlying4
  a4 := Tryd.isAgg4
  z4 := Tryd.sizeOf4
  v4 := Tryd.zeroValue4
  t5 := Tryd.underlying5
  a5 := Tryd.isAgg5
  z5 := Tryd.sizeOf5
  v5 := Tryd.zeroValue5
  t9 := Tryd.underlying9
  a9 := Tryd.isAgg9
  z9 := Tryd.sizeOf9
  v9 := Tryd.zeroValue9
  t46 := Tryd.underlying92
  a46 := Tryd.isAgg92
  z46 := Tryd.sizeOf92
  v46 := Tryd.zeroValue92
  t51 := Tryd.underlying98
  a51 := Tryd.isAgg98
  z51 := Tryd.sizeOf98
  v51 := Tryd.zeroValue98
  t146 := Tryd.underlying214
  a146 := Tryd.isAgg214
  z146 := Tryd.sizeOf214
  v146 := Tryd.zeroValue214
  g1 := by kernel_rfl
  i3 := by kernel_rfl
  i4 := by kernel_rfl
  i5 := by kernel_rfl
  i9 := by kernel_rfl
  i46 := by kernel_rfl
  i51 := by kernel_rfl
  i146 := by kernel_rfl
  m1 := by kernel_rfl
  s1_3 := fun w h => Go.Proofs.cell_of_shapedOpen_int (zero := #[.int .i64 0]) (t := 3) h (of_decide_eq_true (by kernel_rfl)) (by kernel_rfl) rfl (by kernel_rfl) (by kernel_rfl) Tryd.underlying3 }
open Go.RowKit Go.Lib in
theorem Tryd.strings_Contains_shaped (s sub : ByteArray) (w : World) (h : w.ShapedOpen Tryd.prog) (hs : s.size < 4294967281) :
    Calls Tryd.prog 134 #[.string s, .string sub] w fun e w' => e = .returned (.bool (Lib.contains s.data.toList sub.data.toList)) ∧ w' = w := Any.strings_Contains_shaped Tryd.laysM144 s sub w h hs
def Tryd.laysM220_ren : Go.Shelf.Ren := ⟨fun | 220 => 167 | 219 => 158 | 217 => 176 | 225 => 177 | 224 => 178 | 267 => 179 | 266 => 188 | 314 => 189 | n => n, fun | 9 => 9 | 4 => 4 | 3 => 3 | 5 => 5 | 46 => 92 | 146 => 214 | 51 => 98 | n => n, fun | 1 => 5 | n => n⟩
theorem Tryd.laysM220 : Go.Proofs.LaysM.n220 Tryd.prog Tryd.laysM220_ren := {
  mixed := by kernel_rfl
  f217 := Tryd.func176.trans (congrArg some (by kernel_rfl))
  f219 := Tryd.func158.trans (congrArg some (by kernel_rfl))
  f220 := Tryd.func167.trans (congrArg some (by kernel_rfl))
  f224 := Tryd.func178.trans (congrArg some (by kernel_rfl))
  f225 := Tryd.func177.trans (congrArg some (by kernel_rfl))
  f266 := Tryd.func188.trans (congrArg some (by kernel_rfl))
  f267 := Tryd.func179.trans (congrArg some (by kernel_rfl))
  f314 := Tryd.func189.trans (congrArg some (by kernel_rfl))
  t3 := Tryd.underlying3
  a3 := Tryd.isAgg3
  z3 := Tryd.sizeOf3
  v3 := Tryd.zeroValue3
  t4 := Tryd.underlying4
  a4 := Tryd.isAgg4
  z4 := Tryd.sizeOf4
  v4 := Tryd.zeroValue4
  t5 := Tryd.underlying5
  a5 := Tryd.isAgg5
  z5 := Tryd.sizeOf5
  v5 := Tryd.zeroValue5
  t9 := Tryd.underlying9
  a9 := Tryd.isAgg9
  z9 := Tryd.sizeOf9
  v9 := Tryd.zeroValue9
  t46 := Tryd.underlying92
  a46 := Tryd.isAgg92
  z46 := Tryd.sizeOf92
  v46 := Tryd.zeroValue92
  t51 := Tryd.underlying98
  a51 := Tryd.isAgg98
  z51 := Tryd.sizeOf98
  v51 := Tryd.zeroValue98
  t146 := Tryd.underlying214
  a146 := Tryd.isAgg214
  z146 := Tryd.sizeOf214
  v146 := Tryd.zeroValue214
  g1 := by kernel_rfl
  i3 := by kernel_rfl
  i4 := by kernel_rfl
  i5 := by kernel_rfl
  i9 := by kernel_rfl
  i46 := by kernel_rfl
  i51 := by kernel_rfl
  i146 := by kernel_rfl
  m1 := by kernel_rfl
  s1_3 := fun w h => Go.Proofs.cell_of_shapedOpen_int (zero := #[.int .i64 0]) (t := 3) h (of_decide_eq_true (by kernel_rfl)) (by kernel_rfl) rfl (by kernel_rfl) (by kernel_rfl) Tryd.underlying3 }
open Go.RowKit Go.Lib in
theorem Tryd.stringslite_Cut_shaped (s sep : ByteArray) (w : World) (h : w.ShapedOpen Tryd.prog) (hs : s.size < 4294967281) :
    Calls Tryd.prog 167 #[.string s, .string sep] w fun e w' => e = .returned (.tuple #[.string ⟨(Lib.cut s.data.toList sep.data.toList).1.toArray⟩, .string ⟨(Lib.cut s.data.toList sep.data.toList).2.1.toArray⟩, .bool (Lib.cut s.data.toList sep.data.toList).2.2]) ∧ ∃ n, w' = w.drewN n := Any.stringslite_Cut_shaped Tryd.laysM220 s sep w h hs
def Tryd.laysM145_ren : Go.Shelf.Ren := ⟨fun | 145 => 142 | 220 => 167 | 219 => 158 | 217 => 176 | 225 => 177 | 224 => 178 | 267 => 179 | 266 => 188 | 314 => 189 | n => n, fun | 9 => 9 | 4 => 4 | 59 => 156 | 3 => 3 | 5 => 5 | 46 => 92 | 146 => 214 | 51 => 98 | n => n, fun | 1 => 5 | n => n⟩
theorem Tryd.laysM145 : Go.Proofs.LaysM.n145 Tryd.prog Tryd.laysM145_ren := {
  mixed := by kernel_rfl
  f145 := Tryd.func142.trans (congrArg some (by kernel_rfl))
  f217 := Tryd.func176.trans (congrArg some (by kernel_rfl))
  f219 := Tryd.func158.trans (congrArg some (by kernel_rfl))
  f220 := Tryd.func167.trans (congrArg some (by kernel_rfl))
  f224 := Tryd.func178.trans (congrArg some (by kernel_rfl))
  f225 := Tryd.func177.trans (congrArg some (by kernel_rfl))
  f266 := Tryd.func188.trans (congrArg some (by kernel_rfl))
  f267 := Tryd.func179.trans (congrArg some (by kernel_rfl))
  f314 := Tryd.func189.trans (congrArg some (by kernel_rfl))
  t3 := Tryd.underlying3
  a3 := Tryd.isAgg3
  z3 := Tryd.sizeOf3
  v3 := Tryd.zeroValue3
  t4 := Tryd.underlying4
  a4 := Tryd.isAgg4
  z4 := Tryd.sizeOf4
  v4 := Tryd.zeroValue4
  t5 := Tryd.underlying5
  a5 := Tryd.isAgg5
  z5 := Tryd.sizeOf5
  v5 := Tryd.zeroValue5
  t9 := Tryd.underlying9
  a9 := Tryd.isAgg9
  z9 := Tryd.sizeOf9
  v9 := Tryd.zeroValue9
  t46 := Tryd.underlying92
  a46 := Tryd.isAgg92
  z46 := Tryd.sizeOf92
  v46 := Tryd.zeroValue92
  t51 := Tryd.underlying98
  a51 := Tryd.isAgg98
  z51 := Tryd.sizeOf98
  v51 := Tryd.zeroValue98
  t59 := Tryd.underlying156
  a59 := Tryd.isAgg156
  z59 := Tryd.sizeOf156
  v59 := Tryd.zeroValue156
  t146 := Tryd.underlying214
  a146 := Tryd.isAgg214
  z146 := Tryd.sizeOf214
  v146 := Tryd.zeroValue214
  g1 := by kernel_rfl
  i3 := by kernel_rfl
  i4 := by kernel_rfl
  i5 := by kernel_rfl
  i9 := by kernel_rfl
  i46 := by kernel_rfl
  i51 := by kernel_rfl
  i59 := by kernel_rfl
  i146 := by kernel_rfl
  m1 := by kernel_rfl
  s1_3 := fun w h => Go.Proofs.cell_of_shapedOpen_int (zero := #[.int .i64 0]) (t := 3) h (of_decide_eq_true (by kernel_rfl)) (by kernel_rfl) rfl (by kernel_rfl) (by kernel_rfl) Tryd.underlying3 }
open Go.RowKit Go.Lib in
theorem Tryd.strings_Cut_shaped (s sep : ByteArray) (w : World) (h : w.ShapedOpen Tryd.prog) (hs : s.size < 4294967281) :
    Calls Tryd.prog 142 #[.string s, .string sep] w fun e w' => e = .returned (.tuple #[.string ⟨(Lib.cut s.data.toList sep.data.toList).1.toArray⟩, .string ⟨(Lib.cut s.data.toList sep.data.toList).2.1.toArray⟩, .bool (Lib.cut s.data.toList sep.data.toList).2.2]) ∧ ∃ n, w' = w.drewN n := Any.strings_Cut_shaped Tryd.laysM145 s sep w h hs
def Tryd.laysM138_ren : Go.Shelf.Ren := ⟨fun | 138 => 110 | 195 => 131 | 218 => 132 | 143 => 129 | 219 => 158 | 217 => 176 | 225 => 177 | 224 => 178 | 267 => 179 | 266 => 188 | 314 => 189 | n => n, fun | 9 => 9 | 3 => 3 | 4 => 4 | 5 => 5 | 0 => 0 | 46 => 92 | 146 => 214 | 51 => 98 | n => n, fun | 1 => 5 | n => n⟩
theorem Tryd.laysM138 : Go.Proofs.LaysM.n138 Tryd.prog Tryd.laysM138_ren := {
  mixed := by kernel_rfl
  f138 := Tryd.func110.trans (congrArg some (by kernel_rfl))
  f143 := Tryd.func129.trans (congrArg some (by kernel_rfl))
  f195 := Tryd.func131.trans (congrArg some (by kernel_rfl))
  f217 := Tryd.func176.trans (congrArg some (by kernel_rfl))
  f218 := Tryd.func132.trans (congrArg some (by kernel_rfl))
  f219 := Tryd.func158.trans (congrArg some (by kernel_rfl))
  f224 := Tryd.func178.trans (congrArg some (by kernel_rfl))
  f225 := Tryd.func177.trans (congrArg some (by kernel_rfl))
  f266 := Tryd.func188.trans (congrArg some (by kernel_rfl))
  f267 := Tryd.func179.trans (congrArg some (by kernel_rfl))
  f314 := Tryd.func189.trans (congrArg some (by kernel_rfl))
  t0 := Tryd.underlying0
  a0 := Tryd.isAgg0
  z0 := Tryd.sizeOf0
  v0 := Tryd.zeroValue0
  t3 := Tryd.underlying3
  a3 := Tryd.isAgg3
  z3 := Tryd.sizeOf3
  v3 := Tryd.zeroValue3
  t4 := Tryd.underlying4
  a4 := Tryd.isAgg4
  z4 := Tryd.sizeOf4
  v4 := Tryd.zeroValue4
  t5 := Tryd.underlying5
  a5 := Tryd.isAgg5
  z5 := Tryd.sizeOf5
  v5 := Tryd.zeroValue5
  t9 := Tryd.underlying9
  a9 := Tryd.isAgg9
  z9 := Tryd.sizeOf9
  v9 := Tryd.zeroValue9
  t46 := Tryd.underlying92
  a46 := Tryd.isAgg92
  z46 := Tryd.sizeOf92
  v46 := Tryd.zeroValue92
  t51 := Tryd.underlying98
  a51 := Tryd.isAgg98
  z51 := Tryd.sizeOf98
  v51 := Tryd.zeroValue98
  t146 := Tryd.underlying214
  a146 := Tryd.isAgg214
  z146 := Tryd.sizeOf214
  v146 := Tryd.zeroValue214
  g1 := by kernel_rfl
  i0 := by kernel_rfl
  i3 := by kernel_rfl
  i4 := by kernel_rfl
  i5 := by kernel_rfl
  i9 := by kernel_rfl
  i46 := by kernel_rfl
  i51 := by kernel_rfl
  i146 := by kernel_rfl
  m1 := by kernel_rfl
  s1_3 := fun w h => Go.Proofs.cell_of_shapedOpen_int (zero := #[.int .i64 0]) (t := 3) h (of_decide_eq_true (by kernel_rfl)) (by kernel_rfl) rfl (by kernel_rfl) (by kernel_rfl) Tryd.underlying3 }
open Go.RowKit Go.Lib in
theorem Tryd.strings_Count_shaped (s sub : ByteArray) (w : World) (h : w.ShapedOpen Tryd.prog) (hs : s.size < 4294967281) (h2 : 2 ≤ sub.size) :
    Calls Tryd.prog 110 #[.string s, .string sub] w fun e w' => e = .returned (.int .i64 (Lib.countB s sub)) ∧ w' = w := Any.strings_Count_shaped Tryd.laysM138 s sub w h hs h2
def Tryd.lays190_ren : Go.Shelf.Ren := ⟨fun | 190 => 99 | 125 => 122 | 258 => 121 | 128 => 154 | 129 => 155 | 302 => 145 | 303 => 146 | 304 => 147 | 305 => 148 | 306 => 149 | 307 => 150 | 308 => 151 | 309 => 152 | 310 => 153 | 333 => 169 | 329 => 170 | 330 => 171 | 334 => 172 | 335 => 173 | 336 => 174 | 344 => 187 | n => n, fun | 31 => 23 | 9 => 9 | 3 => 3 | 46 => 92 | 0 => 0 | 51 => 98 | 53 => 99 | 4 => 4 | 183 => 180 | 182 => 179 | 131 => 183 | 5 => 5 | 218 => 197 | 222 => 201 | 228 => 207 | 229 => 208 | n => n, fun | n => n⟩
theorem Tryd.lays190 : Go.Proofs.Lays.n190 Tryd.prog Tryd.lays190_ren := {
  mixed := by kernel_rfl
  f125 := Tryd.func122.trans (congrArg some (by kernel_rfl))
  f128 := Tryd.func154.trans (congrArg some (by kernel_rfl))
  f129 := Tryd.func155.trans (congrArg some (by kernel_rfl))
  f190 := Tryd.func99.trans (congrArg some (by kernel_rfl))
  f258 := Tryd.func121.trans (congrArg some (by kernel_rfl))
  f302 := Tryd.func145.trans (congrArg some (by kernel_rfl))
  f303 := Tryd.func146.trans (congrArg some (by kernel_rfl))
  f304 := Tryd.func147.trans (congrArg some (by kernel_rfl))
  f305 := Tryd.func148.trans (congrArg some (by kernel_rfl))
  f306 := Tryd.func149.trans (congrArg some (by kernel_rfl))
  f307 := Tryd.func150.trans (congrArg some (by kernel_rfl))
  f308 := Tryd.func151.trans (congrArg some (by kernel_rfl))
  f309 := Tryd.func152.trans (congrArg some (by kernel_rfl))
  f310 := Tryd.func153.trans (congrArg some (by kernel_rfl))
  f329 := Tryd.func170.trans (congrArg some (by kernel_rfl))
  f330 := Tryd.func171.trans (congrArg some (by kernel_rfl))
  f333 := Tryd.func169.trans (congrArg some (by kernel_rfl))
  f334 := Tryd.func172.trans (congrArg some (by kernel_rfl))
  f335 := Tryd.func173.trans (congrArg some (by kernel_rfl))
  f336 := Tryd.func174.trans (congrArg some (by kernel_rfl))
  f344 := Tryd.func187.trans (congrArg some (by kernel_rfl))
  t0 := Tryd.underlying0
  a0 := Tryd.isAgg0
  z0 := Tryd.sizeOf0
  v0 := Tryd.zeroValue0
  t3 := Tryd.underlying3
  a3 := Tryd.isAgg3
  z3 := Tryd.sizeOf3
  v3 := Tryd.zeroValue3
  t4 := Tryd.underlying4
  a4 := Tryd.isAgg4
  z4 := Tryd.sizeOf4
  v4 := Tryd.zeroValue4
  t5 := Tryd.underlying5
  a5 := Tryd.isAgg5
  z5 := Tryd.sizeOf5
  v5 := Tryd.zeroValue5
  t9 := Tryd.underlying9
  a9 := Tryd.isAgg9
  z9 := Tryd.sizeOf9
  v9 := Tryd.zeroValue9
  t31 := Tryd.underlying23
  a31 := Tryd.isAgg23
  z31 := Tryd.sizeOf23
  v31 := Tryd.zeroValue23
  t46 := Tryd.underlying92
  a46 := Tryd.isAgg92
  z46 := Tryd.sizeOf92
  v46 := Tryd.zeroValue92
  t51 := Tryd.underlying98
  a51 := Tryd.isAgg98
  z51 := Tryd.sizeOf98
  v51 := Tryd.zeroValue98
  t53 := Tryd.underlying99
  a53 := Tryd.isAgg99
  z53 := Tryd.sizeOf99
  v53 := Tryd.zeroValue99
  t131 := Tryd.underlying183
  a131 := Tryd.isAgg183
  z131 := Tryd.sizeOf183
  v131 := Tryd.zeroValue183
  t182 := Tryd.underlying179
  a182 := Tryd.isAgg179
  z182 := Tryd.sizeOf179
  v182 := Tryd.zeroValue179
  t183 := Tryd.underlying180
  a183 := Tryd.isAgg180
  z183 := Tryd.sizeOf180
  v183 := Tryd.zeroValue180
  t218 := Tryd.underlying197
  a218 := Tryd.isAgg197
  z218 := Tryd.sizeOf197
  v218 := Tryd.zeroValue197
  t222 := Tryd.underlying201
  a222 := Tryd.isAgg201
  z222 := Tryd.sizeOf201
  v222 := Tryd.zeroValue201
  t228 := Tryd.underlying207
  a228 := Tryd.isAgg207
  z228 := Tryd.sizeOf207
  v228 := Tryd.zeroValue207
  t229 := Tryd.underlying208
  a229 := Tryd.isAgg208
  z229 := Tryd.sizeOf208
  v229 := Tryd.zeroValue208 }
open Go.Sort Go.RowKit in
theorem Tryd.slices_Sort_string (blk off cap : Nat) (ss : List (List UInt8)) (w : World) (hH : Holds encStr w blk off ss.toArray) (hblk : blk < w.heap.size) (hsz : ss.length < 4611686018427387904) :
    Calls Tryd.prog 99 #[.slice (some ⟨blk, off, none⟩) ss.length cap] w fun e w' =>
      e = .returned (.tuple #[]) ∧ ∃ n os, w' = grow (putRow encStr (Sort.ahead w n) blk off (ss.mergeSort fun x y => decide (x ≤ y)).toArray) os := Any.slices_Sort_string Tryd.lays190 blk off cap ss w hH hblk hsz
def Tryd.lays206_ren : Go.Shelf.Ren := ⟨fun | 206 => 126 | n => n, fun | 9 => 9 | 4 => 4 | 3 => 3 | n => n, fun | n => n⟩
theorem Tryd.lays206 : Go.Proofs.Lays.n206 Tryd.prog Tryd.lays206_ren := {
  mixed := by kernel_rfl
  f206 := Tryd.func126.trans (congrArg some (by kernel_rfl))
  t3 := Tryd.underlying3
  a3 := Tryd.isAgg3
  z3 := Tryd.sizeOf3
  v3 := Tryd.zeroValue3
  t4 := Tryd.underlying4
  a4 := Tryd.isAgg4
  z4 := Tryd.sizeOf4
  v4 := Tryd.zeroValue4
  t9 := Tryd.underlying9
  a9 := Tryd.isAgg9
  z9 := Tryd.sizeOf9
  v9 := Tryd.zeroValue9 }
open Go.RowKit Go.Lib in
/-- internal/stringslite.HasPrefix (what strings.HasPrefix calls). (LAID: no walk: one application.) -/
theorem Tryd.stringslite_HasPrefix (s p : ByteArray) (w : World) :
    Calls Tryd.prog 126 #[.string s, .string p] w fun e w' => e = .returned (.bool (Lib.hasPrefix s.data.toList p.data.toList)) ∧ w' = w := Any.stringslite_HasPrefix Tryd.lays206 s p w
def Tryd.lays99_ren : Go.Shelf.Ren := ⟨fun | 99 => 144 | 206 => 126 | n => n, fun | 9 => 9 | 4 => 4 | 3 => 3 | n => n, fun | n => n⟩
theorem Tryd.lays99 : Go.Proofs.Lays.n99 Tryd.prog Tryd.lays99_ren := {
  mixed := by kernel_rfl
  f99 := Tryd.func144.trans (congrArg some (by kernel_rfl))
  f206 := Tryd.func126.trans (congrArg some (by kernel_rfl))
  t3 := Tryd.underlying3
  a3 := Tryd.isAgg3
  z3 := Tryd.sizeOf3
  v3 := Tryd.zeroValue3
  t4 := Tryd.underlying4
  a4 := Tryd.isAgg4
  z4 := Tryd.sizeOf4
  v4 := Tryd.zeroValue4
  t9 := Tryd.underlying9
  a9 := Tryd.isAgg9
  z9 := Tryd.sizeOf9
  v9 := Tryd.zeroValue9 }
open Go.RowKit Go.Lib in
/-- strings.HasPrefix: "HasPrefix reports whether the string s begins with prefix.": IT RETURNS 'Lib.hasPrefix s prefix'; the world is as_ it was. (LAID: no walk: one application.) -/
theorem Tryd.strings_HasPrefix (s p : ByteArray) (w : World) :
    Calls Tryd.prog 144 #[.string s, .string p] w fun e w' => e = .returned (.bool (Lib.hasPrefix s.data.toList p.data.toList)) ∧ w' = w := Any.strings_HasPrefix Tryd.lays99 s p w
def Tryd.lays207_ren : Go.Shelf.Ren := ⟨fun | 207 => 130 | n => n, fun | 9 => 9 | 4 => 4 | 3 => 3 | n => n, fun | n => n⟩
theorem Tryd.lays207 : Go.Proofs.Lays.n207 Tryd.prog Tryd.lays207_ren := {
  mixed := by kernel_rfl
  f207 := Tryd.func130.trans (congrArg some (by kernel_rfl))
  t3 := Tryd.underlying3
  a3 := Tryd.isAgg3
  z3 := Tryd.sizeOf3
  v3 := Tryd.zeroValue3
  t4 := Tryd.underlying4
  a4 := Tryd.isAgg4
  z4 := Tryd.sizeOf4
  v4 := Tryd.zeroValue4
  t9 := Tryd.underlying9
  a9 := Tryd.isAgg9
  z9 := Tryd.sizeOf9
  v9 := Tryd.zeroValue9 }
open Go.RowKit Go.Lib in
/-- internal/stringslite.HasSuffix (what strings.HasSuffix calls). (LAID: no walk: one application.) -/
theorem Tryd.stringslite_HasSuffix (s p : ByteArray) (w : World) (hs : s.size ≤ 9223372036854775807) :
    Calls Tryd.prog 130 #[.string s, .string p] w fun e w' => e = .returned (.bool (Lib.hasSuffix s.data.toList p.data.toList)) ∧ w' = w := Any.stringslite_HasSuffix Tryd.lays207 s p w hs
def Tryd.lays208_ren : Go.Shelf.Ren := ⟨fun | 208 => 107 | 206 => 126 | n => n, fun | 9 => 9 | 4 => 4 | 3 => 3 | n => n, fun | n => n⟩
theorem Tryd.lays208 : Go.Proofs.Lays.n208 Tryd.prog Tryd.lays208_ren := {
  mixed := by kernel_rfl
  f206 := Tryd.func126.trans (congrArg some (by kernel_rfl))
  f208 := Tryd.func107.trans (congrArg some (by kernel_rfl))
  t3 := Tryd.underlying3
  a3 := Tryd.isAgg3
  z3 := Tryd.sizeOf3
  v3 := Tryd.zeroValue3
  t4 := Tryd.underlying4
  a4 := Tryd.isAgg4
  z4 := Tryd.sizeOf4
  v4 := Tryd.zeroValue4
  t9 := Tryd.underlying9
  a9 := Tryd.isAgg9
  z9 := Tryd.sizeOf9
  v9 := Tryd.zeroValue9 }
open Go.RowKit Go.Lib in
/-- internal/stringslite.TrimPrefix (what strings.TrimPrefix calls). (LAID: no walk: one application.) -/
theorem Tryd.stringslite_TrimPrefix (s p : ByteArray) (w : World) :
    Calls Tryd.prog 107 #[.string s, .string p] w fun e w' => e = .returned (.string ⟨(Lib.trimPrefix s.data.toList p.data.toList).toArray⟩) ∧ w' = w := Any.stringslite_TrimPrefix Tryd.lays208 s p w
def Tryd.lays101_ren : Go.Shelf.Ren := ⟨fun | 101 => 83 | 208 => 107 | 206 => 126 | n => n, fun | 9 => 9 | 4 => 4 | 3 => 3 | n => n, fun | n => n⟩
theorem Tryd.lays101 : Go.Proofs.Lays.n101 Tryd.prog Tryd.lays101_ren := {
  mixed := by kernel_rfl
  f101 := Tryd.func83.trans (congrArg some (by kernel_rfl))
  f206 := Tryd.func126.trans (congrArg some (by kernel_rfl))
  f208 := Tryd.func107.trans (congrArg some (by kernel_rfl))
  t3 := Tryd.underlying3
  a3 := Tryd.isAgg3
  z3 := Tryd.sizeOf3
  v3 := Tryd.zeroValue3
  t4 := Tryd.underlying4
  a4 := Tryd.isAgg4
  z4 := Tryd.sizeOf4
  v4 := Tryd.zeroValue4
  t9 := Tryd.underlying9
  a9 := Tryd.isAgg9
  z9 := Tryd.sizeOf9
  v9 := Tryd.zeroValue9 }
open Go.RowKit Go.Lib in
/-- strings.TrimPrefix: "TrimPrefix returns s without the provided leading prefix string. If s doesn't start with prefix, s is returned unchanged.": IT RETURNS 'Lib.trimPrefix s prefix'; the world is as_ it was. (LAID: no walk: one application.) -/
theorem Tryd.strings_TrimPrefix (s p : ByteArray) (w : World) :
    Calls Tryd.prog 83 #[.string s, .string p] w fun e w' => e = .returned (.string ⟨(Lib.trimPrefix s.data.toList p.data.toList).toArray⟩) ∧ w' = w := Any.strings_TrimPrefix Tryd.lays101 s p w
def Tryd.lays209_ren : Go.Shelf.Ren := ⟨fun | 209 => 109 | 207 => 130 | n => n, fun | 9 => 9 | 4 => 4 | 3 => 3 | n => n, fun | n => n⟩
theorem Tryd.lays209 : Go.Proofs.Lays.n209 Tryd.prog Tryd.lays209_ren := {
  mixed := by kernel_rfl
  f207 := Tryd.func130.trans (congrArg some (by kernel_rfl))
  f209 := Tryd.func109.trans (congrArg some (by kernel_rfl))
  t3 := Tryd.underlying3
  a3 := Tryd.isAgg3
  z3 := Tryd.sizeOf3
  v3 := Tryd.zeroValue3
  t4 := Tryd.underlying4
  a4 := Tryd.isAgg4
  z4 := Tryd.sizeOf4
  v4 := Tryd.zeroValue4
  t9 := Tryd.underlying9
  a9 := Tryd.isAgg9
  z9 := Tryd.sizeOf9
  v9 := Tryd.zeroValue9 }
open Go.RowKit Go.Lib in
/-- internal/stringslite.TrimSuffix (what strings.TrimSuffix calls). (LAID: no walk: one application.) -/
theorem Tryd.stringslite_TrimSuffix (s p : ByteArray) (w : World) (hs : s.size ≤ 9223372036854775807) :
    Calls Tryd.prog 109 #[.string s, .string p] w fun e w' => e = .returned (.string ⟨(Lib.trimSuffix s.data.toList p.data.toList).toArray⟩) ∧ w' = w := Any.stringslite_TrimSuffix Tryd.lays209 s p w hs
def Tryd.lays102_ren : Go.Shelf.Ren := ⟨fun | 102 => 85 | 209 => 109 | 207 => 130 | n => n, fun | 9 => 9 | 4 => 4 | 3 => 3 | n => n, fun | n => n⟩
theorem Tryd.lays102 : Go.Proofs.Lays.n102 Tryd.prog Tryd.lays102_ren := {
  mixed := by kernel_rfl
  f102 := Tryd.func85.trans (congrArg some (by kernel_rfl))
  f207 := Tryd.func130.trans (congrArg some (by kernel_rfl))
  f209 := Tryd.func109.trans (congrArg some (by kernel_rfl))
  t3 := Tryd.underlying3
  a3 := Tryd.isAgg3
  z3 := Tryd.sizeOf3
  v3 := Tryd.zeroValue3
  t4 := Tryd.underlying4
  a4 := Tryd.isAgg4
  z4 := Tryd.sizeOf4
  v4 := Tryd.zeroValue4
  t9 := Tryd.underlying9
  a9 := Tryd.isAgg9
  z9 := Tryd.sizeOf9
  v9 := Tryd.zeroValue9 }
open Go.RowKit Go.Lib in
/-- strings.TrimSuffix: "TrimSuffix returns s without the provided trailing suffix string. If s doesn't end with suffix, s is returned unchanged.": IT RETURNS 'Lib.trimSuffix s suffix'; the world is as_ it was. (LAID: no walk: one application.) -/
theorem Tryd.strings_TrimSuffix (s p : ByteArray) (w : World) (hs : s.size ≤ 9223372036854775807) :
    Calls Tryd.prog 85 #[.string s, .string p] w fun e w' => e = .returned (.string ⟨(Lib.trimSuffix s.data.toList p.data.toList).toArray⟩) ∧ w' = w := Any.strings_TrimSuffix Tryd.lays102 s p w hs
open Go.RowKit Go.Lib in
/-- strings.Count at whatever sep that is not empty: the two roads under one statement. (LAID: no walk: one application.) -/
theorem Tryd.strings_Count_any (s sep : ByteArray) (m : Int) (w : World) (hs : s.size < 4294967281) (hm : w.cell? ⟨5, 0, none⟩ = some (.int .i64 m)) (h1 : 1 ≤ sep.size) :
    Calls Tryd.prog 110 #[.string s, .string sep] w fun e w' => e = .returned (.int .i64 (Lib.countB s sep)) ∧ w' = w := Any.strings_Count_any Tryd.lays138 s sep m w hs hm h1
def Tryd.lays221_ren : Go.Shelf.Ren := ⟨fun | 221 => 108 | 268 => 128 | 138 => 110 | 143 => 129 | 195 => 131 | 197 => 157 | 218 => 132 | 219 => 158 | 260 => 175 | 217 => 176 | 225 => 177 | 224 => 178 | 267 => 179 | 266 => 188 | 314 => 189 | n => n, fun | 9 => 9 | 3 => 3 | 31 => 23 | 4 => 4 | 0 => 0 | 105 => 187 | 21 => 21 | 5 => 5 | 46 => 92 | 119 => 210 | 139 => 213 | 138 => 212 | 146 => 214 | 51 => 98 | n => n, fun | 1 => 5 | 3 => 18 | 4 => 19 | n => n⟩
theorem Tryd.lays221 : Go.Proofs.Lays.n221 Tryd.prog Tryd.lays221_ren := {
  mixed := by kernel_rfl
  f138 := Tryd.func110.trans (congrArg some (by kernel_rfl))
  f143 := Tryd.func129.trans (congrArg some (by kernel_rfl))
  f195 := Tryd.func131.trans (congrArg some (by kernel_rfl))
  f197 := Tryd.func157.trans (congrArg some (by kernel_rfl))
  f217 := Tryd.func176.trans (congrArg some (by kernel_rfl))
  f218 := Tryd.func132.trans (congrArg some (by kernel_rfl))
  f219 := Tryd.func158.trans (congrArg some (by kernel_rfl))
  f221 := Tryd.func108.trans (congrArg some (by kernel_rfl))
  f224 := Tryd.func178.trans (congrArg some (by kernel_rfl))
  f225 := Tryd.func177.trans (congrArg some (by kernel_rfl))
  f260 := Tryd.func175.trans (congrArg some (by kernel_rfl))
  f266 := Tryd.func188.trans (congrArg some (by kernel_rfl))
  f267 := Tryd.func179.trans (congrArg some (by kernel_rfl))
  f268 := Tryd.func128.trans (congrArg some (by kernel_rfl))
  f314 := Tryd.func189.trans (congrArg some (by kernel_rfl))
  t0 := Tryd.underlying0
  a0 := Tryd.isAgg0
  z0 := Tryd.sizeOf0
  v0 := Tryd.zeroValue0
  t3 := Tryd.underlying3
  a3 := Tryd.isAgg3
  z3 := Tryd.sizeOf3
  v3 := Tryd.zeroValue3
  t4 := Tryd.underlying4
  a4 := Tryd.isAgg4
  z4 := Tryd.sizeOf4
  v4 := Tryd.zeroValue4
  t5 := Tryd.underlying5
  a5 := Tryd.isAgg5
  z5 := Tryd.sizeOf5
  v5 := Tryd.zeroValue5
  t9 := Tryd.underlying9
  a9 := Tryd.isAgg9
  z9 := Tryd.sizeOf9
  v9 := Tryd.zeroValue9
  t21 := Tryd.underlying21
  a21 := Tryd.isAgg21
  z21 := Tryd.sizeOf21
  v21 := Tryd.zeroValue21
  t31 := Tryd.underlying23
  a31 := Tryd.isAgg23
  z31 := Tryd.sizeOf23
  v31 := Tryd.zeroValue23
  t46 := Tryd.underlying92
  a46 := Tryd.isAgg92
  z46 := Tryd.sizeOf92
  v46 := Tryd.zeroValue92
  t51 := Tryd.underlying98
  a51 := Tryd.isAgg98
  z51 := Tryd.sizeOf98
  v51 := Tryd.zeroValue98
  t105 := Tryd.underlying187
  a105 := Tryd.isAgg187
  z105 := Tryd.sizeOf187
  v105 := Tryd.zeroValue187
  t119 := Tryd.underlying210
  a119 := Tryd.isAgg210
  z119 := Tryd.sizeOf210
  t138 := Tryd.underlying212
  a138 := Tryd.isAgg212
  z138 := Tryd.sizeOf212
  v138 := Tryd.zeroValue212
  t139 := Tryd.underlying213
  a139 := Tryd.isAgg213
  z139 := Tryd.sizeOf213
  v139 := Tryd.zeroValue213
  t146 := Tryd.underlying214
  a146 := Tryd.isAgg214
  z146 := Tryd.sizeOf214
  v146 := Tryd.zeroValue214
  g1 := by kernel_rfl
  g3 := by kernel_rfl
  g4 := by kernel_rfl }
open Go.RowKit Go.Lib in
theorem Tryd.strings_genSplit (s sep : ByteArray) (sv : Nat) (n : Int) (N : Nat) (m : Int) (w : World) (hs : s.size < 4294967281) (hm : w.cell? ⟨5, 0, none⟩ = some (.int .i64 m)) (h1 : 1 ≤ sep.size) (hsv : sv ≤ sep.size) (hn0 : n ≠ 0) (hn63 : n ≤ 9223372036854775807) (hN : (N : Int) = min (if n < 0 then (Lib.countB s sep : Int) + 1 else n) ((s.size : Int) + 1)) :
    Calls Tryd.prog 108 #[.string s, .string sep, .int .i64 sv, .int .i64 n] w fun e w' =>
      e = .returned (.slice (some ⟨w.heap.size, 0, none⟩) (Lib.splitB sep sv (N - 1) s).length N) ∧ w' = w.alloc (.cells (Lib.cellsOf (Lib.splitB sep sv (N - 1) s) N) 9) := Any.strings_genSplit Tryd.lays221 (by kernel_rfl) s sep sv n N m w hs hm h1 hsv hn0 hn63 hN
def Tryd.lays146_ren : Go.Shelf.Ren := ⟨fun | 146 => 84 | 221 => 108 | 268 => 128 | 138 => 110 | 143 => 129 | 195 => 131 | 197 => 157 | 218 => 132 | 219 => 158 | 260 => 175 | 217 => 176 | 225 => 177 | 224 => 178 | 267 => 179 | 266 => 188 | 314 => 189 | n => n, fun | 9 => 9 | 31 => 23 | 3 => 3 | 4 => 4 | 0 => 0 | 105 => 187 | 21 => 21 | 5 => 5 | 46 => 92 | 119 => 210 | 139 => 213 | 138 => 212 | 146 => 214 | 51 => 98 | n => n, fun | 1 => 5 | 3 => 18 | 4 => 19 | n => n⟩
theorem Tryd.lays146 : Go.Proofs.Lays.n146 Tryd.prog Tryd.lays146_ren := {
  mixed := by kernel_rfl
  f138 := Tryd.func110.trans (congrArg some (by kernel_rfl))
  f143 := Tryd.func129.trans (congrArg some (by kernel_rfl))
  f146 := Tryd.func84.trans (congrArg some (by kernel_rfl))
  f195 := Tryd.func131.trans (congrArg some (by kernel_rfl))
  f197 := Tryd.func157.trans (congrArg some (by kernel_rfl))
  f217 := Tryd.func176.trans (congrArg some (by kernel_rfl))
  f218 := Tryd.func132.trans (congrArg some (by kernel_rfl))
  f219 := Tryd.func158.trans (congrArg some (by kernel_rfl))
  f221 := Tryd.func108.trans (congrArg some (by kernel_rfl))
  f224 := Tryd.func178.trans (congrArg some (by kernel_rfl))
  f225 := Tryd.func177.trans (congrArg some (by kernel_rfl))
  f260 := Tryd.func175.trans (congrArg some (by kernel_rfl))
  f266 := Tryd.func188.trans (congrArg some (by kernel_rfl))
  f267 := Tryd.func179.trans (congrArg some (by kernel_rfl))
  f268 := Tryd.func128.trans (congrArg some (by kernel_rfl))
  f314 := Tryd.func189.trans (congrArg some (by kernel_rfl))
  t0 := Tryd.underlying0
  a0 := Tryd.isAgg0
  z0 := Tryd.sizeOf0
  v0 := Tryd.zeroValue0
  t3 := Tryd.underlying3
  a3 := Tryd.isAgg3
  z3 := Tryd.sizeOf3
  v3 := Tryd.zeroValue3
  t4 := Tryd.underlying4
  a4 := Tryd.isAgg4
  z4 := Tryd.sizeOf4
  v4 := Tryd.zeroValue4
  t5 := Tryd.underlying5
  a5 := Tryd.isAgg5
  z5 := Tryd.sizeOf5
  v5 := Tryd.zeroValue5
  t9 := Tryd.underlying9
  a9 := Tryd.isAgg9
  z9 := Tryd.sizeOf9
  v9 := Tryd.zeroValue9
  t21 := Tryd.underlying21
  a21 := Tryd.isAgg21
  z21 := Tryd.sizeOf21
  v21 := Tryd.zeroValue21
  t31 := Tryd.underlying23
  a31 := Tryd.isAgg23
  z31 := Tryd.sizeOf23
  v31 := Tryd.zeroValue23
  t46 := Tryd.underlying92
  a46 := Tryd.isAgg92
  z46 := Tryd.sizeOf92
  v46 := Tryd.zeroValue92
  t51 := Tryd.underlying98
  a51 := Tryd.isAgg98
  z51 := Tryd.sizeOf98
  v51 := Tryd.zeroValue98
  t105 := Tryd.underlying187
  a105 := Tryd.isAgg187
  z105 := Tryd.sizeOf187
  v105 := Tryd.zeroValue187
  t119 := Tryd.underlying210
  a119 := Tryd.isAgg210
  z119 := Tryd.sizeOf210
  t138 := Tryd.underlying212
  a138 := Tryd.isAgg212
  z138 := Tryd.sizeOf212
  v138 := Tryd.zeroValue212
  t139 := Tryd.underlying213
  a139 := Tryd.isAgg213
  z139 := Tryd.sizeOf213
  v139 := Tryd.zeroValue213
  t146 := Tryd.underlying214
  a146 := Tryd.isAgg214
  z146 := Tryd.sizeOf214
  v146 := Tryd.zeroValue214
  g1 := by kernel_rfl
  g3 := by kernel_rfl
  g4 := by kernel_rfl }
open Go.RowKit Go.Lib in
/-- strings.Split. (LAID: no walk: one application.) -/
theorem Tryd.strings_Split (s sep : ByteArray) (m : Int) (w : World) (hs : s.size < 4294967281) (hm : w.cell? ⟨5, 0, none⟩ = some (.int .i64 m)) (h1 : 1 ≤ sep.size) :
    Calls Tryd.prog 84 #[.string s, .string sep] w fun e w' =>
      e = .returned (.slice (some ⟨w.heap.size, 0, none⟩) (Lib.countB s sep + 1) (Lib.countB s sep + 1)) ∧ w' = w.alloc (.cells ((Lib.splitB sep 0 (Lib.countB s sep) s).map Value.string).toArray 9) := Any.strings_Split Tryd.lays146 (by kernel_rfl) s sep m w hs hm h1
def Tryd.lays154_ren : Go.Shelf.Ren := ⟨fun | 154 => 133 | 138 => 110 | 165 => 159 | 143 => 129 | 166 => 115 | 197 => 157 | 169 => 116 | 195 => 131 | 218 => 132 | 240 => 139 | 241 => 180 | 219 => 158 | 260 => 175 | 276 => 163 | 277 => 190 | 217 => 176 | 225 => 177 | 224 => 178 | 267 => 179 | 266 => 188 | 314 => 189 | n => n, fun | 9 => 9 | 3 => 3 | 4 => 4 | 72 => 149 | 0 => 0 | 76 => 150 | 105 => 187 | 21 => 21 | 5 => 5 | 70 => 147 | 20 => 20 | 37 => 22 | 75 => 28 | 127 => 174 | 164 => 191 | 46 => 92 | 119 => 210 | 139 => 213 | 138 => 212 | 146 => 214 | 51 => 98 | 80 => 48 | n => n, fun | 1 => 5 | 3 => 18 | 4 => 19 | n => n⟩
theorem Tryd.lays154 : Go.Proofs.Lays.n154 Tryd.prog Tryd.lays154_ren := {
  mixed := by kernel_rfl
  f138 := Tryd.func110.trans (congrArg some (by kernel_rfl))
  f143 := Tryd.func129.trans (congrArg some (by kernel_rfl))
  f154 := Tryd.func133.trans (congrArg some (by kernel_rfl))
  f165 := Tryd.func159.trans (congrArg some (by kernel_rfl))
  f166 := Tryd.func115.trans (congrArg some (by kernel_rfl))
  f169 := Tryd.func116.trans (congrArg some (by kernel_rfl))
  f195 := Tryd.func131.trans (congrArg some (by kernel_rfl))
  f197 := Tryd.func157.trans (congrArg some (by kernel_rfl))
  f217 := Tryd.func176.trans (congrArg some (by kernel_rfl))
  f218 := Tryd.func132.trans (congrArg some (by kernel_rfl))
  f219 := Tryd.func158.trans (congrArg some (by kernel_rfl))
  f224 := Tryd.func178.trans (congrArg some (by kernel_rfl))
  f225 := Tryd.func177.trans (congrArg some (by kernel_rfl))
  f240 := Tryd.func139.trans (congrArg some (by kernel_rfl))
  f241 := Tryd.func180.trans (congrArg some (by kernel_rfl))
  f260 := Tryd.func175.trans (congrArg some (by kernel_rfl))
  f266 := Tryd.func188.trans (congrArg some (by kernel_rfl))
  f267 := Tryd.func179.trans (congrArg some (by kernel_rfl))
  f276 := Tryd.func163.trans (congrArg some (by kernel_rfl))
  f277 := Tryd.func190.trans (congrArg some (by kernel_rfl))
  f314 := Tryd.func189.trans (congrArg some (by kernel_rfl))
  t0 := Tryd.underlying0
  a0 := Tryd.isAgg0
  z0 := Tryd.sizeOf0
  v0 := Tryd.zeroValue0
  t3 := Tryd.underlying3
  a3 := Tryd.isAgg3
  z3 := Tryd.sizeOf3
  v3 := Tryd.zeroValue3
  t4 := Tryd.underlying4
  a4 := Tryd.isAgg4
  z4 := Tryd.sizeOf4
  v4 := Tryd.zeroValue4
  t5 := Tryd.underlying5
  a5 := Tryd.isAgg5
  z5 := Tryd.sizeOf5
  v5 := Tryd.zeroValue5
  t9 := Tryd.underlying9
  a9 := Tryd.isAgg9
  z9 := Tryd.sizeOf9
  v9 := Tryd.zeroValue9
  t20 := Tryd.underlying20
  a20 := Tryd.isAgg20
  z20 := Tryd.sizeOf20
  v20 := Tryd.zeroValue20
  t21 := Tryd.underlying21
  a21 := Tryd.isAgg21
  z21 := Tryd.sizeOf21
  v21 := Tryd.zeroValue21
  t37 := Tryd.underlying22
  a37 := Tryd.isAgg22
  z37 := Tryd.sizeOf22
  v37 := Tryd.zeroValue22
  t46 := Tryd.underlying92
  a46 := Tryd.isAgg92
  z46 := Tryd.sizeOf92
  v46 := Tryd.zeroValue92
  t51 := Tryd.underlying98
  a51 := Tryd.isAgg98
  z51 := Tryd.sizeOf98
  v51 := Tryd.zeroValue98
  t70 := Tryd.underlying147
  a70 := Tryd.isAgg147
  z70 := Tryd.sizeOf147
  v70 := Tryd.zeroValue147
  t72 := Tryd.underlying149
  a72 := Tryd.isAgg149
  z72 := Tryd.sizeOf149
  v72 := Tryd.zeroValue149
  t75 := Tryd.underlying28
  a75 := Tryd.isAgg28
  z75 := Tryd.sizeOf28
  v75 := Tryd.zeroValue28
  t76 := Tryd.underlying150
  a76 := Tryd.isAgg150
  z76 := Tryd.sizeOf150
  v76 := Tryd.zeroValue150
  t105 := Tryd.underlying187
  a105 := Tryd.isAgg187
  z105 := Tryd.sizeOf187
  v105 := Tryd.zeroValue187
  t119 := Tryd.underlying210
  a119 := Tryd.isAgg210
  z119 := Tryd.sizeOf210
  t127 := Tryd.underlying174
  a127 := Tryd.isAgg174
  z127 := Tryd.sizeOf174
  v127 := Tryd.zeroValue174
  t138 := Tryd.underlying212
  a138 := Tryd.isAgg212
  z138 := Tryd.sizeOf212
  v138 := Tryd.zeroValue212
  t139 := Tryd.underlying213
  a139 := Tryd.isAgg213
  z139 := Tryd.sizeOf213
  v139 := Tryd.zeroValue213
  t146 := Tryd.underlying214
  a146 := Tryd.isAgg214
  z146 := Tryd.sizeOf214
  v146 := Tryd.zeroValue214
  t164 := Tryd.underlying191
  a164 := Tryd.isAgg191
  z164 := Tryd.sizeOf191
  v164 := Tryd.zeroValue191
  g1 := by kernel_rfl
  g3 := by kernel_rfl
  g4 := by kernel_rfl }
theorem Tryd.Builder_Extra_154 : Builder.Extra Tryd.prog Tryd.lays154_ren := {
  sizeBuilder := by kernel_rfl
  liesBuilder := by kernel_rfl
  t5 := Tryd.underlying5
  a5 := Tryd.isAgg5
  z5 := Tryd.sizeOf5
  v5 := Tryd.zeroValue5
  infoByte := by kernel_rfl
  cellsByte := by kernel_rfl
  sizeByte := by kernel_rfl
  neB5 := by decide }
open Go.RowKit Go.Lib in
/-- WHERE SOMETHING IS REPLACED: old is not new, n is not 0, there is an instance. (LAID: no walk: one application.) -/
theorem Tryd.strings_Replace_some (s old new : ByteArray) (n : Int) (m : Int) (w : World) (hs : s.size < 4294967281) (hm : w.cell? ⟨5, 0, none⟩ = some (.int .i64 m)) (h1 : 1 ≤ old.size) (hne : old ≠ new) (hn0 : n ≠ 0) (hc0 : Lib.countB s old ≠ 0) (hlen : s.size + Lib.countB s old * new.size ≤ 140737488355328) :
    Calls Tryd.prog 133 #[.string s, .string old, .string new, .int .i64 n] w fun e w' =>
      e = .returned (.string ⟨(Lib.replaceK old.data.toList new.data.toList (Lib.replaceNum s.data.toList old.data.toList n) s.data.toList).toArray⟩) ∧ Below w.heap.size w w' := Any.strings_Replace_some Tryd.lays154 Tryd.Builder_Extra_154 s old new n m w hs hm h1 hne hn0 hc0 hlen
open Go.RowKit Go.Lib in
/-- 'if old == new || n == 0 { return s }'. (LAID: no walk: one application.) -/
theorem Tryd.strings_Replace_none (s old new : ByteArray) (n : Int) (w : World) (h : old = new ∨ n = 0) :
    Calls Tryd.prog 133 #[.string s, .string old, .string new, .int .i64 n] w fun e w' => e = .returned (.string s) ∧ w' = w := Any.strings_Replace_none Tryd.lays154 s old new n w h
open Go.RowKit Go.Lib in
/-- 'if m := Count(s, old); m == 0 { return s }'. (LAID: no walk: one application.) -/
theorem Tryd.strings_Replace_absent (s old new : ByteArray) (n : Int) (m : Int) (w : World) (hs : s.size < 4294967281) (hm : w.cell? ⟨5, 0, none⟩ = some (.int .i64 m)) (h1 : 1 ≤ old.size) (hne : old ≠ new) (hn0 : n ≠ 0) (hc0 : Lib.countB s old = 0) :
    Calls Tryd.prog 133 #[.string s, .string old, .string new, .int .i64 n] w fun e w' => e = .returned (.string s) ∧ w' = w := Any.strings_Replace_absent Tryd.lays154 s old new n m w hs hm h1 hne hn0 hc0
open Go.RowKit Go.Lib in
/-- strings.Replace: "Replace returns a copy of the string s with the first n non-overlapping instances of old replaced by new. .. If n < 0, there is no limit on the number of replacements.": AT AN old THAT IS NOT EMPTY: IT RETURNS 'Lib.replace s old new n'. Below the heap's end the world is as_ it was. IT ASKS, as_ strings.Index's contract: 'len(s) < 4294967281', 'hm'; and that what comes out has room: 'len(s) + Count(s, old) * len(new) ≤ 2^47'. (LAID: no walk: one application.) -/
theorem Tryd.strings_Replace (s old new : ByteArray) (n : Int) (m : Int) (w : World) (hs : s.size < 4294967281) (hm : w.cell? ⟨5, 0, none⟩ = some (.int .i64 m)) (h1 : 1 ≤ old.size) (hlen : s.size + Lib.countB s old * new.size ≤ 140737488355328) :
    Calls Tryd.prog 133 #[.string s, .string old, .string new, .int .i64 n] w fun e w' =>
      e = .returned (.string ⟨(Lib.replace s.data.toList old.data.toList new.data.toList n).toArray⟩) ∧ Below w.heap.size w w' := Any.strings_Replace Tryd.lays154 Tryd.Builder_Extra_154 s old new n m w hs hm h1 hlen
def Tryd.lays155_ren : Go.Shelf.Ren := ⟨fun | 155 => 111 | 154 => 133 | 138 => 110 | 165 => 159 | 143 => 129 | 166 => 115 | 197 => 157 | 169 => 116 | 195 => 131 | 218 => 132 | 240 => 139 | 241 => 180 | 219 => 158 | 260 => 175 | 276 => 163 | 277 => 190 | 217 => 176 | 225 => 177 | 224 => 178 | 267 => 179 | 266 => 188 | 314 => 189 | n => n, fun | 9 => 9 | 3 => 3 | 4 => 4 | 72 => 149 | 0 => 0 | 76 => 150 | 105 => 187 | 21 => 21 | 5 => 5 | 70 => 147 | 20 => 20 | 37 => 22 | 75 => 28 | 127 => 174 | 164 => 191 | 46 => 92 | 119 => 210 | 139 => 213 | 138 => 212 | 146 => 214 | 51 => 98 | 80 => 48 | n => n, fun | 1 => 5 | 3 => 18 | 4 => 19 | n => n⟩
theorem Tryd.lays155 : Go.Proofs.Lays.n155 Tryd.prog Tryd.lays155_ren := {
  mixed := by kernel_rfl
  f138 := Tryd.func110.trans (congrArg some (by kernel_rfl))
  f143 := Tryd.func129.trans (congrArg some (by kernel_rfl))
  f154 := Tryd.func133.trans (congrArg some (by kernel_rfl))
  f155 := Tryd.func111.trans (congrArg some (by kernel_rfl))
  f165 := Tryd.func159.trans (congrArg some (by kernel_rfl))
  f166 := Tryd.func115.trans (congrArg some (by kernel_rfl))
  f169 := Tryd.func116.trans (congrArg some (by kernel_rfl))
  f195 := Tryd.func131.trans (congrArg some (by kernel_rfl))
  f197 := Tryd.func157.trans (congrArg some (by kernel_rfl))
  f217 := Tryd.func176.trans (congrArg some (by kernel_rfl))
  f218 := Tryd.func132.trans (congrArg some (by kernel_rfl))
  f219 := Tryd.func158.trans (congrArg some (by kernel_rfl))
  f224 := Tryd.func178.trans (congrArg some (by kernel_rfl))
  f225 := Tryd.func177.trans (congrArg some (by kernel_rfl))
  f240 := Tryd.func139.trans (congrArg some (by kernel_rfl))
  f241 := Tryd.func180.trans (congrArg some (by kernel_rfl))
  f260 := Tryd.func175.trans (congrArg some (by kernel_rfl))
  f266 := Tryd.func188.trans (congrArg some (by kernel_rfl))
  f267 := Tryd.func179.trans (congrArg some (by kernel_rfl))
  f276 := Tryd.func163.trans (congrArg some (by kernel_rfl))
  f277 := Tryd.func190.trans (congrArg some (by kernel_rfl))
  f314 := Tryd.func189.trans (congrArg some (by kernel_rfl))
  t0 := Tryd.underlying0
  a0 := Tryd.isAgg0
  z0 := Tryd.sizeOf0
  v0 := Tryd.zeroValue0
  t3 := Tryd.underlying3
  a3 := Tryd.isAgg3
  z3 := Tryd.sizeOf3
  v3 := Tryd.zeroValue3
  t4 := Tryd.underlying4
  a4 := Tryd.isAgg4
  z4 := Tryd.sizeOf4
  v4 := Tryd.zeroValue4
  t5 := Tryd.underlying5
  a5 := Tryd.isAgg5
  z5 := Tryd.sizeOf5
  v5 := Tryd.zeroValue5
  t9 := Tryd.underlying9
  a9 := Tryd.isAgg9
  z9 := Tryd.sizeOf9
  v9 := Tryd.zeroValue9
  t20 := Tryd.underlying20
  a20 := Tryd.isAgg20
  z20 := Tryd.sizeOf20
  v20 := Tryd.zeroValue20
  t21 := Tryd.underlying21
  a21 := Tryd.isAgg21
  z21 := Tryd.sizeOf21
  v21 := Tryd.zeroValue21
  t37 := Tryd.underlying22
  a37 := Tryd.isAgg22
  z37 := Tryd.sizeOf22
  v37 := Tryd.zeroValue22
  t46 := Tryd.underlying92
  a46 := Tryd.isAgg92
  z46 := Tryd.sizeOf92
  v46 := Tryd.zeroValue92
  t51 := Tryd.underlying98
  a51 := Tryd.isAgg98
  z51 := Tryd.sizeOf98
  v51 := Tryd.zeroValue98
  t70 := Tryd.underlying147
  a70 := Tryd.isAgg147
  z70 := Tryd.sizeOf147
  v70 := Tryd.zeroValue147
  t72 := Tryd.underlying149
  a72 := Tryd.isAgg149
  z72 := Tryd.sizeOf149
  v72 := Tryd.zeroValue149
  t75 := Tryd.underlying28
  a75 := Tryd.isAgg28
  z75 := Tryd.sizeOf28
  v75 := Tryd.zeroValue28
  t76 := Tryd.underlying150
  a76 := Tryd.isAgg150
  z76 := Tryd.sizeOf150
  v76 := Tryd.zeroValue150
  t105 := Tryd.underlying187
  a105 := Tryd.isAgg187
  z105 := Tryd.sizeOf187
  v105 := Tryd.zeroValue187
  t119 := Tryd.underlying210
  a119 := Tryd.isAgg210
  z119 := Tryd.sizeOf210
  t127 := Tryd.underlying174
  a127 := Tryd.isAgg174
  z127 := Tryd.sizeOf174
  v127 := Tryd.zeroValue174
  t138 := Tryd.underlying212
  a138 := Tryd.isAgg212
  z138 := Tryd.sizeOf212
  v138 := Tryd.zeroValue212
  t139 := Tryd.underlying213
  a139 := Tryd.isAgg213
  z139 := Tryd.sizeOf213
  v139 := Tryd.zeroValue213
  t146 := Tryd.underlying214
  a146 := Tryd.isAgg214
  z146 := Tryd.sizeOf214
  v146 := Tryd.zeroValue214
  t164 := Tryd.underlying191
  a164 := Tryd.isAgg191
  z164 := Tryd.sizeOf191
  v164 := Tryd.zeroValue191
  g1 := by kernel_rfl
  g3 := by kernel_rfl
  g4 := by kernel_rfl }
theorem Tryd.Builder_Extra_155 : Builder.Extra Tryd.prog Tryd.lays155_ren := {
  sizeBuilder := by kernel_rfl
  liesBuilder := by kernel_rfl
  t5 := Tryd.underlying5
  a5 := Tryd.isAgg5
  z5 := Tryd.sizeOf5
  v5 := Tryd.zeroValue5
  infoByte := by kernel_rfl
  cellsByte := by kernel_rfl
  sizeByte := by kernel_rfl
  neB5 := by decide }
open Go.RowKit Go.Lib in
/-- strings.ReplaceAll: "ReplaceAll returns a copy of the string s with all non-overlapping instances of old replaced by new.": AT AN old THAT IS NOT EMPTY: 'Lib.replaceAll s old new'. (LAID: no walk: one application.) -/
theorem Tryd.strings_ReplaceAll (s old new : ByteArray) (m : Int) (w : World) (hs : s.size < 4294967281) (hm : w.cell? ⟨5, 0, none⟩ = some (.int .i64 m)) (h1 : 1 ≤ old.size) (hlen : s.size + Lib.countB s old * new.size ≤ 140737488355328) :
    Calls Tryd.prog 111 #[.string s, .string old, .string new] w fun e w' =>
      e = .returned (.string ⟨(Lib.replaceAll s.data.toList old.data.toList new.data.toList).toArray⟩) ∧ Below w.heap.size w w' := Any.strings_ReplaceAll Tryd.lays155 Tryd.Builder_Extra_155 s old new m w hs hm h1 hlen
def Tryd.lays260_ren : Go.Shelf.Ren := ⟨fun | 260 => 175 | n => n, fun | 9 => 9 | 21 => 21 | 3 => 3 | 4 => 4 | 5 => 5 | 119 => 210 | 0 => 0 | 46 => 92 | 139 => 213 | 138 => 212 | n => n, fun | 3 => 18 | 4 => 19 | n => n⟩
theorem Tryd.lays260 : Go.Proofs.Lays.n260 Tryd.prog Tryd.lays260_ren := {
  mixed := by kernel_rfl
  f260 := Tryd.func175.trans (congrArg some (by kernel_rfl))
  t0 := Tryd.underlying0
  a0 := Tryd.isAgg0
  z0 := Tryd.sizeOf0
  v0 := Tryd.zeroValue0
  t3 := Tryd.underlying3
  a3 := Tryd.isAgg3
  z3 := Tryd.sizeOf3
  v3 := Tryd.zeroValue3
  t4 := Tryd.underlying4
  a4 := Tryd.isAgg4
  z4 := Tryd.sizeOf4
  v4 := Tryd.zeroValue4
  t5 := Tryd.underlying5
  a5 := Tryd.isAgg5
  z5 := Tryd.sizeOf5
  v5 := Tryd.zeroValue5
  t9 := Tryd.underlying9
  a9 := Tryd.isAgg9
  z9 := Tryd.sizeOf9
  v9 := Tryd.zeroValue9
  t21 := Tryd.underlying21
  a21 := Tryd.isAgg21
  z21 := Tryd.sizeOf21
  v21 := Tryd.zeroValue21
  t46 := Tryd.underlying92
  a46 := Tryd.isAgg92
  z46 := Tryd.sizeOf92
  v46 := Tryd.zeroValue92
  t119 := Tryd.underlying210
  a119 := Tryd.isAgg210
  z119 := Tryd.sizeOf210
  t138 := Tryd.underlying212
  a138 := Tryd.isAgg212
  z138 := Tryd.sizeOf212
  v138 := Tryd.zeroValue212
  t139 := Tryd.underlying213
  a139 := Tryd.isAgg213
  z139 := Tryd.sizeOf213
  v139 := Tryd.zeroValue213
  g3 := by kernel_rfl
  g4 := by kernel_rfl }
open Go.RowKit Go.Lib in
theorem Tryd.utf8_decodeRuneInStringSlow (s : ByteArray) (w : World) (hT : Lib.Utf8Tabs 18 19 w) :
    Calls Tryd.prog 175 #[.string s] w fun e w' => e = .returned (.tuple #[.int .i32 (Lib.decodeGo s).1, .int .i64 (Lib.decodeGo s).2]) ∧ Below w.heap.size w w' := Any.utf8_decodeRuneInStringSlow Tryd.lays260 s w hT
def Tryd.lays109_ren : Go.Shelf.Ren := ⟨fun | 109 => 160 | n => n, fun | 31 => 23 | 9 => 9 | 3 => 3 | 0 => 0 | 4 => 4 | n => n, fun | n => n⟩
theorem Tryd.lays109 : Go.Proofs.Lays.n109 Tryd.prog Tryd.lays109_ren := {
  mixed := by kernel_rfl
  f109 := Tryd.func160.trans (congrArg some (by kernel_rfl))
  t0 := Tryd.underlying0
  a0 := Tryd.isAgg0
  z0 := Tryd.sizeOf0
  v0 := Tryd.zeroValue0
  t3 := Tryd.underlying3
  a3 := Tryd.isAgg3
  z3 := Tryd.sizeOf3
  v3 := Tryd.zeroValue3
  t4 := Tryd.underlying4
  a4 := Tryd.isAgg4
  z4 := Tryd.sizeOf4
  v4 := Tryd.zeroValue4
  t9 := Tryd.underlying9
  a9 := Tryd.isAgg9
  z9 := Tryd.sizeOf9
  v9 := Tryd.zeroValue9
  t31 := Tryd.underlying23
  a31 := Tryd.isAgg23
  z31 := Tryd.sizeOf23
  v31 := Tryd.zeroValue23 }
open Go.Lib in
/-- slices.Index at []string: "Index returns the index of the first occurrence of v in s, or -1 if not present.": IT RETURNS 'Lib.idxOfS (the elements) v'; the world is as_ it was. 'zs': what the cells behind the slice's address hold (its spare capacity too, if you have it); 'zs.take n': its elements. (LAID: no walk: one application.) -/
theorem Tryd.slices_Index_string (b off n c : Nat) (zs : List ByteArray) (x : ByteArray) (w : World) (hz : n ≤ zs.length) (hbig : n ≤ 9223372036854775807) (hc : ∀ j, j < zs.length → w.cell? ⟨b, off + j, none⟩ = some (.string (zs.getD j ByteArray.empty))) :
    Calls Tryd.prog 160 #[.slice (some ⟨b, off, none⟩) n c, .string x] w fun e w' => e = .returned (.int .i64 (Lib.idxOfS (zs.take n) x)) ∧ w' = w := Any.slices_Index_string Tryd.lays109 b off n c zs x w hz hbig hc
open Go.Lib in
/-- The same at a slice of length 0, a nil one too: no cell is known, none is asked for. (LAID: no walk: one application.) -/
theorem Tryd.slices_Index_string_empty (a : Option Addr) (c : Nat) (x : ByteArray) (w : World) :
    Calls Tryd.prog 160 #[.slice a 0 c, .string x] w fun e w' => e = .returned (.int .i64 (Lib.idxOfS [] x)) ∧ w' = w := Any.slices_Index_string_empty Tryd.lays109 a c x w
def Tryd.lays110_ren : Go.Shelf.Ren := ⟨fun | 110 => 135 | 109 => 160 | n => n, fun | 31 => 23 | 9 => 9 | 4 => 4 | 3 => 3 | 0 => 0 | n => n, fun | n => n⟩
theorem Tryd.lays110 : Go.Proofs.Lays.n110 Tryd.prog Tryd.lays110_ren := {
  mixed := by kernel_rfl
  f109 := Tryd.func160.trans (congrArg some (by kernel_rfl))
  f110 := Tryd.func135.trans (congrArg some (by kernel_rfl))
  t0 := Tryd.underlying0
  a0 := Tryd.isAgg0
  z0 := Tryd.sizeOf0
  v0 := Tryd.zeroValue0
  t3 := Tryd.underlying3
  a3 := Tryd.isAgg3
  z3 := Tryd.sizeOf3
  v3 := Tryd.zeroValue3
  t4 := Tryd.underlying4
  a4 := Tryd.isAgg4
  z4 := Tryd.sizeOf4
  v4 := Tryd.zeroValue4
  t9 := Tryd.underlying9
  a9 := Tryd.isAgg9
  z9 := Tryd.sizeOf9
  v9 := Tryd.zeroValue9
  t31 := Tryd.underlying23
  a31 := Tryd.isAgg23
  z31 := Tryd.sizeOf23
  v31 := Tryd.zeroValue23 }
open Go.Lib in
/-- slices.Contains at []string: "Contains reports whether v is present in s.": IT RETURNS 'Lib.containsS (the elements) v', which is true just where v is among them ('Lib.containsS_iff'); the world is as_ it was. ITS CALLEE slices.Index IS MET BY ITS OWN CONTRACT OFF THE SHELF (lay that first): no loop is walked here. (LAID: no walk: one application.) -/
theorem Tryd.slices_Contains_string (b off n c : Nat) (zs : List ByteArray) (x : ByteArray) (w : World) (hz : n ≤ zs.length) (hbig : n ≤ 9223372036854775807) (hc : ∀ j, j < zs.length → w.cell? ⟨b, off + j, none⟩ = some (.string (zs.getD j ByteArray.empty))) :
    Calls Tryd.prog 135 #[.slice (some ⟨b, off, none⟩) n c, .string x] w fun e w' => e = .returned (.bool (Lib.containsS (zs.take n) x)) ∧ w' = w := Any.slices_Contains_string Tryd.lays110 b off n c zs x w hz hbig hc
open Go.Lib in
/-- The same at a slice of length 0, a nil one too. (LAID: no walk: one application.) -/
theorem Tryd.slices_Contains_string_empty (a : Option Addr) (c : Nat) (x : ByteArray) (w : World) :
    Calls Tryd.prog 135 #[.slice a 0 c, .string x] w fun e w' => e = .returned (.bool false) ∧ w' = w := Any.slices_Contains_string_empty Tryd.lays110 a c x w
def Tryd.laysNm217_ren : Go.Shelf.Ren := ⟨fun | 17 => 138 | n => n, fun | 24 => 23 | 9 => 9 | 3 => 3 | 4 => 4 | 0 => 0 | n => n, fun | n => n⟩
theorem Tryd.laysNm217 : Go.Proofs.Lays2.n17 Tryd.prog Tryd.laysNm217_ren := {
  mixed := by kernel_rfl
  f17 := Tryd.func138.trans (congrArg some (by kernel_rfl))
  t0 := Tryd.underlying0
  a0 := Tryd.isAgg0
  z0 := Tryd.sizeOf0
  v0 := Tryd.zeroValue0
  t3 := Tryd.underlying3
  a3 := Tryd.isAgg3
  z3 := Tryd.sizeOf3
  v3 := Tryd.zeroValue3
  t4 := Tryd.underlying4
  a4 := Tryd.isAgg4
  z4 := Tryd.sizeOf4
  v4 := Tryd.zeroValue4
  t9 := Tryd.underlying9
  a9 := Tryd.isAgg9
  z9 := Tryd.sizeOf9
  v9 := Tryd.zeroValue9
  t24 := Tryd.underlying23
  a24 := Tryd.isAgg23
  z24 := Tryd.sizeOf23
  v24 := Tryd.zeroValue23 }
open Go.RowKit Go.Lib Go.Sort in
/-- slices.Reverse at []string, over an array: Go's loop from the two ends inward is walked; it makes 'Sort.reverseLoop 0 (len - 1)', which is 'Array.reverse' (Derived/Lib/SlicesMore.lean). (LAID: no walk: one application.) -/
theorem Tryd.slices_Reverse_string_arr (blk off cap : Nat) (d : Array (List UInt8)) (w : World) (hH : Holds encStr w blk off d) (hsz : d.size ≤ 9223372036854775807) :
    Calls Tryd.prog 138 #[.slice (some ⟨blk, off, none⟩) d.size cap] w fun e w' => e = .returned (.tuple #[]) ∧ ∃ n, w' = putRow encStr (Sort.ahead w n) blk off d.reverse := Any.slices_Reverse_string_arr Tryd.laysNm217 blk off cap d w hH hsz
open Go.RowKit Go.Lib Go.Sort in
/-- slices.Reverse at []string: "Reverse reverses the elements of the slice in place.": THE SLICE's CELLS HOLD 'zs.reverse' BEHIND THE CALL; all else is as_ it was, but for the count of draws (the exchange 's[i], s[j] = s[j], s[i]' draws its order, once a round). IN THE WORDS OF slices.Sort's CONTRACT: 'Holds': the cells hold zs and none is frozen; 'putRow': the world with those cells holding another array. A slice of length 0 that is not nil is among them ('zs = []'); nil: '.._nil'. (LAID: no walk: one application.) -/
theorem Tryd.slices_Reverse_string (blk off cap : Nat) (zs : List (List UInt8)) (w : World) (hH : Holds encStr w blk off zs.toArray) (hsz : zs.length ≤ 9223372036854775807) :
    Calls Tryd.prog 138 #[.slice (some ⟨blk, off, none⟩) zs.length cap] w fun e w' => e = .returned (.tuple #[]) ∧ ∃ n, w' = putRow encStr (Sort.ahead w n) blk off zs.reverse.toArray := Any.slices_Reverse_string Tryd.laysNm217 blk off cap zs w hH hsz
open Go.RowKit Go.Lib Go.Sort in
/-- The same at a slice of length 0, a nil one too: nothing is read, nothing written, nothing drawn. (LAID: no walk: one application.) -/
theorem Tryd.slices_Reverse_string_empty (a : Option Addr) (cap : Nat) (w : World) :
    Calls Tryd.prog 138 #[.slice a 0 cap] w fun e w' => e = .returned (.tuple #[]) ∧ w' = w := Any.slices_Reverse_string_empty Tryd.laysNm217 a cap w
def Tryd.lays194_ren : Go.Shelf.Ren := ⟨fun | 194 => 100 | n => n, fun | 31 => 23 | 9 => 9 | 3 => 3 | 4 => 4 | 0 => 0 | n => n, fun | n => n⟩
theorem Tryd.lays194 : Go.Proofs.Lays.n194 Tryd.prog Tryd.lays194_ren := {
  mixed := by kernel_rfl
  f194 := Tryd.func100.trans (congrArg some (by kernel_rfl))
  t0 := Tryd.underlying0
  a0 := Tryd.isAgg0
  z0 := Tryd.sizeOf0
  v0 := Tryd.zeroValue0
  t3 := Tryd.underlying3
  a3 := Tryd.isAgg3
  z3 := Tryd.sizeOf3
  v3 := Tryd.zeroValue3
  t4 := Tryd.underlying4
  a4 := Tryd.isAgg4
  z4 := Tryd.sizeOf4
  v4 := Tryd.zeroValue4
  t9 := Tryd.underlying9
  a9 := Tryd.isAgg9
  z9 := Tryd.sizeOf9
  v9 := Tryd.zeroValue9
  t31 := Tryd.underlying23
  a31 := Tryd.isAgg23
  z31 := Tryd.sizeOf23
  v31 := Tryd.zeroValue23 }
open Go.RowKit Go.Lib Go.Sort in
/-- slices.Compact at []string, over an array: the library's two loops are walked. (LAID: no walk: one application.) -/
theorem Tryd.slices_Compact_string_arr (blk off cap : Nat) (d : Array (List UInt8)) (w : World) (hH : Holds encStr w blk off d) (hsz : d.size ≤ 9223372036854775807) (hcap : d.size ≤ cap) :
    Calls Tryd.prog 100 #[.slice (some ⟨blk, off, none⟩) d.size cap] w fun e w' => e = .returned (.slice (some ⟨blk, off, none⟩) (compactUpTo d d.size).length cap) ∧ ∃ q, w' = putRow encStr (Sort.ahead w q) blk off (compactUpTo d d.size ++ List.replicate (d.size - (compactUpTo d d.size).length) []).toArray := Any.slices_Compact_string_arr Tryd.lays194 blk off cap d w hH hsz hcap
open Go.RowKit Go.Lib Go.Sort in
/-- slices.Compact at []string: "Compact replaces consecutive runs of equal elements with a single copy. This is like the uniq command found on Unix. Compact modifies the contents of the slice s and returns the modified slice, which may have a smaller length. Compact zeroes the elements between the new length and the original length. The result preserves the nilness of s.": IT RETURNS THE SLICE CUT TO 'Lib.compact zs'; ITS CELLS HOLD 'Lib.compact zs', THEN ZERO VALUES up to the old length; all else is as_ it was, but for the count of draws. IN THE WORDS OF slices.Sort's CONTRACT ('Holds', 'putRow'): so the everyday 'slices.Sort(xs); xs = slices.Compact(xs)' goes from the one contract to the other. It asks 'zs.length ≤ cap' (every slice's: the reslicing 's[:k]' looks at it). Length 0, nil: '.._empty'. (LAID: no walk: one application.) -/
theorem Tryd.slices_Compact_string (blk off cap : Nat) (zs : List (List UInt8)) (w : World) (hH : Holds encStr w blk off zs.toArray) (hsz : zs.length ≤ 9223372036854775807) (hcap : zs.length ≤ cap) :
    Calls Tryd.prog 100 #[.slice (some ⟨blk, off, none⟩) zs.length cap] w fun e w' => e = .returned (.slice (some ⟨blk, off, none⟩) (Lib.compact zs).length cap) ∧ ∃ q, w' = putRow encStr (Sort.ahead w q) blk off (Lib.compact zs ++ List.replicate (zs.length - (Lib.compact zs).length) []).toArray := Any.slices_Compact_string Tryd.lays194 blk off cap zs w hH hsz hcap
open Go.RowKit Go.Lib Go.Sort in
/-- The same at a slice of length 0, a nil one too: it comes back as_ it is. (LAID: no walk: one application.) -/
theorem Tryd.slices_Compact_string_empty (a : Option Addr) (cap : Nat) (w : World) :
    Calls Tryd.prog 100 #[.slice a 0 cap] w fun e w' => e = .returned (.slice a 0 cap) ∧ w' = w := Any.slices_Compact_string_empty Tryd.lays194 a cap w
open Go.RowKit Go.Lib Go.Sort in
/-- slices.Reverse at []string, of an argument. (LAID: no walk: one application.) -/
theorem Tryd.slices_Reverse_string_cells (b off n c : Nat) (Sx : Nat → ByteArray) (w : World) (hbig : n ≤ 9223372036854775807) (hc : ∀ i, i < n → w.cell? ⟨b, off + i, none⟩ = some (.string (Sx i))) (hf : ∀ j, j < n → w.frozen? ⟨b, off + j, none⟩ = false) :
    Calls Tryd.prog 138 #[.slice (some ⟨b, off, none⟩) n c] w fun e w' => e = .returned (.tuple #[]) ∧ ∃ q, w' = (w.drewN q).setCells b off ((Lib.strsOf Sx n).reverse.map encStr) := Any.slices_Reverse_string_cells Tryd.laysNm217 b off n c Sx w hbig hc hf
open Go.RowKit Go.Lib Go.Sort in
/-- slices.Compact at []string, of an argument. (LAID: no walk: one application.) -/
theorem Tryd.slices_Compact_string_cells (b off n c : Nat) (Sx : Nat → ByteArray) (w : World) (hbig : n ≤ 9223372036854775807) (hcap : n ≤ c) (hc : ∀ i, i < n → w.cell? ⟨b, off + i, none⟩ = some (.string (Sx i))) (hf : ∀ j, j < n → w.frozen? ⟨b, off + j, none⟩ = false) :
    Calls Tryd.prog 100 #[.slice (some ⟨b, off, none⟩) n c] w fun e w' => e = .returned (.slice (some ⟨b, off, none⟩) (Lib.compact (Lib.strsOf Sx n)).length c) ∧ ∃ q, w' = (w.drewN q).setCells b off ((Lib.compact (Lib.strsOf Sx n) ++ List.replicate (n - (Lib.compact (Lib.strsOf Sx n)).length) []).map encStr) := Any.slices_Compact_string_cells Tryd.lays194 b off n c Sx w hbig hcap hc hf
open Go.RowKit Go.Sort in
/-- .. and plain. (LAID: no walk: one application.) -/
theorem Tryd.slices_Sort_string_none (p : Option Addr) (cap : Nat) (w : World) :
    Calls Tryd.prog 99 #[.slice p 0 cap] w fun e w' => e = .returned (.tuple #[]) ∧ w' = w := Any.slices_Sort_string_none Tryd.lays190 p cap w
end Go.Proofs
 /- tool.joined: texts, with one between, and one behind each; its first half began as_ what the generator prints. -/
namespace Go.Proofs.YtilphcippnfklaaDoor
open Go Go.RowKit
def jnE (by_ end_ : List UInt8) : Bool → List (List UInt8) → List UInt8
  | _, [] => []
  | first, x :: l => (if first = true then [] else by_) ++ x ++ end_ ++ jnE by_ end_ false l
def joinE (l : List (List UInt8)) (by_ end_ : List UInt8) : List UInt8 := jnE by_ end_ true l
theorem jnE_snoc (by_ end_ : List UInt8) : ∀ (l : List (List UInt8)) (x : List UInt8) (b : Bool), jnE by_ end_ b (l ++ [x]) = jnE by_ end_ b l ++ ((if b = true ∧ l = [] then [] else by_) ++ x ++ end_)
  | [], x, b => by cases b <;> simp [jnE]
  | y :: l, x, b => by
    have ih := jnE_snoc by_ end_ l x false
    simp only [List.cons_append, jnE, ih]
    simp
theorem joinE_take {l : List (List UInt8)} {i : Nat} (h : i < l.length) (by_ end_ : List UInt8) : joinE (l.take (i + 1)) by_ end_ = joinE (l.take i) by_ end_ ++ ((if i = 0 then [] else by_) ++ l.getD i [] ++ end_) := by
  unfold joinE
  rw [List.take_succ_eq_append_getElem h, jnE_snoc]
  have e : l.getD i [] = l[i] := by simp [List.getD, h]
  rw [e]
  by_cases h0 : i = 0
  · subst h0; simp
  · rw [if_neg h0, if_neg]
    rintro ⟨_, h2⟩
    have := congrArg List.length h2
    rw [List.length_take, List.length_nil] at this
    omega
theorem joinE_le (l : List (List UInt8)) (i : Nat) (by_ end_ : List UInt8) : (joinE (l.take i) by_ end_).length ≤ (joinE l by_ end_).length := by
  have step : ∀ k, i ≤ l.length → i + k ≤ l.length → (joinE (l.take i) by_ end_).length ≤ (joinE (l.take (i + k)) by_ end_).length := by
    intro k h1
    induction k with
    | zero => intro _; exact Nat.le_refl _
    | succ k ih =>
      intro h2
      have := ih (by omega)
      rw [← Nat.add_assoc, joinE_take (by omega), List.length_append]
      omega
  rcases Nat.lt_or_ge l.length i with h | h
  · rw [List.take_of_length_le (by omega)]; exact Nat.le_refl _
  · have := step (l.length - i) h (by omega)
    rw [show i + (l.length - i) = l.length by omega, List.take_length] at this
    exact this
/-! the library's builder, laid at this program -/
def bldRen : Go.Shelf.Ren := ⟨fun | 166 => 115 | 240 => 139 | 276 => 163 | n => n, fun | 0 => 0 | 3 => 3 | 4 => 4 | 9 => 9 | 20 => 20 | 37 => 22 | 70 => 147 | 72 => 149 | 75 => 28 | 164 => 191 | 5 => 5 | 80 => 48 | n => n, fun | n => n⟩
theorem bldLays : Go.Proofs.Lays.n166 Tryd.prog bldRen where
  mixed := by kernel_rfl
  f166 := Tryd.func115.trans (congrArg some (by kernel_rfl))
  f240 := Tryd.func139.trans (congrArg some (by kernel_rfl))
  f276 := Tryd.func163.trans (congrArg some (by kernel_rfl))
  t0 := Tryd.underlying0
  a0 := Tryd.isAgg0
  z0 := Tryd.sizeOf0
  v0 := Tryd.zeroValue0
  t3 := Tryd.underlying3
  a3 := Tryd.isAgg3
  z3 := Tryd.sizeOf3
  v3 := Tryd.zeroValue3
  t4 := Tryd.underlying4
  a4 := Tryd.isAgg4
  z4 := Tryd.sizeOf4
  v4 := Tryd.zeroValue4
  t9 := Tryd.underlying9
  a9 := Tryd.isAgg9
  z9 := Tryd.sizeOf9
  v9 := Tryd.zeroValue9
  t20 := Tryd.underlying20
  a20 := Tryd.isAgg20
  z20 := Tryd.sizeOf20
  v20 := Tryd.zeroValue20
  t37 := Tryd.underlying22
  a37 := Tryd.isAgg22
  z37 := Tryd.sizeOf22
  v37 := Tryd.zeroValue22
  t70 := Tryd.underlying147
  a70 := Tryd.isAgg147
  z70 := Tryd.sizeOf147
  v70 := Tryd.zeroValue147
  t72 := Tryd.underlying149
  a72 := Tryd.isAgg149
  z72 := Tryd.sizeOf149
  v72 := Tryd.zeroValue149
  t75 := Tryd.underlying28
  a75 := Tryd.isAgg28
  z75 := Tryd.sizeOf28
  v75 := Tryd.zeroValue28
  t164 := Tryd.underlying191
  a164 := Tryd.isAgg191
  z164 := Tryd.sizeOf191
  v164 := Tryd.zeroValue191
theorem bldExtra : Go.Proofs.Builder.Extra Tryd.prog bldRen where
  sizeBuilder := by kernel_rfl
  liesBuilder := by kernel_rfl
  t5 := Tryd.underlying5
  a5 := Tryd.isAgg5
  z5 := Tryd.sizeOf5
  v5 := Tryd.zeroValue5
  infoByte := by kernel_rfl
  cellsByte := by kernel_rfl
  sizeByte := by kernel_rfl
  neB5 := by decide
/-! a strings.Builder in a block of its own -/
def IsB (w : World) (B g : Nat) (b : List UInt8) : Prop := Lib.IsBuilder 149 5 B g (Lib.byteCells b) w
theorem IsB.heap {w w1 : World} {B g : Nat} {b : List UInt8} (h : IsB w B g b) (e : w1.heap = w.heap) : IsB w1 B g b := by
  unfold IsB Lib.IsBuilder Lib.BuilderAt World.ownsRow at *
  rw [e]
  exact h
theorem below_left {B : Nat} {a b c : World} (e : Eqv a b) (h : Below B b c) : Below B a c := ⟨h.os.trans e.os, h.tape.trans e.tape, h.output.trans e.output, by have := h.size; rw [e.heap] at this; exact this, fun i hi => by have := h.block i hi; rw [e.heap] at this; exact this⟩
theorem IsB.new {w : World} {B g : Nat} (h : Bl w g 149 [.pointer none, .slice none 0 0]) (hB : B ≤ g) : IsB w B g [] := .inl ⟨hB, _, h, ⟨rfl, .inl ⟨rfl, rfl⟩⟩, by simp [Value.ownBlock]⟩
theorem wstr_fn (B g : Nat) (b s : List UInt8) (w : World) (h : IsB w B g b) (hlen : b.length + s.length ≤ 140737488355328) (hB : B ≤ w.heap.size) : Fn Tryd.prog 115 ⟨[.pointer (some ⟨g, 0, none⟩), vs s]⟩ w fun _ w' => IsB w' B g (b ++ s) ∧ Below B w w' :=
  ⟨by kernel_rfl, fun w1 e => (Any.Builder_WriteString bldLays bldExtra B g (Lib.byteCells b) ⟨⟨s⟩⟩ w1 (h.heap e.heap) (by rw [Lib.byteCells_length]; exact hlen) (by rw [e.heap]; exact hB)).mono fun _ w' ⟨he, hb, hbl⟩ => ⟨_, w', he, Eqv.refl _, .inr (by
    have : Lib.byteCells (b ++ s) = Lib.byteCells b ++ Lib.strCells ⟨⟨s⟩⟩ := by simp [Lib.byteCells, Lib.strCells]
    rw [this]; exact hb), below_left e hbl⟩⟩
theorem bstr_fn (B g : Nat) (b : List UInt8) (w : World) (h : IsB w B g b) (hB : B ≤ w.heap.size) : Fn Tryd.prog 116 ⟨[.pointer (some ⟨g, 0, none⟩)]⟩ w fun v w' => v = vs b ∧ Below B w w' :=
  ⟨by kernel_rfl, fun w1 e => (Tryd.Builder_String_any B g b w1 (h.heap e.heap) (by rw [e.heap]; exact hB)).mono fun _ w' ⟨he, hbl⟩ => ⟨_, w', he, Eqv.refl _, rfl, below_left e hbl⟩⟩
attribute [local irreducible] WL WC WX WQ WK WJ Yld Eff Ef0 Fn
def M_tool_joined (l : List (List UInt8)) (by_ : List UInt8) (end_ : List UInt8) (K : (List UInt8) → Er → Prop) : Prop :=
 (l.length ≤ maxLen →
 Lp2 (fun (n : Int) (t16 : Int) k_1 => ((t16 < (l.length : Int) → (0 ≤ t16 ∧ t16 < (l.length : Nat)) ∧
 ∃ J1 : Int → Prop, ((((0 : Int) < t16 → (In .i64 (n + (by_.length : Int))) ∧
 J1 (n + (by_.length : Int))) ∧
 (¬ ((0 : Int) < t16) → J1 n))) ∧
 (∀ n2 : Int, J1 n2 → (In .i64 (((l.getD t16.toNat []).length : Int) + (end_.length : Int))) ∧
 (In .i64 (n2 + (((l.getD t16.toNat []).length : Int) + (end_.length : Int)))) ∧
 (((65536 : Int) < (n2 + (((l.getD t16.toNat []).length : Int) + (end_.length : Int))) → K ([] : List UInt8) (Er.e 16)) ∧
 (¬ ((65536 : Int) < (n2 + (((l.getD t16.toNat []).length : Int) + (end_.length : Int)))) → (In .i64 (t16 + (1 : Int))) ∧
 k_1 (n2 + (((l.getD t16.toNat []).length : Int) + (end_.length : Int))) (t16 + (1 : Int)))))) ∧
 (¬ (t16 < (l.length : Int)) → (joinE l by_ end_).length ≤ 1000000000 ∧ K (joinE l by_ end_) .ok))) (0 : Int) (0 : Int))

set_option maxHeartbeats 8000000 in
theorem W_tool_joined {S : List Nat} {w : World} {l : List (List UInt8)} {A_l : Option Addr} {c_l : Nat} {by_ : List UInt8} {end_ : List UInt8} {n_l : Nat} {K : (List UInt8) → Er → Prop} (hG : GOK S w) (hS16 : 16 ∈ S) (hl : Rd vs w A_l c_l l) (hn_l : n_l = l.length) (H : M_tool_joined l by_ end_ K) : Fn Tryd.prog 88 ⟨[.slice A_l n_l c_l, vs by_, vs end_]⟩ w (fun v w' => w.grownBy w' none ∧ ∃ (r0 : List UInt8), ∃ (v_r1 : Value), ∃ (r1 : Er), v = .tuple #[vs r0, v_r1] ∧ ErrR S w' v_r1 r1 ∧ K r0 r1) := by
  subst hn_l
  unfold M_tool_joined at H
  refine Fn.enter (by kernel_rfl) Tryd.func88 rfl Tryd.ntmps88 rfl ?_
  replace H := H (Nat.le_trans hl.cap hl.max)
  refine WC.seq ?_
  refine WC.region ?_
  refine WL.y rfl (Yld.pure tab_ok rfl) ?_
  refine WL.y rfl (Yld.pure tab_ok rfl) ?_
  refine WL.nil (WX.then_normal ?_)
  refine WC.seq ?_
  refine WC.region ?_
  refine WL.y rfl (Yld.pure tab_ok rfl) ?_
  refine WL.nil (WX.then_normal ?_)
  refine WC.seq ?_
  refine WC.seq ?_
  refine WC.region ?_
  refine WL.y rfl (Yld.pure tab_ok rfl) ?_
  refine WL.y rfl (Yld.pure tab_ok rfl) ?_
  refine WL.y rfl (Yld.pure tab_ok rfl) ?_
  refine WL.nil (WX.then_normal ?_)
  refine WC.block ?_
  obtain ⟨I1, mu1, h0_1, HR1⟩ := H
  refine WC.loopF (fun n' L' w' => ∃ (n : Int), ∃ (t16 : Int), n' = mu1 n t16 ∧ L' = [(0, .slice A_l l.length c_l), (1, vs by_), (2, vs end_), (8, .int .i64 n), (14, .slice A_l l.length c_l), (15, .int .i64 (l.length : Int)), (16, .int .i64 t16)] ∧ I1 n t16 ∧ w = w') _ _ ⟨(0 : Int), (0 : Int), rfl, rfl, h0_1, rfl⟩ (by repeat (first | exact Sub.nil | refine Sub.cons rfl ?_)) ?_
  clear h0_1
  rintro _ _ _ ⟨n, t16, rfl, rfl, hI1, rfl⟩
  have H := HR1 n t16 hI1
  refine WC.seq ?_
  refine WC.region ?_
  refine WL.y rfl (Yld.pure tab_ok rfl) ?_
  refine WL.nil (WX.then_normal ?_)
  refine WC.seq ?_
  refine WC.cond rfl (fun b1 => ?_) (fun b1 => ?_)
  · replace H := H.1 (of_decide_eq_true b1)
    refine WC.skip (WX.then_normal ?_)
    refine WC.seq ?_
    refine WC.block ?_
    refine WC.seq ?_
    refine WC.region ?_
    refine WL.y rfl (Yld.pure tab_ok rfl) ?_
    obtain ⟨h1, H⟩ := H
    refine WL.y rfl (Yld.iaddrW tab_ok hl rfl rfl rfl rfl h1.1 h1.2) ?_
    refine WL.y rfl (Yld.iload [] tab_ok hl rfl rfl (iltN h1 rfl)) ?_
    refine WL.y rfl (Yld.pure tab_ok rfl) ?_
    refine WL.y rfl (Yld.pure tab_ok rfl) ?_
    refine WL.nil (WX.then_normal ?_)
    refine WC.seq ?_
    obtain ⟨J1, H, hJ1⟩ := H
    refine WC.midF (fun L' w' => ∃ (n2 : Int), L' = [(0, .slice A_l l.length c_l), (1, vs by_), (2, vs end_), (8, .int .i64 n2), (10, vs (l.getD t16.toNat [])), (14, .slice A_l l.length c_l), (15, .int .i64 (l.length : Int)), (16, .int .i64 t16)] ∧ J1 n2 ∧ w = w') ?_ (fun hQ => ?_)
    · clear H
      rintro _ _ ⟨n2, rfl, H, rfl⟩
      replace H := hJ1 n2 H
      refine WX.then_normal ?_
      refine WC.seq ?_
      refine WC.region ?_
      refine WL.y rfl (Yld.pure tab_ok rfl) ?_
      refine WL.y rfl (Yld.pure tab_ok rfl) ?_
      refine WL.y rfl (Yld.pure tab_ok rfl) ?_
      refine WL.y rfl (Yld.pure tab_ok rfl) ?_
      refine WL.y rfl (Yld.pure tab_ok rfl) ?_
      obtain ⟨h2, H⟩ := H
      refine WL.y rfl (Yld.add rfl rfl h2) ?_
      obtain ⟨h3, H⟩ := H
      refine WL.y rfl (Yld.add rfl rfl h3) ?_
      refine WL.y rfl (Yld.pure tab_ok rfl) ?_
      refine WL.nil (WX.then_normal ?_)
      refine WC.seq ?_
      refine WC.region ?_
      refine WL.y rfl (Yld.pure tab_ok rfl) ?_
      refine WL.y rfl (Yld.pure tab_ok rfl) ?_
      refine WL.nil (WX.then_normal ?_)
      refine WC.cond rfl (fun b2 => ?_) (fun b2 => ?_)
      · replace H := H.1 (of_decide_eq_true b2)
        refine WC.seq ?_
        refine WC.quiet mixed (by kernel_rfl) ?_
        obtain ⟨vE1, _, hE1⟩ := GOK.get hG 16 2 hS16 rfl rfl
        refine WQ.y rfl (Yld.cell tab_ok (ErrR.cell hE1 rfl) rfl rfl) ?_
        refine WQ.y rfl (Yld.pure tab_ok rfl) ?_
        refine WQ.y rfl (Yld.pure tab_ok rfl) ?_
        refine WQ.nil (WX.then_normal ?_)
        refine WC.ret (WX.block_ret (WX.then_ret (WX.then_ret (WX.block_ret (WX.then_ret ?_)))))
        exact WX.ret2 rfl rfl rfl ⟨(gr_refl _ _), ([] : List UInt8), vE1, (Er.e 16), rfl, hE1, H⟩
      · replace H := H.2 (of_decide_eq_false b2)
        refine WC.skip (WX.block_normal (WX.then_normal ?_))
        refine WC.region ?_
        obtain ⟨h4, H⟩ := H
        refine WL.y rfl (Yld.add rfl rfl h4) ?_
        refine WL.y rfl (Yld.pure tab_ok rfl) ?_
        refine WL.nil ?_
        exact WX.roundF _ ⟨n2 + (((l.getD t16.toNat []).length : Int) + (end_.length : Int)), t16 + (1 : Int), rfl, rfl, H.1, rfl⟩ (by repeat (first | exact Sub.nil | refine Sub.cons rfl ?_)) H.2
    · clear hJ1
      refine WC.seq ?_
      refine WC.region ?_
      refine WL.y rfl (Yld.pure tab_ok rfl) ?_
      refine WL.y rfl (Yld.pure tab_ok rfl) ?_
      refine WL.nil (WX.then_normal ?_)
      refine WC.cond rfl (fun b3 => ?_) (fun b3 => ?_)
      · replace H := H.1 (of_decide_eq_true b3)
        refine WC.region ?_
        refine WL.y rfl (Yld.pure tab_ok rfl) ?_
        refine WL.y rfl (Yld.pure tab_ok rfl) ?_
        refine WL.y rfl (Yld.pure tab_ok rfl) ?_
        obtain ⟨h5, H⟩ := H
        refine WL.y rfl (Yld.add rfl rfl h5) ?_
        refine WL.y rfl (Yld.pure tab_ok rfl) ?_
        refine WL.nil ?_
        exact WX.weaken (by repeat (first | exact Sub.nil | refine Sub.cons rfl ?_)) (hQ _ _ ⟨n + (by_.length : Int), rfl, H, rfl⟩)
      · replace H := H.2 (of_decide_eq_false b3)
        refine WC.skip ?_
        exact WX.weaken (by repeat (first | exact Sub.nil | refine Sub.cons rfl ?_)) (hQ _ _ ⟨n, rfl, H, rfl⟩)
  · replace H := H.2 (of_decide_eq_false b1)
    refine WC.exit (WX.then_exit (WX.then_exit (WX.block_same (WX.then_normal ?_))))
    refine WC.seq ?_
    refine WC.region ?_
    have hmx := Nat.le_trans hl.cap hl.max
    simp only [maxLen] at hmx
    refine WL.alloc rfl zero149 (fun g w1 hB1 hg1 hl1 => ?_)
    refine WL.nil (WX.then_normal ?_)
    refine WC.seq ?_
    refine WC.seq ?_
    refine WC.region ?_
    repeat (first | refine WC.seq ?_ | refine WC.block ?_ | refine WC.region ?_ | refine WL.nil ?_ | refine WX.then_normal ?_ | refine WC.skip ?_ | refine WC.exit ?_ | refine WC.ret ?_ | refine WX.then_exit ?_ | refine WX.then_ret ?_ | refine WX.block_normal ?_ | refine WX.block_ret ?_ | refine WX.block_same ?_ | refine WX.block_other rfl ?_ | refine WC.label ?_ | refine WC.scope ?_ | refine WX.scope_normal ?_ | refine WX.scope_ret ?_ | refine WX.scope_exit ?_ | refine WL.y rfl (Yld.add rfl rfl (by simp only [In]; omega)) ?_ | refine WL.y rfl (Yld.sub rfl rfl (by simp only [In]; omega)) ?_ | refine WL.y rfl (Yld.mul rfl rfl (by simp only [In]; omega)) ?_ | refine WL.y rfl (Yld.convB tab_ok rfl rfl rfl rfl) ?_ | refine WL.y rfl (Yld.conv tab_ok rfl rfl rfl (by simp only [In]; omega)) ?_ | refine WL.y rfl (Yld.quo rfl rfl (by omega) (by omega) (by simp only [In]; omega)) ?_ | refine WL.y rfl (Yld.rem rfl rfl (by omega) (by omega)) ?_ | refine WL.y rfl (Yld.shl rfl rfl (by omega)) ?_ | refine WL.y rfl (Yld.shr rfl rfl (by omega)) ?_ | refine WL.y rfl (Yld.pure tab_ok rfl) ?_ | refine WL.y rfl (Yld.fld flds_ok rfl rfl rfl) ?_ | refine WL.y rfl (Yld.max2 rfl rfl) ?_ | refine WL.y rfl (Yld.min2 rfl rfl) ?_ | refine WL.y rfl (Yld.pickV rfl rfl rfl) ?_ | refine WL.gno rfl rfl rfl rfl ?_ | refine WL.gyes rfl rfl rfl rfl (Yld.add rfl rfl (by simp only [In]; omega)) ?_ | refine WL.gyes rfl rfl rfl rfl (Yld.sub rfl rfl (by simp only [In]; omega)) ?_ | refine WL.gyes rfl rfl rfl rfl (Yld.mul rfl rfl (by simp only [In]; omega)) ?_ | refine WL.gyes rfl rfl rfl rfl (Yld.convB tab_ok rfl rfl rfl rfl) ?_ | refine WL.gyes rfl rfl rfl rfl (Yld.conv tab_ok rfl rfl rfl (by simp only [In]; omega)) ?_ | refine WL.gyes rfl rfl rfl rfl (Yld.quo rfl rfl (by omega) (by omega) (by simp only [In]; omega)) ?_ | refine WL.gyes rfl rfl rfl rfl (Yld.rem rfl rfl (by omega) (by omega)) ?_ | refine WL.gyes rfl rfl rfl rfl (Yld.shl rfl rfl (by omega)) ?_ | refine WL.gyes rfl rfl rfl rfl (Yld.shr rfl rfl (by omega)) ?_ | refine WL.gyes rfl rfl rfl rfl (Yld.pure tab_ok rfl) ?_ | refine WL.gyes rfl rfl rfl rfl (Yld.fld flds_ok rfl rfl rfl) ?_ | refine WL.gyes rfl rfl rfl rfl (Yld.max2 rfl rfl) ?_ | refine WL.gyes rfl rfl rfl rfl (Yld.min2 rfl rfl) ?_ | refine WL.gyes rfl rfl rfl rfl (Yld.pickV rfl rfl rfl) ?_ | refine WL.gun rfl rfl rfl rfl ?_)
    refine WC.loopF (fun n' L' w' => ∃ i : Nat, n' = l.length - i ∧ L' = [(1, vs by_), (2, vs end_), (11, .pointer (some ⟨g, 0, none⟩)), (38, .slice A_l l.length c_l), (39, .int .i64 (l.length : Int)), (40, .int .i64 (i : Int))] ∧ i ≤ l.length ∧ IsB w' w.heap.size g (joinE (l.take i) by_ end_) ∧ Below w.heap.size w w') _ _ ⟨0, rfl, rfl, by omega, IsB.new hB1 hl1, below_gr hg1⟩ (by repeat (first | exact Sub.nil | refine Sub.cons rfl ?_)) ?_
    rintro _ _ w2 ⟨i, rfl, rfl, hi, hS2, hb2⟩
    have hR2 := hl.grown (gr_below hb2 none)
    have hle := joinE_le l (i + 1) by_ end_
    have hz2 := hb2.size
    repeat (first | refine WC.seq ?_ | refine WC.block ?_ | refine WC.region ?_ | refine WL.nil ?_ | refine WX.then_normal ?_ | refine WC.skip ?_ | refine WC.exit ?_ | refine WC.ret ?_ | refine WX.then_exit ?_ | refine WX.then_ret ?_ | refine WX.block_normal ?_ | refine WX.block_ret ?_ | refine WX.block_same ?_ | refine WX.block_other rfl ?_ | refine WC.label ?_ | refine WC.scope ?_ | refine WX.scope_normal ?_ | refine WX.scope_ret ?_ | refine WX.scope_exit ?_ | refine WL.y rfl (Yld.add rfl rfl (by simp only [In]; omega)) ?_ | refine WL.y rfl (Yld.sub rfl rfl (by simp only [In]; omega)) ?_ | refine WL.y rfl (Yld.mul rfl rfl (by simp only [In]; omega)) ?_ | refine WL.y rfl (Yld.convB tab_ok rfl rfl rfl rfl) ?_ | refine WL.y rfl (Yld.conv tab_ok rfl rfl rfl (by simp only [In]; omega)) ?_ | refine WL.y rfl (Yld.quo rfl rfl (by omega) (by omega) (by simp only [In]; omega)) ?_ | refine WL.y rfl (Yld.rem rfl rfl (by omega) (by omega)) ?_ | refine WL.y rfl (Yld.shl rfl rfl (by omega)) ?_ | refine WL.y rfl (Yld.shr rfl rfl (by omega)) ?_ | refine WL.y rfl (Yld.pure tab_ok rfl) ?_ | refine WL.y rfl (Yld.fld flds_ok rfl rfl rfl) ?_ | refine WL.y rfl (Yld.max2 rfl rfl) ?_ | refine WL.y rfl (Yld.min2 rfl rfl) ?_ | refine WL.y rfl (Yld.pickV rfl rfl rfl) ?_ | refine WL.gno rfl rfl rfl rfl ?_ | refine WL.gyes rfl rfl rfl rfl (Yld.add rfl rfl (by simp only [In]; omega)) ?_ | refine WL.gyes rfl rfl rfl rfl (Yld.sub rfl rfl (by simp only [In]; omega)) ?_ | refine WL.gyes rfl rfl rfl rfl (Yld.mul rfl rfl (by simp only [In]; omega)) ?_ | refine WL.gyes rfl rfl rfl rfl (Yld.convB tab_ok rfl rfl rfl rfl) ?_ | refine WL.gyes rfl rfl rfl rfl (Yld.conv tab_ok rfl rfl rfl (by simp only [In]; omega)) ?_ | refine WL.gyes rfl rfl rfl rfl (Yld.quo rfl rfl (by omega) (by omega) (by simp only [In]; omega)) ?_ | refine WL.gyes rfl rfl rfl rfl (Yld.rem rfl rfl (by omega) (by omega)) ?_ | refine WL.gyes rfl rfl rfl rfl (Yld.shl rfl rfl (by omega)) ?_ | refine WL.gyes rfl rfl rfl rfl (Yld.shr rfl rfl (by omega)) ?_ | refine WL.gyes rfl rfl rfl rfl (Yld.pure tab_ok rfl) ?_ | refine WL.gyes rfl rfl rfl rfl (Yld.fld flds_ok rfl rfl rfl) ?_ | refine WL.gyes rfl rfl rfl rfl (Yld.max2 rfl rfl) ?_ | refine WL.gyes rfl rfl rfl rfl (Yld.min2 rfl rfl) ?_ | refine WL.gyes rfl rfl rfl rfl (Yld.pickV rfl rfl rfl) ?_ | refine WL.gun rfl rfl rfl rfl ?_)
    refine WC.cond rfl (fun h => ?_) (fun h => ?_)
    · simp only [decide_eq_true_eq] at h
      have hlt : i < l.length := by omega
      rw [joinE_take hlt] at hle
      simp only [List.length_append] at hle
      repeat (first | refine WL.y rfl (Yld.iaddrN tab_ok hR2 rfl rfl rfl rfl (by omega)) ?_ | refine WL.y rfl (Yld.iload [] tab_ok hR2 rfl rfl (by omega)) ?_ | refine WC.seq ?_ | refine WC.block ?_ | refine WC.region ?_ | refine WL.nil ?_ | refine WX.then_normal ?_ | refine WC.skip ?_ | refine WC.exit ?_ | refine WC.ret ?_ | refine WX.then_exit ?_ | refine WX.then_ret ?_ | refine WX.block_normal ?_ | refine WX.block_ret ?_ | refine WX.block_same ?_ | refine WX.block_other rfl ?_ | refine WC.label ?_ | refine WC.scope ?_ | refine WX.scope_normal ?_ | refine WX.scope_ret ?_ | refine WX.scope_exit ?_ | refine WL.y rfl (Yld.add rfl rfl (by simp only [In]; omega)) ?_ | refine WL.y rfl (Yld.sub rfl rfl (by simp only [In]; omega)) ?_ | refine WL.y rfl (Yld.mul rfl rfl (by simp only [In]; omega)) ?_ | refine WL.y rfl (Yld.convB tab_ok rfl rfl rfl rfl) ?_ | refine WL.y rfl (Yld.conv tab_ok rfl rfl rfl (by simp only [In]; omega)) ?_ | refine WL.y rfl (Yld.quo rfl rfl (by omega) (by omega) (by simp only [In]; omega)) ?_ | refine WL.y rfl (Yld.rem rfl rfl (by omega) (by omega)) ?_ | refine WL.y rfl (Yld.shl rfl rfl (by omega)) ?_ | refine WL.y rfl (Yld.shr rfl rfl (by omega)) ?_ | refine WL.y rfl (Yld.pure tab_ok rfl) ?_ | refine WL.y rfl (Yld.fld flds_ok rfl rfl rfl) ?_ | refine WL.y rfl (Yld.max2 rfl rfl) ?_ | refine WL.y rfl (Yld.min2 rfl rfl) ?_ | refine WL.y rfl (Yld.pickV rfl rfl rfl) ?_ | refine WL.gno rfl rfl rfl rfl ?_ | refine WL.gyes rfl rfl rfl rfl (Yld.add rfl rfl (by simp only [In]; omega)) ?_ | refine WL.gyes rfl rfl rfl rfl (Yld.sub rfl rfl (by simp only [In]; omega)) ?_ | refine WL.gyes rfl rfl rfl rfl (Yld.mul rfl rfl (by simp only [In]; omega)) ?_ | refine WL.gyes rfl rfl rfl rfl (Yld.convB tab_ok rfl rfl rfl rfl) ?_ | refine WL.gyes rfl rfl rfl rfl (Yld.conv tab_ok rfl rfl rfl (by simp only [In]; omega)) ?_ | refine WL.gyes rfl rfl rfl rfl (Yld.quo rfl rfl (by omega) (by omega) (by simp only [In]; omega)) ?_ | refine WL.gyes rfl rfl rfl rfl (Yld.rem rfl rfl (by omega) (by omega)) ?_ | refine WL.gyes rfl rfl rfl rfl (Yld.shl rfl rfl (by omega)) ?_ | refine WL.gyes rfl rfl rfl rfl (Yld.shr rfl rfl (by omega)) ?_ | refine WL.gyes rfl rfl rfl rfl (Yld.pure tab_ok rfl) ?_ | refine WL.gyes rfl rfl rfl rfl (Yld.fld flds_ok rfl rfl rfl) ?_ | refine WL.gyes rfl rfl rfl rfl (Yld.max2 rfl rfl) ?_ | refine WL.gyes rfl rfl rfl rfl (Yld.min2 rfl rfl) ?_ | refine WL.gyes rfl rfl rfl rfl (Yld.pickV rfl rfl rfl) ?_ | refine WL.gun rfl rfl rfl rfl ?_)
      refine WC.midF (fun L' w' => L' = [(1, vs by_), (2, vs end_), (11, .pointer (some ⟨g, 0, none⟩)), (13, vs (l.getD i [])), (38, .slice A_l l.length c_l), (39, .int .i64 (l.length : Int)), (40, .int .i64 (i : Int))] ∧ IsB w' w.heap.size g (joinE (l.take i) by_ end_ ++ (if i = 0 then [] else by_)) ∧ Below w.heap.size w w') ?_ (fun hQ => ?_)
      · rintro _ w3 ⟨rfl, hS3, hb3⟩
        have hz3 := hb3.size
        repeat (first | refine WC.seq ?_ | refine WC.block ?_ | refine WC.region ?_ | refine WL.nil ?_ | refine WX.then_normal ?_ | refine WC.skip ?_ | refine WC.exit ?_ | refine WC.ret ?_ | refine WX.then_exit ?_ | refine WX.then_ret ?_ | refine WX.block_normal ?_ | refine WX.block_ret ?_ | refine WX.block_same ?_ | refine WX.block_other rfl ?_ | refine WC.label ?_ | refine WC.scope ?_ | refine WX.scope_normal ?_ | refine WX.scope_ret ?_ | refine WX.scope_exit ?_ | refine WL.y rfl (Yld.add rfl rfl (by simp only [In]; omega)) ?_ | refine WL.y rfl (Yld.sub rfl rfl (by simp only [In]; omega)) ?_ | refine WL.y rfl (Yld.mul rfl rfl (by simp only [In]; omega)) ?_ | refine WL.y rfl (Yld.convB tab_ok rfl rfl rfl rfl) ?_ | refine WL.y rfl (Yld.conv tab_ok rfl rfl rfl (by simp only [In]; omega)) ?_ | refine WL.y rfl (Yld.quo rfl rfl (by omega) (by omega) (by simp only [In]; omega)) ?_ | refine WL.y rfl (Yld.rem rfl rfl (by omega) (by omega)) ?_ | refine WL.y rfl (Yld.shl rfl rfl (by omega)) ?_ | refine WL.y rfl (Yld.shr rfl rfl (by omega)) ?_ | refine WL.y rfl (Yld.pure tab_ok rfl) ?_ | refine WL.y rfl (Yld.fld flds_ok rfl rfl rfl) ?_ | refine WL.y rfl (Yld.max2 rfl rfl) ?_ | refine WL.y rfl (Yld.min2 rfl rfl) ?_ | refine WL.y rfl (Yld.pickV rfl rfl rfl) ?_ | refine WL.gno rfl rfl rfl rfl ?_ | refine WL.gyes rfl rfl rfl rfl (Yld.add rfl rfl (by simp only [In]; omega)) ?_ | refine WL.gyes rfl rfl rfl rfl (Yld.sub rfl rfl (by simp only [In]; omega)) ?_ | refine WL.gyes rfl rfl rfl rfl (Yld.mul rfl rfl (by simp only [In]; omega)) ?_ | refine WL.gyes rfl rfl rfl rfl (Yld.convB tab_ok rfl rfl rfl rfl) ?_ | refine WL.gyes rfl rfl rfl rfl (Yld.conv tab_ok rfl rfl rfl (by simp only [In]; omega)) ?_ | refine WL.gyes rfl rfl rfl rfl (Yld.quo rfl rfl (by omega) (by omega) (by simp only [In]; omega)) ?_ | refine WL.gyes rfl rfl rfl rfl (Yld.rem rfl rfl (by omega) (by omega)) ?_ | refine WL.gyes rfl rfl rfl rfl (Yld.shl rfl rfl (by omega)) ?_ | refine WL.gyes rfl rfl rfl rfl (Yld.shr rfl rfl (by omega)) ?_ | refine WL.gyes rfl rfl rfl rfl (Yld.pure tab_ok rfl) ?_ | refine WL.gyes rfl rfl rfl rfl (Yld.fld flds_ok rfl rfl rfl) ?_ | refine WL.gyes rfl rfl rfl rfl (Yld.max2 rfl rfl) ?_ | refine WL.gyes rfl rfl rfl rfl (Yld.min2 rfl rfl) ?_ | refine WL.gyes rfl rfl rfl rfl (Yld.pickV rfl rfl rfl) ?_ | refine WL.gun rfl rfl rfl rfl ?_)
        refine WL.call rfl rfl (wstr_fn _ g _ (l.getD i []) w3 hS3 (by rw [List.length_append]; omega) hz3) ?_
        rintro v4 w4 ⟨hS4, hb4⟩
        have hz4 := hb4.size
        repeat (first | refine WC.seq ?_ | refine WC.block ?_ | refine WC.region ?_ | refine WL.nil ?_ | refine WX.then_normal ?_ | refine WC.skip ?_ | refine WC.exit ?_ | refine WC.ret ?_ | refine WX.then_exit ?_ | refine WX.then_ret ?_ | refine WX.block_normal ?_ | refine WX.block_ret ?_ | refine WX.block_same ?_ | refine WX.block_other rfl ?_ | refine WC.label ?_ | refine WC.scope ?_ | refine WX.scope_normal ?_ | refine WX.scope_ret ?_ | refine WX.scope_exit ?_ | refine WL.y rfl (Yld.add rfl rfl (by simp only [In]; omega)) ?_ | refine WL.y rfl (Yld.sub rfl rfl (by simp only [In]; omega)) ?_ | refine WL.y rfl (Yld.mul rfl rfl (by simp only [In]; omega)) ?_ | refine WL.y rfl (Yld.convB tab_ok rfl rfl rfl rfl) ?_ | refine WL.y rfl (Yld.conv tab_ok rfl rfl rfl (by simp only [In]; omega)) ?_ | refine WL.y rfl (Yld.quo rfl rfl (by omega) (by omega) (by simp only [In]; omega)) ?_ | refine WL.y rfl (Yld.rem rfl rfl (by omega) (by omega)) ?_ | refine WL.y rfl (Yld.shl rfl rfl (by omega)) ?_ | refine WL.y rfl (Yld.shr rfl rfl (by omega)) ?_ | refine WL.y rfl (Yld.pure tab_ok rfl) ?_ | refine WL.y rfl (Yld.fld flds_ok rfl rfl rfl) ?_ | refine WL.y rfl (Yld.max2 rfl rfl) ?_ | refine WL.y rfl (Yld.min2 rfl rfl) ?_ | refine WL.y rfl (Yld.pickV rfl rfl rfl) ?_ | refine WL.gno rfl rfl rfl rfl ?_ | refine WL.gyes rfl rfl rfl rfl (Yld.add rfl rfl (by simp only [In]; omega)) ?_ | refine WL.gyes rfl rfl rfl rfl (Yld.sub rfl rfl (by simp only [In]; omega)) ?_ | refine WL.gyes rfl rfl rfl rfl (Yld.mul rfl rfl (by simp only [In]; omega)) ?_ | refine WL.gyes rfl rfl rfl rfl (Yld.convB tab_ok rfl rfl rfl rfl) ?_ | refine WL.gyes rfl rfl rfl rfl (Yld.conv tab_ok rfl rfl rfl (by simp only [In]; omega)) ?_ | refine WL.gyes rfl rfl rfl rfl (Yld.quo rfl rfl (by omega) (by omega) (by simp only [In]; omega)) ?_ | refine WL.gyes rfl rfl rfl rfl (Yld.rem rfl rfl (by omega) (by omega)) ?_ | refine WL.gyes rfl rfl rfl rfl (Yld.shl rfl rfl (by omega)) ?_ | refine WL.gyes rfl rfl rfl rfl (Yld.shr rfl rfl (by omega)) ?_ | refine WL.gyes rfl rfl rfl rfl (Yld.pure tab_ok rfl) ?_ | refine WL.gyes rfl rfl rfl rfl (Yld.fld flds_ok rfl rfl rfl) ?_ | refine WL.gyes rfl rfl rfl rfl (Yld.max2 rfl rfl) ?_ | refine WL.gyes rfl rfl rfl rfl (Yld.min2 rfl rfl) ?_ | refine WL.gyes rfl rfl rfl rfl (Yld.pickV rfl rfl rfl) ?_ | refine WL.gun rfl rfl rfl rfl ?_)
        refine WL.call rfl rfl (wstr_fn _ g _ end_ w4 hS4 (by rw [List.length_append, List.length_append]; omega) (by omega)) ?_
        rintro v5 w5 ⟨hS5, hb5⟩
        repeat (first | refine WC.seq ?_ | refine WC.block ?_ | refine WC.region ?_ | refine WL.nil ?_ | refine WX.then_normal ?_ | refine WC.skip ?_ | refine WC.exit ?_ | refine WC.ret ?_ | refine WX.then_exit ?_ | refine WX.then_ret ?_ | refine WX.block_normal ?_ | refine WX.block_ret ?_ | refine WX.block_same ?_ | refine WX.block_other rfl ?_ | refine WC.label ?_ | refine WC.scope ?_ | refine WX.scope_normal ?_ | refine WX.scope_ret ?_ | refine WX.scope_exit ?_ | refine WL.y rfl (Yld.add rfl rfl (by simp only [In]; omega)) ?_ | refine WL.y rfl (Yld.sub rfl rfl (by simp only [In]; omega)) ?_ | refine WL.y rfl (Yld.mul rfl rfl (by simp only [In]; omega)) ?_ | refine WL.y rfl (Yld.convB tab_ok rfl rfl rfl rfl) ?_ | refine WL.y rfl (Yld.conv tab_ok rfl rfl rfl (by simp only [In]; omega)) ?_ | refine WL.y rfl (Yld.quo rfl rfl (by omega) (by omega) (by simp only [In]; omega)) ?_ | refine WL.y rfl (Yld.rem rfl rfl (by omega) (by omega)) ?_ | refine WL.y rfl (Yld.shl rfl rfl (by omega)) ?_ | refine WL.y rfl (Yld.shr rfl rfl (by omega)) ?_ | refine WL.y rfl (Yld.pure tab_ok rfl) ?_ | refine WL.y rfl (Yld.fld flds_ok rfl rfl rfl) ?_ | refine WL.y rfl (Yld.max2 rfl rfl) ?_ | refine WL.y rfl (Yld.min2 rfl rfl) ?_ | refine WL.y rfl (Yld.pickV rfl rfl rfl) ?_ | refine WL.gno rfl rfl rfl rfl ?_ | refine WL.gyes rfl rfl rfl rfl (Yld.add rfl rfl (by simp only [In]; omega)) ?_ | refine WL.gyes rfl rfl rfl rfl (Yld.sub rfl rfl (by simp only [In]; omega)) ?_ | refine WL.gyes rfl rfl rfl rfl (Yld.mul rfl rfl (by simp only [In]; omega)) ?_ | refine WL.gyes rfl rfl rfl rfl (Yld.convB tab_ok rfl rfl rfl rfl) ?_ | refine WL.gyes rfl rfl rfl rfl (Yld.conv tab_ok rfl rfl rfl (by simp only [In]; omega)) ?_ | refine WL.gyes rfl rfl rfl rfl (Yld.quo rfl rfl (by omega) (by omega) (by simp only [In]; omega)) ?_ | refine WL.gyes rfl rfl rfl rfl (Yld.rem rfl rfl (by omega) (by omega)) ?_ | refine WL.gyes rfl rfl rfl rfl (Yld.shl rfl rfl (by omega)) ?_ | refine WL.gyes rfl rfl rfl rfl (Yld.shr rfl rfl (by omega)) ?_ | refine WL.gyes rfl rfl rfl rfl (Yld.pure tab_ok rfl) ?_ | refine WL.gyes rfl rfl rfl rfl (Yld.fld flds_ok rfl rfl rfl) ?_ | refine WL.gyes rfl rfl rfl rfl (Yld.max2 rfl rfl) ?_ | refine WL.gyes rfl rfl rfl rfl (Yld.min2 rfl rfl) ?_ | refine WL.gyes rfl rfl rfl rfl (Yld.pickV rfl rfl rfl) ?_ | refine WL.gun rfl rfl rfl rfl ?_)
        refine WX.roundF _ ⟨i + 1, rfl, rfl, by omega, ?_, (hb3.trans hb4).trans hb5⟩ (by repeat (first | exact Sub.nil | refine Sub.cons rfl ?_)) (by omega)
        rw [joinE_take hlt]
        simpa [List.append_assoc] using hS5
      · repeat (first | refine WC.seq ?_ | refine WC.block ?_ | refine WC.region ?_ | refine WL.nil ?_ | refine WX.then_normal ?_ | refine WC.skip ?_ | refine WC.exit ?_ | refine WC.ret ?_ | refine WX.then_exit ?_ | refine WX.then_ret ?_ | refine WX.block_normal ?_ | refine WX.block_ret ?_ | refine WX.block_same ?_ | refine WX.block_other rfl ?_ | refine WC.label ?_ | refine WC.scope ?_ | refine WX.scope_normal ?_ | refine WX.scope_ret ?_ | refine WX.scope_exit ?_ | refine WL.y rfl (Yld.add rfl rfl (by simp only [In]; omega)) ?_ | refine WL.y rfl (Yld.sub rfl rfl (by simp only [In]; omega)) ?_ | refine WL.y rfl (Yld.mul rfl rfl (by simp only [In]; omega)) ?_ | refine WL.y rfl (Yld.convB tab_ok rfl rfl rfl rfl) ?_ | refine WL.y rfl (Yld.conv tab_ok rfl rfl rfl (by simp only [In]; omega)) ?_ | refine WL.y rfl (Yld.quo rfl rfl (by omega) (by omega) (by simp only [In]; omega)) ?_ | refine WL.y rfl (Yld.rem rfl rfl (by omega) (by omega)) ?_ | refine WL.y rfl (Yld.shl rfl rfl (by omega)) ?_ | refine WL.y rfl (Yld.shr rfl rfl (by omega)) ?_ | refine WL.y rfl (Yld.pure tab_ok rfl) ?_ | refine WL.y rfl (Yld.fld flds_ok rfl rfl rfl) ?_ | refine WL.y rfl (Yld.max2 rfl rfl) ?_ | refine WL.y rfl (Yld.min2 rfl rfl) ?_ | refine WL.y rfl (Yld.pickV rfl rfl rfl) ?_ | refine WL.gno rfl rfl rfl rfl ?_ | refine WL.gyes rfl rfl rfl rfl (Yld.add rfl rfl (by simp only [In]; omega)) ?_ | refine WL.gyes rfl rfl rfl rfl (Yld.sub rfl rfl (by simp only [In]; omega)) ?_ | refine WL.gyes rfl rfl rfl rfl (Yld.mul rfl rfl (by simp only [In]; omega)) ?_ | refine WL.gyes rfl rfl rfl rfl (Yld.convB tab_ok rfl rfl rfl rfl) ?_ | refine WL.gyes rfl rfl rfl rfl (Yld.conv tab_ok rfl rfl rfl (by simp only [In]; omega)) ?_ | refine WL.gyes rfl rfl rfl rfl (Yld.quo rfl rfl (by omega) (by omega) (by simp only [In]; omega)) ?_ | refine WL.gyes rfl rfl rfl rfl (Yld.rem rfl rfl (by omega) (by omega)) ?_ | refine WL.gyes rfl rfl rfl rfl (Yld.shl rfl rfl (by omega)) ?_ | refine WL.gyes rfl rfl rfl rfl (Yld.shr rfl rfl (by omega)) ?_ | refine WL.gyes rfl rfl rfl rfl (Yld.pure tab_ok rfl) ?_ | refine WL.gyes rfl rfl rfl rfl (Yld.fld flds_ok rfl rfl rfl) ?_ | refine WL.gyes rfl rfl rfl rfl (Yld.max2 rfl rfl) ?_ | refine WL.gyes rfl rfl rfl rfl (Yld.min2 rfl rfl) ?_ | refine WL.gyes rfl rfl rfl rfl (Yld.pickV rfl rfl rfl) ?_ | refine WL.gun rfl rfl rfl rfl ?_)
        refine WC.cond rfl (fun h3 => ?_) (fun h3 => ?_)
        · simp only [decide_eq_true_eq] at h3
          repeat (first | refine WC.seq ?_ | refine WC.block ?_ | refine WC.region ?_ | refine WL.nil ?_ | refine WX.then_normal ?_ | refine WC.skip ?_ | refine WC.exit ?_ | refine WC.ret ?_ | refine WX.then_exit ?_ | refine WX.then_ret ?_ | refine WX.block_normal ?_ | refine WX.block_ret ?_ | refine WX.block_same ?_ | refine WX.block_other rfl ?_ | refine WC.label ?_ | refine WC.scope ?_ | refine WX.scope_normal ?_ | refine WX.scope_ret ?_ | refine WX.scope_exit ?_ | refine WL.y rfl (Yld.add rfl rfl (by simp only [In]; omega)) ?_ | refine WL.y rfl (Yld.sub rfl rfl (by simp only [In]; omega)) ?_ | refine WL.y rfl (Yld.mul rfl rfl (by simp only [In]; omega)) ?_ | refine WL.y rfl (Yld.convB tab_ok rfl rfl rfl rfl) ?_ | refine WL.y rfl (Yld.conv tab_ok rfl rfl rfl (by simp only [In]; omega)) ?_ | refine WL.y rfl (Yld.quo rfl rfl (by omega) (by omega) (by simp only [In]; omega)) ?_ | refine WL.y rfl (Yld.rem rfl rfl (by omega) (by omega)) ?_ | refine WL.y rfl (Yld.shl rfl rfl (by omega)) ?_ | refine WL.y rfl (Yld.shr rfl rfl (by omega)) ?_ | refine WL.y rfl (Yld.pure tab_ok rfl) ?_ | refine WL.y rfl (Yld.fld flds_ok rfl rfl rfl) ?_ | refine WL.y rfl (Yld.max2 rfl rfl) ?_ | refine WL.y rfl (Yld.min2 rfl rfl) ?_ | refine WL.y rfl (Yld.pickV rfl rfl rfl) ?_ | refine WL.gno rfl rfl rfl rfl ?_ | refine WL.gyes rfl rfl rfl rfl (Yld.add rfl rfl (by simp only [In]; omega)) ?_ | refine WL.gyes rfl rfl rfl rfl (Yld.sub rfl rfl (by simp only [In]; omega)) ?_ | refine WL.gyes rfl rfl rfl rfl (Yld.mul rfl rfl (by simp only [In]; omega)) ?_ | refine WL.gyes rfl rfl rfl rfl (Yld.convB tab_ok rfl rfl rfl rfl) ?_ | refine WL.gyes rfl rfl rfl rfl (Yld.conv tab_ok rfl rfl rfl (by simp only [In]; omega)) ?_ | refine WL.gyes rfl rfl rfl rfl (Yld.quo rfl rfl (by omega) (by omega) (by simp only [In]; omega)) ?_ | refine WL.gyes rfl rfl rfl rfl (Yld.rem rfl rfl (by omega) (by omega)) ?_ | refine WL.gyes rfl rfl rfl rfl (Yld.shl rfl rfl (by omega)) ?_ | refine WL.gyes rfl rfl rfl rfl (Yld.shr rfl rfl (by omega)) ?_ | refine WL.gyes rfl rfl rfl rfl (Yld.pure tab_ok rfl) ?_ | refine WL.gyes rfl rfl rfl rfl (Yld.fld flds_ok rfl rfl rfl) ?_ | refine WL.gyes rfl rfl rfl rfl (Yld.max2 rfl rfl) ?_ | refine WL.gyes rfl rfl rfl rfl (Yld.min2 rfl rfl) ?_ | refine WL.gyes rfl rfl rfl rfl (Yld.pickV rfl rfl rfl) ?_ | refine WL.gun rfl rfl rfl rfl ?_)
          refine WL.call rfl rfl (wstr_fn _ g _ by_ w2 hS2 (by rw [if_neg (by omega)] at hle; omega) hz2) ?_
          rintro v3 w3 ⟨hS3, hb3⟩
          refine WL.nil ?_
          exact WX.weaken (by repeat (first | exact Sub.nil | refine Sub.cons rfl ?_)) (hQ _ _ ⟨rfl, by rw [if_neg (by omega)]; exact hS3, hb2.trans hb3⟩)
        · simp only [decide_eq_false_iff_not] at h3
          refine WC.skip ?_
          exact WX.weaken (by repeat (first | exact Sub.nil | refine Sub.cons rfl ?_)) (hQ _ _ ⟨rfl, by rw [if_pos (by omega), List.append_nil]; exact hS2, hb2⟩)
    · simp only [decide_eq_false_iff_not] at h
      obtain rfl : i = l.length := by omega
      rw [List.take_length] at hS2
      repeat (first | refine WC.seq ?_ | refine WC.block ?_ | refine WC.region ?_ | refine WL.nil ?_ | refine WX.then_normal ?_ | refine WC.skip ?_ | refine WC.exit ?_ | refine WC.ret ?_ | refine WX.then_exit ?_ | refine WX.then_ret ?_ | refine WX.block_normal ?_ | refine WX.block_ret ?_ | refine WX.block_same ?_ | refine WX.block_other rfl ?_ | refine WC.label ?_ | refine WC.scope ?_ | refine WX.scope_normal ?_ | refine WX.scope_ret ?_ | refine WX.scope_exit ?_ | refine WL.y rfl (Yld.add rfl rfl (by simp only [In]; omega)) ?_ | refine WL.y rfl (Yld.sub rfl rfl (by simp only [In]; omega)) ?_ | refine WL.y rfl (Yld.mul rfl rfl (by simp only [In]; omega)) ?_ | refine WL.y rfl (Yld.convB tab_ok rfl rfl rfl rfl) ?_ | refine WL.y rfl (Yld.conv tab_ok rfl rfl rfl (by simp only [In]; omega)) ?_ | refine WL.y rfl (Yld.quo rfl rfl (by omega) (by omega) (by simp only [In]; omega)) ?_ | refine WL.y rfl (Yld.rem rfl rfl (by omega) (by omega)) ?_ | refine WL.y rfl (Yld.shl rfl rfl (by omega)) ?_ | refine WL.y rfl (Yld.shr rfl rfl (by omega)) ?_ | refine WL.y rfl (Yld.pure tab_ok rfl) ?_ | refine WL.y rfl (Yld.fld flds_ok rfl rfl rfl) ?_ | refine WL.y rfl (Yld.max2 rfl rfl) ?_ | refine WL.y rfl (Yld.min2 rfl rfl) ?_ | refine WL.y rfl (Yld.pickV rfl rfl rfl) ?_ | refine WL.gno rfl rfl rfl rfl ?_ | refine WL.gyes rfl rfl rfl rfl (Yld.add rfl rfl (by simp only [In]; omega)) ?_ | refine WL.gyes rfl rfl rfl rfl (Yld.sub rfl rfl (by simp only [In]; omega)) ?_ | refine WL.gyes rfl rfl rfl rfl (Yld.mul rfl rfl (by simp only [In]; omega)) ?_ | refine WL.gyes rfl rfl rfl rfl (Yld.convB tab_ok rfl rfl rfl rfl) ?_ | refine WL.gyes rfl rfl rfl rfl (Yld.conv tab_ok rfl rfl rfl (by simp only [In]; omega)) ?_ | refine WL.gyes rfl rfl rfl rfl (Yld.quo rfl rfl (by omega) (by omega) (by simp only [In]; omega)) ?_ | refine WL.gyes rfl rfl rfl rfl (Yld.rem rfl rfl (by omega) (by omega)) ?_ | refine WL.gyes rfl rfl rfl rfl (Yld.shl rfl rfl (by omega)) ?_ | refine WL.gyes rfl rfl rfl rfl (Yld.shr rfl rfl (by omega)) ?_ | refine WL.gyes rfl rfl rfl rfl (Yld.pure tab_ok rfl) ?_ | refine WL.gyes rfl rfl rfl rfl (Yld.fld flds_ok rfl rfl rfl) ?_ | refine WL.gyes rfl rfl rfl rfl (Yld.max2 rfl rfl) ?_ | refine WL.gyes rfl rfl rfl rfl (Yld.min2 rfl rfl) ?_ | refine WL.gyes rfl rfl rfl rfl (Yld.pickV rfl rfl rfl) ?_ | refine WL.gun rfl rfl rfl rfl ?_)
      refine WL.call rfl rfl (bstr_fn _ g _ w2 hS2 hz2) ?_
      rintro _ w3 ⟨rfl, hb3⟩
      repeat (first | refine WC.seq ?_ | refine WC.block ?_ | refine WC.region ?_ | refine WL.nil ?_ | refine WX.then_normal ?_ | refine WC.skip ?_ | refine WC.exit ?_ | refine WC.ret ?_ | refine WX.then_exit ?_ | refine WX.then_ret ?_ | refine WX.block_normal ?_ | refine WX.block_ret ?_ | refine WX.block_same ?_ | refine WX.block_other rfl ?_ | refine WC.label ?_ | refine WC.scope ?_ | refine WX.scope_normal ?_ | refine WX.scope_ret ?_ | refine WX.scope_exit ?_ | refine WL.y rfl (Yld.add rfl rfl (by simp only [In]; omega)) ?_ | refine WL.y rfl (Yld.sub rfl rfl (by simp only [In]; omega)) ?_ | refine WL.y rfl (Yld.mul rfl rfl (by simp only [In]; omega)) ?_ | refine WL.y rfl (Yld.convB tab_ok rfl rfl rfl rfl) ?_ | refine WL.y rfl (Yld.conv tab_ok rfl rfl rfl (by simp only [In]; omega)) ?_ | refine WL.y rfl (Yld.quo rfl rfl (by omega) (by omega) (by simp only [In]; omega)) ?_ | refine WL.y rfl (Yld.rem rfl rfl (by omega) (by omega)) ?_ | refine WL.y rfl (Yld.shl rfl rfl (by omega)) ?_ | refine WL.y rfl (Yld.shr rfl rfl (by omega)) ?_ | refine WL.y rfl (Yld.pure tab_ok rfl) ?_ | refine WL.y rfl (Yld.fld flds_ok rfl rfl rfl) ?_ | refine WL.y rfl (Yld.max2 rfl rfl) ?_ | refine WL.y rfl (Yld.min2 rfl rfl) ?_ | refine WL.y rfl (Yld.pickV rfl rfl rfl) ?_ | refine WL.gno rfl rfl rfl rfl ?_ | refine WL.gyes rfl rfl rfl rfl (Yld.add rfl rfl (by simp only [In]; omega)) ?_ | refine WL.gyes rfl rfl rfl rfl (Yld.sub rfl rfl (by simp only [In]; omega)) ?_ | refine WL.gyes rfl rfl rfl rfl (Yld.mul rfl rfl (by simp only [In]; omega)) ?_ | refine WL.gyes rfl rfl rfl rfl (Yld.convB tab_ok rfl rfl rfl rfl) ?_ | refine WL.gyes rfl rfl rfl rfl (Yld.conv tab_ok rfl rfl rfl (by simp only [In]; omega)) ?_ | refine WL.gyes rfl rfl rfl rfl (Yld.quo rfl rfl (by omega) (by omega) (by simp only [In]; omega)) ?_ | refine WL.gyes rfl rfl rfl rfl (Yld.rem rfl rfl (by omega) (by omega)) ?_ | refine WL.gyes rfl rfl rfl rfl (Yld.shl rfl rfl (by omega)) ?_ | refine WL.gyes rfl rfl rfl rfl (Yld.shr rfl rfl (by omega)) ?_ | refine WL.gyes rfl rfl rfl rfl (Yld.pure tab_ok rfl) ?_ | refine WL.gyes rfl rfl rfl rfl (Yld.fld flds_ok rfl rfl rfl) ?_ | refine WL.gyes rfl rfl rfl rfl (Yld.max2 rfl rfl) ?_ | refine WL.gyes rfl rfl rfl rfl (Yld.min2 rfl rfl) ?_ | refine WL.gyes rfl rfl rfl rfl (Yld.pickV rfl rfl rfl) ?_ | refine WL.gun rfl rfl rfl rfl ?_)
      exact WX.ret2 rfl rfl rfl ⟨gr_below (hb2.trans hb3) none, _, .nilIface, .ok, rfl, rfl, H.2⟩
end Go.Proofs.YtilphcippnfklaaDoor

 /- The iterator of slices.Values: the elements come, in their order. -/
namespace Go.Proofs.YtilphcippnfklaaDoor
open Go Go.RowKit Go.Proofs
/-- what an iterator gives, where all that lay before stays -/
def GivesB (F : Fence) (n : Nat) (P : Program) (g : Nat) (lb : Array Value) (xs : List (List UInt8)) (w : World) : Prop :=
  ∀ (l : Nat) (J : List (List UInt8) → World → Prop) (W : World), Below w.heap.size w W → (∀ ss W1, J ss W1 → Below w.heap.size w W1) →
    (∀ pre x W1, J pre W1 → pre.length < xs.length → YieldAt F (n - 1) P l #[encStr x] W1 fun e W' => e = .returned (.bool true) ∧ J (pre ++ [x]) W' ∧ KeepsWalks W1 W') → J [] W →
    CallsIn F n P g (#[.func (.yield l) #[] #[]] ++ lb) W fun e W' => (∃ v, e = .returned v) ∧ J xs W'
set_option maxRecDepth 100000 in
set_option maxHeartbeats 1000000 in
theorem values_gives (A : Option Addr) (c : Nat) (xs : List (List UInt8)) (Bm : Nat) (w : World) (hBm : Bm < w.heap.size) (hm : w.cell? ⟨Bm, 0, none⟩ = some (.slice A xs.length c)) (hR : Rd vs w A c xs) (n : Nat) (hn : 1 ≤ n) :
    GivesB Fence.wide n Tryd.prog 162 #[.pointer (some ⟨Bm, 0, none⟩)] xs w := by
  intro l J W hW hJB hY h0
  have hmW : W.cell? ⟨Bm, 0, none⟩ = some (.slice A xs.length c) := (hW.cell (p := ⟨Bm, 0, none⟩) hBm).trans hm
  have hRW : Rd vs W A c xs := hR.grown (gr_below hW none)
  clear hm
  refine callsIn_of_wp Tryd.func162 rfl trivial ?_ rfl
  simp only [Tryd.ntmps162, List.size_toArray, List.length_cons, List.length_nil, Nat.reduceAdd, Nat.reduceSub, Array.replicate_succ, Array.replicate_zero, List.push_toArray, List.append_toArray, List.nil_append, List.cons_append]
  gi_wp2
  gi_loopw [7] (fun v7 wr => ∃ i : Nat, v7 = .int .i64 (i : Int) ∧ i ≤ xs.length ∧ J (xs.take i) wr) (fun v7 _ => xs.length - (intOf v7).toNat)
  case atStart => exact ⟨0, rfl, Nat.zero_le _, by simpa using h0⟩
  case round =>
    obtain ⟨i, rfl, hi, hJi⟩ := hrel
    have hbr := hJB _ _ hJi
    have hRr : Rd vs wr A c xs := hR.grown (gr_below hbr none)
    by_cases hlt : i < xs.length
    · obtain ⟨ad, rfl, hcell⟩ := hRr.at hlt []
      obtain ⟨fn, tmps, assign, body, hy0, hRR⟩ := hY (xs.take i) xs[i] wr hJi (by rw [List.length_take]; omega)
      have hy : (Instr.yield l #[vs xs[i]]).run Tryd.prog wr = .ok (.round l fn tmps assign body) wr := hy0
      have hlt' : (i : Int) < (xs.length : Int) := by omega
      have hmx : xs.length ≤ 9223372036854775807 := Nat.le_trans hRr.cap hRr.max
      clear hRr hbr hY hRW hR hy0
      gi_wp2
      refine hRR.mono ?_
      rintro e W3 ⟨rfl, hJ3, hk3⟩
      gi_wp2
      go_roundw
      case rel => exact ⟨i + 1, by go_num, by omega, by rw [List.take_succ_eq_append_getElem hlt]; exact hJ3⟩
      case measure => simp [intOf]; omega
    · obtain rfl : i = xs.length := by omega
      gi_wp2
      go_end0
      exact ⟨⟨_, rfl⟩, by simpa using hJi⟩
end Go.Proofs.YtilphcippnfklaaDoor

 