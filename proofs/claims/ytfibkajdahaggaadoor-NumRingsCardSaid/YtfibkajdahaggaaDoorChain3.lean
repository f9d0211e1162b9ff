/- Chain regions whose last operations stand in one forced order behind all others (stores, say): the floats need not outlive them. -/
import Derived.Test.YtfibkajdahaggaaDoorChain2
namespace Go.Proofs.YtfibkajdahaggaaDoor
open Go Go.RowKit
section
variable {P : Program} {ops : Array Oper} {md : Region.Mode} {fl : Nat → Bool} {D : World → Prop} {nT : Nat} {LT : Array Bool → Act → World → Prop}
def anyT (P : Program) (md : Region.Mode) (ops : Array Oper) (fl : Nat → Bool) (D : World → Prop) (n : Nat) (L : Array Bool → Act → World → Prop) : Nat → Array Bool → Act → World → Prop
  | 0, listed, a, w => L listed a w
  | f + 1, listed, a, w => Region.ready md ops listed ≠ [] ∧ ∀ i ∈ Region.ready md ops listed, i < n ∧ ∃ o, ops[i]? = some o ∧
      ((fl i = true ∧ ∃ v, fYld P ops D o a v ∧ anyT P md ops fl D n L f (listed.setIfInBounds i true) (a.put o.dst v) w) ∨
       (fl i = false ∧ sRun P ops D o a w fun a' w' => anyT P md ops fl D n L f (listed.setIfInBounds i true) a' w'))
theorem any_of_anyT {Q' : Post} {g : Nat} (hL : ∀ listed a w, D w → LT listed a w → wpAny P md ops Q' g listed a w) : ∀ (f : Nat) (listed : Array Bool) (a : Act) (w : World), D w → anyT P md ops fl D nT LT f listed a w → wpAny P md ops Q' (f + g) listed a w := by
  intro f
  induction f with
  | zero => intro listed a w hw h; rw [Nat.zero_add]; exact hL _ _ _ hw h
  | succ f ih =>
    intro listed a w hw h
    rw [Nat.add_right_comm]
    refine ⟨fun h0 => absurd h0 h.1, fun i hi => ?_⟩
    obtain ⟨_, o, ho, h1⟩ := h.2 i hi
    rcases h1 with ⟨_, v, hy, hn⟩ | ⟨_, hs⟩
    · unfold wpOp
      simp only [ho]
      rcases hy with ⟨hwn, hv⟩ | ⟨hwn, hv⟩
      · rw [if_pos hwn]
        refine .inl ?_
        unfold Oper.wp
        rw [hv w hw]
        exact ih _ _ _ hw hn
      · rw [if_neg (by simp [hwn])]
        subst hv
        exact ih _ _ _ hw hn
    · exact wp_of_sRun (D := D) ho (sRun_mono (fun a' w' hw' h' => ih _ _ _ hw' h') hw hs)
theorem float_firstT {i : Nat} {oi : Oper} {v : Value} (hi : ops[i]? = some oi) (hf : fl i = true) (hsel : ∀ (j : Nat) (o : Oper) cs b, ops[j]? = some o → o.op ≠ .select cs b)
    (hsT : Region.sinkB md ops nT = true) (hcT : Region.chainB md ops nT = true) (hnT : nT < ops.size) (hinT : i < nT) (hdone : ∀ listed a w, LT listed a w → ∀ j ∈ Region.ready md ops listed, nT ≤ j) :
    ∀ (f : Nat) (listed : Array Bool) (a : Act) (w : World), D w → HeadInv md ops nT listed →
      (∀ j oj, ops[j]? = some oj → j ≠ i → listed.getD j true = false → (∀ e ∈ oj.after, Region.binds md e = true → e.on ≠ i) → oi.apart ops oj = true) →
      i ∈ Region.ready md ops listed → fYld P ops D oi a v → anyT P md ops fl D nT LT f (listed.setIfInBounds i true) (a.put oi.dst v) w → anyT P md ops fl D nT LT (f + 1) listed a w := by
  intro f
  induction f with
  | zero =>
    intro listed a w _ inv _ hr hy H
    refine ⟨fun h => (by rw [h] at hr; cases hr), fun j hj => ?_⟩
    have hjn : j < nT := (Nat.lt_or_ge j nT).elim id fun h => absurd hj (tail_waits hsT hcT hnT inv _ i rfl hinT (mem_ready.1 hr).1 j h)
    refine ⟨hjn, ?_⟩
    by_cases hji : j = i
    · subst hji; exact ⟨oi, hi, .inl ⟨hf, v, hy, H⟩⟩
    · exact absurd (hdone _ _ _ H j (ready_mono hj hji)) (by omega)
  | succ f ih =>
    intro listed a w hw inv hfree hr hy H
    refine ⟨fun h => (by rw [h] at hr; cases hr), fun j hj => ?_⟩
    have hjn : j < nT := (Nat.lt_or_ge j nT).elim id fun h => absurd hj (tail_waits hsT hcT hnT inv _ i rfl hinT (mem_ready.1 hr).1 j h)
    refine ⟨hjn, ?_⟩
    by_cases hji : j = i
    · subst hji; exact ⟨oi, hi, .inl ⟨hf, v, hy, H⟩⟩
    · obtain ⟨oj, hoj, h1⟩ := (H.2 j (ready_mono hj hji)).2
      obtain ⟨hjun, oj', hoj', hall⟩ := mem_ready.1 hj
      obtain rfl : oj' = oj := Option.some.inj (hoj'.symm.trans hoj)
      have hnot : ∀ e ∈ oj'.after, Region.binds md e = true → e.on ≠ i := fun e he hb heq => by
        have := hall e he hb
        rw [heq, getD_both (mem_ready.1 hr).1] at this
        cases this
      have hap := hfree j oj' hoj hji hjun hnot
      have hfree' : ∀ k ok, ops[k]? = some ok → k ≠ i → (listed.setIfInBounds j true).getD k true = false → (∀ e ∈ ok.after, Region.binds md e = true → e.on ≠ i) → oi.apart ops ok = true := fun k ok hk hki hun hno => by
        refine hfree k ok hk hki ?_ hno
        by_cases hjk : j = k
        · subst hjk; exact hjun
        · rw [getD_set_ne true hjk] at hun; exact hun
      have hr' := ready_mono hr (Ne.symm hji)
      refine ⟨oj', hoj, ?_⟩
      rcases h1 with ⟨hfj, u, hyj, hn⟩ | ⟨hfj, hs⟩
      · refine .inl ⟨hfj, u, (fYld_put hap (fun cs b => hsel j oj' cs b hoj)).1 hyj, ih _ _ w hw (inv.set hj hjn) hfree' hr' ((fYld_put' hap (fun cs b => hsel i oi cs b hi)).2 hy) ?_⟩
        rw [Array.setIfInBounds_comm _ _ hji, ← apart_symm_dst hap]
        exact hn
      · refine .inr ⟨hfj, ?_⟩
        have hs' := (sRun_put hap (fun cs b => hsel j oj' cs b hoj)).1 hs
        have key : ∀ a' w', D w' → fYld P ops D oi a' v → anyT P md ops fl D nT LT f ((listed.setIfInBounds i true).setIfInBounds j true) (a'.put oi.dst v) w' → anyT P md ops fl D nT LT (f + 1) (listed.setIfInBounds j true) a' w' := fun a' w' hw' hy' h' =>
          ih _ _ w' hw' (inv.set hj hjn) hfree' hr' hy' (by rw [Array.setIfInBounds_comm _ _ hji]; exact h')
        -- every outcome's frame is a with j's slot written
        have hput : ∀ u, fYld P ops D oi (a.put oj'.dst u) v := fun u => (fYld_put' hap (fun cs b => hsel i oi cs b hi)).2 hy
        unfold sRun at hs' ⊢
        split
        · rename_i hwn
          rw [if_pos hwn] at hs'
          generalize (execOp a.eval oj').run P w = r at hs' ⊢
          cases r with
          | halt => exact hs'.elim
          | ok x w' => cases x with
            | value u => exact ⟨hs'.1, key _ _ hs'.1 (hput u) hs'.2⟩
            | skip => exact ⟨hs'.1, key _ _ hs'.1 (hput _) hs'.2⟩
            | enter g args => exact Calls.mono hs' fun e w'' ⟨u, e1, d, k⟩ => ⟨u, e1, d, key _ _ d (hput u) k⟩
            | _ => exact hs'.elim
        · rename_i hwn
          rw [if_neg hwn] at hs'
          exact key _ _ hw (hput _) hs'

theorem seq_firstT {i n : Nat} {oi : Oper} (hi : ops[i]? = some oi) (hf : fl i = false) (hsel : ∀ (j : Nat) (o : Oper) cs b, ops[j]? = some o → o.op ≠ .select cs b)
    (hsT : Region.sinkB md ops nT = true) (hcT : Region.chainB md ops nT = true) (hnT : nT < ops.size) (hinT : i < nT) (hdone : ∀ listed a w, LT listed a w → ∀ j ∈ Region.ready md ops listed, nT ≤ j) :
    ∀ (f : Nat) (listed : Array Bool) (a : Act) (w : World), D w → HeadInv md ops nT listed → Closed md ops listed →
      (∀ j oj, ops[j]? = some oj → j ≠ i → listed.getD j true = false → (∀ e ∈ oj.after, Region.binds md e = true → e.on ≠ i) → oi.apart ops oj = true) →
      (∀ j oj, ops[j]? = some oj → j ≠ i → listed.getD j true = false → fl j = true ∨ reach md ops n j i = true) →
      i ∈ Region.ready md ops listed → sRun P ops D oi a w (fun a' w' => anyT P md ops fl D nT LT f (listed.setIfInBounds i true) a' w') → anyT P md ops fl D nT LT (f + 1) listed a w := by
  intro f
  induction f with
  | zero =>
    intro listed a w hw inv _ _ _ hr H
    refine ⟨fun h => (by rw [h] at hr; cases hr), fun j hj => ?_⟩
    have hjn : j < nT := (Nat.lt_or_ge j nT).elim id fun h => absurd hj (tail_waits hsT hcT hnT inv _ i rfl hinT (mem_ready.1 hr).1 j h)
    refine ⟨hjn, ?_⟩
    by_cases hji : j = i
    · subst hji; exact ⟨oi, hi, .inr ⟨hf, H⟩⟩
    · obtain ⟨u, w', _, h⟩ := sRun_some hw H
      exact absurd (hdone _ _ _ h j (ready_mono hj hji)) (by omega)
  | succ f ih =>
    intro listed a w hw inv hcl hfree hseq hr H
    refine ⟨fun h => (by rw [h] at hr; cases hr), fun j hj => ?_⟩
    have hjn : j < nT := (Nat.lt_or_ge j nT).elim id fun h => absurd hj (tail_waits hsT hcT hnT inv _ i rfl hinT (mem_ready.1 hr).1 j h)
    refine ⟨hjn, ?_⟩
    by_cases hji : j = i
    · subst hji; exact ⟨oi, hi, .inr ⟨hf, H⟩⟩
    · obtain ⟨hjun, oj, hoj, hall⟩ := mem_ready.1 hj
      have hiun := getD_both (mem_ready.1 hr).1
      have hfj : fl j = true := by
        rcases hseq j oj hoj hji hjun with h | h
        · exact h
        · exact absurd hall (not_listed_of_reach hcl hiun n j h oj hoj)
      have hnot : ∀ e ∈ oj.after, Region.binds md e = true → e.on ≠ i := fun e he hb heq => by
        have := hall e he hb
        rw [heq, hiun] at this
        cases this
      have hap := hfree j oj hoj hji hjun hnot
      have hsi := fun cs b => hsel i oi cs b hi
      have hsj := fun cs b => hsel j oj cs b hoj
      obtain ⟨u, w', hw', h⟩ := sRun_some hw H
      obtain ⟨oj2, hoj2, h2⟩ := (h.2 j (ready_mono hj hji)).2
      obtain rfl : oj2 = oj := Option.some.inj (hoj2.symm.trans hoj)
      rcases h2 with ⟨_, v, hy, _⟩ | ⟨hno, _⟩
      · have hya : fYld P ops D oj2 a v := (fYld_put hap hsj).1 hy
        refine ⟨oj2, hoj, .inl ⟨hfj, v, hya, ih _ _ w hw (inv.set hj hjn) (hcl.set hj) (fun k ok hk hki hun hno => hfree k ok hk hki ?_ hno) (fun k ok hk hki hun => hseq k ok hk hki ?_) (ready_mono hr (Ne.symm hji)) ?_⟩⟩
        · by_cases hjk : j = k
          · subst hjk; exact hjun
          · rw [getD_set_ne true hjk] at hun; exact hun
        · by_cases hjk : j = k
          · subst hjk; exact hjun
          · rw [getD_set_ne true hjk] at hun; exact hun
        · -- the others' run, with j's value already laid
          obtain ⟨g1, g2, g3⟩ := Oper.apart_spec hap
          have hc : ∀ u, (a.put oi.dst u).put oj2.dst v = (a.put oj2.dst v).put oi.dst u := fun u => Act.put_comm a u v g2
          have huniq : ∀ u2, fYld P ops D oj2 (a.put oi.dst u2) v := fun u2 => (fYld_put hap hsj).2 hya
          have key : ∀ u2 w2, D w2 → anyT P md ops fl D nT LT (f + 1) (listed.setIfInBounds i true) (a.put oi.dst u2) w2 → anyT P md ops fl D nT LT f ((listed.setIfInBounds j true).setIfInBounds i true) ((a.put oj2.dst v).put oi.dst u2) w2 := fun u2 w2 hw2 hh => by
            obtain ⟨oj3, hoj3, h3⟩ := (hh.2 j (ready_mono hj hji)).2
            obtain rfl : oj3 = oj2 := Option.some.inj (hoj3.symm.trans hoj)
            rcases h3 with ⟨_, v2, hy2, hn2⟩ | ⟨hno, _⟩
            · have hv : v2 = v := by
                have hu := huniq u2
                rcases hy2 with ⟨p1, p2⟩ | ⟨p1, p2⟩ <;> rcases hu with ⟨q1, q2⟩ | ⟨q1, q2⟩
                · have := (p2 w2 hw2).symm.trans (q2 w2 hw2)
                  simpa using this
                · rw [p1] at q1; cases q1
                · rw [p1] at q1; cases q1
                · rw [p2, q2]
              subst hv
              rw [Array.setIfInBounds_comm _ _ hji, ← hc]
              exact hn2
            · rw [hfj] at hno; cases hno
          unfold sRun at H ⊢
          rw [execOp_put oi hsi a oj2.dst v g3, wanted_put oi a oj2.dst v g3]
          split
          · rename_i hwn
            rw [if_pos hwn] at H
            generalize (execOp a.eval oi).run P w = r at H ⊢
            cases r with
            | halt => exact H.elim
            | ok x w' => cases x with
              | value u => exact ⟨H.1, key _ _ H.1 H.2⟩
              | skip => exact ⟨H.1, key _ _ H.1 H.2⟩
              | enter g args => exact Calls.mono H fun e w'' ⟨u, e1, d, k⟩ => ⟨u, e1, d, key _ _ d k⟩
              | _ => exact H.elim
          · rename_i hwn
            rw [if_neg hwn] at H
            exact key _ _ hw H
      · rw [hfj] at hno; cases hno

def Region.lexT (md : Region.Mode) (ops : Array Oper) (fl : Nat → Bool) (g n : Nat) : Nat → Nat → Array Bool → Bool
  | 0, _, listed => Region.seqB md ops g n listed
  | f + 1, k, listed => (Region.ready md ops listed).contains k && Region.free md ops listed k && (fl k || (List.range ops.size).all fun j => Nat.beq j k || listed.getD j true || fl j || reach md ops ops.size j k) && Region.lexT md ops fl g n f (k + 1) (listed.setIfInBounds k true)
def Region.chainT (md : Region.Mode) (ops : Array Oper) (fl : Nat → Bool) (n : Nat) : Bool := Region.noSelect ops && (Nat.blt n ops.size && (Region.sinkB md ops n && (Region.chainB md ops n && Region.lexT md ops fl (ops.size - n) n n 0 (Array.replicate ops.size false))))
theorem anyT_lex {g : Nat} {Q : Act → World → Prop} (hsel : Region.noSelect ops = true) (hsT : Region.sinkB md ops nT = true) (hcT : Region.chainB md ops nT = true) (hnT : nT < ops.size) : ∀ (l : List Oper) (k : Nat) (listed : Array Bool) (a : Act) (w : World), D w → (∀ j, j < l.length → l[j]? = ops[k + j]?) → k + l.length = nT → HeadInv md ops nT listed → Closed md ops listed →
    Region.lexT md ops fl g nT l.length k listed = true → wpC P ops fl D Q l k a w → anyT P md ops fl D nT (fun listed' a' w' => Region.seqB md ops g nT listed' = true ∧ Q a' w') l.length listed a w := by
  intro l
  induction l with
  | nil =>
    intro k listed a w _ _ _ _ _ hB h
    exact ⟨by simpa [Region.lexT] using hB, h⟩
  | cons o l ih =>
    intro k listed a w hw hl hk inv hcl hB h
    have h0 : ops[k]? = some o := by simpa using (hl 0 (by simp)).symm
    have hl' : ∀ j, j < l.length → l[j]? = ops[(k + 1) + j]? := fun j hj => by have := hl (j + 1) (by simp; omega); simpa [Nat.add_assoc, Nat.add_comm 1 j] using this
    simp only [List.length_cons] at hk
    have hkn : k < nT := by omega
    have hk' : (k + 1) + l.length = nT := by omega
    simp only [List.length_cons, Region.lexT, Bool.and_eq_true] at hB
    obtain ⟨⟨⟨hr, hf⟩, hs⟩, hB'⟩ := hB
    have hr' : k ∈ Region.ready md ops listed := by simpa using hr
    have hdone : ∀ (listed' : Array Bool) (a' : Act) (w' : World), (Region.seqB md ops g nT listed' = true ∧ Q a' w') → ∀ j ∈ Region.ready md ops listed', nT ≤ j := fun listed' a' w' hL => seqB_ready hL.1
    unfold wpC at h
    cases hfl : fl k with
    | true =>
      rw [hfl] at h
      obtain ⟨v, hy, hn⟩ := h
      exact float_firstT h0 hfl (Region.noSelect_spec hsel) hsT hcT hnT hkn hdone l.length listed a w hw inv (Region.free_spec h0 hf) hr' hy (ih (k + 1) _ _ w hw hl' hk' (inv.set hr' hkn) (hcl.set hr') hB' hn)
    | false =>
      rw [hfl] at h
      refine seq_firstT (n := ops.size) h0 hfl (Region.noSelect_spec hsel) hsT hcT hnT hkn hdone l.length listed a w hw inv hcl (Region.free_spec h0 hf) (fun j oj hj hji hun => ?_) hr' (sRun_mono (fun a' w' hw' h' => ih (k + 1) _ a' w' hw' hl' hk' (inv.set hr' hkn) (hcl.set hr') hB' h') hw h)
      rw [hfl] at hs
      simp only [Bool.false_or] at hs
      have hjl : j < ops.size := (Array.getElem?_eq_some_iff.1 hj).1
      have := List.all_eq_true.1 hs j (List.mem_range.2 hjl)
      simp only [Bool.or_eq_true] at this
      rcases this with ((h1 | h1) | h1) | h1
      · exact absurd (Nat.eq_of_beq_eq_true h1) hji
      · rw [hun] at h1; cases h1
      · exact .inl h1
      · exact .inr h1
theorem wp_region_chainT {id : Nat} {Q' : Post} {a : Act} {w : World} {l : List Oper} (n : Nat) (fl : Nat → Bool) (D : World → Prop) (hm : P.follows .mixedOrders = true) (hB : Region.chainT .any l.toArray fl n = true) (hD : D { w with drawn := w.drawn + 1 })
    (h : wpC P l.toArray fl D (fun a' w' => wpList P l.toArray Q' (l.drop n) a' w') (l.take n) 0 a { w with drawn := w.drawn + 1 }) : (Code.region id l.toArray true).wp P Q' a w := by
  simp only [Region.chainT, Bool.and_eq_true] at hB
  obtain ⟨hsel, hn, hs, hc, hlex⟩ := hB
  have hn' : n < l.length := by simpa [Nat.blt_eq] using hn
  have htl : (l.take n).length = n := by simp; omega
  have hdl : (l.drop n).length = l.toArray.size - n := by simp
  have inv0 : HeadInv .any l.toArray n (Array.replicate l.toArray.size false) :=
    ⟨by simp, fun j oj _ hl => (by rw [getD_replicate_false] at hl; cases hl), fun t _ ht => getD_in (by simpa using ht) (getD_replicate_false _ _)⟩
  refine wp_region_any hm ?_
  have H := anyT_lex (md := .any) (D := D) (g := l.toArray.size - n) hsel hs hc (by simpa using hn') (l.take n) 0 (Array.replicate l.toArray.size false) a _ hD (fun j hj => by
    have hj' : j < n := by rw [htl] at hj; exact hj
    simp [hj']) (by simpa using htl) inv0 (fun j oj _ hl => (by rw [getD_replicate_false] at hl; cases hl)) (by rw [htl]; exact hlex) h
  have h2 := any_of_anyT (Q' := Q') (g := l.toArray.size - n) (fun listed a' w' hw' hL => by
    have := wpAny_of_seq (md := .any) (Q' := Q') (l.drop n) n listed a' w' (fun j => by simp [List.getElem?_drop]) (by rw [hdl]; exact hL.1) hL.2
    rwa [hdl] at this) _ _ _ _ hD H
  rw [htl, show n + (l.toArray.size - n) = l.toArray.size by simp; omega] at h2
  exact h2
end
section
variable {P : Program} {N : Nat} {ops : Array Oper} {fl : Nat → Bool} {D : World → Prop} {Q : Post} {L : Slots} {w : World} {k : Nat}
/-- the post that stands for: the tail's walk -/
def TailP (P : Program) (ops : Array Oper) (Q : Post) (rest : List Oper) : Post := fun _ a w => wpList P ops Q rest a w
theorem WC.chainT {i : Nat} {l : List Oper} (n : Nat) (fl : Nat → Bool) (D : World → Prop) (hm : P.follows .mixedOrders = true) (hB : Region.chainT .any l.toArray fl n = true) (hE : ∀ w', Eqv w w' → D w') (h : WK P N l.toArray fl D (TailP P l.toArray Q (l.drop n)) (l.take n) 0 L w) : WC P N Q (.region i l.toArray true) L w := fun a _ e ha =>
  wp_region_chainT n fl D hm hB (hE _ (e.drawn _)) (h a _ (e.drawn _) (hE _ (e.drawn _)) ha)
theorem WK.tail {rest : List Oper} (h : WL P N ops Q rest L w) : WK P N ops fl D (TailP P ops Q rest) [] k L w := fun a w1 e _ ha => h a w1 e ha
end
end Go.Proofs.YtfibkajdahaggaaDoor
