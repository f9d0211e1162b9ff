/- A region that draws its order, some of whose operations only compute or read what stays (floats), while the others stand in one forced order: one walk in the order of the text serves every order. -/
import Derived.Test.YtfibkajdahaggaaDoorMore2
namespace Go.Proofs.YtfibkajdahaggaaDoor
open Go Go.RowKit
section
variable {P : Program} {ops : Array Oper} {md : Region.Mode} {fl : Nat → Bool} {D : World → Prop} {Q : Act → World → Prop}
/-- in every world of D the operation yields v, and leaves the world as it was -/
def fYld (P : Program) (ops : Array Oper) (D : World → Prop) (o : Oper) (a : Act) (v : Value) : Prop :=
  (Region.wanted o (yielded ops a.tmps) = true ∧ ∀ w, D w → (execOp a.eval o).run P w = .ok (.value v) w) ∨ (Region.wanted o (yielded ops a.tmps) = false ∧ v = undef)
def sUpon (P : Program) (D : World → Prop) (o : Oper) (a : Act) (K : Act → World → Prop) : Result Next → Prop
  | .ok (.value v) w' => D w' ∧ K (a.put o.dst v) w'
  | .ok .skip w' => D w' ∧ K (a.put o.dst undef) w'
  | .ok (.enter f args) w' => Calls P f args w' fun e w'' => ∃ v, e = .returned v ∧ D w'' ∧ K (a.put o.dst v) w''
  | _ => False
def sRun (P : Program) (ops : Array Oper) (D : World → Prop) (o : Oper) (a : Act) (w : World) (K : Act → World → Prop) : Prop :=
  if Region.wanted o (yielded ops a.tmps) then sUpon P D o a K ((execOp a.eval o).run P w) else K (a.put o.dst undef) w
theorem sRun_mono {o : Oper} {a : Act} {w : World} {K K' : Act → World → Prop} (h : ∀ a w, D w → K a w → K' a w) (hw : D w) (hh : sRun P ops D o a w K) : sRun P ops D o a w K' := by
  unfold sRun at hh ⊢
  split
  · rename_i hw'
    rw [if_pos hw'] at hh
    generalize (execOp a.eval o).run P w = r at hh ⊢
    cases r with
    | halt => exact hh.elim
    | ok x w' => cases x with
      | value v => exact ⟨hh.1, h _ _ hh.1 hh.2⟩
      | skip => exact ⟨hh.1, h _ _ hh.1 hh.2⟩
      | enter f args => exact Calls.mono hh fun e w'' ⟨v, e1, d, k⟩ => ⟨v, e1, d, h _ _ d k⟩
      | _ => exact hh.elim
  · rename_i hw'
    rw [if_neg hw'] at hh
    exact h _ _ hw hh
/-- there is an outcome -/
theorem sRun_some {o : Oper} {a : Act} {w : World} {K : Act → World → Prop} (hw : D w) (hh : sRun P ops D o a w K) : ∃ u w', D w' ∧ K (a.put o.dst u) w' := by
  unfold sRun at hh
  split at hh
  · generalize (execOp a.eval o).run P w = r at hh
    cases r with
    | halt => exact hh.elim
    | ok x w' => cases x with
      | value v => exact ⟨v, w', hh⟩
      | skip => exact ⟨undef, w', hh⟩
      | enter f args =>
        obtain ⟨e, w2, fr, ⟨v, _, d, k⟩, _⟩ := hh []
        exact ⟨v, w2, d, k⟩
      | _ => exact hh.elim
  · exact ⟨undef, w, hw, hh⟩
theorem wp_of_sRun {o : Oper} {a : Act} {w : World} {K : Act → World → Prop} {Q' : Post} {i : Nat} (hi : ops[i]? = some o) (hh : sRun P ops D o a w K) : wpOp P ops Q' i K a w := by
  unfold sRun at hh
  unfold wpOp
  simp only [hi]
  split
  · rename_i hw
    rw [if_pos hw] at hh
    refine .inl ?_
    unfold Oper.wp
    generalize (execOp a.eval o).run P w = r at hh ⊢
    cases r with
    | halt => exact hh.elim
    | ok x w' => cases x with
      | value v => exact hh.2
      | skip => exact hh.2
      | enter f args => exact Calls.mono hh fun e w'' ⟨v, e1, _, k⟩ => by subst e1; exact k
      | _ => exact hh.elim
  · rename_i hw
    rw [if_neg hw] at hh
    exact hh
/-- whatever order may come -/
def anyC (P : Program) (md : Region.Mode) (ops : Array Oper) (fl : Nat → Bool) (D : World → Prop) (Q : Act → World → Prop) : Nat → Array Bool → Act → World → Prop
  | 0, listed, a, w => Region.ready md ops listed = [] ∧ Q a w
  | f + 1, listed, a, w => (Region.ready md ops listed = [] → Q a w) ∧ ∀ i ∈ Region.ready md ops listed, ∃ o, ops[i]? = some o ∧
      ((fl i = true ∧ ∃ v, fYld P ops D o a v ∧ anyC P md ops fl D Q f (listed.setIfInBounds i true) (a.put o.dst v) w) ∨
       (fl i = false ∧ sRun P ops D o a w fun a' w' => anyC P md ops fl D Q f (listed.setIfInBounds i true) a' w'))
theorem any_of_anyC {Q' : Post} (hQ : ∀ a w, D w → Q a w → Q' .normal a w) : ∀ (f : Nat) (listed : Array Bool) (a : Act) (w : World), D w → anyC P md ops fl D Q f listed a w → wpAny P md ops Q' f listed a w := by
  intro f
  induction f with
  | zero => intro listed a w hw h; exact ⟨h.1, hQ _ _ hw h.2⟩
  | succ f ih =>
    intro listed a w hw h
    refine ⟨fun h0 => hQ _ _ hw (h.1 h0), fun i hi => ?_⟩
    obtain ⟨o, ho, h1⟩ := h.2 i hi
    rcases h1 with ⟨_, v, hy, hn⟩ | ⟨_, hs⟩
    · unfold wpOp
      simp only [ho]
      rcases hy with ⟨hwn, hv⟩ | ⟨hwn, hv⟩
      · rw [if_pos hwn]
        refine .inl ?_
        unfold Oper.wp
        rw [hv w hw]
        exact ih _ _ _ hw hn
      · rw [if_neg (by simp [hwn])]
        subst hv
        exact ih _ _ _ hw hn
    · exact wp_of_sRun (D := D) ho (sRun_mono (fun a' w' hw' h' => ih _ _ _ hw' h') hw hs)

/-! apartness -/
theorem fYld_put {oi oj : Oper} {v u : Value} {a : Act} (hap : oi.apart ops oj = true) (hsj : ∀ cs b, oj.op ≠ .select cs b) : fYld P ops D oj (a.put oi.dst u) v ↔ fYld P ops D oj a v := by
  obtain ⟨h1, _, _⟩ := Oper.apart_spec hap
  unfold fYld
  rw [execOp_put oj hsj a oi.dst u h1, wanted_put oj a oi.dst u h1]
theorem fYld_put' {oi oj : Oper} {v u : Value} {a : Act} (hap : oi.apart ops oj = true) (hsi : ∀ cs b, oi.op ≠ .select cs b) : fYld P ops D oi (a.put oj.dst u) v ↔ fYld P ops D oi a v := by
  obtain ⟨_, _, h3⟩ := Oper.apart_spec hap
  unfold fYld
  rw [execOp_put oi hsi a oj.dst u h3, wanted_put oi a oj.dst u h3]
theorem sUpon_put {o : Oper} {a : Act} {K : Act → World → Prop} {d : Option Tmp} {v : Value} (hc : ∀ u, (a.put o.dst u).put d v = (a.put d v).put o.dst u) (r : Result Next) (h : sUpon P D o a (fun a' w' => K (a'.put d v) w') r) : sUpon P D o (a.put d v) K r := by
  cases r with
  | halt => exact h.elim
  | ok x w' => cases x with
    | value u => exact ⟨h.1, by rw [← hc]; exact h.2⟩
    | skip => exact ⟨h.1, by rw [← hc]; exact h.2⟩
    | enter f args => exact Calls.mono h fun e w'' ⟨u, e1, d1, k⟩ => ⟨u, e1, d1, by rw [← hc]; exact k⟩
    | _ => exact h.elim
theorem sUpon_back {o : Oper} {a : Act} {K : Act → World → Prop} {d : Option Tmp} {v : Value} (hc : ∀ u, (a.put o.dst u).put d v = (a.put d v).put o.dst u) (r : Result Next) (h : sUpon P D o (a.put d v) K r) : sUpon P D o a (fun a' w' => K (a'.put d v) w') r := by
  cases r with
  | halt => exact h.elim
  | ok x w' => cases x with
    | value u => exact ⟨h.1, by dsimp only; rw [hc]; exact h.2⟩
    | skip => exact ⟨h.1, by dsimp only; rw [hc]; exact h.2⟩
    | enter f args => exact Calls.mono h fun e w'' ⟨u, e1, d1, k⟩ => ⟨u, e1, d1, by dsimp only; rw [hc]; exact k⟩
    | _ => exact h.elim
/-- a float's value laid into the frame makes no difference to the other one -/
theorem sRun_put {oi oj : Oper} {v : Value} {a : Act} {w : World} {K : Act → World → Prop} (hap : oi.apart ops oj = true) (hsj : ∀ cs b, oj.op ≠ .select cs b) :
    sRun P ops D oj (a.put oi.dst v) w K ↔ sRun P ops D oj a w (fun a' w' => K (a'.put oi.dst v) w') := by
  obtain ⟨h1, h2, _⟩ := Oper.apart_spec hap
  have hc : ∀ u, (a.put oj.dst u).put oi.dst v = (a.put oi.dst v).put oj.dst u := fun u => (Act.put_comm a v u h2).symm
  unfold sRun
  rw [execOp_put oj hsj a oi.dst v h1, wanted_put oj a oi.dst v h1]
  split
  · exact ⟨sUpon_back hc _, sUpon_put hc _⟩
  · dsimp only; rw [hc]
theorem apart_symm_dst {oi oj : Oper} (hap : oi.apart ops oj = true) (a : Act) (v u : Value) : (a.put oi.dst v).put oj.dst u = (a.put oj.dst u).put oi.dst v := Act.put_comm a v u (Oper.apart_spec hap).2.1

/-! a float may be taken first -/
theorem float_first {i : Nat} {oi : Oper} {v : Value} (hi : ops[i]? = some oi) (hf : fl i = true) (hsel : ∀ (j : Nat) (o : Oper) cs b, ops[j]? = some o → o.op ≠ .select cs b) :
    ∀ (f : Nat) (listed : Array Bool) (a : Act) (w : World), D w →
      (∀ j oj, ops[j]? = some oj → j ≠ i → listed.getD j true = false → (∀ e ∈ oj.after, Region.binds md e = true → e.on ≠ i) → oi.apart ops oj = true) →
      i ∈ Region.ready md ops listed → fYld P ops D oi a v → anyC P md ops fl D Q f (listed.setIfInBounds i true) (a.put oi.dst v) w → anyC P md ops fl D Q (f + 1) listed a w := by
  intro f
  induction f with
  | zero =>
    intro listed a w _ _ hr hy H
    refine ⟨fun h => (by rw [h] at hr; cases hr), fun j hj => ?_⟩
    by_cases hji : j = i
    · subst hji; exact ⟨oi, hi, .inl ⟨hf, v, hy, H⟩⟩
    · have := ready_mono hj hji
      rw [H.1] at this
      cases this
  | succ f ih =>
    intro listed a w hw hfree hr hy H
    refine ⟨fun h => (by rw [h] at hr; cases hr), fun j hj => ?_⟩
    by_cases hji : j = i
    · subst hji; exact ⟨oi, hi, .inl ⟨hf, v, hy, H⟩⟩
    · obtain ⟨oj, hoj, h1⟩ := H.2 j (ready_mono hj hji)
      obtain ⟨hjun, oj', hoj', hall⟩ := mem_ready.1 hj
      obtain rfl : oj' = oj := Option.some.inj (hoj'.symm.trans hoj)
      have hnot : ∀ e ∈ oj'.after, Region.binds md e = true → e.on ≠ i := fun e he hb heq => by
        have := hall e he hb
        rw [heq, getD_both (mem_ready.1 hr).1] at this
        cases this
      have hap := hfree j oj' hoj hji hjun hnot
      have hfree' : ∀ k ok, ops[k]? = some ok → k ≠ i → (listed.setIfInBounds j true).getD k true = false → (∀ e ∈ ok.after, Region.binds md e = true → e.on ≠ i) → oi.apart ops ok = true := fun k ok hk hki hun hno => by
        refine hfree k ok hk hki ?_ hno
        by_cases hjk : j = k
        · subst hjk; exact hjun
        · rw [getD_set_ne true hjk] at hun; exact hun
      have hr' := ready_mono hr (Ne.symm hji)
      refine ⟨oj', hoj, ?_⟩
      rcases h1 with ⟨hfj, u, hyj, hn⟩ | ⟨hfj, hs⟩
      · refine .inl ⟨hfj, u, (fYld_put hap (fun cs b => hsel j oj' cs b hoj)).1 hyj, ih _ _ w hw hfree' hr' ((fYld_put' hap (fun cs b => hsel i oi cs b hi)).2 hy) ?_⟩
        rw [Array.setIfInBounds_comm _ _ hji, ← apart_symm_dst hap]
        exact hn
      · refine .inr ⟨hfj, ?_⟩
        have hs' := (sRun_put hap (fun cs b => hsel j oj' cs b hoj)).1 hs
        have key : ∀ a' w', D w' → fYld P ops D oi a' v → anyC P md ops fl D Q f ((listed.setIfInBounds i true).setIfInBounds j true) (a'.put oi.dst v) w' → anyC P md ops fl D Q (f + 1) (listed.setIfInBounds j true) a' w' := fun a' w' hw' hy' h' =>
          ih _ _ w' hw' hfree' hr' hy' (by rw [Array.setIfInBounds_comm _ _ hji]; exact h')
        -- every outcome's frame is a with j's slot written
        have hput : ∀ u, fYld P ops D oi (a.put oj'.dst u) v := fun u => (fYld_put' hap (fun cs b => hsel i oi cs b hi)).2 hy
        unfold sRun at hs' ⊢
        split
        · rename_i hwn
          rw [if_pos hwn] at hs'
          generalize (execOp a.eval oj').run P w = r at hs' ⊢
          cases r with
          | halt => exact hs'.elim
          | ok x w' => cases x with
            | value u => exact ⟨hs'.1, key _ _ hs'.1 (hput u) hs'.2⟩
            | skip => exact ⟨hs'.1, key _ _ hs'.1 (hput _) hs'.2⟩
            | enter g args => exact Calls.mono hs' fun e w'' ⟨u, e1, d, k⟩ => ⟨u, e1, d, key _ _ d (hput u) k⟩
            | _ => exact hs'.elim
        · rename_i hwn
          rw [if_neg hwn] at hs'
          exact key _ _ hw (hput _) hs'

/-! one of the others may be taken first, if no other of them can come ahead of it -/
def reach (md : Region.Mode) (ops : Array Oper) : Nat → Nat → Nat → Bool
  | 0, _, _ => false
  | f + 1, j, k => match ops[j]? with
    | some oj => oj.after.any fun e => Region.binds md e && (Nat.beq e.on k || reach md ops f e.on k)
    | none => false
def Closed (md : Region.Mode) (ops : Array Oper) (listed : Array Bool) : Prop := ∀ j oj, ops[j]? = some oj → listed.getD j false = true → ∀ e ∈ oj.after, Region.binds md e = true → listed.getD e.on false = true
theorem Closed.set {listed : Array Bool} {i : Nat} (h : Closed md ops listed) (hi : i ∈ Region.ready md ops listed) : Closed md ops (listed.setIfInBounds i true) := by
  obtain ⟨_, oi, hoi, hall⟩ := mem_ready.1 hi
  intro j oj hj hl e he hb
  by_cases hij : i = j
  · subst hij
    obtain rfl : oj = oi := Option.some.inj (hj.symm.trans hoi)
    exact getD_set_true (hall e he hb)
  · rw [getD_set_ne false hij] at hl
    exact getD_set_true (h j oj hj hl e he hb)
theorem not_listed_of_reach {listed : Array Bool} {k : Nat} (hc : Closed md ops listed) (hk : listed.getD k false = false) : ∀ (f j : Nat), reach md ops f j k = true → (∀ oj, ops[j]? = some oj → ¬ ∀ e ∈ oj.after, Region.binds md e = true → listed.getD e.on false = true)
  | 0, j, h => by simp [reach] at h
  | f + 1, j, h => by
    intro oj hoj hall
    unfold reach at h
    rw [hoj] at h
    simp only at h
    obtain ⟨e, he, h2⟩ := Array.any_eq_true'.1 h
    simp only [Bool.and_eq_true, Bool.or_eq_true] at h2
    have hl := hall e he h2.1
    rcases h2.2 with h3 | h3
    · rw [Nat.eq_of_beq_eq_true h3, hk] at hl; cases hl
    · cases ho : ops[e.on]? with
      | none =>
        cases f with
        | zero => simp [reach] at h3
        | succ f => unfold reach at h3; rw [ho] at h3; cases h3
      | some oe => exact not_listed_of_reach hc hk f e.on h3 oe ho (hc e.on oe ho hl)
theorem seq_first {i n : Nat} {oi : Oper} (hi : ops[i]? = some oi) (hf : fl i = false) (hsel : ∀ (j : Nat) (o : Oper) cs b, ops[j]? = some o → o.op ≠ .select cs b) :
    ∀ (f : Nat) (listed : Array Bool) (a : Act) (w : World), D w → Closed md ops listed →
      (∀ j oj, ops[j]? = some oj → j ≠ i → listed.getD j true = false → (∀ e ∈ oj.after, Region.binds md e = true → e.on ≠ i) → oi.apart ops oj = true) →
      (∀ j oj, ops[j]? = some oj → j ≠ i → listed.getD j true = false → fl j = true ∨ reach md ops n j i = true) →
      i ∈ Region.ready md ops listed → sRun P ops D oi a w (fun a' w' => anyC P md ops fl D Q f (listed.setIfInBounds i true) a' w') → anyC P md ops fl D Q (f + 1) listed a w := by
  intro f
  induction f with
  | zero =>
    intro listed a w hw _ _ _ hr H
    refine ⟨fun h => (by rw [h] at hr; cases hr), fun j hj => ?_⟩
    by_cases hji : j = i
    · subst hji; exact ⟨oi, hi, .inr ⟨hf, H⟩⟩
    · obtain ⟨u, w', _, h⟩ := sRun_some hw H
      have := ready_mono hj hji
      rw [h.1] at this
      cases this
  | succ f ih =>
    intro listed a w hw hcl hfree hseq hr H
    refine ⟨fun h => (by rw [h] at hr; cases hr), fun j hj => ?_⟩
    by_cases hji : j = i
    · subst hji; exact ⟨oi, hi, .inr ⟨hf, H⟩⟩
    · obtain ⟨hjun, oj, hoj, hall⟩ := mem_ready.1 hj
      have hiun := getD_both (mem_ready.1 hr).1
      have hfj : fl j = true := by
        rcases hseq j oj hoj hji hjun with h | h
        · exact h
        · exact absurd hall (not_listed_of_reach hcl hiun n j h oj hoj)
      have hnot : ∀ e ∈ oj.after, Region.binds md e = true → e.on ≠ i := fun e he hb heq => by
        have := hall e he hb
        rw [heq, hiun] at this
        cases this
      have hap := hfree j oj hoj hji hjun hnot
      have hsi := fun cs b => hsel i oi cs b hi
      have hsj := fun cs b => hsel j oj cs b hoj
      obtain ⟨u, w', hw', h⟩ := sRun_some hw H
      obtain ⟨oj2, hoj2, h2⟩ := h.2 j (ready_mono hj hji)
      obtain rfl : oj2 = oj := Option.some.inj (hoj2.symm.trans hoj)
      rcases h2 with ⟨_, v, hy, _⟩ | ⟨hno, _⟩
      · have hya : fYld P ops D oj2 a v := (fYld_put hap hsj).1 hy
        refine ⟨oj2, hoj, .inl ⟨hfj, v, hya, ih _ _ w hw (hcl.set hj) (fun k ok hk hki hun hno => hfree k ok hk hki ?_ hno) (fun k ok hk hki hun => hseq k ok hk hki ?_) (ready_mono hr (Ne.symm hji)) ?_⟩⟩
        · by_cases hjk : j = k
          · subst hjk; exact hjun
          · rw [getD_set_ne true hjk] at hun; exact hun
        · by_cases hjk : j = k
          · subst hjk; exact hjun
          · rw [getD_set_ne true hjk] at hun; exact hun
        · -- the others' run, with j's value already laid
          obtain ⟨g1, g2, g3⟩ := Oper.apart_spec hap
          have hc : ∀ u, (a.put oi.dst u).put oj2.dst v = (a.put oj2.dst v).put oi.dst u := fun u => Act.put_comm a u v g2
          have huniq : ∀ u2, fYld P ops D oj2 (a.put oi.dst u2) v := fun u2 => (fYld_put hap hsj).2 hya
          have key : ∀ u2 w2, D w2 → anyC P md ops fl D Q (f + 1) (listed.setIfInBounds i true) (a.put oi.dst u2) w2 → anyC P md ops fl D Q f ((listed.setIfInBounds j true).setIfInBounds i true) ((a.put oj2.dst v).put oi.dst u2) w2 := fun u2 w2 hw2 hh => by
            obtain ⟨oj3, hoj3, h3⟩ := hh.2 j (ready_mono hj hji)
            obtain rfl : oj3 = oj2 := Option.some.inj (hoj3.symm.trans hoj)
            rcases h3 with ⟨_, v2, hy2, hn2⟩ | ⟨hno, _⟩
            · have hv : v2 = v := by
                have hu := huniq u2
                rcases hy2 with ⟨p1, p2⟩ | ⟨p1, p2⟩ <;> rcases hu with ⟨q1, q2⟩ | ⟨q1, q2⟩
                · have := (p2 w2 hw2).symm.trans (q2 w2 hw2)
                  simpa using this
                · rw [p1] at q1; cases q1
                · rw [p1] at q1; cases q1
                · rw [p2, q2]
              subst hv
              rw [Array.setIfInBounds_comm _ _ hji, ← hc]
              exact hn2
            · rw [hfj] at hno; cases hno
          unfold sRun at H ⊢
          rw [execOp_put oi hsi a oj2.dst v g3, wanted_put oi a oj2.dst v g3]
          split
          · rename_i hwn
            rw [if_pos hwn] at H
            generalize (execOp a.eval oi).run P w = r at H ⊢
            cases r with
            | halt => exact H.elim
            | ok x w' => cases x with
              | value u => exact ⟨H.1, key _ _ H.1 H.2⟩
              | skip => exact ⟨H.1, key _ _ H.1 H.2⟩
              | enter g args => exact Calls.mono H fun e w'' ⟨u, e1, d, k⟩ => ⟨u, e1, d, key _ _ d k⟩
              | _ => exact H.elim
          · rename_i hwn
            rw [if_neg hwn] at H
            exact key _ _ hw H
      · rw [hfj] at hno; cases hno
/-! ### the order of the text -/
def Region.lexC (md : Region.Mode) (ops : Array Oper) (fl : Nat → Bool) : Nat → Nat → Array Bool → Bool
  | 0, _, listed => (Region.ready md ops listed).isEmpty
  | f + 1, k, listed => (Region.ready md ops listed).contains k && Region.free md ops listed k && (fl k || (List.range ops.size).all fun j => Nat.beq j k || listed.getD j true || fl j || reach md ops ops.size j k) && Region.lexC md ops fl f (k + 1) (listed.setIfInBounds k true)
def Region.chainOk (md : Region.Mode) (ops : Array Oper) (fl : Nat → Bool) : Bool := Region.noSelect ops && Region.lexC md ops fl ops.size 0 (Array.replicate ops.size false)
def wpC (P : Program) (ops : Array Oper) (fl : Nat → Bool) (D : World → Prop) (Q : Act → World → Prop) : List Oper → Nat → Act → World → Prop
  | [], _, a, w => Q a w
  | o :: rest, k, a, w => bif fl k then ∃ v, fYld P ops D o a v ∧ wpC P ops fl D Q rest (k + 1) (a.put o.dst v) w else sRun P ops D o a w fun a' w' => wpC P ops fl D Q rest (k + 1) a' w'
theorem anyC_lex (hsel : Region.noSelect ops = true) : ∀ (l : List Oper) (k : Nat) (listed : Array Bool) (a : Act) (w : World), D w → (∀ j, l[j]? = ops[k + j]?) → Closed md ops listed →
    Region.lexC md ops fl l.length k listed = true → wpC P ops fl D Q l k a w → anyC P md ops fl D Q l.length listed a w := by
  intro l
  induction l with
  | nil =>
    intro k listed a w _ _ _ hB h
    exact ⟨by simpa [Region.lexC] using hB, h⟩
  | cons o l ih =>
    intro k listed a w hw hl hcl hB h
    have h0 : ops[k]? = some o := by simpa using (hl 0).symm
    have hl' : ∀ j, l[j]? = ops[(k + 1) + j]? := fun j => by have := hl (j + 1); simpa [Nat.add_assoc, Nat.add_comm 1 j] using this
    simp only [List.length_cons, Region.lexC, Bool.and_eq_true] at hB
    obtain ⟨⟨⟨hr, hf⟩, hs⟩, hB'⟩ := hB
    have hr' : k ∈ Region.ready md ops listed := by simpa using hr
    unfold wpC at h
    cases hfl : fl k with
    | true =>
      rw [hfl] at h
      obtain ⟨v, hy, hn⟩ := h
      exact float_first h0 hfl (Region.noSelect_spec hsel) l.length listed a w hw (Region.free_spec h0 hf) hr' hy (ih (k + 1) _ _ w hw hl' (hcl.set hr') hB' hn)
    | false =>
      rw [hfl] at h
      refine seq_first (n := ops.size) h0 hfl (Region.noSelect_spec hsel) l.length listed a w hw hcl (Region.free_spec h0 hf) (fun j oj hj hji hun => ?_) hr' (sRun_mono (fun a' w' hw' h' => ih (k + 1) _ a' w' hw' hl' (hcl.set hr') hB' h') hw h)
      rw [hfl] at hs
      simp only [Bool.false_or] at hs
      have hjl : j < ops.size := (Array.getElem?_eq_some_iff.1 hj).1
      have := List.all_eq_true.1 hs j (List.mem_range.2 hjl)
      simp only [Bool.or_eq_true] at this
      rcases this with ((h1 | h1) | h1) | h1
      · exact absurd (Nat.eq_of_beq_eq_true h1) hji
      · rw [hun] at h1; cases h1
      · exact .inl h1
      · exact .inr h1
theorem wp_region_chain {id : Nat} {Q' : Post} {a : Act} {w : World} {l : List Oper} (fl : Nat → Bool) (D : World → Prop) (hm : P.follows .mixedOrders = true) (hB : Region.chainOk .any l.toArray fl = true) (hD : D { w with drawn := w.drawn + 1 })
    (h : wpC P l.toArray fl D (fun a' w' => Q' .normal a' w') l 0 a { w with drawn := w.drawn + 1 }) : (Code.region id l.toArray true).wp P Q' a w := by
  simp only [Region.chainOk, Bool.and_eq_true] at hB
  refine wp_region_any hm ?_
  have := anyC_lex (md := .any) (D := D) hB.1 l 0 (Array.replicate l.toArray.size false) a _ hD (by simp) (fun j oj _ hl => (by rw [getD_replicate_false] at hl; cases hl)) (by simpa using hB.2) h
  have h2 := any_of_anyC (Q' := Q') (fun _ _ _ hq => hq) _ _ _ _ hD this
  simpa using h2
end

/-! ## the engine's judgement for such a region -/
structure EqvClosed (D : World → Prop) : Prop where
  out : ∀ w w', Eqv w w' → D w → D w'
def WK (P : Program) (N : Nat) (ops : Array Oper) (fl : Nat → Bool) (D : World → Prop) (Q : Post) (l : List Oper) (k : Nat) (L : Slots) (w : World) : Prop :=
  ∀ a w1, Eqv w w1 → D w1 → Has N L a → wpC P ops fl D (fun a' w' => Q .normal a' w') l k a w1
section
variable {P : Program} {N : Nat} {ops : Array Oper} {fl : Nat → Bool} {D : World → Prop} {Q : Post} {L : Slots} {w : World} {k d : Nat} {op : Op} {ty : TypeId} {pos : String} {af : Array Edge} {rest : List Oper}
theorem WC.chain {i : Nat} {l : List Oper} (fl : Nat → Bool) (D : World → Prop) (hm : P.follows .mixedOrders = true) (hB : Region.chainOk .any l.toArray fl = true) (hE : ∀ w', Eqv w w' → D w') (h : WK P N l.toArray fl D Q l 0 L w) : WC P N Q (.region i l.toArray true) L w := fun a _ e ha =>
  wp_region_chain fl D hm hB (hE _ (e.drawn _)) (h a _ (e.drawn _) (hE _ (e.drawn _)) ha)
theorem WK.nil (h : WX N Q .normal L w) : WK P N ops fl D Q [] k L w := fun a w1 e _ ha => h a w1 e ha
theorem WK.y {v : Value} (hf : fl k = true) (hd : Nat.blt d N = true) (hy : ∀ w', D w' → Yld P N w' ⟨some d, op, ty, pos, af, none⟩ L v) (h : WK P N ops fl D Q rest (k + 1) ((d, v) :: L) w) :
    WK P N ops fl D Q (⟨some d, op, ty, pos, af, none⟩ :: rest) k L w := fun a w1 e hw ha => by
  unfold wpC
  rw [hf]
  exact ⟨v, .inl ⟨by simp [Region.wanted], fun w' hw' => hy w' hw' a w' (Eqv.refl _) ha⟩, h _ _ e hw (ha.put hd v)⟩
theorem WK.put {R : Value → World → Prop} (hf : fl k = false) (hd : Nat.blt d N = true) (hr : Eff P N w ⟨some d, op, ty, pos, af, none⟩ L R) (hD : ∀ v w', R v w' → D w')
    (hk : ∀ v w', R v w' → WK P N ops fl D Q rest (k + 1) ((d, v) :: L) w') : WK P N ops fl D Q (⟨some d, op, ty, pos, af, none⟩ :: rest) k L w := fun a w1 e hw ha => by
  unfold wpC
  rw [hf]
  show sRun _ _ _ _ _ _ _
  unfold sRun
  rw [if_pos (by simp [Region.wanted])]
  obtain ⟨v, w', h, hR⟩ := hr a w1 e ha
  rw [h]
  exact ⟨hD v w' hR, hk v w' hR _ w' (Eqv.refl _) (hD v w' hR) (ha.put hd v)⟩
end
end Go.Proofs.YtfibkajdahaggaaDoor
