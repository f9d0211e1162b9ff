/- Texts of this claim, joined by a program: GrP, GrQ, GrT, GrR, Ord, GGs, GrS, GrU. -/
import Derived.Test.YtlonpmajnglmoaaGreatDoorJ5
/- A graph of actions, plainly: the chapter's own words. -/
namespace Go.Proofs.YtlonpmajnglmoaaGreatDoor
open Go Go.RowKit
theorem rvalid_M {p : List UInt8} {K : Bool → Prop} (hp : p.length ≤ 3999999999) (h : K (validB p)) : M_smithyref1_Valid p K :=
  rclean_M (by omega) (kr (by rw [valid_is]; exact h))
theorem amongI_M {l : List Int} {n : Int} {K : Bool → Prop} (hl : l.length ≤ 1000000000) (h : K (decide (n ∈ l))) : M_smithyref_Among l n K := by
  intro _
  refine ⟨fun i => 0 ≤ i ∧ i ≤ l.length ∧ ∀ j, j < i.toNat → l.getD j 0 ≠ n, fun i => l.length - i.toNat, ⟨by omega, by omega, by intro j hj; simp at hj⟩, fun i ⟨a0, a1, a2⟩ => ⟨fun hlt => ⟨⟨a0, hlt⟩, fun he => ?_, fun hne => ⟨by simp only [In]; omega, ⟨by omega, by omega, fun j hj => ?_⟩, by (try dsimp only); omega⟩⟩, fun hge => ?_⟩⟩
  · rwa [decide_eq_true (he ▸ getD_mem2 (by omega))] at h
  · by_cases e : j = i.toNat
    · rw [e]; exact hne
    · exact a2 j (by omega)
  · rwa [decide_eq_false fun hm => by
      obtain ⟨j, hj, he⟩ := List.getElem_of_mem hm
      exact a2 j (by omega) (by simp [List.getD, hj, he])] at h
theorem strictI_insert {out : List Int} {x : Int} {k : Nat} (h : StrictG ltI out) (hk : k ≤ out.length) (h1 : ∀ j, j < k → out.getD j 0 < x) (h2 : k < out.length → x < out.getD k 0) : StrictG ltI (out.take k ++ ([x] ++ out.drop k)) := by
  have hp := List.pairwise_iff_getElem.1 h
  have hL : ∀ a b : Int, ltI a b = true ↔ a < b := fun a b => decide_eq_true_iff
  refine List.pairwise_append.2 ⟨List.Pairwise.take h, List.pairwise_append.2 ⟨List.pairwise_singleton _ _, List.Pairwise.drop h, fun a ha b hb => ?_⟩, fun a ha b hb => ?_⟩
  · simp only [List.mem_singleton] at ha
    subst ha
    obtain ⟨i, hi, rfl⟩ := List.getElem_of_mem hb
    simp only [List.length_drop] at hi
    rw [List.getElem_drop]
    have hk' : k < out.length := by omega
    have e : out.getD k 0 = out[k] := by simp [List.getD, hk']
    have h3 := h2 hk'
    rw [e] at h3
    by_cases h0 : i = 0
    · subst h0; exact (hL _ _).2 h3
    · exact (hL _ _).2 (Int.lt_trans h3 ((hL _ _).1 (hp k (k + i) hk' (by omega) (by omega))))
  · obtain ⟨i, hi, rfl⟩ := List.getElem_of_mem ha
    simp only [List.length_take] at hi
    rw [List.getElem_take]
    have h3 : out[i]'(by omega) < x := by
      have := h1 i (by omega)
      rwa [show out.getD i 0 = out[i]'(by omega) by simp [List.getD, show i < out.length by omega]] at this
    rcases List.mem_append.1 hb with hb | hb
    · simp only [List.mem_singleton] at hb
      subst hb; exact (hL _ _).2 h3
    · obtain ⟨j, hj, rfl⟩ := List.getElem_of_mem hb
      simp only [List.length_drop] at hj
      rw [List.getElem_drop]
      exact hp i (k + j) (by omega) (by omega) (by omega)
theorem sortedI_M {l : List Int} {K : List Int → Prop} (hl : l.length ≤ 1000000) (h : K (uniqG ltI l)) : M_smithyref_Sorted l K := by
  intro _
  refine ⟨fun out i => 0 ≤ i ∧ i ≤ l.length ∧ StrictG ltI out ∧ (∀ x, x ∈ out ↔ x ∈ l.take i.toNat) ∧ out.length ≤ i.toNat, fun _ i => l.length - i.toNat, ⟨by omega, by omega, List.Pairwise.nil, by simp, by simp⟩, fun out i ⟨a0, a1, a2, a3, a4⟩ => ⟨fun hlt => ?_, fun hge => ?_⟩⟩
  · generalize hx : l.getD i.toNat 0 = x
    have htk : ∀ y, y ∈ l.take (i + 1).toNat ↔ y ∈ l.take i.toNat ∨ y = x := fun y => by
      rw [show (i + 1).toNat = i.toNat + 1 by omega, List.take_succ_eq_append_getElem (by omega), List.mem_append, List.mem_singleton, ← hx]
      simp [List.getD, show i.toNat < l.length by omega]
    refine ⟨fun o => StrictG ltI o ∧ (∀ y, y ∈ o ↔ y ∈ l.take (i + 1).toNat) ∧ o.length ≤ i.toNat + 1, ?_, fun o ⟨h1, h2, h3⟩ => ⟨by simp only [In]; omega, ⟨by omega, by omega, h1, h2, by omega⟩, by (try dsimp only); omega⟩⟩
    refine ⟨fun k => 0 ≤ k ∧ k ≤ out.length ∧ ∀ j, j < k.toNat → out.getD j 0 < x, fun k => out.length - k.toNat, ⟨by omega, by omega, by intro j hj; simp at hj⟩, fun k ⟨b0, b1, b2⟩ => ⟨fun hd => ?_, fun hd => ?_, fun hc => ?_, fun hc => ⟨fun hd => ?_, fun hd => ?_, fun he => ?_, fun he => ?_⟩⟩⟩
    · simp only [decide_eq_true_eq] at hd; omega
    · omega
    · rw [Bool.and_eq_true, decide_eq_true_eq, decide_eq_true_eq] at hc
      refine ⟨by simp only [In]; omega, ⟨by omega, by omega, fun j hj => ?_⟩, by (try dsimp only); omega⟩
      by_cases e : j = k.toNat
      · rw [e]; exact hc.2
      · exact b2 j (by omega)
    · simp only [decide_eq_true_eq] at hd; omega
    · omega
    · rw [Bool.and_eq_true, decide_eq_true_eq, decide_eq_true_eq] at he
      refine ⟨a2, fun y => ?_, by omega⟩
      rw [htk, a3]
      refine ⟨.inl, fun h => h.elim id fun h => ?_⟩
      rw [h, ← a3, ← he.2]
      exact getD_mem2 (by omega)
    · have hlen : (out.take k.toNat).length = k.toNat := by simp; omega
      refine ⟨by simp only [In]; omega, by omega, by omega, ?_, by omega, ?_, by omega, ?_, ?_⟩
      · simp only [List.length_nil, hlen]; omega
      · simp only [List.nil_append, List.length_cons, List.length_nil, hlen]; omega
      · simp only [List.nil_append, List.length_append, List.length_cons, List.length_nil, List.length_drop, hlen]; omega
      · rw [List.nil_append, List.append_assoc]
        refine ⟨strictI_insert a2 (by omega) b2 fun hk => ?_, fun y => ?_, ?_⟩
        · have hk' : k < out.length := by omega
          rw [decide_eq_true hk', Bool.true_and, decide_eq_false_iff_not] at hc
          rw [decide_eq_true hk', Bool.true_and, decide_eq_false_iff_not] at he
          omega
        · rw [htk, ← a3, List.mem_append, List.mem_append, List.mem_singleton]
          conv => rhs; lhs; rw [← List.take_append_drop k.toNat out, List.mem_append]
          constructor
          · rintro (h | h | h)
            · exact .inl (.inl h)
            · exact .inr h
            · exact .inl (.inr h)
          · rintro ((h | h) | h)
            · exact .inl h
            · exact .inr (.inr h)
            · exact .inr (.inl h)
        · simp only [List.length_append, List.length_cons, List.length_nil, List.length_drop, hlen]; omega
  · have e : i.toNat = l.length := by omega
    rw [e, List.take_length] at a3
    rw [strictG_uniq ltI_T a2 (uniqG_strict ltI_T l) fun x => (a3 x).trans (uniqG_mem ltI_T l x).symm]
    exact h
/-! ### who writes what -/
def Dst (l : List GAct) : Prop := ∀ i j, i < l.length → j < l.length → (l.getD i az).2.2.2 = (l.getD j az).2.2.2 → i = j
theorem mkP_get {l : List GAct} (hd : Dst l) : ∀ {i : Nat}, i ≤ l.length → ∀ j, j < i → mget (mkP l i) (l.getD j az).2.2.2 = some (j : Int)
  | 0, _, j, hj => absurd hj (Nat.not_lt_zero _)
  | i + 1, hi, j, hj => by
    rw [mkP_succ, mget_mput]
    by_cases e : (l.getD i az).2.2.2 = (l.getD j az).2.2.2
    · rw [if_pos e, hd i j (by omega) (by omega) e]
    · rw [if_neg e]
      have hne : j ≠ i := fun h => e (by rw [h])
      exact mkP_get hd (by omega) j (by omega)
theorem fits_dst {l : List GAct} (h : ∀ j, j < l.length → fitsAt l j = .ok) : Dst l := by
  have key : ∀ i, i ≤ l.length → ∀ j k, j < i → k < i → (l.getD j az).2.2.2 = (l.getD k az).2.2.2 → j = k := by
    intro i
    induction i with
    | zero => intro _ j k hj; exact absurd hj (Nat.not_lt_zero _)
    | succ i ih =>
      intro hi j k hj hk e
      have hf := h i (by omega)
      have hnew : ∀ q, q < i → (l.getD q az).2.2.2 ≠ (l.getD i az).2.2.2 := fun q hq he => by
        have hdst : ∀ m, m ≤ i → q < m → mget (mkP l m) (l.getD q az).2.2.2 = some (q : Int) := by
          intro m
          induction m with
          | zero => intro _ h; exact absurd h (Nat.not_lt_zero _)
          | succ m ihm =>
            intro hm hqm
            rw [mkP_succ, mget_mput]
            by_cases e2 : (l.getD m az).2.2.2 = (l.getD q az).2.2.2
            · rw [if_pos e2, ih (by omega) m q (by omega) (by omega) e2]
            · rw [if_neg e2]
              have hne : q ≠ m := fun h => e2 (by rw [h])
              exact ihm (by omega) (by omega)
        have hg := hdst i (Nat.le_refl _) hq
        unfold fitsAt fitsP at hf
        rw [← he, hg] at hf
        split at hf
        · cases hf
        · split at hf
          · cases hf
          · rw [if_pos (show (some (q : Int)).isSome = true from rfl)] at hf; cases hf
      rcases Nat.lt_or_eq_of_le (Nat.le_of_lt_succ hj) with hj | hj <;> rcases Nat.lt_or_eq_of_le (Nat.le_of_lt_succ hk) with hk | hk
      · exact ih (by omega) j k hj hk e
      · subst hk; exact absurd e (hnew j hj)
      · subst hj; exact absurd e.symm (hnew k hk)
      · omega
  exact fun i j hi hj e => key l.length (Nat.le_refl _) i j hi hj e
def mkI (l : List GAct) (s : List UInt8) : Int := (mget (mkP l l.length) s).getD (-1)
theorem mkI_nonneg {l : List GAct} {s : List UInt8} : 0 ≤ mkI l s ↔ (mget (mkP l l.length) s).isSome = true := by
  unfold mkI
  cases h : mget (mkP l l.length) s with
  | none => simp
  | some v =>
    obtain ⟨j, _, rfl, _⟩ := mkP_val h
    simp
theorem rmaker_M {l : List GAct} {s : List UInt8} {K : Int → Prop} (hl : l.length ≤ 1000000) (hd : Dst l) (h : K (mkI l s)) : M_psmithyref17_Graph_Maker l s K := by
  intro _
  refine ⟨fun i => 0 ≤ i ∧ i ≤ l.length ∧ ∀ j, j < i.toNat → (l.getD j az).2.2.2 ≠ s, fun i => l.length - i.toNat, ⟨by omega, by omega, by intro j hj; simp at hj⟩, fun i ⟨a0, a1, a2⟩ => ⟨fun hlt => ⟨⟨a0, hlt⟩, fun he => ?_, fun hne => ⟨by simp only [In]; omega, ⟨by omega, by omega, fun j hj => ?_⟩, by (try dsimp only); omega⟩⟩, fun hge => ?_⟩⟩
  · have hi : i.toNat < l.length := by omega
    have he : (l.getD i.toNat az).2.2.2 = s := he
    have := mkP_get hd (Nat.le_refl _) i.toNat hi
    rw [he] at this
    unfold mkI at h
    rw [this] at h
    rwa [show (i : Int) = ((i.toNat : Nat) : Int) by omega]
  · by_cases e : j = i.toNat
    · rw [e]; exact hne
    · exact a2 j (by omega)
  · have : mget (mkP l l.length) s = none := by
      cases hm : mget (mkP l l.length) s with
      | none => rfl
      | some v =>
        obtain ⟨j, h1, _, h3⟩ := mkP_val hm
        exact absurd h3 (a2 j (by omega))
    unfold mkI at h
    rwa [this] at h
theorem fm_snoc {mk : MK} {xs : TL} {k : Nat} (hk : k < xs.length) : (xs.take (k + 1)).filterMap (mget mk) = (xs.take k).filterMap (mget mk) ++ (mget mk (xs.getD k [])).toList := by
  rw [take_succ_getD [] hk, List.filterMap_append, List.filterMap_cons]
  cases mget mk (xs.getD k []) <;> rfl
theorem rbefore_M {l : List GAct} {i : Int} {K : List Int → Prop} (hl : l.length ≤ 1000000) (hd : Dst l) (hi : ∀ j, (l.getD j az).2.2.1.length ≤ 1000) (h0 : ¬ (0 ≤ i ∧ i < (l.length : Int)) → K []) (h : 0 ≤ i ∧ i < (l.length : Int) → K (bsP l i.toNat)) : M_psmithyref17_Graph_Before l i K := by
  intro _
  refine ⟨fun hb => h0 fun hc => ?_, fun hb => ?_⟩
  · rw [Bool.or_eq_true, decide_eq_true_eq, decide_eq_true_eq] at hb
    omega
  rw [Bool.or_eq_false_iff, decide_eq_false_iff_not, decide_eq_false_iff_not] at hb
  have hii : 0 ≤ i ∧ i < (l.length : Int) := by omega
  have h := h hii
  have hil := hi i.toNat
  have hin : (l.getD i.toNat (0, [], [], [])).2.2.1 = (l.getD i.toNat az).2.2.1 := rfl
  rw [hin]
  unfold bsP befA at h
  generalize (l.getD i.toNat az).2.2.1 = xs at h hil
  refine ⟨fun o k => 0 ≤ k ∧ k ≤ xs.length ∧ o = (xs.take k.toNat).filterMap (mget (mkP l l.length)), fun _ k => xs.length - k.toNat, ⟨by omega, by omega, rfl⟩, fun o k ⟨a0, a1, a2⟩ => ⟨hii, fun hlt => ?_, fun hge => ?_⟩⟩
  · have hk : k.toNat < xs.length := by omega
    have hs := fm_snoc (mk := mkP l l.length) hk
    have hol : o.length ≤ k.toNat := by
      rw [a2]
      exact Nat.le_trans (List.length_filterMap_le _ _) (by rw [List.length_take]; omega)
    refine ⟨fun o2 => o2 = (xs.take (k + 1).toNat).filterMap (mget (mkP l l.length)), ⟨hii, ⟨a0, hlt⟩, rmaker_M hl hd ⟨fun hm => ⟨by rw [List.length_singleton]; omega, ?_⟩, fun hm => ?_⟩⟩, fun o2 hb2 => ⟨by simp only [In]; omega, ⟨by omega, by omega, hb2⟩, by (try dsimp only); omega⟩⟩
    · rw [show (k + 1).toNat = k.toNat + 1 by omega, hs, ← a2]
      obtain ⟨v, hv⟩ := Option.isSome_iff_exists.1 (mkI_nonneg.1 hm)
      unfold mkI
      rw [hv]; rfl
    · rw [show (k + 1).toNat = k.toNat + 1 by omega, hs, ← a2]
      have hn : mget (mkP l l.length) (xs.getD k.toNat []) = none := by
        cases hv : mget (mkP l l.length) (xs.getD k.toNat []) with
        | none => rfl
        | some v => exact absurd (mkI_nonneg.2 (by rw [hv]; rfl)) hm
      rw [hn]; simp
  · have hk : k.toNat = xs.length := by omega
    rw [hk, List.take_length] at a2
    subst a2
    have := List.length_filterMap_le (mget (mkP l l.length)) xs
    exact sortedI_M (by omega) h
theorem rafter_M {l : List GAct} {i : Int} {K : List Int → Prop} (hl : l.length ≤ 1000) (hd : Dst l) (hi : ∀ j, (l.getD j az).2.2.1.length ≤ 1000) (h0 : ¬ (0 ≤ i ∧ i < (l.length : Int)) → K []) (h : 0 ≤ i ∧ i < (l.length : Int) → K (aftK l l.length i.toNat)) : M_psmithyref17_Graph_After l i K := by
  intro _
  refine ⟨fun o k => 0 ≤ k ∧ k ≤ l.length ∧ o = (if 0 ≤ i ∧ i < (l.length : Int) then aftK l k.toNat i.toNat else []), fun _ k => l.length - k.toNat, ⟨by omega, by omega, by split <;> rfl⟩, fun o k ⟨a0, a1, a2⟩ => ⟨fun hc => ?_, fun hc => ?_⟩⟩
  · simp only [Bool.and_eq_true, decide_eq_true_eq] at hc
    have hii : 0 ≤ i ∧ i < (l.length : Int) := by omega
    rw [if_pos hii] at a2
    have hki : (k.toNat : Int) = k := by omega
    have hiz : ((i.toNat : Nat) : Int) = i := by omega
    have hal := aftK_len l k.toNat i.toNat
    have hbl := bsP_len l k.toNat
    have hil := hi k.toNat
    refine ⟨fun o2 => o2 = aftK l (k + 1).toNat i.toNat, rbefore_M (by omega) hd hi (fun hn => absurd ⟨a0, hc.1.1⟩ hn) fun _ => amongI_M (by omega) ⟨fun hm => ⟨by rw [a2, List.length_singleton]; omega, ?_⟩, fun hm => ?_⟩, fun o2 hb2 => ⟨by simp only [In]; omega, ⟨by omega, by omega, by rw [if_pos hii]; exact hb2⟩, by (try dsimp only); omega⟩⟩
    · rw [decide_eq_true_eq] at hm
      rw [show (k + 1).toNat = k.toNat + 1 by omega, aftK_succ, hiz, if_pos hm, a2, hki]
    · rw [decide_eq_false_iff_not] at hm
      rw [show (k + 1).toNat = k.toNat + 1 by omega, aftK_succ, hiz, if_neg hm, a2, List.append_nil]
  · by_cases hii : 0 ≤ i ∧ i < (l.length : Int)
    · rw [if_pos hii] at a2
      have : k.toNat = l.length := by
        simp only [Bool.and_eq_false_iff, decide_eq_false_iff_not] at hc
        omega
      rw [this] at a2
      rw [a2]; exact h hii
    · rw [if_neg hii] at a2
      rw [a2]; exact h0 hii
end Go.Proofs.YtlonpmajnglmoaaGreatDoor


 /- A graph of actions, plainly: the chapter's reach, order, needs, sources; whether actions are a graph. -/
namespace Go.Proofs.YtlonpmajnglmoaaGreatDoor
open Go Go.RowKit
section
variable {l : List GAct}
theorem tot_bef {c : Nat} (hi : ∀ j, (l.getD j az).2.2.1.length ≤ c) (m : Nat) : tot (befL l l.length) m ≤ c * m := tot_le (fun j => by
  rw [befL_getD]
  split
  · exact Nat.le_trans (bsP_len l j) (hi j)
  · simp) m
theorem bef_in {j : Nat} {k : Int} (h : k ∈ (befL l l.length).getD j []) : 0 ≤ k ∧ k < (l.length : Int) := by
  rw [befL_getD] at h
  split at h
  · exact bsP_in h
  · cases h
theorem rreach_M {fr : List Int} {K : List Int → Prop} (hl : l.length ≤ 1000) (hd : Dst l) (hi : ∀ j, (l.getD j az).2.2.1.length ≤ 1000) (hf : ∀ k ∈ fr, 0 ≤ k ∧ k < (l.length : Int)) (hs : fr.length ≤ 1000000)
    (h : ∀ met : List Bool, met.length = l.length → (∀ k : Nat, k < l.length → (met.getD k false = true ↔ Rch (befL l l.length) fr k)) → K (onesN met l.length)) : M_psmithyref17_Graph_reach l fr K := by
  intro _ _
  have htt := tot_bef (c := 1000) hi l.length
  have hnn : ((l.length : Int)).toNat = l.length := by omega
  rw [hnn]
  refine ⟨⟨by omega, by omega, by omega⟩, ?_⟩
  refine ⟨fun work met => met.length = l.length ∧ (∀ k ∈ work, Rch (befL l l.length) fr k ∧ 0 ≤ k ∧ k < (l.length : Int)) ∧ (∀ k : Nat, k < l.length → met.getD k false = true → Rch (befL l l.length) fr k) ∧ (∀ f ∈ fr, f ∈ work ∨ met.getD f.toNat false = true) ∧ (∀ k : Nat, k < l.length → met.getD k false = true → ∀ j ∈ (befL l l.length).getD k [], j ∈ work ∨ met.getD j.toNat false = true) ∧ work.length + unm (befL l l.length) met l.length ≤ fr.length + tot (befL l l.length) l.length, fun work met => work.length + unm (befL l l.length) met l.length, ⟨by simp, fun k hk => ⟨.base hk, hf k hk⟩, fun k hk hm => ?_, fun f hf => .inl hf, fun k hk hm => ?_, ?_⟩, fun work met ⟨a0, a1, a2, a3, a4, a5⟩ _ => ⟨fun hpos => ?_, fun hz => ?_⟩⟩
  · simp [List.getD, List.getElem?_replicate, hk] at hm
  · simp [List.getD, List.getElem?_replicate, hk] at hm
  · have := unm_le (befL l l.length) (List.replicate l.length false) l.length
    omega
  · have hne : work ≠ [] := fun e => by rw [e] at hpos; simp at hpos
    obtain ⟨w', k, rfl⟩ : ∃ w' k, work = w' ++ [k] := ⟨work.dropLast, work.getLast hne, (List.dropLast_concat_getLast hne).symm⟩
    have hwl : (w' ++ [k]).length = w'.length + 1 := by simp
    have ht : (((w' ++ [k]).length : Int) - 1).toNat = w'.length := by omega
    have hg : (w' ++ [k]).getD w'.length 0 = k := by simp [List.getD]
    have htk : (w' ++ [k]).take w'.length = w' := List.take_left' rfl
    obtain ⟨k1, k2, k3⟩ := a1 k (by simp)
    have hkn : k.toNat < l.length := by omega
    have hkk : ((k.toNat : Nat) : Int) = k := by omega
    rw [ht, hg, htk]
    refine ⟨by simp only [In]; omega, ⟨by omega, by omega⟩, by simp only [In]; omega, ⟨by omega, by omega⟩, ⟨k2, by omega⟩, fun hm => ?_, fun hm => ?_⟩
    · refine ⟨⟨a0, fun j hj => a1 j (List.mem_append_left _ hj), a2, fun f hf => ?_, fun j hj hmj x hx => ?_, by omega⟩, by (try dsimp only); omega⟩
      · rcases a3 f hf with hf' | hf'
        · rcases List.mem_append.1 hf' with hf' | hf'
          · exact .inl hf'
          · right; rw [List.mem_singleton.1 hf']; exact hm
        · exact .inr hf'
      · rcases a4 j hj hmj x hx with hx' | hx'
        · rcases List.mem_append.1 hx' with hx' | hx'
          · exact .inl hx'
          · right; rw [List.mem_singleton.1 hx']; exact hm
        · exact .inr hx'
    · have hu := unm_set (befL l l.length) (met := met) (by omega) hm l.length (by omega)
      rw [if_pos hkn] at hu
      have hbk : (befL l l.length).getD k.toNat [] = bsP l k.toNat := by rw [befL_getD, if_pos hkn]
      refine ⟨⟨k2, by omega⟩, rbefore_M (by omega) hd hi (fun hn => absurd ⟨k2, k3⟩ hn) fun _ => ?_⟩
      rw [← hbk]
      refine ⟨by omega, ⟨by rw [List.length_set, a0], fun j hj => ?_, fun j hj hmj => ?_, fun f hf => ?_, fun j hj hmj x hx => ?_, by rw [List.length_append]; omega⟩, by (try dsimp only); rw [List.length_append]; omega⟩
      · rcases List.mem_append.1 hj with hj | hj
        · exact a1 j (List.mem_append_left _ hj)
        · exact ⟨.step k1 hj, bef_in hj⟩
      · rw [getD_setG (by omega)] at hmj
        by_cases e : k.toNat = j
        · rw [← e, hkk]; exact k1
        · rw [if_neg e] at hmj; exact a2 j hj hmj
      · rcases a3 f hf with hf' | hf'
        · rcases List.mem_append.1 hf' with hf' | hf'
          · exact .inl (List.mem_append_left _ hf')
          · right
            rw [List.mem_singleton.1 hf', getD_setG (by omega), if_pos rfl]
        · right
          rw [getD_setG (by omega)]
          split
          · rfl
          · exact hf'
      · rw [getD_setG (by omega)] at hmj
        by_cases e : k.toNat = j
        · rw [← e] at hx
          exact .inl (List.mem_append_right _ hx)
        · rw [if_neg e] at hmj
          rcases a4 j hj hmj x hx with hx' | hx'
          · rcases List.mem_append.1 hx' with hx' | hx'
            · exact .inl (List.mem_append_left _ hx')
            · right
              rw [List.mem_singleton.1 hx', getD_setG (by omega), if_pos rfl]
          · right
            rw [getD_setG (by omega)]
            split
            · rfl
            · exact hx'
  · have hw : work = [] := List.eq_nil_of_length_eq_zero (by omega)
    subst hw
    have hin : ∀ k, Rch (befL l l.length) fr k → 0 ≤ k ∧ k < (l.length : Int) ∧ met.getD k.toNat false = true := fun k hk => by
      induction hk with
      | base hf' =>
        obtain ⟨h1, h2⟩ := hf _ hf'
        exact ⟨h1, h2, (a3 _ hf').resolve_left (by simp)⟩
      | step _ hj ih =>
        obtain ⟨i1, i2, i3⟩ := ih
        obtain ⟨h1, h2⟩ := bef_in hj
        exact ⟨h1, h2, (a4 _ (by omega) i3 _ hj).resolve_left (by simp)⟩
    have hK := h met a0 fun k hk => ⟨fun hm => a2 k hk hm, fun hR => by have := (hin _ hR).2.2; simpa using this⟩
    refine ⟨fun out i => 0 ≤ i ∧ i ≤ l.length ∧ out = onesN met i.toNat, fun _ i => l.length - i.toNat, ⟨by omega, by omega, rfl⟩, fun out i ⟨b0, b1, b2⟩ => ⟨fun hlt => ?_, fun hge => ?_⟩⟩
    · have hii : (i.toNat : Int) = i := by omega
      have hol := onesN_len met i.toNat
      refine ⟨fun o2 => o2 = onesN met (i + 1).toNat, ⟨⟨b0, hlt⟩, fun hm => ⟨by rw [b2, List.length_singleton]; omega, ?_⟩, fun hm => ?_⟩, fun o2 hb2 => ⟨by simp only [In]; omega, ⟨by omega, by omega, hb2⟩, by (try dsimp only); omega⟩⟩
      · rw [show (i + 1).toNat = i.toNat + 1 by omega, onesN_succ, if_pos hm, b2, hii]
      · rw [show (i + 1).toNat = i.toNat + 1 by omega, onesN_succ, if_neg (by rw [hm]; simp), b2, List.append_nil]
    · have : i.toNat = l.length := by omega
      rw [this] at b2
      rw [b2]; exact hK
/-- what was reached says its list -/
theorem ones_eq {met met' : List Bool} {n : Nat} (h : ∀ k, k < n → (met.getD k false = true ↔ met'.getD k false = true)) : onesN met n = onesN met' n := by
  unfold onesN
  congr 1
  refine List.filter_congr fun k hk => ?_
  rw [Bool.eq_iff_iff]
  exact h k (List.mem_range.1 hk)
theorem onesN_mem {met : List Bool} {n : Nat} {x : Int} : x ∈ onesN met n ↔ ∃ k : Nat, k < n ∧ x = (k : Int) ∧ met.getD k false = true := by
  unfold onesN
  rw [List.mem_map]
  constructor
  · rintro ⟨q, hq, rfl⟩
    rw [List.mem_filter, List.mem_range] at hq
    exact ⟨q, hq.1, rfl, hq.2⟩
  · rintro ⟨q, h1, rfl, h2⟩
    exact ⟨q, List.mem_filter.2 ⟨List.mem_range.2 h1, h2⟩, rfl⟩
theorem rneeds_M {outs : TL} {K : List Int → Prop} (hl : l.length ≤ 1000) (hd : Dst l) (hi : ∀ j, (l.getD j az).2.2.1.length ≤ 1000) (ho : outs.length ≤ 1000000)
    (h : ∀ met : List Bool, met.length = l.length → (∀ k : Nat, k < l.length → (met.getD k false = true ↔ Rch (befL l l.length) (outs.filterMap (mget (mkP l l.length))) k)) → K (onesN met l.length)) : M_psmithyref17_Graph_Needs l outs K := by
  intro _ _
  refine ⟨fun o k => 0 ≤ k ∧ k ≤ outs.length ∧ o = (outs.take k.toNat).filterMap (mget (mkP l l.length)), fun _ k => outs.length - k.toNat, ⟨by omega, by omega, rfl⟩, fun o k ⟨a0, a1, a2⟩ => ⟨fun hlt => ?_, fun hge => ?_⟩⟩
  · have hk : k.toNat < outs.length := by omega
    have hs := fm_snoc (mk := mkP l l.length) hk
    have hol : o.length ≤ k.toNat := by
      rw [a2]
      exact Nat.le_trans (List.length_filterMap_le _ _) (by rw [List.length_take]; omega)
    refine ⟨fun o2 => o2 = (outs.take (k + 1).toNat).filterMap (mget (mkP l l.length)), ⟨⟨a0, hlt⟩, rmaker_M (by omega) hd ⟨fun hm => ⟨by rw [List.length_singleton]; omega, ?_⟩, fun hm => ?_⟩⟩, fun o2 hb2 => ⟨by simp only [In]; omega, ⟨by omega, by omega, hb2⟩, by (try dsimp only); omega⟩⟩
    · rw [show (k + 1).toNat = k.toNat + 1 by omega, hs, ← a2]
      obtain ⟨v, hv⟩ := Option.isSome_iff_exists.1 (mkI_nonneg.1 hm)
      unfold mkI
      rw [hv]; rfl
    · rw [show (k + 1).toNat = k.toNat + 1 by omega, hs, ← a2]
      have hn : mget (mkP l l.length) (outs.getD k.toNat []) = none := by
        cases hv : mget (mkP l l.length) (outs.getD k.toNat []) with
        | none => rfl
        | some v => exact absurd (mkI_nonneg.2 (by rw [hv]; rfl)) hm
      rw [hn]; simp
  · have hk : k.toNat = outs.length := by omega
    rw [hk, List.take_length] at a2
    subst a2
    have hle := List.length_filterMap_le (mget (mkP l l.length)) outs
    refine rreach_M hl hd hi (fun k hk => ?_) (by omega) h
    obtain ⟨s, _, hs⟩ := List.mem_filterMap.1 hk
    obtain ⟨j, h1, h2, _⟩ := mkP_val hs
    omega
theorem rsources_M {K : TL → Prop} (hl : l.length ≤ 1000) (hd : Dst l) (hi : ∀ j, (l.getD j az).2.2.1.length ≤ 100) (h : K (sortU (l.flatMap fun a => srcA (mkP l l.length) a.2.2.1))) : M_psmithyref17_Graph_Sources l K := by
  intro _
  have hlen : ∀ m, m ≤ l.length → ((l.take m).flatMap fun a => srcA (mkP l l.length) a.2.2.1).length ≤ 100 * m := by
    intro m
    induction m with
    | zero => intro _; simp
    | succ m ih =>
      intro hm
      rw [take_succ_getD az (by omega), List.flatMap_append, List.length_append]
      have h1 := ih (by omega)
      have h2 := srcA_len (mkP l l.length) (l.getD m az).2.2.1
      have h3 := hi m
      simp only [List.flatMap_cons, List.flatMap_nil, List.append_nil]
      omega
  refine ⟨fun out i => 0 ≤ i ∧ i ≤ l.length ∧ out = (l.take i.toNat).flatMap fun a => srcA (mkP l l.length) a.2.2.1, fun _ i => l.length - i.toNat, ⟨by omega, by omega, rfl⟩, fun out i ⟨a0, a1, a2⟩ => ⟨fun hlt => ?_, fun hge => ?_⟩⟩
  · have hii : i.toNat < l.length := by omega
    have hol := hlen i.toNat (by omega)
    rw [← a2] at hol
    have hst : (l.take (i + 1).toNat).flatMap (fun a => srcA (mkP l l.length) a.2.2.1) = out ++ srcA (mkP l l.length) (l.getD i.toNat az).2.2.1 := by
      rw [show (i + 1).toNat = i.toNat + 1 by omega, take_succ_getD az hii, List.flatMap_append, ← a2]
      simp
    have hin : (l.getD i.toNat (0, [], [], [])).2.2.1 = (l.getD i.toNat az).2.2.1 := rfl
    have hil := hi i.toNat
    rw [hin]
    generalize (l.getD i.toNat az).2.2.1 = xs at hst hil
    refine ⟨fun o2 k => 0 ≤ k ∧ k ≤ xs.length ∧ o2 = out ++ srcA (mkP l l.length) (xs.take k.toNat), fun _ k => xs.length - k.toNat, ⟨by omega, by omega, by unfold srcA; simp⟩, fun o2 k ⟨b0, b1, b2⟩ => ⟨⟨a0, hlt⟩, fun hlt2 => ?_, fun hge2 => ?_⟩⟩
    · have hk : k.toNat < xs.length := by omega
      have ho2 : o2.length ≤ out.length + 100 := by
        rw [b2, List.length_append]
        have := srcA_len (mkP l l.length) (xs.take k.toNat)
        rw [List.length_take] at this
        omega
      have hs : srcA (mkP l l.length) (xs.take (k + 1).toNat) = srcA (mkP l l.length) (xs.take k.toNat) ++ if mkI l (xs.getD k.toNat []) < 0 then [xs.getD k.toNat []] else [] := by
        rw [show (k + 1).toNat = k.toNat + 1 by omega, take_succ_getD [] hk]
        unfold srcA
        rw [List.filter_append]
        congr 1
        rw [List.filter_cons, List.filter_nil]
        by_cases hm : mkI l (xs.getD k.toNat []) < 0
        · rw [if_pos hm, if_pos]
          cases hv : mget (mkP l l.length) (xs.getD k.toNat []) with
          | none => rfl
          | some v => exact absurd (mkI_nonneg.2 (by rw [hv]; rfl)) (by omega)
        · rw [if_neg hm, if_neg]
          rw [mkI_nonneg.1 (by omega)]; simp
      refine ⟨fun o3 => o3 = out ++ srcA (mkP l l.length) (xs.take (k + 1).toNat), ⟨⟨a0, hlt⟩, ⟨b0, hlt2⟩, rmaker_M (by omega) hd ⟨fun hm => ⟨⟨a0, hlt⟩, ⟨b0, hlt2⟩, by rw [List.length_singleton]; omega, ?_⟩, fun hm => ?_⟩⟩, fun o3 hb3 => ⟨by simp only [In]; omega, ⟨by omega, by omega, hb3⟩, by (try dsimp only); omega⟩⟩
      · rw [hs, if_pos hm, b2, List.append_assoc]
      · rw [hs, if_neg hm, b2, List.append_nil]
    · have hk : k.toNat = xs.length := by omega
      rw [hk, List.take_length, ← hst] at b2
      exact ⟨by simp only [In]; omega, ⟨by omega, by omega, b2⟩, by (try dsimp only); omega⟩
  · have hk : i.toNat = l.length := by omega
    have hol := hlen l.length (Nat.le_refl _)
    rw [hk, List.take_length] at a2
    rw [List.take_length, ← a2] at hol
    refine sortedTexts_M (by omega) ?_
    rw [a2]; exact h
theorem rorder_M {K : List Int → Prop} (hl : l.length ≤ 1000) (hd : Dst l) (hi : ∀ j, (l.getD j az).2.2.1.length ≤ 1000) (ha : AcyB (befL l l.length) l.length) (h : K (ordR (befL l l.length) l.length l.length)) : M_psmithyref17_Graph_Order l K := by
  intro _
  refine ⟨fun out => ∃ m, m ≤ l.length ∧ out = ordR (befL l l.length) l.length m, fun out => l.length - out.length, ⟨0, by omega, rfl⟩, fun out ⟨m, m1, m2⟩ => ⟨fun hlt => ?_, fun hge => ?_⟩⟩
  · obtain ⟨o1, o2, o3⟩ := ordR_props ha m m1
    rw [← m2] at o1 o2 o3
    have hm : m < l.length := by omega
    obtain ⟨i, hp, he⟩ := ordR_step ha hm
    rw [← m2] at hp he
    obtain ⟨i1, i2, i3⟩ := pickF_some hp
    refine ⟨fun best q => 0 ≤ q ∧ q ≤ l.length ∧ ((best = -1 ∧ q.toNat ≤ i) ∨ best = (i : Int)), fun _ q => l.length - q.toNat, ⟨by omega, by omega, .inl ⟨rfl, by simp⟩⟩, fun best q ⟨a0, a1, a2⟩ => ⟨fun hc => ?_, fun hc => ?_⟩⟩
    · simp only [Bool.and_eq_true, decide_eq_true_eq] at hc
      have hb : best = -1 ∧ q.toNat ≤ i := a2.resolve_right (by omega)
      have hq : q.toNat < l.length := by omega
      have hqq : ((q.toNat : Nat) : Int) = q := by omega
      have hbq : (befL l l.length).getD q.toNat [] = bsP l q.toNat := by rw [befL_getD, if_pos hq]
      have hbl := bsP_len l q.toNat
      have hil := hi q.toNat
      have hfq : freeB (befL l l.length) out q.toNat = true ↔ q.toNat = i := by
        constructor
        · intro hf
          rcases Nat.lt_or_eq_of_le hb.2 with h1 | h1
          · rw [i3 _ h1] at hf; cases hf
          · exact h1
        · rintro rfl; exact i2
      unfold freeB at hfq
      rw [hbq, hqq, Bool.and_eq_true] at hfq
      refine ⟨fun b2 => (b2 = -1 ∧ q.toNat + 1 ≤ i) ∨ b2 = (i : Int), amongI_M (by omega) ⟨fun hm => ?_, fun hm => rbefore_M (by omega) hd hi (fun hn => absurd ⟨a0, hc.1⟩ hn) fun _ => ?_⟩, fun b2 hb2 => ⟨by simp only [In]; omega, ⟨by omega, by omega, hb2.imp (fun h => ⟨h.1, by omega⟩) id⟩, by (try dsimp only); omega⟩⟩
      · left
        refine ⟨hb.1, ?_⟩
        have : q.toNat ≠ i := fun e => by
          have := (hfq.2 e).1
          rw [decide_eq_true_eq] at hm
          simp [hm] at this
        omega
      · rw [decide_eq_false_iff_not] at hm
        have hfq2 : ((bsP l q.toNat).all fun b => out.contains b) = true ↔ q.toNat = i := by
          rw [← hfq]
          exact ⟨fun h => ⟨by simpa using hm, h⟩, fun h => h.2⟩
        generalize bsP l q.toNat = bs at hfq2 hbl
        refine ⟨fun fr k => 0 ≤ k ∧ k ≤ bs.length ∧ fr = (bs.take k.toNat).all fun b => out.contains b, fun _ k => bs.length - k.toNat, ⟨by omega, by omega, rfl⟩, fun fr k ⟨c0, c1, c2⟩ => ⟨fun hlt3 => ?_, fun hge3 => ?_⟩⟩
        · have hk : k.toNat < bs.length := by omega
          have hst : ((bs.take (k + 1).toNat).all fun b => out.contains b) = (((bs.take k.toNat).all fun b => out.contains b) && out.contains (bs.getD k.toNat 0)) := by
            rw [show (k + 1).toNat = k.toNat + 1 by omega, take_succ_getD 0 hk, List.all_append]
            simp
          refine ⟨fun f2 => f2 = (bs.take (k + 1).toNat).all fun b => out.contains b, ⟨fun ht => ⟨⟨c0, hlt3⟩, amongI_M (by omega) ?_⟩, fun hf => ?_⟩, fun f2 hf2 => ⟨by simp only [In]; omega, ⟨by omega, by omega, hf2⟩, by (try dsimp only); omega⟩⟩
          · rw [hst, ← c2, ht, Bool.true_and]
            show decide (bs.getD k.toNat 0 ∈ out) = out.contains (bs.getD k.toNat 0)
            rw [Bool.eq_iff_iff, decide_eq_true_iff, List.contains_iff_mem]
          · rw [hst, ← c2, hf, Bool.false_and]
        · have hk : k.toNat = bs.length := by omega
          rw [hk, List.take_length] at c2
          refine ⟨fun ht => ?_, fun hf => ?_⟩
          · right
            have := hfq2.1 (by rw [← c2, ht])
            omega
          · left
            refine ⟨hb.1, ?_⟩
            have : q.toNat ≠ i := fun e => by
              have := hfq2.2 e
              rw [← c2, hf] at this; cases this
            omega
    · rcases a2 with ⟨rfl, h2⟩ | rfl
      · exfalso
        simp only [Bool.and_eq_false_iff, decide_eq_false_iff_not] at hc
        omega
      · exact ⟨fun hb => by omega, fun _ => ⟨by rw [List.length_singleton]; omega, ⟨m + 1, by omega, he.symm⟩, by (try dsimp only); rw [List.length_append, List.length_singleton]; omega⟩⟩
  · have : m = l.length := by
      have := (ordR_props ha m m1).1
      rw [← m2] at this
      omega
    rw [m2, this]; exact h
end
end Go.Proofs.YtlonpmajnglmoaaGreatDoor


 /- A graph of actions, plainly: whether actions are one, by the program and by the chapter. -/
namespace Go.Proofs.YtlonpmajnglmoaaGreatDoor
open Go Go.RowKit
/-- what comes of actions -/
def GBad (l : List GAct) : Prop := 1000 < l.length ∨ l.any manyA = true
def GCy (l : List GAct) (i : Nat) : Prop := Rch (befL l l.length) (bsP l i) (i : Int)
def GRes (l : List GAct) (e : Er) : Prop :=
  (GBad l ∧ e = .e 9) ∨ (¬ GBad l ∧ ∃ (i n : Nat), i < l.length ∧ (∀ j, j < i → fitsAt l j = .ok) ∧ fitsAt l i = .e n ∧ e = .at_ (i : Int) n) ∨
  (¬ GBad l ∧ (∀ j, j < l.length → fitsAt l j = .ok) ∧ ∃ i : Nat, i < l.length ∧ (∀ j, j < i → ¬ GCy l j) ∧ GCy l i ∧ e = .at_ (i : Int) 4) ∨
  (¬ GBad l ∧ (∀ j, j < l.length → fitsAt l j = .ok) ∧ (∀ j, j < l.length → ¬ GCy l j) ∧ e = .ok)
theorem GRes.uniq {l : List GAct} {e e' : Er} (h : GRes l e) (h' : GRes l e') : e = e' := by
  rcases h with ⟨a, rfl⟩ | ⟨a, i, n, a1, a2, a3, rfl⟩ | ⟨a, a1, i, a2, a3, a4, rfl⟩ | ⟨a, a1, a2, rfl⟩ <;>
  rcases h' with ⟨b, rfl⟩ | ⟨b, i', n', b1, b2, b3, rfl⟩ | ⟨b, b1, i', b2, b3, b4, rfl⟩ | ⟨b, b1, b2, rfl⟩
  · rfl
  · exact absurd a b
  · exact absurd a b
  · exact absurd a b
  · exact absurd b a
  · rcases Nat.lt_trichotomy i i' with h | h | h
    · rw [b2 i h] at a3; cases a3
    · subst h; rw [a3] at b3; cases b3; rfl
    · rw [a2 i' h] at b3; cases b3
  · rw [b1 i a1] at a3; cases a3
  · rw [b1 i a1] at a3; cases a3
  · exact absurd b a
  · rw [a1 i' b1] at b3; cases b3
  · rcases Nat.lt_trichotomy i i' with h | h | h
    · exact absurd a4 (b3 i h)
    · subst h; rfl
    · exact absurd b4 (a3 i' h)
  · exact absurd a4 (b2 i a2)
  · exact absurd b a
  · rw [a1 i' b1] at b3; cases b3
  · exact absurd b4 (a2 i' b2)
  · rfl
structure GOk (l : List GAct) : Prop where
  len : l.length ≤ 1000
  dst : Dst l
  inp : ∀ j, (l.getD j az).2.2.1.length ≤ 1000
  arg : ∀ j, (l.getD j az).2.1.length ≤ 1000
  acy : AcyB (befL l l.length) l.length
theorem not_bad {l : List GAct} (h : ¬ GBad l) : l.length ≤ 1000 ∧ l.any manyA = false ∧ ∀ j, (l.getD j az).2.2.1.length ≤ 1000 ∧ (l.getD j az).2.1.length ≤ 1000 := by
  have h1 : l.length ≤ 1000 := Nat.le_of_not_lt fun h2 => h (.inl h2)
  have h2 : l.any manyA = false := by simpa using fun h3 => h (.inr h3)
  refine ⟨h1, h2, fun j => ?_⟩
  by_cases hj : j < l.length
  · have h3 := List.any_eq_false.1 h2 _ (getD_mem2 (d := az) hj)
    have h3 : manyA (l.getD j az) = false := by simpa using h3
    unfold manyA at h3
    rw [Bool.or_eq_false_iff, decide_eq_false_iff_not, decide_eq_false_iff_not] at h3
    omega
  · have : l.getD j az = az := by simp [List.getD, List.getElem?_eq_none (show l.length ≤ j by omega)]
    rw [this]; decide
theorem GRes.good {l : List GAct} (h : GRes l .ok) : GOk l := by
  rcases h with ⟨_, h⟩ | ⟨_, _, _, _, _, _, h⟩ | ⟨_, _, _, _, _, _, h⟩ | ⟨a, a1, a2, _⟩
  · cases h
  · cases h
  · cases h
  · obtain ⟨h1, h2, h3⟩ := not_bad a
    refine ⟨h1, fits_dst a1, fun j => (h3 j).1, fun j => (h3 j).2, fun j hj k hk => bef_in hk, fun j hj => ?_⟩
    have := a2 j hj
    unfold GCy at this
    rwa [befL_getD, if_pos hj]
theorem new_R {l : List GAct} {K0 : Er → Prop} {K : List GAct → MK → List (List Int) → List (List Int) → Er → Prop} (hl : l.length ≤ 1000000) (hsz : ∀ a ∈ l, (∀ s ∈ a.2.2.1, s.length ≤ 3999999999) ∧ a.2.2.2.length ≤ 3999999999)
    (h0 : ∀ e, GRes l e → e ≠ .ok → K0 e) (h1 : GRes l .ok → K l (mkP l l.length) (befL l l.length) (aftL l l.length) .ok) : M_graph_New l K0 K := by
  have nb : l.length ≤ 1000 → l.any manyA = false → ¬ GBad l := fun a b h => h.elim (fun h => by omega) (fun h => by rw [b] at h; cases h)
  refine new_M hl (fun a ha => ⟨fun s hs => Nat.le_trans ((hsz a ha).1 s hs) (by omega), Nat.le_trans (hsz a ha).2 (by omega)⟩) (fun h => h0 _ (.inl ⟨h, rfl⟩) (by simp)) (fun a b i n hi hj he => ?_) (fun a b hf i hi hj hc => ?_) (fun a b hf hc => ?_)
  · exact h0 _ (.inr (.inl ⟨nb a b, i, n, hi, hj, he, rfl⟩)) (by simp)
  · exact h0 _ (.inr (.inr (.inl ⟨nb a b, hf, i, hi, hj, hc, rfl⟩))) (by simp)
  · exact h1 (.inr (.inr (.inr ⟨nb a b, hf, hc, rfl⟩)))
def fC : Er → Int
  | .ok => 0
  | .e n => 101 + (n : Int)
  | .at_ _ n => 101 + (n : Int)
def fP : Er → Bool
  | .at_ _ _ => true
  | _ => false
def fQ : Er → Int
  | .at_ p _ => p
  | _ => 0
theorem sameR_M {e : Er} {K : Bool → Prop} (h : K true) : M_smithysee_Same e (fC e) (fP e) (fQ e) false [] K := by
  unfold M_smithysee_Same M_smithysee_Fault M_smithyref_None M_smithyref_SameFault M_smithysee_placed M_smithysee_sentinel M_smithyref_Bare M_smithyref_Placed M_smithyref_None
  cases e with
  | ok => exact ⟨fun _ => (congrArg K (by decide)).mp h, fun h2 => absurd rfl h2⟩
  | e n => refine ⟨fun h2 => (by cases h2), fun _ => ⟨fun p m h2 => (by cases h2), fun _ => (congrArg K ?_).mp h⟩⟩; simp [sentV, fC, fP, fQ]
  | at_ p n =>
    refine ⟨fun h2 => (by cases h2), fun _ => ⟨fun p' m h2 => ?_, fun h2 => absurd rfl (h2 p n)⟩⟩
    cases h2
    refine ⟨fun h2 => (by simp at h2), fun _ => ⟨fun h2 => (by simp only [sentV] at h2; omega), fun _ => (congrArg K ?_).mp h⟩⟩
    simp [sentV, fC, fP, fQ]
theorem placed_M {c p : Int} {K : Int → Bool → Int → Bool → List UInt8 → Prop} (hc : c ≠ 0) (h : K c true p false []) : M_smithyref_Placed c p K := ⟨fun e => absurd e hc, fun _ => h⟩
theorem raction_M {t : Int} {a i : TL} {o : List UInt8} {K : Int → TL → TL → List UInt8 → Prop} (ha : a.length ≤ 1000000) (hi : i.length ≤ 1000000) (h : K t a i o) : M_smithyref_Action t a i o K := fun _ _ => gtexts_M (by omega) (gtexts_M (by omega) h)
theorem ractions_M {l : List GAct} {K : List GAct → Prop} (hl : l.length ≤ 1000000) (hi : ∀ j, (l.getD j az).2.2.1.length ≤ 1000 ∧ (l.getD j az).2.1.length ≤ 1000) (h : K l) : M_smithyref_Actions l K := by
  intro _
  refine ⟨by omega, fun out i => 0 ≤ i ∧ i ≤ l.length ∧ out = l.take i.toNat, fun _ i => l.length - i.toNat, ⟨by omega, by omega, rfl⟩, fun out i ⟨a0, a1, a2⟩ => ⟨fun hlt => ?_, fun hge => ?_⟩⟩
  · have hii : i.toNat < l.length := by omega
    have := hi i.toNat
    refine ⟨⟨a0, hlt⟩, raction_M (by show (l.getD i.toNat az).2.1.length ≤ _; omega) (by show (l.getD i.toNat az).2.2.1.length ≤ _; omega) ⟨?_, by simp only [In]; omega, ⟨by omega, by omega, ?_⟩, by (try dsimp only); omega⟩⟩
    · rw [a2, List.length_take, List.length_singleton]; omega
    · rw [show (i + 1).toNat = i.toNat + 1 by omega, take_succ_getD az hii, a2]; rfl
  · have : i.toNat = l.length := by omega
    rw [a2, this, List.take_length]; exact h
theorem mkP_some {l : List GAct} : ∀ {i j : Nat}, j < i → (mget (mkP l i) (l.getD j az).2.2.2).isSome = true
  | i + 1, j, h => by
    rw [mkP_succ, mget_mput]
    by_cases e : (l.getD i az).2.2.2 = (l.getD j az).2.2.2
    · rw [if_pos e]; rfl
    · rw [if_neg e]
      have hne : j ≠ i := fun h => e (by rw [h])
      exact mkP_some (by omega)
theorem rnew_R {l : List GAct} {K0 : Int → Bool → Int → Bool → List UInt8 → Prop} {K : List GAct → Int → Bool → Int → Bool → List UInt8 → Prop} (hl : l.length ≤ 1000000) (hsz : ∀ a ∈ l, (∀ s ∈ a.2.2.1, s.length ≤ 3999999999) ∧ a.2.2.2.length ≤ 3999999999)
    (h0 : ∀ e, GRes l e → e ≠ .ok → K0 (fC e) (fP e) (fQ e) false []) (h1 : GRes l .ok → K l 0 false 0 false []) : M_smithyref17_NewGraph l K0 K := by
  intro _
  have hbad : GBad l → K0 110 false 0 false [] := fun h => h0 _ (.inl ⟨h, rfl⟩) (by simp)
  refine ⟨fun h => hbad (.inl (by omega)), fun hlen => ?_⟩
  refine ⟨fun i _ _ _ _ _ => 0 ≤ i ∧ i ≤ l.length ∧ ∀ j, j < i.toNat → manyA (l.getD j az) = false, fun i _ _ _ _ _ => l.length - i.toNat, ⟨by omega, by omega, fun j hj => by simp at hj⟩, fun i c1 c2 c3 c4 c5 ⟨a0, a1, a2⟩ => ⟨fun hlt => ?_, fun hge => ?_⟩⟩
  · have hii : i.toNat < l.length := by omega
    refine ⟨⟨a0, hlt⟩, fun _ => ⟨a0, hlt⟩, fun ht => hbad (.inr (List.any_eq_true.2 ⟨_, getD_mem2 (d := az) hii, ht⟩)), fun hf => ⟨by simp only [In]; omega, ⟨by omega, by omega, fun j hj => ?_⟩, by (try dsimp only); omega⟩⟩
    by_cases e : j = i.toNat
    · rw [e]; exact hf
    · exact a2 j (by omega)
  have hnb : ¬ GBad l := fun h => h.elim (fun h => by omega) fun h => by
    obtain ⟨a, ha, hm⟩ := List.any_eq_true.1 h
    obtain ⟨j, hj, rfl⟩ := List.getElem_of_mem ha
    have := a2 j (by omega)
    simp only [List.getD, List.getElem?_eq_getElem hj, Option.getD_some] at this
    rw [hm] at this; cases this
  obtain ⟨hl1, _, hin⟩ := not_bad hnb
  clear a2 hbad
  refine ⟨fun i _ _ _ _ _ => 0 ≤ i ∧ i ≤ l.length ∧ ∀ j, j < i.toNat → fitsAt l j = .ok, fun i _ _ _ _ _ => l.length - i.toNat, ⟨by omega, by omega, fun j hj => by simp at hj⟩, fun i d1 d2 d3 d4 d5 ⟨a0, a1, a2⟩ => ⟨fun hlt => ?_, fun hge => ?_⟩⟩
  · have hii : i.toNat < l.length := by omega
    have hiz : ((i.toNat : Nat) : Int) = i := by omega
    have hbadR : ∀ n : Nat, fitsAt l i.toNat = .e n → K0 (101 + (n : Int)) true i false [] := fun n hn => by
      have := h0 (.at_ (i.toNat : Int) n) (.inr (.inl ⟨hnb, i.toNat, n, hii, a2, hn, rfl⟩)) (by simp)
      rwa [show fQ (.at_ (i.toNat : Int) n) = i from hiz] at this
    have hg := hsz _ (getD_mem2 (d := az) hii)
    have hil := hin i.toNat
    have hgd : l.getD i.toNat (0, [], [], []) = l.getD i.toNat az := rfl
    rw [hgd]
    have hfe : fitsAt l i.toNat = fitsP (mkP l i.toNat) (l.getD i.toNat az) := rfl
    have hout : ∀ q : Int, (l.getD q.toNat (0, [], [], [])).2.2.2 = (l.getD q.toNat az).2.2.2 := fun _ => rfl
    generalize ha : l.getD i.toNat az = a at hg hil hfe
    refine ⟨⟨a0, hlt⟩, fun ht => placed_M (by omega) (hbadR 10 ?_), fun hf => rvalid_M (by omega) ?_⟩
    · rw [hfe]; unfold fitsP
      rw [if_pos (by simpa using ht)]
    · have hnt : ¬ (a.1 < 1 ∨ 5 < a.1) := fun hn => by
        rw [Bool.or_eq_false_iff, decide_eq_false_iff_not, decide_eq_false_iff_not] at hf
        exact hn.elim hf.1 hf.2
      refine ⟨fun g k => 0 ≤ k ∧ k ≤ a.2.2.1.length ∧ g = (validB a.2.2.2 && (a.2.2.1.take k.toNat).all validB), fun _ k => a.2.2.1.length - k.toNat, ⟨by omega, by omega, by simp⟩, fun g k ⟨b0, b1, b2⟩ => ⟨fun hlt2 => ?_, fun hge2 => ?_⟩⟩
      · have hk : k.toNat < a.2.2.1.length := by omega
        have hst : (a.2.2.1.take (k + 1).toNat).all validB = ((a.2.2.1.take k.toNat).all validB && validB (a.2.2.1.getD k.toNat [])) := by
          rw [show (k + 1).toNat = k.toNat + 1 by omega, take_succ_getD [] hk, List.all_append]; simp
        refine ⟨fun g2 => g2 = (validB a.2.2.2 && (a.2.2.1.take (k + 1).toNat).all validB), ⟨fun ht => ⟨⟨b0, hlt2⟩, rvalid_M (hg.1 _ (getD_mem2 hk)) ?_⟩, fun hf => ?_⟩, fun g2 hg2 => ⟨by simp only [In]; omega, ⟨by omega, by omega, hg2⟩, by (try dsimp only); omega⟩⟩
        · rw [hst, ← Bool.and_assoc, ← b2, ht, Bool.true_and]
        · rw [hst, ← Bool.and_assoc, ← b2, hf, Bool.false_and]
      · have hk : k.toNat = a.2.2.1.length := by omega
        rw [hk, List.take_length] at b2
        have hgv : g = true ↔ ¬ (validB a.2.2.2 = false ∨ inval a.2.2.1 = true) := by
          rw [b2, Bool.and_eq_true, List.all_eq_true]
          unfold inval
          rw [List.any_eq_true]
          constructor
          · rintro ⟨h1, h2⟩ (h3 | ⟨x, hx, h3⟩)
            · rw [h1] at h3; cases h3
            · rw [h2 x hx] at h3; simp at h3
          · intro h
            refine ⟨by simpa using fun h1 => h (.inl h1), fun x hx => ?_⟩
            cases hv : validB x with
            | true => rfl
            | false => exact absurd (.inr ⟨x, hx, by rw [hv]; rfl⟩) h
        refine ⟨fun ht => placed_M (by omega) (hbadR 11 ?_), fun hf2 => ?_⟩
        · rw [hfe]; unfold fitsP
          rw [if_neg hnt, if_pos]
          refine Classical.byContradiction fun hn => ?_
          rw [hgv.2 hn] at ht; cases ht
        · have hvv : ¬ (validB a.2.2.2 = false ∨ inval a.2.2.1 = true) := hgv.1 (by simpa using hf2)
          refine ⟨fun q _ _ _ _ _ => 0 ≤ q ∧ q ≤ i ∧ ∀ j, j < q.toNat → (l.getD j az).2.2.2 ≠ a.2.2.2, fun q _ _ _ _ _ => i.toNat - q.toNat, ⟨by omega, by omega, fun j hj => by simp at hj⟩, fun q e1 e2 e3 e4 e5 ⟨g0, g1, g2⟩ => ⟨fun hlt3 => ⟨⟨g0, by omega⟩, fun he => placed_M (by omega) (hbadR 6 ?_), fun hne => ⟨by simp only [In]; omega, ⟨by omega, by omega, fun j hj => ?_⟩, by (try dsimp only); omega⟩⟩, fun hge3 => ?_⟩⟩
          · rw [hfe]; unfold fitsP
            rw [if_neg hnt, if_neg hvv, if_pos]
            rw [hout] at he
            rw [← he]
            exact mkP_some (by omega)
          · by_cases e : j = q.toNat
            · rw [e]; exact hne
            · exact g2 j (by omega)
          · refine ⟨by simp only [In]; omega, ⟨by omega, by omega, fun j hj => ?_⟩, by (try dsimp only); omega⟩
            by_cases e : j = i.toNat
            · rw [e, hfe]
              unfold fitsP
              rw [if_neg hnt, if_neg hvv, if_neg]
              intro hs
              obtain ⟨v, hv⟩ := Option.isSome_iff_exists.1 hs
              obtain ⟨j2, h1, _, h3⟩ := mkP_val hv
              exact g2 j2 (by omega) h3
            · exact a2 j (by omega)
  have hfit : ∀ j, j < l.length → fitsAt l j = .ok := fun j hj => a2 j (by omega)
  have hd := fits_dst hfit
  clear a2
  refine ractions_M (by omega) hin ?_
  refine ⟨fun i _ _ _ _ _ => 0 ≤ i ∧ i ≤ l.length ∧ ∀ j, j < i.toNat → ¬ GCy l j, fun i _ _ _ _ _ => l.length - i.toNat, ⟨by omega, by omega, fun j hj => by simp at hj⟩, fun i d1 d2 d3 d4 d5 ⟨a0, a1, a2⟩ => ⟨fun hlt => ?_, fun hge => ?_⟩⟩
  · have hii : i.toNat < l.length := by omega
    have hiz : ((i.toNat : Nat) : Int) = i := by omega
    have hbl := bsP_len l i.toNat
    have hil := (hin i.toNat).1
    refine rbefore_M (by omega) hd (fun j => (hin j).1) (fun hn => absurd ⟨a0, hlt⟩ hn) fun _ => rreach_M hl1 hd (fun j => (hin j).1) (fun k hk => bsP_in hk) (by omega) fun met m1 m2 => amongI_M (by have := onesN_len met l.length; omega) ?_
    have hm : i ∈ onesN met l.length ↔ GCy l i.toNat := by
      rw [onesN_mem]
      constructor
      · rintro ⟨k, h1, h2, h3⟩
        have : k = i.toNat := by omega
        subst this
        exact (m2 _ h1).1 h3
      · intro h
        exact ⟨i.toNat, hii, hiz.symm, (m2 _ hii).2 h⟩
    refine ⟨fun ht => placed_M (by omega) ?_, fun hf => ⟨by simp only [In]; omega, ⟨by omega, by omega, fun j hj => ?_⟩, by (try dsimp only); omega⟩⟩
    · rw [decide_eq_true_eq] at ht
      have := h0 (.at_ (i.toNat : Int) 4) (.inr (.inr (.inl ⟨hnb, hfit, i.toNat, hii, a2, hm.1 ht, rfl⟩))) (by simp)
      rwa [show fQ (.at_ (i.toNat : Int) 4) = i from hiz] at this
    · rw [decide_eq_false_iff_not] at hf
      by_cases e : j = i.toNat
      · rw [e]; exact fun h => hf (hm.2 h)
      · exact a2 j (by omega)
  · exact h1 (.inr (.inr (.inr ⟨hnb, hfit, fun j hj => a2 j (by omega), rfl⟩)))
end Go.Proofs.YtlonpmajnglmoaaGreatDoor


 /- Actions in a row, and in a ring, plainly. -/
namespace Go.Proofs.YtlonpmajnglmoaaGreatDoor
open Go Go.RowKit
structure NOk (nm : Nat → List UInt8) (ex : TL) (N : Nat) : Prop where
  inj : ∀ i, i < N → ∀ j, j < N → nm i = nm j → i = j
  val : ∀ i, i < N → validB (nm i) = true
  len : ∀ i, i < N → (nm i).length ≤ 10
  exv : ∀ s ∈ ex, validB s = true
  exs : ∀ s ∈ ex, s.length ≤ 10
  exn : ∀ s ∈ ex, ∀ i, i < N → nm i ≠ s
  exl : ex.length ≤ 10
def ci (nm : Nat → List UInt8) (ex : TL) (i : Nat) : TL := if i = 0 then [] else nm (i - 1) :: ex
/-- so many actions in a row; the one at b hangs on the last one, too -/
def rg (nm : Nat → List UInt8) (ex : TL) (n : Nat) (b : Option Nat) : List GAct := (List.range n).map fun i => (1, [], ci nm ex i ++ (if some i = b then [nm (n - 1)] else []), nm i)
section
variable {nm : Nat → List UInt8} {ex : TL} {N n : Nat} {b : Option Nat}
theorem rg_len : (rg nm ex n b).length = n := by unfold rg; rw [List.length_map, List.length_range]
theorem rg_at {i : Nat} (h : i < n) : (rg nm ex n b).getD i az = (1, [], ci nm ex i ++ (if some i = b then [nm (n - 1)] else []), nm i) := by
  unfold rg; rw [rng_getD h]
theorem rg_inp {i : Nat} {s : List UInt8} (hi : i < n) (h : s ∈ ci nm ex i ++ (if some i = b then [nm (n - 1)] else [])) : (∃ j, j < n ∧ s = nm j) ∨ s ∈ ex := by
  rcases List.mem_append.1 h with h | h
  · unfold ci at h
    split at h
    · simp at h
    · rcases List.mem_cons.1 h with h | h
      · exact .inl ⟨i - 1, by omega, h⟩
      · exact .inr h
  · split at h
    · exact .inl ⟨n - 1, by omega, List.mem_singleton.1 h⟩
    · simp at h
theorem rg_inl {i : Nat} (ok : NOk nm ex N) : (ci nm ex i ++ (if some i = b then [nm (n - 1)] else [])).length ≤ 12 := by
  have := ok.exl
  rw [List.length_append]
  unfold ci
  split <;> split <;> simp <;> omega
theorem rg_mget (ok : NOk nm ex N) (hn : n ≤ N) {i : Nat} (hi : i ≤ n) {s : List UInt8} {v : Int} (h : mget (mkP (rg nm ex n b) i) s = some v) : ∃ j, j < i ∧ v = (j : Int) ∧ nm j = s := by
  obtain ⟨j, h1, h2, h3⟩ := mkP_val h
  rw [rg_at (by omega)] at h3
  exact ⟨j, h1, h2, h3⟩
theorem rg_get (ok : NOk nm ex N) (hn : n ≤ N) : ∀ {i : Nat}, i ≤ n → ∀ j, j < i → mget (mkP (rg nm ex n b) i) (nm j) = some (j : Int)
  | 0, _, j, hj => by omega
  | i + 1, hi, j, hj => by
    rw [mkP_succ, mget_mput, rg_at (by omega)]
    by_cases e : i = j
    · subst e; rw [if_pos rfl]
    · rw [if_neg (fun h => e (ok.inj _ (by omega) _ (by omega) h))]
      exact rg_get ok hn (by omega) j (by omega)
theorem rg_fits (ok : NOk nm ex N) (hn : n ≤ N) {i : Nat} (hi : i < n) : fitsAt (rg nm ex n b) i = .ok := by
  unfold fitsAt fitsP
  rw [rg_at hi]
  have h1 : inval (ci nm ex i ++ (if some i = b then [nm (n - 1)] else [])) = false := by
    unfold inval
    rw [List.any_eq_false]
    intro s hs
    rcases rg_inp hi hs with ⟨j, hj, rfl⟩ | hs
    · simp [ok.val j (by omega)]
    · simp [ok.exv s hs]
  have h2 : mget (mkP (rg nm ex n b) i) (nm i) = none := by
    cases h : mget (mkP (rg nm ex n b) i) (nm i) with
    | none => rfl
    | some v =>
      obtain ⟨j, g1, _, g3⟩ := rg_mget ok hn (by omega) h
      have := ok.inj _ (by omega) _ (by omega) g3
      omega
  rw [if_neg (by dsimp only; omega), if_neg (by
    dsimp only
    rw [ok.val i (by omega), h1]; simp), if_neg (by
    dsimp only
    rw [h2]; simp)]
theorem rg_many (ok : NOk nm ex N) : (rg nm ex n b).any manyA = false := by
  rw [List.any_eq_false]
  intro a ha
  obtain ⟨i, _, rfl⟩ := List.mem_map.1 ha
  have := rg_inl (i := i) (b := b) (n := n) ok
  unfold manyA
  dsimp only
  rw [decide_eq_false (by omega), decide_eq_false (by simp)]
  simp
theorem rg_bs (ok : NOk nm ex N) (hn : n ≤ N) {i : Nat} (hi : i < n) {k : Int} : k ∈ bsP (rg nm ex n b) i ↔ (0 < i ∧ k = (i : Int) - 1) ∨ (some i = b ∧ k = (n : Int) - 1) := by
  rw [bsP_mem, rg_at hi, rg_len]
  dsimp only
  constructor
  · rintro ⟨s, hs, hk⟩
    obtain ⟨j, g1, g2, g3⟩ := rg_mget ok hn (Nat.le_refl _) hk
    rcases List.mem_append.1 hs with hs | hs
    · unfold ci at hs
      split at hs
      · simp at hs
      · rcases List.mem_cons.1 hs with hs | hs
        · left
          rw [hs] at g3
          have := ok.inj _ (by omega) _ (by omega) g3
          omega
        · exact absurd g3 (ok.exn s hs _ (by omega))
    · split at hs
      · right
        rw [List.mem_singleton.1 hs] at g3
        have := ok.inj _ (by omega) _ (by omega) g3
        exact ⟨by assumption, by omega⟩
      · simp at hs
  · rintro (⟨h0, rfl⟩ | ⟨hb, rfl⟩)
    · refine ⟨nm (i - 1), List.mem_append_left _ ?_, ?_⟩
      · unfold ci; rw [if_neg (by omega)]; exact List.mem_cons_self
      · rw [rg_get ok hn (Nat.le_refl _) (i - 1) (by omega)]
        congr 1; omega
    · refine ⟨nm (n - 1), List.mem_append_right _ (by rw [if_pos hb]; simp), ?_⟩
      rw [rg_get ok hn (Nat.le_refl _) (n - 1) (by omega)]
      congr 1; omega
theorem rg_bef (ok : NOk nm ex N) (hn : n ≤ N) {i : Nat} {k : Int} (h : k ∈ (befL (rg nm ex n b) n).getD i []) : i < n ∧ ((0 < i ∧ k = (i : Int) - 1) ∨ (some i = b ∧ k = (n : Int) - 1)) := by
  rw [befL_getD] at h
  split at h
  · rename_i hi; exact ⟨hi, (rg_bs ok hn hi).1 h⟩
  · simp at h
/-- ahead of b all that is reached lies ahead -/
theorem rg_low (ok : NOk nm ex N) (hn : n ≤ N) {m : Nat} (hm : ∀ i, i < m → some i ≠ b) {fr : List Int} (hf : ∀ f ∈ fr, 0 ≤ f ∧ f < (m : Int)) {x : Int} (h : Rch (befL (rg nm ex n b) n) fr x) : 0 ≤ x ∧ x < (m : Int) := by
  induction h with
  | base h => exact hf _ h
  | step _ hk ih =>
    obtain ⟨_, h1 | h1⟩ := rg_bef ok hn hk
    · omega
    · exact absurd h1.1 (hm _ (by omega))
theorem rg_down (ok : NOk nm ex N) (hn : n ≤ N) {fr : List Int} : ∀ (d y : Nat), y + d < n → Rch (befL (rg nm ex n b) n) fr ((y + d : Nat) : Int) → Rch (befL (rg nm ex n b) n) fr (y : Int)
  | 0, _, _, h => h
  | d + 1, y, hd, h => rg_down ok hn d y (by omega) (.step h (by
      rw [Int.toNat_natCast, befL_getD, if_pos hd, rg_bs ok hn hd]
      exact .inl ⟨by omega, by omega⟩))
theorem rg_acyc (ok : NOk nm ex N) (hn : n ≤ N) {j : Nat} (hj : j < n) (hm : ∀ i, i ≤ j → some i ≠ b) : ¬ Rch (befL (rg nm ex n b) n) (bsP (rg nm ex n b) j) (j : Int) := fun h => by
  have := rg_low ok hn (m := j) (fun i hi => hm i (by omega)) (fun f hf => by
    rcases (rg_bs ok hn hj).1 hf with h1 | h1
    · omega
    · exact absurd h1.1 (hm j (Nat.le_refl _))) h
  omega
theorem rg_sz (ok : NOk nm ex N) (hn : n ≤ N) : ∀ a ∈ rg nm ex n b, (∀ s ∈ a.2.2.1, s.length ≤ 4000000000) ∧ a.2.2.2.length ≤ 4000000000 := fun a ha => by
  obtain ⟨i, hi, rfl⟩ := List.mem_map.1 ha
  have hi := List.mem_range.1 hi
  have h1 := ok.len i (by omega)
  refine ⟨fun s hs => ?_, by dsimp only; omega⟩
  rcases rg_inp hi hs with ⟨j, hj, rfl⟩ | hs
  · have := ok.len j (by omega); omega
  · have := ok.exs s hs; omega
/-- a row is a graph -/
theorem row_M (ok : NOk nm ex N) (hn : n ≤ N) (hN : N ≤ 100) {K0 : Er → Prop} {K : List GAct → MK → List (List Int) → List (List Int) → Er → Prop} (h : K (rg nm ex n none) (mkP (rg nm ex n none) n) (befL (rg nm ex n none) n) (aftL (rg nm ex n none) n) .ok) : M_graph_New (rg nm ex n none) K0 K := by
  have hl := rg_len (nm := nm) (ex := ex) (n := n) (b := none)
  refine new_M (by omega) (rg_sz ok hn) (fun hm => ?_) (fun _ _ i m hi _ hf => ?_) (fun _ _ _ i hi _ hc => ?_) (fun _ _ _ _ => ?_)
  · rcases hm with hm | hm
    · omega
    · rw [rg_many ok] at hm; cases hm
  · rw [rg_fits ok hn (by omega)] at hf; cases hf
  · rw [hl] at hc
    exact absurd hc (rg_acyc ok hn (by omega) (fun i _ => by simp))
  · rw [hl]; exact h
/-! ### what a row answers -/
theorem row_bs (ok : NOk nm ex N) (hn : n ≤ N) {i : Nat} (hi : i < n) : bsP (rg nm ex n none) i = if i = 0 then [] else [(i : Int) - 1] := by
  refine strictG_uniq ltI_T (uniqG_strict ltI_T _) ?_ fun x => ?_
  · split
    · exact List.Pairwise.nil
    · exact List.pairwise_singleton _ _
  · show x ∈ bsP (rg nm ex n none) i ↔ _
    rw [rg_bs ok hn hi]
    split
    · rename_i h; simp; omega
    · rename_i h
      simp
      omega
theorem row_aft (ok : NOk nm ex N) (hn : n ≤ N) {k : Nat} : ∀ i, i ≤ n → aftK (rg nm ex n none) i k = if k + 1 < i then [(k : Int) + 1] else []
  | 0, _ => by rw [if_neg (by omega)]; rfl
  | i + 1, hi => by
    rw [aftK_succ, row_aft ok hn i (by omega), row_bs ok hn (by omega)]
    by_cases e : k + 1 = i
    · have h1 : ¬ k + 1 < i := by omega
      have h2 : k + 1 < i + 1 := by omega
      have h3 : (k : Int) ∈ (if i = 0 then [] else [(i : Int) - 1]) := by
        rw [if_neg (by omega)]; simp; omega
      rw [if_neg h1, if_pos h2, if_pos h3, List.nil_append]
      congr 1; omega
    · have h3 : ¬ (k : Int) ∈ (if i = 0 then [] else [(i : Int) - 1]) := by
        split
        · simp
        · simp; omega
      rw [if_neg h3, List.append_nil]
      by_cases h1 : k + 1 < i
      · have h2 : k + 1 < i + 1 := by omega
        rw [if_pos h1, if_pos h2]
      · have h2 : ¬ k + 1 < i + 1 := by omega
        rw [if_neg h1, if_neg h2]
theorem row_tot (ok : NOk nm ex N) (hn : n ≤ N) : tot (befL (rg nm ex n none) n) n ≤ 1 * n := tot_le (fun j => by
  rw [befL_getD]
  split
  · rw [row_bs ok hn (by assumption)]; split <;> simp
  · simp) _
theorem onesN_upto {met : List Bool} {m : Nat} : ∀ {n : Nat}, (∀ k, k < n → (met.getD k false = true ↔ k < m)) → onesN met n = (List.range (min m n)).map fun (k : Nat) => (k : Int)
  | 0, _ => by simp [onesN]
  | n + 1, h => by
    rw [onesN_succ, onesN_upto fun k hk => h k (by omega)]
    have hk := h n (by omega)
    by_cases hm : n < m
    · rw [if_pos (hk.2 hm), show min m n = n by omega, show min m (n + 1) = n + 1 by omega, List.range_succ, List.map_append]; rfl
    · rw [if_neg (fun e => hm (hk.1 e)), List.append_nil, show min m n = m by omega, show min m (n + 1) = m by omega]
theorem row_needs (ok : NOk nm ex N) (hn : n ≤ N) (hN : N ≤ 100) {k : Nat} (hk : k < n) {aft : List (List Int)} {K : List Int → Prop} (h : K ((List.range (k + 1)).map fun (j : Nat) => (j : Int))) : M_pgraph_Graph_Needs (rg nm ex n none) (mkP (rg nm ex n none) n) (befL (rg nm ex n none) n) aft [nm k] K := by
  have hl := rg_len (nm := nm) (ex := ex) (n := n) (b := none)
  have ht := row_tot (nm := nm) (ex := ex) ok hn
  have hfm : [nm k].filterMap (mget (mkP (rg nm ex n none) n)) = [(k : Int)] := by
    rw [List.filterMap_cons, rg_get ok hn (Nat.le_refl _) k hk]; rfl
  have hkl := ok.len k (by omega)
  refine needs_M (by omega) (by unfold befL; rw [List.length_map, List.length_range, hl]) (fun j _ x hx => ?_) (by simp) (fun s hs => ?_) (fun s v hv => ?_) (by rw [hl]; omega) fun met m1 m2 => ?_
  · obtain ⟨h1, h2 | h2⟩ := rg_bef ok hn hx
    · omega
    · cases h2.1
  · rw [List.mem_singleton.1 hs]; omega
  · obtain ⟨j, h1, h2, _⟩ := rg_mget ok hn (Nat.le_refl _) hv
    omega
  · rw [hl, hfm] at m2
    rw [hl]
    rw [onesN_upto (m := k + 1) fun j hj => ?_, show min (k + 1) n = k + 1 by omega]
    · exact h
    · rw [m2 j hj]
      constructor
      · intro hR
        have := rg_low ok hn (m := k + 1) (fun i _ => by simp) (fun f hf => by rw [List.mem_singleton.1 hf]; omega) hR
        omega
      · intro hj2
        refine rg_down ok hn (k - j) j (by omega) (.base ?_)
        rw [show j + (k - j) = k by omega]
        exact List.mem_singleton.2 rfl
theorem row_order (ok : NOk nm ex N) (hn : n ≤ N) (hN : N ≤ 100) {mk : MK} {K : List Int → Prop} (h : K ((List.range n).map fun (j : Nat) => (j : Int))) : M_pgraph_Graph_Order (rg nm ex n none) mk (befL (rg nm ex n none) n) (aftL (rg nm ex n none) n) K := by
  have hl := rg_len (nm := nm) (ex := ex) (n := n) (b := none)
  have hbl : (befL (rg nm ex n none) n).length = n := by unfold befL; rw [List.length_map, List.length_range]
  have hal : (aftL (rg nm ex n none) n).length = n := by unfold aftL; rw [List.length_map, List.length_range, hl]
  have hnn : ((n : Nat) : Int).toNat = n := by omega
  intro _ _ _
  rw [hl, hnn]
  refine ⟨⟨by omega, by omega, by omega⟩, fun t left => 0 ≤ t ∧ t ≤ n ∧ left = (List.range n).map fun j => if j < t.toNat then (if j = 0 then (0 : Int) else 1) else 0, fun t _ => n - t.toNat, ⟨by omega, by omega, ?_⟩, fun t left ⟨a0, a1, a2⟩ _ => ⟨fun hlt => ?_, fun hge => ?_⟩⟩
  · refine List.ext_getElem (by simp) fun k h1 h2 => ?_
    simp
  · have ht : t.toNat < n := by omega
    refine ⟨⟨a0, by omega⟩, ⟨a0, by omega⟩, by simp only [In]; omega, ⟨by omega, by omega, ?_⟩, by (try dsimp only); omega⟩
    rw [befL_getD, if_pos ht, row_bs ok hn ht, a2, rng_set]
    refine List.map_congr_left fun k _ => ?_
    by_cases e : t.toNat = k
    · subst e
      have h2 : t.toNat < (t + 1).toNat := by omega
      rw [if_pos rfl, if_pos h2]
      by_cases h0 : t.toNat = 0
      · rw [if_pos h0, if_pos h0]; rfl
      · rw [if_neg h0, if_neg h0]; rfl
    · rw [if_neg e]
      by_cases h1 : k < t.toNat
      · have h2 : k < (t + 1).toNat := by omega
        rw [if_pos h1, if_pos h2]
      · have h2 : ¬ k < (t + 1).toNat := by omega
        rw [if_neg h1, if_neg h2]
  · have ht : t.toNat = n := by omega
    refine ⟨fun out t left => 0 ≤ t ∧ t ≤ n ∧ out = (List.range t.toNat).map (fun (j : Nat) => (j : Int)) ∧ left = (List.range n).map fun j => if j < t.toNat then (-1 : Int) else if j = t.toNat then 0 else 1, fun _ t _ => n - t.toNat, ⟨by omega, by omega, rfl, ?_⟩, fun out t left ⟨b0, b1, b2, b3⟩ _ => ⟨fun hlt => ?_, fun hge2 => ?_⟩⟩
    · rw [a2, ht]
      refine List.map_congr_left fun k hk => ?_
      have := List.mem_range.1 hk
      rw [if_pos this]
      simp
    · have ht2 : t.toNat < n := by omega
      have htt : (t.toNat : Int) = t := by omega
      have hll : left.length = n := by rw [b3, List.length_map, List.length_range]
      have hA : (aftL (rg nm ex n none) n).getD t.toNat [] = if t.toNat + 1 < n then [(t.toNat : Int) + 1] else [] := by
        unfold aftL
        rw [hl, rng_getD ht2, row_aft ok hn n (Nat.le_refl _)]
      refine index_M (i := t.toNat) (by omega) (by omega) (by rw [b3, rng_getD ht2, if_neg (by omega), if_pos rfl]) (fun j hj => by rw [b3, rng_getD (by omega), if_pos hj]; decide) ?_
      rw [Int.toNat_natCast, hA]
      refine ⟨⟨by omega, by omega⟩, by rw [b2, List.length_map, List.length_range, List.length_singleton]; omega, ⟨by omega, by omega⟩, fun q left3 => 0 ≤ q ∧ q ≤ (if t.toNat + 1 < n then [(t.toNat : Int) + 1] else []).length ∧ left3 = (List.range n).map fun j => if j < t.toNat + 1 then (-1 : Int) else if j = t.toNat + 1 then (if q = 0 then 1 else 0) else 1, fun q _ => (if t.toNat + 1 < n then [(t.toNat : Int) + 1] else []).length - q.toNat, ⟨by omega, by omega, ?_⟩, fun q left3 ⟨c0, c1, c2⟩ _ => ⟨fun hlt3 => ?_, fun hge3 => ?_⟩⟩
      · rw [b3, rng_set]
        refine List.map_congr_left fun k _ => ?_
        by_cases e : t.toNat = k
        · subst e
          rw [if_pos rfl, if_pos (by omega)]
        · rw [if_neg e]
          by_cases h1 : k < t.toNat
          · have h2 : k < t.toNat + 1 := by omega
            rw [if_pos h1, if_pos h2]
          · have h2 : ¬ k < t.toNat + 1 := by omega
            have h3 : ¬ k = t.toNat := by omega
            rw [if_neg h1, if_neg h2, if_neg h3]
            simp
      · by_cases hh : t.toNat + 1 < n
        · rw [if_pos hh] at c1 hlt3 ⊢
          obtain rfl : q = 0 := by simp at hlt3; omega
          have hg : left3.getD (t.toNat + 1) 0 = 1 := by
            rw [c2, rng_getD hh, if_neg (by omega), if_pos rfl, if_pos rfl]
          have he : ([(t.toNat : Int) + 1] : List Int).getD (0 : Int).toNat 0 = (t.toNat : Int) + 1 := rfl
          have hx : ((t.toNat : Int) + 1).toNat = t.toNat + 1 := by omega
          rw [he, hx, hg]
          refine ⟨⟨by omega, hlt3⟩, ⟨by omega, by omega⟩, by simp only [In]; omega, ⟨by omega, by omega⟩, by simp only [In]; omega, ⟨by omega, by simp, ?_⟩, by simp⟩
          rw [c2, rng_set]
          refine List.map_congr_left fun k _ => ?_
          by_cases e : t.toNat + 1 = k
          · subst e
            rw [if_pos rfl, if_neg (by omega), if_pos rfl]; rfl
          · rw [if_neg e]
            by_cases h1 : k < t.toNat + 1
            · rw [if_pos h1, if_pos h1]
            · have h3 : ¬ k = t.toNat + 1 := fun e2 => e e2.symm
              rw [if_neg h1, if_neg h1, if_neg h3, if_neg h3]
        · rw [if_neg hh] at hlt3
          simp at hlt3
          omega
      · refine ⟨by simp only [In]; omega, ⟨by omega, by omega, ?_, ?_⟩, by (try dsimp only); omega⟩
        · rw [show (t + 1).toNat = t.toNat + 1 by omega, List.range_succ, List.map_append, b2]
          rfl
        · rw [c2]
          refine List.map_congr_left fun k hk => ?_
          have hkn := List.mem_range.1 hk
          have h1 : (k < (t + 1).toNat) = (k < t.toNat + 1) := by rw [show (t + 1).toNat = t.toNat + 1 by omega]
          have h2 : (k = (t + 1).toNat) = (k = t.toNat + 1) := by rw [show (t + 1).toNat = t.toNat + 1 by omega]
          simp only [h1, h2]
          by_cases e : k = t.toNat + 1
          · have hh : t.toNat + 1 < n := by omega
            rw [if_pos hh] at c1 hge3
            have hq : ¬ q = 0 := fun hq => by rw [hq] at hge3; simp at hge3
            rw [if_pos e, if_pos e, if_neg hq]
          · rw [if_neg e, if_neg e]
    · have ht2 : t.toNat = n := by omega
      rw [ht2] at b2
      rw [b2]; exact h
end
end Go.Proofs.YtlonpmajnglmoaaGreatDoor


 /- Regions some of whose operations may come in several orders: the floats once, the others order by order, what stands behind once. -/
namespace Go.Proofs.YtlonpmajnglmoaaGreatDoor
open Go Go.RowKit
section
variable {P : Program} {N : Nat} {ops : Array Oper} {fl : Nat → Bool} {D : World → Prop} {n g : Nat} {K : Act → World → Prop} {Q : Post} {L : Slots} {w : World} {f : Nat} {listed : Array Bool} {d : Nat} {op : Op} {ty : TypeId} {pos : String} {af : Array Edge} {gd : Option (Nat × Bool)}
structure HeadOk (ops : Array Oper) (n : Nat) : Prop where
  sel : Region.noSelect ops = true
  sink : Region.sinkB .any ops n = true
  chain : Region.chainB .any ops n = true
  lt : n < ops.size
def WA (P : Program) (N : Nat) (ops : Array Oper) (fl : Nat → Bool) (D : World → Prop) (n g : Nat) (K : Act → World → Prop) (f : Nat) (listed : Array Bool) (L : Slots) (w : World) : Prop :=
  HeadOk ops n → HeadInv .any ops n listed → ∀ a w1, Eqv w w1 → D w1 → Has N L a → anyT P .any ops fl D n (fun l' a' w' => Region.seqB .any ops g n l' = true ∧ K a' w') f listed a w1
def WI (P : Program) (N : Nat) (ops : Array Oper) (fl : Nat → Bool) (D : World → Prop) (n g : Nat) (K : Act → World → Prop) (f : Nat) (listed : Array Bool) (L : Slots) (w : World) (i : Nat) : Prop :=
  HeadOk ops n → HeadInv .any ops n (listed.setIfInBounds i true) → ∀ a w1, Eqv w w1 → D w1 → Has N L a → ∃ o, ops[i]? = some o ∧ fl i = false ∧ sRun P ops D o a w1 fun a' w' => anyT P .any ops fl D n (fun l' a' w' => Region.seqB .any ops g n l' = true ∧ K a' w') f (listed.setIfInBounds i true) a' w'
theorem WA.y {v : Value} (k : Nat) (ho : ops[k]? = some ⟨some d, op, ty, pos, af, none⟩) (hf : (fl k && ((Region.ready .any ops listed).contains k && (Region.free .any ops listed k && Nat.blt k n))) = true) (hd : Nat.blt d N = true) (hy : ∀ w', D w' → Yld P N w' ⟨some d, op, ty, pos, af, none⟩ L v)
    (h : WA P N ops fl D n g K f (listed.setIfInBounds k true) ((d, v) :: L) w) : WA P N ops fl D n g K (f + 1) listed L w := fun ok inv a w1 e hw ha => by
  simp only [Bool.and_eq_true] at hf
  obtain ⟨hfl, hr, hfr, hkn⟩ := hf
  have hr' : k ∈ Region.ready .any ops listed := by simpa using hr
  have hkn' : k < n := by simpa [Nat.blt_eq] using hkn
  exact float_firstT ho hfl (Region.noSelect_spec ok.sel) ok.sink ok.chain ok.lt hkn' (fun _ _ _ hL => seqB_ready hL.1) f listed a w1 hw inv (Region.free_spec ho hfr) hr'
    (.inl ⟨by simp [Region.wanted], fun w' hw' => hy w' hw' a w' (Eqv.refl _) ha⟩) (h ok (inv.set hr' hkn') _ _ e hw (ha.put hd v))
def AllL {α : Type} (p : α → Prop) : List α → Prop
  | [] => True
  | [x] => p x
  | x :: y :: l => p x ∧ AllL p (y :: l)
theorem AllL.mem {α : Type} {p : α → Prop} : ∀ {l : List α}, AllL p l → ∀ x ∈ l, p x
  | [], _, x, h => by simp at h
  | [y], h, x, hx => by simp at hx; subst hx; exact h
  | y :: z :: l, h, x, hx => by
    rcases List.mem_cons.1 hx with rfl | hx
    · exact h.1
    · exact AllL.mem h.2 x hx
theorem WA.split (is : List Nat) (hr : Region.ready .any ops listed = is) (hc : (!is.isEmpty && is.all fun i => Nat.blt i n) = true) (h : AllL (WI P N ops fl D n g K f listed L w) is) : WA P N ops fl D n g K (f + 1) listed L w := fun ok inv a w1 e hw ha => by
  simp only [Bool.and_eq_true] at hc
  refine ⟨fun h0 => ?_, fun i hi => ?_⟩
  · rw [hr] at h0; subst h0; simp at hc
  · have hi' := hi
    rw [hr] at hi'
    have hin : i < n := by have := List.all_eq_true.1 hc.2 i hi'; simpa [Nat.blt_eq] using this
    obtain ⟨o, ho, hfl, hs⟩ := h.mem i hi' ok (inv.set hi hin) a w1 e hw ha
    exact ⟨hin, o, ho, .inr ⟨hfl, hs⟩⟩
theorem WI.put {i : Nat} {R : Value → World → Prop} (ho : ops[i]? = some ⟨some d, op, ty, pos, af, none⟩) (hf : fl i = false) (hd : Nat.blt d N = true) (hr : Eff P N w ⟨some d, op, ty, pos, af, none⟩ L R) (hD : ∀ v w', R v w' → D w')
    (hk : ∀ v w', R v w' → WA P N ops fl D n g K f (listed.setIfInBounds i true) ((d, v) :: L) w') : WI P N ops fl D n g K f listed L w i := fun ok inv a w1 e hw ha => by
  refine ⟨_, ho, hf, ?_⟩
  unfold sRun
  rw [if_pos (by simp [Region.wanted])]
  obtain ⟨v, w', h, hR⟩ := hr a w1 e ha
  rw [h]
  exact ⟨hD v w' hR, hk v w' hR ok inv _ w' (Eqv.refl _) (hD v w' hR) (ha.put hd v)⟩
theorem WI.eff {i : Nat} {R : World → Prop} (ho : ops[i]? = some ⟨none, op, ty, pos, af, none⟩) (hf : fl i = false) (hr : Ef0 P N w ⟨none, op, ty, pos, af, none⟩ L R) (hD : ∀ w', R w' → D w')
    (hk : ∀ w', R w' → WA P N ops fl D n g K f (listed.setIfInBounds i true) L w') : WI P N ops fl D n g K f listed L w i := fun ok inv a w1 e hw ha => by
  refine ⟨_, ho, hf, ?_⟩
  unfold sRun
  rw [if_pos (by simp [Region.wanted])]
  obtain ⟨w', h, hR⟩ := hr a w1 e ha
  rw [h]
  exact ⟨hD w' hR, hk w' hR ok inv _ w' (Eqv.refl _) (hD w' hR) ha⟩
theorem WI.call {i : Nat} {R : Value → World → Prop} {fn : FuncId} {as_ : List Operand} {ts : Array TypeId} {vs : List Value} (ho : ops[i]? = some ⟨some d, .call ⟨.value (.func fn), ⟨as_⟩, ts⟩, ty, pos, af, gd⟩) (hf : fl i = false) (hg : Wants N ops L gd) (hd : Nat.blt d N = true) (hv : opvs L as_ = some vs) (hc : Fn P fn ⟨vs⟩ w R) (hD : ∀ v w', R v w' → ∀ w2, Eqv w' w2 → D w2)
    (hk : ∀ v w', R v w' → WA P N ops fl D n g K f (listed.setIfInBounds i true) ((d, v) :: L) w') : WI P N ops fl D n g K f listed L w i := fun ok inv a w1 e hw ha => by
  refine ⟨_, ho, hf, ?_⟩
  unfold sRun
  rw [if_pos (Wants.wanted (o := ⟨some d, .call ⟨.value (.func fn), ⟨as_⟩, ts⟩, ty, pos, af, gd⟩) hg ha), run_enter ha hv hc.1]
  refine (hc.2 w1 e).mono ?_
  rintro en w' ⟨v, w0, rfl, h0, hR⟩
  exact ⟨v, rfl, hD v w0 hR w' h0, hk v w0 hR ok inv _ w' h0 (hD v w0 hR w' h0) (ha.put hd v)⟩
end
end Go.Proofs.YtlonpmajnglmoaaGreatDoor

 /- Printed by a program (wip/vg): what the functions mean, plainly, and their walks. -/
namespace Go.Proofs.YtlonpmajnglmoaaGreatDoor
open Go Go.RowKit
attribute [local irreducible] WL WC WX WQ WK WJ Yld Eff Ef0 Fn
def M_smithylaw22_first (K : Bool → Prop) : Prop :=
 M_smithylaw22_act ([97] : List UInt8) [] (fun (t4_Tool : Int) (t4_Args : List (List UInt8)) (t4_Inputs : List (List UInt8)) (t4_Output : List UInt8) =>
 M_smithylaw22_act ([98] : List UInt8) ([([97] : List UInt8)] : List (List UInt8)) (fun (t6_Tool : Int) (t6_Args : List (List UInt8)) (t6_Inputs : List (List UInt8)) (t6_Output : List UInt8) =>
 M_graph_New ([(t4_Tool, t4_Args, t4_Inputs, t4_Output), (t6_Tool, t6_Args, t6_Inputs, t6_Output)] : List (Int × List (List UInt8) × List (List UInt8) × List UInt8)) (fun (t81 : Er) =>
 K false) (fun (t80_l : List (Int × List (List UInt8) × List (List UInt8) × List UInt8)) (t80_makers : List (List UInt8 × Int)) (t80_before : List (List Int)) (t80_after : List (List Int)) (t812 : Er) =>
 ∃ J3 : Bool → Prop, ((((decide (t812 = Er.ok)) = true → M_pgraph_Graph_Order t80_l t80_makers t80_before t80_after (fun (t19 : List Int) =>
 M_smithyref_SameInts t19 ([(0 : Int), (1 : Int)] : List Int) (fun (t21 : Bool) =>
 J3 t21))) ∧
 ((decide (t812 = Er.ok)) = false → J3 false))) ∧
 (∀ q5 : Bool, J3 q5 → ∃ J4 : Bool → Prop, (((q5 = true → M_pgraph_Graph_Needs t80_l t80_makers t80_before t80_after ([([98] : List UInt8)] : List (List UInt8)) (fun (t26 : List Int) =>
 M_smithyref_SameInts t26 ([(0 : Int), (1 : Int)] : List Int) (fun (t28 : Bool) =>
 J4 t28))) ∧
 (q5 = false → J4 false))) ∧
 (∀ q6 : Bool, J4 q6 → K q6)))))

def M_smithylaw22_GraphSays (l : List (Int × List (List UInt8) × List (List UInt8) × List UInt8)) (outputs : List (List UInt8)) (p : List UInt8) (i : Int) (K : Bool → Prop) : Prop :=
 (l.length ≤ maxLen →
 (outputs.length ≤ maxLen →
 M_smithylaw22_first (fun (ok : Bool) =>
 (((!ok) = true → K false) ∧
 ((!ok) = false → M_smithyworld_Actions l (fun (t24 : Bool) =>
 ∃ J1 : Bool → Prop, ((((!t24) = true → J1 true) ∧
 ((!t24) = false → M_smithyworld_Texts outputs (10 : Int) (250 : Int) (fun (t28 : Bool) =>
 J1 (!t28))))) ∧
 (∀ q1 : Bool, J1 q1 → ((((q1 || (decide ((250 : Int) < (p.length : Int)))) || (!ok)) = true → K ok) ∧
 (((q1 || (decide ((250 : Int) < (p.length : Int)))) || (!ok)) = false → M_graph_New l (fun (t431 : Er) =>
 M_smithyref17_NewGraph l (fun (t481_Code : Int) (t481_Placed : Bool) (t481_Pos : Int) (t481_Filed : Bool) (t481_File : List UInt8) =>
 M_smithysee_Same t431 t481_Code t481_Placed t481_Pos t481_Filed t481_File (fun (t53 : Bool) =>
 ((((!t53) || (!(false == (decide (t481_Code = (0 : Int)))))) = true → K false) ∧
 (((!t53) || (!(false == (decide (t481_Code = (0 : Int)))))) = false → M_graph_Only l outputs (fun (t65 : List (Int × List (List UInt8) × List (List UInt8) × List UInt8)) =>
 M_smithyref17_Only l outputs (fun (t68 : List (Int × List (List UInt8) × List (List UInt8) × List UInt8)) =>
 M_smithyref_SameActions t65 t68 (fun (t69 : Bool) =>
 (((!t69) = true → K false) ∧
 ((!t69) = false → K true))))))))) (fun (t480_L : List (Int × List (List UInt8) × List (List UInt8) × List UInt8)) (t481_Code2 : Int) (t481_Placed2 : Bool) (t481_Pos2 : Int) (t481_Filed2 : Bool) (t481_File2 : List UInt8) =>
 M_smithysee_Same t431 t481_Code2 t481_Placed2 t481_Pos2 t481_Filed2 t481_File2 (fun (t532 : Bool) =>
 ((((!t532) || (!(false == (decide (t481_Code2 = (0 : Int)))))) = true → K false) ∧
 (((!t532) || (!(false == (decide (t481_Code2 = (0 : Int)))))) = false → M_graph_Only l outputs (fun (t652 : List (Int × List (List UInt8) × List (List UInt8) × List UInt8)) =>
 M_smithyref17_Only l outputs (fun (t682 : List (Int × List (List UInt8) × List (List UInt8) × List UInt8)) =>
 M_smithyref_SameActions t652 t682 (fun (t692 : Bool) =>
 (((!t692) = true → K false) ∧
 ((!t692) = false → K true)))))))))) (fun (t430_l : List (Int × List (List UInt8) × List (List UInt8) × List UInt8)) (t430_makers : List (List UInt8 × Int)) (t430_before : List (List Int)) (t430_after : List (List Int)) (t4312 : Er) =>
 M_smithyref17_NewGraph l (fun (t481_Code3 : Int) (t481_Placed3 : Bool) (t481_Pos3 : Int) (t481_Filed3 : Bool) (t481_File3 : List UInt8) =>
 M_smithysee_Same t4312 t481_Code3 t481_Placed3 t481_Pos3 t481_Filed3 t481_File3 (fun (t533 : Bool) =>
 ((((!t533) || (!(true == (decide (t481_Code3 = (0 : Int)))))) = true → K false) ∧
 (((!t533) || (!(true == (decide (t481_Code3 = (0 : Int)))))) = false → M_graph_Only l outputs (fun (t653 : List (Int × List (List UInt8) × List (List UInt8) × List UInt8)) =>
 M_smithyref17_Only l outputs (fun (t683 : List (Int × List (List UInt8) × List (List UInt8) × List UInt8)) =>
 M_smithyref_SameActions t653 t683 (fun (t693 : Bool) =>
 (((!t693) = true → K false) ∧
 ((!t693) = false → M_pgraph_Graph_Action t430_l t430_makers t430_before t430_after i (fun (t760_Tool : Int) (t760_Args : List (List UInt8)) (t760_Inputs : List (List UInt8)) (t760_Output : List UInt8) (t761 : Bool) =>
 ∃ J2 : Bool → Prop, ((((!(t761 == ((decide ((0 : Int) ≤ i)) && (decide (i < (l.length : Int)))))) = true → J2 true) ∧
 ((!(t761 == ((decide ((0 : Int) ≤ i)) && (decide (i < (l.length : Int)))))) = false → ((((decide ((0 : Int) ≤ i)) && (decide (i < (l.length : Int)))) = true → (0 ≤ i ∧ i < (l.length : Nat)) ∧
 M_smithyref_SameAction t760_Tool t760_Args t760_Inputs t760_Output ((l.getD i.toNat (0, [], [], [])).1) ((l.getD i.toNat (0, [], [], [])).2.1) ((l.getD i.toNat (0, [], [], [])).2.2.1) ((l.getD i.toNat (0, [], [], [])).2.2.2) (fun (t98 : Bool) =>
 J2 (!t98))) ∧
 (((decide ((0 : Int) ≤ i)) && (decide (i < (l.length : Int)))) = false → J2 false))))) ∧
 (∀ q8 : Bool, J2 q8 → ((q8 = true → K false) ∧
 (q8 = false → Lp2 (fun (k : Int) (a2 : List (List UInt8)) kont1 => ((k < (a2.length : Int) → (0 ≤ k ∧ k < (a2.length : Nat)) ∧
 (In .i64 (k + (1 : Int))) ∧
 kont1 (k + (1 : Int)) (a2.set k.toNat ([122, 122] : List UInt8))) ∧
 (¬ (k < (a2.length : Int)) → M_pgraph_Graph_Order t430_l t430_makers t430_before t430_after (fun (o : List Int) =>
 False)))) (0 : Int) t760_Inputs))))))))))))) (fun (t480_L2 : List (Int × List (List UInt8) × List (List UInt8) × List UInt8)) (t481_Code4 : Int) (t481_Placed4 : Bool) (t481_Pos4 : Int) (t481_Filed4 : Bool) (t481_File4 : List UInt8) =>
 M_smithysee_Same t4312 t481_Code4 t481_Placed4 t481_Pos4 t481_Filed4 t481_File4 (fun (t534 : Bool) =>
 ((((!t534) || (!(true == (decide (t481_Code4 = (0 : Int)))))) = true → K false) ∧
 (((!t534) || (!(true == (decide (t481_Code4 = (0 : Int)))))) = false → M_graph_Only l outputs (fun (t654 : List (Int × List (List UInt8) × List (List UInt8) × List UInt8)) =>
 M_smithyref17_Only l outputs (fun (t684 : List (Int × List (List UInt8) × List (List UInt8) × List UInt8)) =>
 M_smithyref_SameActions t654 t684 (fun (t694 : Bool) =>
 (((!t694) = true → K false) ∧
 ((!t694) = false → M_pgraph_Graph_Action t430_l t430_makers t430_before t430_after i (fun (t760_Tool2 : Int) (t760_Args2 : List (List UInt8)) (t760_Inputs2 : List (List UInt8)) (t760_Output2 : List UInt8) (t7612 : Bool) =>
 ∃ J3 : Bool → Prop, ((((!(t7612 == ((decide ((0 : Int) ≤ i)) && (decide (i < (l.length : Int)))))) = true → J3 true) ∧
 ((!(t7612 == ((decide ((0 : Int) ≤ i)) && (decide (i < (l.length : Int)))))) = false → ((((decide ((0 : Int) ≤ i)) && (decide (i < (l.length : Int)))) = true → (0 ≤ i ∧ i < (l.length : Nat)) ∧
 M_smithyref_SameAction t760_Tool2 t760_Args2 t760_Inputs2 t760_Output2 ((l.getD i.toNat (0, [], [], [])).1) ((l.getD i.toNat (0, [], [], [])).2.1) ((l.getD i.toNat (0, [], [], [])).2.2.1) ((l.getD i.toNat (0, [], [], [])).2.2.2) (fun (t982 : Bool) =>
 J3 (!t982))) ∧
 (((decide ((0 : Int) ≤ i)) && (decide (i < (l.length : Int)))) = false → J3 false))))) ∧
 (∀ q11 : Bool, J3 q11 → ((q11 = true → K false) ∧
 (q11 = false → Lp2 (fun (k_2 : Int) (a22 : List (List UInt8)) kont2 => ((k_2 < (a22.length : Int) → (0 ≤ k_2 ∧ k_2 < (a22.length : Nat)) ∧
 (In .i64 (k_2 + (1 : Int))) ∧
 kont2 (k_2 + (1 : Int)) (a22.set k_2.toNat ([122, 122] : List UInt8))) ∧
 (¬ (k_2 < (a22.length : Int)) → M_pgraph_Graph_Order t430_l t430_makers t430_before t430_after (fun (o2 : List Int) =>
 M_psmithyref17_Graph_Order t480_L2 (fun (t117 : List Int) =>
 M_smithyref_SameInts o2 t117 (fun (t118 : Bool) =>
 (((!t118) = true → K false) ∧
 ((!t118) = false → Lp2 (fun (k_3 : Int) (o3 : List Int) kont3 => o2.length = o3.length → ((k_3 < (o2.length : Int) → (0 ≤ k_3 ∧ k_3 < (o2.length : Nat)) ∧
 (In .i64 (k_3 + (1 : Int))) ∧
 kont3 (k_3 + (1 : Int)) (o3.set k_3.toNat (-1 : Int))) ∧
 (¬ (k_3 < (o2.length : Int)) → M_pgraph_Graph_Len t430_l t430_makers t430_before t430_after (fun (t130 : Int) =>
 ∃ J4 : Bool → Prop, ((((decide (t130 = (l.length : Int))) = true → M_pgraph_Graph_Maker t430_l t430_makers t430_before t430_after p (fun (t137 : Int) =>
 M_psmithyref17_Graph_Maker t480_L2 p (fun (t140 : Int) =>
 J4 (decide (t137 = t140))))) ∧
 ((decide (t130 = (l.length : Int))) = false → J4 false))) ∧
 (∀ q12 : Bool, J4 q12 → ∃ J5 : Bool → Prop, (((q12 = true → M_pgraph_Graph_Before t430_l t430_makers t430_before t430_after i (fun (t146 : List Int) =>
 M_psmithyref17_Graph_Before t480_L2 i (fun (t149 : List Int) =>
 M_smithyref_SameInts t146 t149 (fun (t150 : Bool) =>
 J5 t150)))) ∧
 (q12 = false → J5 false))) ∧
 (∀ q13 : Bool, J5 q13 → ∃ J6 : Bool → Prop, (((q13 = true → M_pgraph_Graph_After t430_l t430_makers t430_before t430_after i (fun (t155 : List Int) =>
 M_psmithyref17_Graph_After t480_L2 i (fun (t158 : List Int) =>
 M_smithyref_SameInts t155 t158 (fun (t159 : Bool) =>
 J6 t159)))) ∧
 (q13 = false → J6 false))) ∧
 (∀ q14 : Bool, J6 q14 → ∃ J7 : Bool → Prop, (((q14 = true → M_pgraph_Graph_Order t430_l t430_makers t430_before t430_after (fun (t163 : List Int) =>
 M_psmithyref17_Graph_Order t480_L2 (fun (t165 : List Int) =>
 M_smithyref_SameInts t163 t165 (fun (t166 : Bool) =>
 J7 t166)))) ∧
 (q14 = false → J7 false))) ∧
 (∀ q15 : Bool, J7 q15 → ∃ J8 : Bool → Prop, (((q15 = true → M_pgraph_Graph_Needs t430_l t430_makers t430_before t430_after outputs (fun (t171 : List Int) =>
 M_psmithyref17_Graph_Needs t480_L2 outputs (fun (t174 : List Int) =>
 M_smithyref_SameInts t171 t174 (fun (t175 : Bool) =>
 J8 t175)))) ∧
 (q15 = false → J8 false))) ∧
 (∀ q16 : Bool, J8 q16 → ∃ J9 : Bool → Prop, (((q16 = true → M_pgraph_Graph_Sources t430_l t430_makers t430_before t430_after (fun (t179 : List (List UInt8)) =>
 M_psmithyref17_Graph_Sources t480_L2 (fun (t181 : List (List UInt8)) =>
 M_smithyref_SameTexts t179 t181 (fun (t182 : Bool) =>
 J9 t182)))) ∧
 (q16 = false → J9 false))) ∧
 (∀ q17 : Bool, J9 q17 → K q17)))))))))) (0 : Int) o2)))))))) (0 : Int) t760_Inputs2)))))))))))))))))))))))

set_option maxHeartbeats 8000000 in
theorem W_smithylaw22_first {S : List Nat} {w : World} {K : Bool → Prop} (hG : GOK S w) (hS4 : 4 ∈ S) (hS6 : 6 ∈ S) (hS9 : 9 ∈ S) (hS10 : 10 ∈ S) (hS11 : 11 ∈ S) (hS100 : 100 ∈ S) (H : M_smithylaw22_first  K) : Fn Tryz.prog 38 ⟨[]⟩ w (fun v w' => w.grownBy w' none ∧ ∃ (r : Bool), v = .bool r ∧ K r) := by
  unfold M_smithylaw22_first at H
  refine Fn.enter (by kernel_rfl) Tryz.func38 rfl Tryz.ntmps38 rfl ?_
  refine WC.seq ?_
  refine WC.region ?_
  refine WL.y rfl (Yld.pure tab_ok rfl) ?_
  refine WL.nil (WX.then_normal ?_)
  refine WC.seq ?_
  refine WC.region ?_
  refine WL.call rfl rfl (W_smithylaw22_act (Own.nil vs w w.heap.size 9).rd rfl H) ?_
  rintro _ w1 ⟨hg1, t4_Tool, t4_Args, A_t4_Args, c_t4_Args, t4_Inputs, A_t4_Inputs, c_t4_Inputs, t4_Output, rfl, ht4_Args, ho1, ht4_Inputs, ho2, H⟩
  have gr1 := hg1
  refine WL.lit tab_ok rfl rfl rfl (all1c rfl all1n) rfl (by omega) (fun g1 w2 hB1 hg2 hl1 => ?_)
  have hO1 : Own vs w2 w.heap.size 9 (some ⟨g1, 0, none⟩) 1 ([([97] : List UInt8)] : List (List UInt8)) := Own.ofBl hB1 (Nat.le_trans (size_le gr1) hl1) (by simp [maxLen]) rfl
  have gr2 := gr_trans gr1 hg2
  have k1 := ht4_Args.grown hg2
  have k2 := ht4_Inputs.grown hg2
  refine WL.call rfl rfl (W_smithylaw22_act hO1.rd rfl H) ?_
  rintro _ w3 ⟨hg3, t6_Tool, t6_Args, A_t6_Args, c_t6_Args, t6_Inputs, A_t6_Inputs, c_t6_Inputs, t6_Output, rfl, ht6_Args, ho3, ht6_Inputs, ho4, H⟩
  have gr3 := gr_trans gr2 hg3
  have k3 := k1.grown hg3
  have k4 := k2.grown hg3
  refine WL.litK (f := encH94) ([(t4_Tool, ⟨A_t4_Args, t4_Args.length, c_t4_Args⟩, ⟨A_t4_Inputs, t4_Inputs.length, c_t4_Inputs⟩, t4_Output), (t6_Tool, ⟨A_t6_Args, t6_Args.length, c_t6_Args⟩, ⟨A_t6_Inputs, t6_Inputs.length, c_t6_Inputs⟩, t6_Output)] : List (Int × Hdr × Hdr × List UInt8)) encH94_ok rfl ow77 rfl rfl rfl (fun g3 w5 hB3 hg5 hl3 => ?_)
  have hO3 : OwnK 4 encH94 w5 w.heap.size 94 (some ⟨g3, 0, none⟩) 2 ([(t4_Tool, ⟨A_t4_Args, t4_Args.length, c_t4_Args⟩, ⟨A_t4_Inputs, t4_Inputs.length, c_t4_Inputs⟩, t4_Output), (t6_Tool, ⟨A_t6_Args, t6_Args.length, c_t6_Args⟩, ⟨A_t6_Inputs, t6_Inputs.length, c_t6_Inputs⟩, t6_Output)] : List (Int × Hdr × Hdr × List UInt8)) := OwnK.ofBl encH94_ok hB3 (Nat.le_trans (size_le gr3) hl3) (by simp [maxLen]) rfl
  have gr4 := gr_trans gr3 hg5
  have k5 := k3.grown hg5
  have k6 := k4.grown hg5
  have k7 := ht6_Args.grown hg5
  have k8 := ht6_Inputs.grown hg5
  have hr1 : RelD de94 w5 ([(t4_Tool, ⟨A_t4_Args, t4_Args.length, c_t4_Args⟩, ⟨A_t4_Inputs, t4_Inputs.length, c_t4_Inputs⟩, t4_Output), (t6_Tool, ⟨A_t6_Args, t6_Args.length, c_t6_Args⟩, ⟨A_t6_Inputs, t6_Inputs.length, c_t6_Inputs⟩, t6_Output)] : List (Int × Hdr × Hdr × List UInt8)) ([(t4_Tool, t4_Args, t4_Inputs, t4_Output), (t6_Tool, t6_Args, t6_Inputs, t6_Output)] : List (Int × List (List UInt8) × List (List UInt8) × List UInt8)) := (RelD.cons ⟨rfl, ⟨rfl, k5⟩, ⟨rfl, k6⟩, rfl⟩ (RelD.cons ⟨rfl, ⟨rfl, k7⟩, ⟨rfl, k8⟩, rfl⟩ RelD.nil))
  have dj1 : DnD de94 ([(t4_Tool, ⟨A_t4_Args, t4_Args.length, c_t4_Args⟩, ⟨A_t4_Inputs, t4_Inputs.length, c_t4_Inputs⟩, t4_Output), (t6_Tool, ⟨A_t6_Args, t6_Args.length, c_t6_Args⟩, ⟨A_t6_Inputs, t6_Inputs.length, c_t6_Inputs⟩, t6_Output)] : List (Int × Hdr × Hdr × List UInt8)) ([(t4_Tool, t4_Args, t4_Inputs, t4_Output), (t6_Tool, t6_Args, t6_Inputs, t6_Output)] : List (Int × List (List UInt8) × List (List UInt8) × List UInt8)) (blk (some ⟨g3, 0, none⟩)) := (DnD.cons (d := de94) ⟨trivial, (Dn.new (fun hx => k3.lt' hx) (Ge.box hl3)), (Dn.new (fun hx => k4.lt' hx) (Ge.box hl3)), trivial⟩ (DnD.cons (d := de94) ⟨trivial, (Dn.new (fun hx => ht6_Args.lt' hx) (Ge.box hl3)), (Dn.new (fun hx => ht6_Inputs.lt' hx) (Ge.box hl3)), trivial⟩ DnD.nil))
  refine WL.call rfl rfl (W_graph_New (hG.grown gr4) hS4 hS6 hS9 hS10 hS11 hS100 hO3.rd (rfl.trans hr1.1) hr1 H) ?_
  rintro v_ w6 ⟨hg_, hc_ | hc_⟩
  · obtain ⟨v_t81, t81, rfl, ht81, H⟩ := hc_
    have hg6 := hg_
    have gr5 := gr_trans gr4 hg6
    refine WL.y rfl (Yld.pure tab_ok rfl) ?_
    refine WL.y rfl (Yld.pure tab_ok rfl) ?_
    refine WL.y rfl (Yld.pure tab_ok rfl) ?_
    refine WL.y rfl (Yld.pure tab_ok rfl) ?_
    refine WL.y rfl (Yld.pure tab_ok rfl) ?_
    refine WL.nil (WX.then_normal ?_)
    refine WC.seq ?_
    refine WC.region ?_
    refine WL.y rfl (Yld.pure tab_ok rfl) ?_
    refine WL.y rfl (Yld.pnenil Tryz.underlying81 rfl rfl) ?_
    refine WL.y rfl (Yld.pure tab_ok rfl) ?_
    refine WL.midF 3 (fun L' w' => ∃ q1 : Bool, L' = [(16, .bool q1), (1, .pointer none)] ∧ false = q1 ∧ w6 = w') ?_ (fun hQ => ?_)
    · rintro _ _ ⟨q1, rfl, rfl, rfl⟩
      refine WL.y rfl (Yld.pure tab_ok rfl) ?_
      refine WL.midF 5 (fun L' w' => L' = [(22, .bool false), (1, .pointer none)] ∧ w.grownBy w' none) ?_ (fun hQ => ?_)
      · rintro _ w8 ⟨rfl, gr6⟩
        refine WL.y rfl (Yld.pure tab_ok rfl) ?_
        refine WL.midF 6 (fun L' w' => L' = [(29, .bool false)] ∧ w.grownBy w' none) ?_ (fun hQ => ?_)
        · rintro _ w9 ⟨rfl, gr7⟩
          refine WL.y rfl (Yld.pure tab_ok rfl) ?_
          refine WL.nil (WX.then_normal ?_)
          refine WC.ret ?_
          exact WX.ret1 rfl rfl ⟨gr7, false, rfl, H⟩
        · clear H
          refine WL.gno rfl rfl (rfl) rfl ?_
          refine WL.gno rfl rfl (rfl) rfl ?_
          refine WL.gno rfl rfl (rfl) rfl ?_
          refine WL.gno rfl rfl (rfl) rfl ?_
          refine WL.gno rfl rfl (rfl) rfl ?_
          refine WL.y rfl (Yld.pickF (rfl) rfl) ?_
          exact WL.weaken (by repeat (first | exact Sub.nil | refine Sub.cons rfl ?_)) (hQ _ _ ⟨rfl, gr6⟩)
      · clear H
        refine WL.gno rfl rfl (rfl) rfl ?_
        refine WL.gno rfl rfl (rfl) rfl ?_
        refine WL.gno rfl rfl (rfl) rfl ?_
        refine WL.gno rfl rfl (rfl) rfl ?_
        refine WL.y rfl (Yld.pickF (rfl) rfl) ?_
        exact WL.weaken (by repeat (first | exact Sub.nil | refine Sub.cons rfl ?_)) (hQ _ _ ⟨rfl, gr5⟩)
    · clear H
      refine WL.gno rfl rfl (rfl) rfl ?_
      refine WL.gno rfl rfl (rfl) rfl ?_
      refine WL.y rfl (Yld.pickF (rfl) rfl) ?_
      exact WL.weaken (by repeat (first | exact Sub.nil | refine Sub.cons rfl ?_)) (hQ _ _ ⟨false, rfl, rfl, rfl⟩)
  · obtain ⟨g_t80, t80_l, A_t80_l, c_t80_l, hs_t80_l, g_t80_makers, t80_makers, t80_before, A_t80_before, c_t80_before, hs_t80_before, t80_after, A_t80_after, c_t80_after, hs_t80_after, v_t812, t812, rfl, ht80_l, hr_t80_l, ht80_before, hr_t80_before, ht80_after, hr_t80_after, ht812, ht80_makers, hge1, ht80, hge2, dj2, dj3, dj4, dj5, dj6, dj7, dj8, dj9, dj10, dj11, dj12, dj13, dj14, dj15, dj16, dj17, dj18, dj19, dj20, dj21, dj22, dj23, dj24, dj25, dj26, H⟩ := hc_
    have hg7 := hg_
    have hb1 := ht80_l.ge'
    have k9 := ht80_l.base (fun g hg => Nat.le_trans (size_le gr4) (hb1 g hg))
    have hb2 := ht80_before.ge'
    have k10 := ht80_before.base (fun g hg => Nat.le_trans (size_le gr4) (hb2 g hg))
    have hb3 := ht80_after.ge'
    have k11 := ht80_after.base (fun g hg => Nat.le_trans (size_le gr4) (hb3 g hg))
    have gr8 := gr_trans gr4 hg7
    refine WL.y rfl (Yld.pure tab_ok rfl) ?_
    refine WL.y rfl (Yld.pure tab_ok rfl) ?_
    refine WL.y rfl (Yld.pure tab_ok rfl) ?_
    refine WL.y rfl (Yld.pure tab_ok rfl) ?_
    refine WL.y rfl (Yld.pure tab_ok rfl) ?_
    refine WL.nil (WX.then_normal ?_)
    refine WC.seq ?_
    refine WC.region ?_
    refine WL.y rfl (Yld.pure tab_ok rfl) ?_
    refine WL.y rfl (Yld.pnenil Tryz.underlying81 rfl rfl) ?_
    refine WL.y rfl (Yld.pure tab_ok rfl) ?_
    refine WL.midF 3 (fun L' w' => ∃ q4 : Bool, L' = [(16, .bool q4), (1, .pointer (some ⟨g_t80, 0, none⟩))] ∧ (decide (t812 = Er.ok)) = q4 ∧ w6 = w') ?_ (fun hQ => ?_)
    · rintro _ _ ⟨q4, rfl, rfl, rfl⟩
      refine WL.y rfl (Yld.pure tab_ok rfl) ?_
      obtain ⟨J3, H, hJ3⟩ := H
      refine WL.midF 5 (fun L' w' => ∃ q5 : Bool, L' = [(22, .bool q5), (1, .pointer (some ⟨g_t80, 0, none⟩))] ∧ J3 q5 ∧ w.grownBy w' none ∧ OwnK 4 encH94 w' w.heap.size 94 A_t80_l c_t80_l hs_t80_l ∧ RelD de94 w' hs_t80_l t80_l ∧ Own vh w' w.heap.size 98 A_t80_before c_t80_before hs_t80_before ∧ RelD de98 w' hs_t80_before t80_before ∧ Own vh w' w.heap.size 98 A_t80_after c_t80_after hs_t80_after ∧ RelD de98 w' hs_t80_after t80_after ∧ MapB vs okS vi w' g_t80_makers t80_makers ∧ Bl w' g_t80 169 [.slice A_t80_l t80_l.length c_t80_l, .map (some g_t80_makers), .slice A_t80_before t80_before.length c_t80_before, .slice A_t80_after t80_after.length c_t80_after]) ?_ (fun hQ => ?_)
      · clear H
        rintro _ w11 ⟨q5, rfl, H, gr9, k12, k13, k14, k15, k16, k17, k18, k19⟩
        replace H := hJ3 q5 H
        refine WL.y rfl (Yld.pure tab_ok rfl) ?_
        obtain ⟨J4, H, hJ4⟩ := H
        refine WL.midF 6 (fun L' w' => ∃ q6 : Bool, L' = [(29, .bool q6)] ∧ J4 q6 ∧ w.grownBy w' none) ?_ (fun hQ => ?_)
        · clear H
          rintro _ w12 ⟨q6, rfl, H, gr10⟩
          replace H := hJ4 q6 H
          refine WL.y rfl (Yld.pure tab_ok rfl) ?_
          refine WL.nil (WX.then_normal ?_)
          refine WC.ret ?_
          exact WX.ret1 rfl rfl ⟨gr10, q6, rfl, H⟩
        · clear hJ4
          rcases Bool.eq_false_or_eq_true (q5) with b1 | b1
          · replace H := H.1 b1
            refine WL.gyes rfl rfl (okb b1) rfl (Yld.pure tab_ok rfl) ?_
            refine WL.putw (wants_some rfl rfl (okb b1)) rfl (Eff.lit tab_ok rfl rfl (all1c rfl all1n) rfl (by omega)) ?_
            rintro _ w13 ⟨rfl, hB4, hg8⟩
            obtain ⟨g_t25, hl4⟩ : ∃ g, g = w11.heap.size := ⟨_, rfl⟩
            rw [← hl4] at hB4
            rw [← hl4]
            have hO4 : Own vs w13 w.heap.size 9 (some ⟨g_t25, 0, none⟩) 1 ([([98] : List UInt8)] : List (List UInt8)) := Own.ofBl hB4 (Nat.le_trans (size_le gr9) (Nat.le_of_eq hl4.symm)) (by simp [maxLen]) rfl
            have gr11 := gr_trans gr9 hg8
            have k20 := k12.grown hg8
            have k21 := k13.grown hg8
            have k22 := k14.grown hg8
            have k23 := k15.grown hg8
            have k24 := k16.grown hg8
            have k25 := k17.grown hg8
            have k26 := k18.g0 hg8
            have k27 := k19.g0 hg8
            refine WL.callw (wants_some rfl rfl (okb b1)) rfl rfl (W_pgraph_Graph_Needs k20.rd rfl k21 k26 k22.rd rfl k23 k24.rd rfl k25 k27 hO4.rd rfl H) ?_
            rintro _ w14 ⟨hg9, t26, A_t26, c_t26, rfl, ht26, H⟩
            have hb4 := ht26.ge'
            have k28 := ht26.base (fun g hg => Nat.le_trans (size_le gr11) (hb4 g hg))
            have gr12 := gr_trans gr11 hg9
            have k29 := k20.grown hg9
            have k30 := k21.grown hg9
            have k31 := k22.grown hg9
            have k32 := k23.grown hg9
            have k33 := k24.grown hg9
            have k34 := k25.grown hg9
            have k35 := k26.g0 hg9
            have k36 := k27.g0 hg9
            have k37 := hO4.grown hg9
            refine WL.putw (wants_some rfl rfl (okb b1)) rfl (Eff.lit tab_ok rfl rfl (all1c rfl (all1c rfl all1n)) rfl (by omega)) ?_
            rintro _ w15 ⟨rfl, hB5, hg10⟩
            obtain ⟨g_t27, hl5⟩ : ∃ g, g = w14.heap.size := ⟨_, rfl⟩
            rw [← hl5] at hB5
            rw [← hl5]
            have hO5 : Own vi w15 w.heap.size 3 (some ⟨g_t27, 0, none⟩) 2 ([(0 : Int), (1 : Int)] : List Int) := Own.ofBl hB5 (Nat.le_trans (size_le gr12) (Nat.le_of_eq hl5.symm)) (by simp [maxLen]) rfl
            have gr13 := gr_trans gr12 hg10
            have k38 := k28.grown hg10
            refine WL.callw (wants_some rfl rfl (okb b1)) rfl rfl (W_smithyref_SameInts k38.rd rfl hO5.rd rfl H) ?_
            rintro _ _ ⟨rfl, t28, rfl, H⟩
            refine WL.y rfl (Yld.pickT (okb b1) rfl) ?_
            exact WL.weaken (by repeat (first | exact Sub.nil | refine Sub.cons rfl ?_)) (hQ _ _ ⟨t28, rfl, H, gr13⟩)
          · replace H := H.2 b1
            refine WL.gno rfl rfl (okb b1) rfl ?_
            refine WL.gno rfl rfl (okb b1) rfl ?_
            refine WL.gno rfl rfl (okb b1) rfl ?_
            refine WL.gno rfl rfl (okb b1) rfl ?_
            refine WL.gno rfl rfl (okb b1) rfl ?_
            refine WL.y rfl (Yld.pickF (okb b1) rfl) ?_
            exact WL.weaken (by repeat (first | exact Sub.nil | refine Sub.cons rfl ?_)) (hQ _ _ ⟨false, rfl, H, gr9⟩)
      · clear hJ3
        rcases Bool.eq_false_or_eq_true (decide (t812 = Er.ok)) with b2 | b2
        · replace H := H.1 b2
          refine WL.gyes rfl rfl (okb b2) rfl (Yld.pure tab_ok rfl) ?_
          refine WL.callw (wants_some rfl rfl (okb b2)) rfl rfl (W_pgraph_Graph_Order k9.rd rfl hr_t80_l ht80_makers k10.rd rfl hr_t80_before k11.rd rfl hr_t80_after ht80 H) ?_
          rintro _ w16 ⟨hg11, t19, A_t19, c_t19, rfl, ht19, H⟩
          have hb5 := ht19.ge'
          have k39 := ht19.base (fun g hg => Nat.le_trans (size_le gr8) (hb5 g hg))
          have gr14 := gr_trans gr8 hg11
          have k40 := k9.grown hg11
          have k41 := hr_t80_l.grown hg11
          have k42 := k10.grown hg11
          have k43 := hr_t80_before.grown hg11
          have k44 := k11.grown hg11
          have k45 := hr_t80_after.grown hg11
          have k46 := ht80_makers.g0 hg11
          have k47 := ht80.g0 hg11
          refine WL.putw (wants_some rfl rfl (okb b2)) rfl (Eff.lit tab_ok rfl rfl (all1c rfl (all1c rfl all1n)) rfl (by omega)) ?_
          rintro _ w17 ⟨rfl, hB6, hg12⟩
          obtain ⟨g_t20, hl6⟩ : ∃ g, g = w16.heap.size := ⟨_, rfl⟩
          rw [← hl6] at hB6
          rw [← hl6]
          have hO6 : Own vi w17 w.heap.size 3 (some ⟨g_t20, 0, none⟩) 2 ([(0 : Int), (1 : Int)] : List Int) := Own.ofBl hB6 (Nat.le_trans (size_le gr14) (Nat.le_of_eq hl6.symm)) (by simp [maxLen]) rfl
          have gr15 := gr_trans gr14 hg12
          have k48 := k40.grown hg12
          have k49 := k41.grown hg12
          have k50 := k42.grown hg12
          have k51 := k43.grown hg12
          have k52 := k44.grown hg12
          have k53 := k45.grown hg12
          have k54 := k46.g0 hg12
          have k55 := k47.g0 hg12
          have k56 := k39.grown hg12
          refine WL.callw (wants_some rfl rfl (okb b2)) rfl rfl (W_smithyref_SameInts k56.rd rfl hO6.rd rfl H) ?_
          rintro _ _ ⟨rfl, t21, rfl, H⟩
          refine WL.y rfl (Yld.pickT (okb b2) rfl) ?_
          exact WL.weaken (by repeat (first | exact Sub.nil | refine Sub.cons rfl ?_)) (hQ _ _ ⟨t21, rfl, H, gr15, k48, k49, k50, k51, k52, k53, k54, k55⟩)
        · replace H := H.2 b2
          refine WL.gno rfl rfl (okb b2) rfl ?_
          refine WL.gno rfl rfl (okb b2) rfl ?_
          refine WL.gno rfl rfl (okb b2) rfl ?_
          refine WL.gno rfl rfl (okb b2) rfl ?_
          refine WL.y rfl (Yld.pickF (okb b2) rfl) ?_
          exact WL.weaken (by repeat (first | exact Sub.nil | refine Sub.cons rfl ?_)) (hQ _ _ ⟨false, rfl, H, gr8, k9, hr_t80_l, k10, hr_t80_before, k11, hr_t80_after, ht80_makers, ht80⟩)
    · clear H
      refine WL.gyes rfl rfl (rfl) rfl (Yld.pure tab_ok rfl) ?_
      refine WL.gyes rfl rfl (rfl) rfl (Yld.erreql Tryz.underlying26 ht812 rfl) ?_
      refine WL.y rfl (Yld.pickT (rfl) rfl) ?_
      exact WL.weaken (by repeat (first | exact Sub.nil | refine Sub.cons rfl ?_)) (hQ _ _ ⟨decide (t812 = Er.ok), rfl, rfl, rfl⟩)

set_option maxHeartbeats 8000000 in
theorem W_smithylaw22_GraphSays {S : List Nat} {w : World} {l : List (Int × List (List UInt8) × List (List UInt8) × List UInt8)} {A_l : Option Addr} {c_l : Nat} {hs_l : List (Int × Hdr × Hdr × List UInt8)} {outputs : List (List UInt8)} {A_outputs : Option Addr} {c_outputs : Nat} {p : List UInt8} {i : Int} {n_l : Nat} {n_outputs : Nat} {K : Bool → Prop} (hG : GOK S w) (hS0 : 0 ∈ S) (hS1 : 1 ∈ S) (hS2 : 2 ∈ S) (hS3 : 3 ∈ S) (hS4 : 4 ∈ S) (hS5 : 5 ∈ S) (hS6 : 6 ∈ S) (hS7 : 7 ∈ S) (hS8 : 8 ∈ S) (hS9 : 9 ∈ S) (hS10 : 10 ∈ S) (hS11 : 11 ∈ S) (hS12 : 12 ∈ S) (hS13 : 13 ∈ S) (hS14 : 14 ∈ S) (hS15 : 15 ∈ S) (hS16 : 16 ∈ S) (hS100 : 100 ∈ S) (hl : RdK 4 encH94 w A_l c_l hs_l) (hn_l : n_l = l.length) (hr_l : RelD de94 w hs_l l) (houtputs : Rd vs w A_outputs c_outputs outputs) (hn_outputs : n_outputs = outputs.length) (H : M_smithylaw22_GraphSays l outputs p i K) : Fn Tryz.prog 4 ⟨[.slice A_l n_l c_l, .slice A_outputs n_outputs c_outputs, vs p, .int .i64 i]⟩ w (fun v w' => w.grownBy w' none ∧ ∃ (r : Bool), v = .bool r ∧ K r) := by
  subst hn_l
  subst hn_outputs
  unfold M_smithylaw22_GraphSays at H
  refine Fn.enter (by kernel_rfl) Tryz.func4 rfl Tryz.ntmps4 rfl ?_
  replace H := H (by rw [← hr_l.1]; exact Nat.le_trans hl.cap hl.max)
  replace H := H (Nat.le_trans houtputs.cap houtputs.max)
  refine WC.seq ?_
  refine WC.region ?_
  refine WL.y rfl (Yld.pure tab_ok rfl) ?_
  refine WL.nil (WX.then_normal ?_)
  refine WC.seq ?_
  refine WC.region ?_
  refine WL.call rfl rfl (W_smithylaw22_first hG hS4 hS6 hS9 hS10 hS11 hS100 H) ?_
  rintro _ w1 ⟨hg1, ok, rfl, H⟩
  have gr1 := hg1
  refine WL.y rfl (Yld.pure tab_ok rfl) ?_
  refine WL.nil (WX.then_normal ?_)
  refine WC.seq ?_
  refine WC.seq ?_
  refine WC.region ?_
  refine WL.y rfl (Yld.pure tab_ok rfl) ?_
  refine WL.y rfl (Yld.pure tab_ok rfl) ?_
  refine WL.nil (WX.then_normal ?_)
  refine WC.cond rfl (fun b1 => ?_) (fun b1 => ?_)
  · replace H := H.1 (b1)
    refine WC.seq ?_
    refine WC.region ?_
    refine WL.y rfl (Yld.pure tab_ok rfl) ?_
    refine WL.nil (WX.then_normal ?_)
    refine WC.ret (WX.then_ret ?_)
    exact WX.ret1 rfl rfl ⟨gr1, false, rfl, H⟩
  · replace H := H.2 (b1)
    refine WC.skip (WX.then_normal ?_)
    refine WC.seq ?_
    refine WC.seq ?_
    refine WC.region ?_
    refine WL.y rfl (Yld.pure tab_ok rfl) ?_
    refine WL.call rfl rfl (W_smithyworld_Actions (hl.grown gr1) rfl (hr_l.grown gr1) H) ?_
    rintro _ _ ⟨rfl, t24, rfl, H⟩
    refine WL.y rfl (Yld.pure tab_ok rfl) ?_
    refine WL.y rfl (Yld.pure tab_ok rfl) ?_
    obtain ⟨J1, H, hJ1⟩ := H
    refine WL.midF 4 (fun L' w' => ∃ q1 : Bool, L' = [(30, .bool q1), (0, .slice A_l l.length c_l), (1, .slice A_outputs outputs.length c_outputs), (2, vs p), (3, .int .i64 i), (9, .bool ok)] ∧ J1 q1 ∧ w1 = w') ?_ (fun hQ => ?_)
    · clear H
      rintro _ _ ⟨q1, rfl, H, rfl⟩
      replace H := hJ1 q1 H
      refine WL.y rfl (Yld.pure tab_ok rfl) ?_
      refine WL.midF 4 (fun L' w' => ∃ q2 : Bool, L' = [(35, .bool q2), (0, .slice A_l l.length c_l), (1, .slice A_outputs outputs.length c_outputs), (2, vs p), (3, .int .i64 i), (9, .bool ok)] ∧ (q1 || (decide ((250 : Int) < (p.length : Int)))) = q2 ∧ w1 = w') ?_ (fun hQ => ?_)
      · rintro _ _ ⟨q2, rfl, rfl, rfl⟩
        refine WL.y rfl (Yld.pure tab_ok rfl) ?_
        refine WL.midF 3 (fun L' w' => ∃ q3 : Bool, L' = [(39, .bool q3), (0, .slice A_l l.length c_l), (1, .slice A_outputs outputs.length c_outputs), (2, vs p), (3, .int .i64 i), (9, .bool ok)] ∧ ((q1 || (decide ((250 : Int) < (p.length : Int)))) || (!ok)) = q3 ∧ w1 = w') ?_ (fun hQ => ?_)
        · rintro _ _ ⟨q3, rfl, rfl, rfl⟩
          refine WL.nil (WX.then_normal ?_)
          refine WC.cond rfl (fun b2 => ?_) (fun b2 => ?_)
          · replace H := H.1 (b2)
            refine WC.seq ?_
            refine WC.region ?_
            refine WL.y rfl (Yld.pure tab_ok rfl) ?_
            refine WL.y rfl (Yld.pure tab_ok rfl) ?_
            refine WL.nil (WX.then_normal ?_)
            refine WC.ret (WX.then_ret ?_)
            exact WX.ret1 rfl rfl ⟨gr1, ok, rfl, H⟩
          · replace H := H.2 (b2)
            refine WC.skip (WX.then_normal ?_)
            refine WC.seq ?_
            refine WC.region ?_
            refine WL.y rfl (Yld.pure tab_ok rfl) ?_
            refine WL.call rfl rfl (W_graph_New (hG.grown gr1) hS4 hS6 hS9 hS10 hS11 hS100 (hl.grown gr1) rfl (hr_l.grown gr1) H) ?_
            rintro v_ w2 ⟨hg_, hc_ | hc_⟩
            · obtain ⟨v_t431, t431, rfl, ht431, H⟩ := hc_
              have hg2 := hg_
              have gr2 := gr_trans gr1 hg2
              refine WL.y rfl (Yld.pure tab_ok rfl) ?_
              refine WL.y rfl (Yld.pure tab_ok rfl) ?_
              refine WL.y rfl (Yld.pure tab_ok rfl) ?_
              refine WL.y rfl (Yld.pure tab_ok rfl) ?_
              refine WL.y rfl (Yld.pure tab_ok rfl) ?_
              refine WL.nil (WX.then_normal ?_)
              refine WC.seq ?_
              refine WC.region ?_
              refine WL.y rfl (Yld.pure tab_ok rfl) ?_
              refine WL.call rfl rfl (W_smithyref17_NewGraph (hl.grown gr2) rfl (hr_l.grown gr2) H) ?_
              rintro v_ w4 ⟨hg_, hc_ | hc_⟩
              · obtain ⟨t481_Code, t481_Placed, t481_Pos, t481_Filed, t481_File, rfl, H⟩ := hc_
                have hg3 := hg_
                have gr3 := gr_trans gr2 hg3
                have k1 := ht431.grown hg3
                refine WL.y rfl (Yld.pure tab_ok rfl) ?_
                refine WL.y rfl (Yld.pure tab_ok rfl) ?_
                refine WL.y rfl (Yld.pure tab_ok rfl) ?_
                refine WL.alloc rfl zero86 (fun g1 w6 hB1 hg4 hl1 => ?_)
                have gr4 := gr_trans gr3 hg4
                have k2 := k1.grown hg4
                refine WL.y rfl (Yld.pure tab_ok rfl) ?_
                refine WL.storeW (vs := [.int .i64 t481_Code, .bool t481_Placed, .int .i64 t481_Pos, .bool t481_Filed, vs t481_File]) tab_ok rfl rfl rfl (all1c rfl (all1c rfl (all1c rfl (all1c rfl (all1c rfl all1n))))) hB1 rfl rfl (fun w7 hB2 hg5 => ?_)
                have gr5 := gr_mod gr4 hg5 (Ge.le (Ge.box hl1) (size_le gr3))
                have k3 := ErrR.go k2 hG gr4 hg5 gr5 hB1 rfl
                refine WL.nil (WX.then_normal ?_)
                refine WC.seq ?_
                refine WC.seq ?_
                refine WC.region ?_
                refine WL.y rfl (Yld.pure tab_ok rfl) ?_
                refine WL.y rfl (Yld.bagg (vs := [.int .i64 t481_Code, .bool t481_Placed, .int .i64 t481_Pos, .bool t481_Filed, vs t481_File]) tab_ok hB2 rfl rfl rfl rfl) ?_
                refine WL.call rfl rfl (W_smithysee_Same (hG.grown gr5) hS0 hS1 hS2 hS3 hS4 hS5 hS6 hS7 hS8 hS9 hS10 hS11 hS12 hS13 hS14 hS15 hS16 k3 H) ?_
                rintro _ w8 ⟨hg6, t53, rfl, H⟩
                have gr6 := gr_trans gr5 hg6
                have k4 := hB2.g0 hg6
                refine WL.y rfl (Yld.pure tab_ok rfl) ?_
                refine WL.y rfl (Yld.pure tab_ok rfl) ?_
                refine WL.midF 7 (fun L' w' => ∃ q4 : Bool, L' = [(62, .bool q4), (0, .slice A_l l.length c_l), (1, .slice A_outputs outputs.length c_outputs), (2, vs p), (3, .int .i64 i), (10, .pointer none), (12, .pointer none)] ∧ ((!t53) || (!(false == (decide (t481_Code = (0 : Int)))))) = q4 ∧ w8 = w') ?_ (fun hQ => ?_)
                · rintro _ _ ⟨q4, rfl, rfl, rfl⟩
                  refine WL.nil (WX.then_normal ?_)
                  refine WC.cond rfl (fun b3 => ?_) (fun b3 => ?_)
                  · replace H := H.1 (b3)
                    refine WC.seq ?_
                    refine WC.region ?_
                    refine WL.y rfl (Yld.pure tab_ok rfl) ?_
                    refine WL.nil (WX.then_normal ?_)
                    refine WC.ret (WX.then_ret ?_)
                    exact WX.ret1 rfl rfl ⟨gr6, false, rfl, H⟩
                  · replace H := H.2 (b3)
                    refine WC.skip (WX.then_normal ?_)
                    refine WC.seq ?_
                    refine WC.seq ?_
                    refine WC.region ?_
                    refine WL.y rfl (Yld.pure tab_ok rfl) ?_
                    refine WL.y rfl (Yld.pure tab_ok rfl) ?_
                    refine WL.call rfl rfl (W_graph_Only (hG.grown gr6) hS4 hS6 hS9 hS10 hS11 hS100 (hl.grown gr6) rfl (hr_l.grown gr6) (houtputs.grown gr6) rfl H) ?_
                    rintro _ w9 ⟨hg7, t65, A_t65, c_t65, hs_t65, rfl, ht65, hr_t65, H⟩
                    have hb1 := ht65.ge'
                    have k5 := ht65.base (fun g hg => Nat.le_trans (size_le gr6) (hb1 g hg))
                    have gr7 := gr_trans gr6 hg7
                    refine WL.y rfl (Yld.pure tab_ok rfl) ?_
                    refine WL.y rfl (Yld.pure tab_ok rfl) ?_
                    refine WL.call rfl rfl (W_smithyref17_Only (hl.grown gr7) rfl (hr_l.grown gr7) (houtputs.grown gr7) rfl H) ?_
                    rintro _ w10 ⟨hg8, t68, A_t68, c_t68, hs_t68, rfl, ht68, hr_t68, H⟩
                    have hb2 := ht68.ge'
                    have k6 := ht68.base (fun g hg => Nat.le_trans (size_le gr7) (hb2 g hg))
                    have gr8 := gr_trans gr7 hg8
                    have k7 := k5.grown hg8
                    have k8 := hr_t65.grown hg8
                    refine WL.call rfl rfl (W_smithyref_SameActions k7.rd rfl k8 k6.rd rfl hr_t68 H) ?_
                    rintro _ w11 ⟨hg9, t69, rfl, H⟩
                    have gr9 := gr_trans gr8 hg9
                    refine WL.y rfl (Yld.pure tab_ok rfl) ?_
                    refine WL.nil (WX.then_normal ?_)
                    refine WC.cond rfl (fun b4 => ?_) (fun b4 => ?_)
                    · replace H := H.1 (b4)
                      refine WC.seq ?_
                      refine WC.region ?_
                      refine WL.y rfl (Yld.pure tab_ok rfl) ?_
                      refine WL.nil (WX.then_normal ?_)
                      refine WC.ret (WX.then_ret ?_)
                      exact WX.ret1 rfl rfl ⟨gr9, false, rfl, H⟩
                    · replace H := H.2 (b4)
                      refine WC.skip (WX.then_normal ?_)
                      refine WC.seq ?_
                      refine WC.seq ?_
                      refine WC.region ?_
                      refine WL.y rfl (Yld.pure tab_ok rfl) ?_
                      refine WL.y rfl (Yld.peqnil Tryz.underlying81 rfl rfl) ?_
                      refine WL.nil (WX.then_normal ?_)
                      refine WC.cond rfl (fun _ => ?_) (fun h => by cases h)
                      refine WC.seq ?_
                      refine WC.region ?_
                      refine WL.y rfl (Yld.pure tab_ok rfl) ?_
                      refine WL.nil (WX.then_normal ?_)
                      refine WC.ret (WX.then_ret ?_)
                      exact WX.ret1 rfl rfl ⟨gr9, true, rfl, H⟩
                · clear H
                  rcases Bool.eq_false_or_eq_true (!t53) with b5 | b5
                  · refine WL.gno rfl rfl (okb b5) rfl ?_
                    refine WL.gno rfl rfl (okb b5) rfl ?_
                    refine WL.gno rfl rfl (okb b5) rfl ?_
                    refine WL.gno rfl rfl (okb b5) rfl ?_
                    refine WL.gno rfl rfl (okb b5) rfl ?_
                    refine WL.gno rfl rfl (okb b5) rfl ?_
                    refine WL.y rfl (Yld.pickT (okb b5) rfl) ?_
                    exact WL.weaken (by repeat (first | exact Sub.nil | refine Sub.cons rfl ?_)) (hQ _ _ ⟨true, rfl, by first | (rw [b5] <;> rfl) | simp [b5], rfl⟩)
                  · refine WL.gyes rfl rfl (okb b5) rfl (Yld.pure tab_ok rfl) ?_
                    refine WL.gyes rfl rfl (okb b5) rfl (Yld.pnenil Tryz.underlying81 rfl rfl) ?_
                    refine WL.gyes rfl rfl (okb b5) rfl (Yld.pure tab_ok rfl) ?_
                    refine WL.gyes rfl rfl (okb b5) rfl (Yld.bload tab_ok k4 rfl rfl rfl) ?_
                    refine WL.gyes rfl rfl (okb b5) rfl (Yld.pure tab_ok rfl) ?_
                    refine WL.gyes rfl rfl (okb b5) rfl (Yld.bneq Tryz.underlying4 rfl rfl) ?_
                    refine WL.y rfl (Yld.pickF (okb b5) rfl) ?_
                    exact WL.weaken (by repeat (first | exact Sub.nil | refine Sub.cons rfl ?_)) (hQ _ _ ⟨!(false == (decide (t481_Code = (0 : Int)))), rfl, by first | (rw [b5] <;> rfl) | simp [b5], rfl⟩)
              · obtain ⟨g_t480, t480_L, A_t480_L, c_t480_L, hs_t480_L, t481_Code2, t481_Placed2, t481_Pos2, t481_Filed2, t481_File2, rfl, ht480_L, hr_t480_L, ht480, hge1, dj1, dj2, dj3, H⟩ := hc_
                have hg10 := hg_
                have hb3 := ht480_L.ge'
                have k9 := ht480_L.base (fun g hg => Nat.le_trans (size_le gr2) (hb3 g hg))
                have gr10 := gr_trans gr2 hg10
                have k10 := ht431.grown hg10
                refine WL.y rfl (Yld.pure tab_ok rfl) ?_
                refine WL.y rfl (Yld.pure tab_ok rfl) ?_
                refine WL.y rfl (Yld.pure tab_ok rfl) ?_
                refine WL.alloc rfl zero86 (fun g2 w13 hB3 hg11 hl2 => ?_)
                have gr11 := gr_trans gr10 hg11
                have k11 := k10.grown hg11
                have k12 := k9.grown hg11
                have k13 := hr_t480_L.grown hg11
                have k14 := ht480.g0 hg11
                refine WL.y rfl (Yld.pure tab_ok rfl) ?_
                refine WL.storeW (vs := [.int .i64 t481_Code2, .bool t481_Placed2, .int .i64 t481_Pos2, .bool t481_Filed2, vs t481_File2]) tab_ok rfl rfl rfl (all1c rfl (all1c rfl (all1c rfl (all1c rfl (all1c rfl all1n))))) hB3 rfl rfl (fun w14 hB4 hg12 => ?_)
                have gr12 := gr_mod gr11 hg12 (Ge.le (Ge.box hl2) (size_le gr10))
                have k15 := ErrR.go k11 hG gr11 hg12 gr12 hB3 rfl
                have k16 := k12.go hg12 (Dj.new k9.lt' (Ge.box hl2))
                have k17 := k13.go hg12 (hr_t480_L.new (Ge.box hl2))
                have k18 := k14.go hg12 (Dj.new ht480.lt' (Ge.box hl2))
                refine WL.nil (WX.then_normal ?_)
                refine WC.seq ?_
                refine WC.seq ?_
                refine WC.region ?_
                refine WL.y rfl (Yld.pure tab_ok rfl) ?_
                refine WL.y rfl (Yld.bagg (vs := [.int .i64 t481_Code2, .bool t481_Placed2, .int .i64 t481_Pos2, .bool t481_Filed2, vs t481_File2]) tab_ok hB4 rfl rfl rfl rfl) ?_
                refine WL.call rfl rfl (W_smithysee_Same (hG.grown gr12) hS0 hS1 hS2 hS3 hS4 hS5 hS6 hS7 hS8 hS9 hS10 hS11 hS12 hS13 hS14 hS15 hS16 k15 H) ?_
                rintro _ w15 ⟨hg13, t532, rfl, H⟩
                have gr13 := gr_trans gr12 hg13
                have k19 := k16.grown hg13
                have k20 := k17.grown hg13
                have k21 := k18.g0 hg13
                have k22 := hB4.g0 hg13
                refine WL.y rfl (Yld.pure tab_ok rfl) ?_
                refine WL.y rfl (Yld.pure tab_ok rfl) ?_
                refine WL.midF 7 (fun L' w' => ∃ q5 : Bool, L' = [(62, .bool q5), (0, .slice A_l l.length c_l), (1, .slice A_outputs outputs.length c_outputs), (2, vs p), (3, .int .i64 i), (10, .pointer none), (12, .pointer (some ⟨g_t480, 0, none⟩))] ∧ ((!t532) || (!(false == (decide (t481_Code2 = (0 : Int)))))) = q5 ∧ w15 = w') ?_ (fun hQ => ?_)
                · rintro _ _ ⟨q5, rfl, rfl, rfl⟩
                  refine WL.nil (WX.then_normal ?_)
                  refine WC.cond rfl (fun b6 => ?_) (fun b6 => ?_)
                  · replace H := H.1 (b6)
                    refine WC.seq ?_
                    refine WC.region ?_
                    refine WL.y rfl (Yld.pure tab_ok rfl) ?_
                    refine WL.nil (WX.then_normal ?_)
                    refine WC.ret (WX.then_ret ?_)
                    exact WX.ret1 rfl rfl ⟨gr13, false, rfl, H⟩
                  · replace H := H.2 (b6)
                    refine WC.skip (WX.then_normal ?_)
                    refine WC.seq ?_
                    refine WC.seq ?_
                    refine WC.region ?_
                    refine WL.y rfl (Yld.pure tab_ok rfl) ?_
                    refine WL.y rfl (Yld.pure tab_ok rfl) ?_
                    refine WL.call rfl rfl (W_graph_Only (hG.grown gr13) hS4 hS6 hS9 hS10 hS11 hS100 (hl.grown gr13) rfl (hr_l.grown gr13) (houtputs.grown gr13) rfl H) ?_
                    rintro _ w16 ⟨hg14, t652, A_t652, c_t652, hs_t652, rfl, ht652, hr_t652, H⟩
                    have hb4 := ht652.ge'
                    have k23 := ht652.base (fun g hg => Nat.le_trans (size_le gr13) (hb4 g hg))
                    have gr14 := gr_trans gr13 hg14
                    have k24 := k19.grown hg14
                    have k25 := k20.grown hg14
                    have k26 := k21.g0 hg14
                    refine WL.y rfl (Yld.pure tab_ok rfl) ?_
                    refine WL.y rfl (Yld.pure tab_ok rfl) ?_
                    refine WL.call rfl rfl (W_smithyref17_Only (hl.grown gr14) rfl (hr_l.grown gr14) (houtputs.grown gr14) rfl H) ?_
                    rintro _ w17 ⟨hg15, t682, A_t682, c_t682, hs_t682, rfl, ht682, hr_t682, H⟩
                    have hb5 := ht682.ge'
                    have k27 := ht682.base (fun g hg => Nat.le_trans (size_le gr14) (hb5 g hg))
                    have gr15 := gr_trans gr14 hg15
                    have k28 := k24.grown hg15
                    have k29 := k25.grown hg15
                    have k30 := k26.g0 hg15
                    have k31 := k23.grown hg15
                    have k32 := hr_t652.grown hg15
                    refine WL.call rfl rfl (W_smithyref_SameActions k31.rd rfl k32 k27.rd rfl hr_t682 H) ?_
                    rintro _ w18 ⟨hg16, t692, rfl, H⟩
                    have gr16 := gr_trans gr15 hg16
                    have k33 := k28.grown hg16
                    have k34 := k29.grown hg16
                    have k35 := k30.g0 hg16
                    refine WL.y rfl (Yld.pure tab_ok rfl) ?_
                    refine WL.nil (WX.then_normal ?_)
                    refine WC.cond rfl (fun b7 => ?_) (fun b7 => ?_)
                    · replace H := H.1 (b7)
                      refine WC.seq ?_
                      refine WC.region ?_
                      refine WL.y rfl (Yld.pure tab_ok rfl) ?_
                      refine WL.nil (WX.then_normal ?_)
                      refine WC.ret (WX.then_ret ?_)
                      exact WX.ret1 rfl rfl ⟨gr16, false, rfl, H⟩
                    · replace H := H.2 (b7)
                      refine WC.skip (WX.then_normal ?_)
                      refine WC.seq ?_
                      refine WC.seq ?_
                      refine WC.region ?_
                      refine WL.y rfl (Yld.pure tab_ok rfl) ?_
                      refine WL.y rfl (Yld.peqnil Tryz.underlying81 rfl rfl) ?_
                      refine WL.nil (WX.then_normal ?_)
                      refine WC.cond rfl (fun _ => ?_) (fun h => by cases h)
                      refine WC.seq ?_
                      refine WC.region ?_
                      refine WL.y rfl (Yld.pure tab_ok rfl) ?_
                      refine WL.nil (WX.then_normal ?_)
                      refine WC.ret (WX.then_ret ?_)
                      exact WX.ret1 rfl rfl ⟨gr16, true, rfl, H⟩
                · clear H
                  rcases Bool.eq_false_or_eq_true (!t532) with b8 | b8
                  · refine WL.gno rfl rfl (okb b8) rfl ?_
                    refine WL.gno rfl rfl (okb b8) rfl ?_
                    refine WL.gno rfl rfl (okb b8) rfl ?_
                    refine WL.gno rfl rfl (okb b8) rfl ?_
                    refine WL.gno rfl rfl (okb b8) rfl ?_
                    refine WL.gno rfl rfl (okb b8) rfl ?_
                    refine WL.y rfl (Yld.pickT (okb b8) rfl) ?_
                    exact WL.weaken (by repeat (first | exact Sub.nil | refine Sub.cons rfl ?_)) (hQ _ _ ⟨true, rfl, by first | (rw [b8] <;> rfl) | simp [b8], rfl⟩)
                  · refine WL.gyes rfl rfl (okb b8) rfl (Yld.pure tab_ok rfl) ?_
                    refine WL.gyes rfl rfl (okb b8) rfl (Yld.pnenil Tryz.underlying81 rfl rfl) ?_
                    refine WL.gyes rfl rfl (okb b8) rfl (Yld.pure tab_ok rfl) ?_
                    refine WL.gyes rfl rfl (okb b8) rfl (Yld.bload tab_ok k22 rfl rfl rfl) ?_
                    refine WL.gyes rfl rfl (okb b8) rfl (Yld.pure tab_ok rfl) ?_
                    refine WL.gyes rfl rfl (okb b8) rfl (Yld.bneq Tryz.underlying4 rfl rfl) ?_
                    refine WL.y rfl (Yld.pickF (okb b8) rfl) ?_
                    exact WL.weaken (by repeat (first | exact Sub.nil | refine Sub.cons rfl ?_)) (hQ _ _ ⟨!(false == (decide (t481_Code2 = (0 : Int)))), rfl, by first | (rw [b8] <;> rfl) | simp [b8], rfl⟩)
            · obtain ⟨g_t430, t430_l, A_t430_l, c_t430_l, hs_t430_l, g_t430_makers, t430_makers, t430_before, A_t430_before, c_t430_before, hs_t430_before, t430_after, A_t430_after, c_t430_after, hs_t430_after, v_t4312, t4312, rfl, ht430_l, hr_t430_l, ht430_before, hr_t430_before, ht430_after, hr_t430_after, ht4312, ht430_makers, hge2, ht430, hge3, dj4, dj5, dj6, dj7, dj8, dj9, dj10, dj11, dj12, dj13, dj14, dj15, dj16, dj17, dj18, dj19, dj20, dj21, dj22, dj23, dj24, dj25, dj26, dj27, dj28, H⟩ := hc_
              have hg17 := hg_
              have hb6 := ht430_l.ge'
              have k36 := ht430_l.base (fun g hg => Nat.le_trans (size_le gr1) (hb6 g hg))
              have hb7 := ht430_before.ge'
              have k37 := ht430_before.base (fun g hg => Nat.le_trans (size_le gr1) (hb7 g hg))
              have hb8 := ht430_after.ge'
              have k38 := ht430_after.base (fun g hg => Nat.le_trans (size_le gr1) (hb8 g hg))
              have gr17 := gr_trans gr1 hg17
              refine WL.y rfl (Yld.pure tab_ok rfl) ?_
              refine WL.y rfl (Yld.pure tab_ok rfl) ?_
              refine WL.y rfl (Yld.pure tab_ok rfl) ?_
              refine WL.y rfl (Yld.pure tab_ok rfl) ?_
              refine WL.y rfl (Yld.pure tab_ok rfl) ?_
              refine WL.nil (WX.then_normal ?_)
              refine WC.seq ?_
              refine WC.region ?_
              refine WL.y rfl (Yld.pure tab_ok rfl) ?_
              refine WL.call rfl rfl (W_smithyref17_NewGraph (hl.grown gr17) rfl (hr_l.grown gr17) H) ?_
              rintro v_ w20 ⟨hg_, hc_ | hc_⟩
              · obtain ⟨t481_Code3, t481_Placed3, t481_Pos3, t481_Filed3, t481_File3, rfl, H⟩ := hc_
                have hg18 := hg_
                have gr18 := gr_trans gr17 hg18
                have k39 := k36.grown hg18
                have k40 := hr_t430_l.grown hg18
                have k41 := k37.grown hg18
                have k42 := hr_t430_before.grown hg18
                have k43 := k38.grown hg18
                have k44 := hr_t430_after.grown hg18
                have k45 := ht4312.grown hg18
                have k46 := ht430_makers.g0 hg18
                have k47 := ht430.g0 hg18
                refine WL.y rfl (Yld.pure tab_ok rfl) ?_
                refine WL.y rfl (Yld.pure tab_ok rfl) ?_
                refine WL.y rfl (Yld.pure tab_ok rfl) ?_
                refine WL.alloc rfl zero86 (fun g3 w22 hB5 hg19 hl3 => ?_)
                have gr19 := gr_trans gr18 hg19
                have k48 := k39.grown hg19
                have k49 := k40.grown hg19
                have k50 := k41.grown hg19
                have k51 := k42.grown hg19
                have k52 := k43.grown hg19
                have k53 := k44.grown hg19
                have k54 := k45.grown hg19
                have k55 := k46.g0 hg19
                have k56 := k47.g0 hg19
                refine WL.y rfl (Yld.pure tab_ok rfl) ?_
                refine WL.storeW (vs := [.int .i64 t481_Code3, .bool t481_Placed3, .int .i64 t481_Pos3, .bool t481_Filed3, vs t481_File3]) tab_ok rfl rfl rfl (all1c rfl (all1c rfl (all1c rfl (all1c rfl (all1c rfl all1n))))) hB5 rfl rfl (fun w23 hB6 hg20 => ?_)
                have gr20 := gr_mod gr19 hg20 (Ge.le (Ge.box hl3) (size_le gr18))
                have k57 := k48.go hg20 (Dj.new k39.lt' (Ge.box hl3))
                have k58 := k49.go hg20 (k40.new (Ge.box hl3))
                have k59 := k50.go hg20 (Dj.new k41.lt' (Ge.box hl3))
                have k60 := k51.go hg20 (k42.new (Ge.box hl3))
                have k61 := k52.go hg20 (Dj.new k43.lt' (Ge.box hl3))
                have k62 := k53.go hg20 (k44.new (Ge.box hl3))
                have k63 := ErrR.go k54 hG gr19 hg20 gr20 hB5 rfl
                have k64 := k55.go hg20 (Dj.new k46.lt' (Ge.box hl3))
                have k65 := k56.go hg20 (Dj.new k47.lt' (Ge.box hl3))
                refine WL.nil (WX.then_normal ?_)
                refine WC.seq ?_
                refine WC.seq ?_
                refine WC.region ?_
                refine WL.y rfl (Yld.pure tab_ok rfl) ?_
                refine WL.y rfl (Yld.bagg (vs := [.int .i64 t481_Code3, .bool t481_Placed3, .int .i64 t481_Pos3, .bool t481_Filed3, vs t481_File3]) tab_ok hB6 rfl rfl rfl rfl) ?_
                refine WL.call rfl rfl (W_smithysee_Same (hG.grown gr20) hS0 hS1 hS2 hS3 hS4 hS5 hS6 hS7 hS8 hS9 hS10 hS11 hS12 hS13 hS14 hS15 hS16 k63 H) ?_
                rintro _ w24 ⟨hg21, t533, rfl, H⟩
                have gr21 := gr_trans gr20 hg21
                have k66 := k57.grown hg21
                have k67 := k58.grown hg21
                have k68 := k59.grown hg21
                have k69 := k60.grown hg21
                have k70 := k61.grown hg21
                have k71 := k62.grown hg21
                have k72 := k64.g0 hg21
                have k73 := k65.g0 hg21
                have k74 := hB6.g0 hg21
                refine WL.y rfl (Yld.pure tab_ok rfl) ?_
                refine WL.y rfl (Yld.pure tab_ok rfl) ?_
                refine WL.midF 7 (fun L' w' => ∃ q6 : Bool, L' = [(62, .bool q6), (0, .slice A_l l.length c_l), (1, .slice A_outputs outputs.length c_outputs), (2, vs p), (3, .int .i64 i), (10, .pointer (some ⟨g_t430, 0, none⟩)), (12, .pointer none)] ∧ ((!t533) || (!(true == (decide (t481_Code3 = (0 : Int)))))) = q6 ∧ w24 = w') ?_ (fun hQ => ?_)
                · rintro _ _ ⟨q6, rfl, rfl, rfl⟩
                  refine WL.nil (WX.then_normal ?_)
                  refine WC.cond rfl (fun b9 => ?_) (fun b9 => ?_)
                  · replace H := H.1 (b9)
                    refine WC.seq ?_
                    refine WC.region ?_
                    refine WL.y rfl (Yld.pure tab_ok rfl) ?_
                    refine WL.nil (WX.then_normal ?_)
                    refine WC.ret (WX.then_ret ?_)
                    exact WX.ret1 rfl rfl ⟨gr21, false, rfl, H⟩
                  · replace H := H.2 (b9)
                    refine WC.skip (WX.then_normal ?_)
                    refine WC.seq ?_
                    refine WC.seq ?_
                    refine WC.region ?_
                    refine WL.y rfl (Yld.pure tab_ok rfl) ?_
                    refine WL.y rfl (Yld.pure tab_ok rfl) ?_
                    refine WL.call rfl rfl (W_graph_Only (hG.grown gr21) hS4 hS6 hS9 hS10 hS11 hS100 (hl.grown gr21) rfl (hr_l.grown gr21) (houtputs.grown gr21) rfl H) ?_
                    rintro _ w25 ⟨hg22, t653, A_t653, c_t653, hs_t653, rfl, ht653, hr_t653, H⟩
                    have hb9 := ht653.ge'
                    have k75 := ht653.base (fun g hg => Nat.le_trans (size_le gr21) (hb9 g hg))
                    have gr22 := gr_trans gr21 hg22
                    have k76 := k66.grown hg22
                    have k77 := k67.grown hg22
                    have k78 := k68.grown hg22
                    have k79 := k69.grown hg22
                    have k80 := k70.grown hg22
                    have k81 := k71.grown hg22
                    have k82 := k72.g0 hg22
                    have k83 := k73.g0 hg22
                    refine WL.y rfl (Yld.pure tab_ok rfl) ?_
                    refine WL.y rfl (Yld.pure tab_ok rfl) ?_
                    refine WL.call rfl rfl (W_smithyref17_Only (hl.grown gr22) rfl (hr_l.grown gr22) (houtputs.grown gr22) rfl H) ?_
                    rintro _ w26 ⟨hg23, t683, A_t683, c_t683, hs_t683, rfl, ht683, hr_t683, H⟩
                    have hb10 := ht683.ge'
                    have k84 := ht683.base (fun g hg => Nat.le_trans (size_le gr22) (hb10 g hg))
                    have gr23 := gr_trans gr22 hg23
                    have k85 := k76.grown hg23
                    have k86 := k77.grown hg23
                    have k87 := k78.grown hg23
                    have k88 := k79.grown hg23
                    have k89 := k80.grown hg23
                    have k90 := k81.grown hg23
                    have k91 := k82.g0 hg23
                    have k92 := k83.g0 hg23
                    have k93 := k75.grown hg23
                    have k94 := hr_t653.grown hg23
                    refine WL.call rfl rfl (W_smithyref_SameActions k93.rd rfl k94 k84.rd rfl hr_t683 H) ?_
                    rintro _ w27 ⟨hg24, t693, rfl, H⟩
                    have gr24 := gr_trans gr23 hg24
                    have k95 := k85.grown hg24
                    have k96 := k86.grown hg24
                    have k97 := k87.grown hg24
                    have k98 := k88.grown hg24
                    have k99 := k89.grown hg24
                    have k100 := k90.grown hg24
                    have k101 := k91.g0 hg24
                    have k102 := k92.g0 hg24
                    refine WL.y rfl (Yld.pure tab_ok rfl) ?_
                    refine WL.nil (WX.then_normal ?_)
                    refine WC.cond rfl (fun b10 => ?_) (fun b10 => ?_)
                    · replace H := H.1 (b10)
                      refine WC.seq ?_
                      refine WC.region ?_
                      refine WL.y rfl (Yld.pure tab_ok rfl) ?_
                      refine WL.nil (WX.then_normal ?_)
                      refine WC.ret (WX.then_ret ?_)
                      exact WX.ret1 rfl rfl ⟨gr24, false, rfl, H⟩
                    · replace H := H.2 (b10)
                      refine WC.skip (WX.then_normal ?_)
                      refine WC.seq ?_
                      refine WC.seq ?_
                      refine WC.region ?_
                      refine WL.y rfl (Yld.pure tab_ok rfl) ?_
                      refine WL.y rfl (Yld.peqnil Tryz.underlying81 rfl rfl) ?_
                      refine WL.nil (WX.then_normal ?_)
                      refine WC.cond rfl (fun h => by cases h) (fun _ => ?_)
                      refine WC.skip (WX.then_normal ?_)
                      refine WC.seq ?_
                      refine WC.region ?_
                      refine WL.y rfl (Yld.pure tab_ok rfl) ?_
                      refine WL.y rfl (Yld.pure tab_ok rfl) ?_
                      refine WL.call rfl rfl (W_pgraph_Graph_Action k95.rd rfl k96 k101 k97.rd rfl k98 k99.rd rfl k100 k102 H) ?_
                      rintro _ w28 ⟨hg25, t760_Tool, t760_Args, A_t760_Args, c_t760_Args, t760_Inputs, A_t760_Inputs, c_t760_Inputs, t760_Output, t761, rfl, ht760_Args, ht760_Inputs, dj29, H⟩
                      have hb11 := ht760_Args.ge'
                      have k103 := ht760_Args.base (fun g hg => Nat.le_trans (size_le gr24) (hb11 g hg))
                      have hb12 := ht760_Inputs.ge'
                      have k104 := ht760_Inputs.base (fun g hg => Nat.le_trans (size_le gr24) (hb12 g hg))
                      have gr25 := gr_trans gr24 hg25
                      have k105 := k95.grown hg25
                      have k106 := k96.grown hg25
                      have k107 := k97.grown hg25
                      have k108 := k98.grown hg25
                      have k109 := k99.grown hg25
                      have k110 := k100.grown hg25
                      have k111 := k101.g0 hg25
                      have k112 := k102.g0 hg25
                      refine WL.y rfl (Yld.pure tab_ok rfl) ?_
                      refine WL.y rfl (Yld.pure tab_ok rfl) ?_
                      refine WL.y rfl (Yld.pure tab_ok rfl) ?_
                      refine WL.alloc rfl zero94 (fun g4 w29 hB7 hg26 hl4 => ?_)
                      have gr26 := gr_trans gr25 hg26
                      have k113 := k105.grown hg26
                      have k114 := k106.grown hg26
                      have k115 := k107.grown hg26
                      have k116 := k108.grown hg26
                      have k117 := k109.grown hg26
                      have k118 := k110.grown hg26
                      have k119 := k111.g0 hg26
                      have k120 := k112.g0 hg26
                      have k121 := k103.grown hg26
                      have k122 := k104.grown hg26
                      refine WL.storeW (vs := [.int .i64 t760_Tool, .slice A_t760_Args t760_Args.length c_t760_Args, .slice A_t760_Inputs t760_Inputs.length c_t760_Inputs, vs t760_Output]) tab_ok rfl rfl rfl (all1c rfl (all1c rfl (all1c rfl (all1c rfl all1n)))) hB7 rfl rfl (fun w30 hB8 hg27 => ?_)
                      have gr27 := gr_mod gr26 hg27 (Ge.le (Ge.box hl4) (size_le gr25))
                      have k123 := k113.go hg27 (Dj.new k105.lt' (Ge.box hl4))
                      have k124 := k114.go hg27 (k106.new (Ge.box hl4))
                      have k125 := k115.go hg27 (Dj.new k107.lt' (Ge.box hl4))
                      have k126 := k116.go hg27 (k108.new (Ge.box hl4))
                      have k127 := k117.go hg27 (Dj.new k109.lt' (Ge.box hl4))
                      have k128 := k118.go hg27 (k110.new (Ge.box hl4))
                      have k129 := k119.go hg27 (Dj.new k111.lt' (Ge.box hl4))
                      have k130 := k120.go hg27 (Dj.new k112.lt' (Ge.box hl4))
                      have k131 := k121.go hg27 (Dj.new k103.lt' (Ge.box hl4))
                      have k132 := k122.go hg27 (Dj.new k104.lt' (Ge.box hl4))
                      refine WL.y rfl (Yld.pure tab_ok rfl) ?_
                      refine WL.nil (WX.then_normal ?_)
                      refine WC.seq ?_
                      refine WC.region ?_
                      refine WL.y rfl (Yld.pure tab_ok rfl) ?_
                      refine WL.y rfl (Yld.pure tab_ok rfl) ?_
                      refine WL.y rfl (Yld.pure tab_ok rfl) ?_
                      refine WL.midF 5 (fun L' w' => ∃ q7 : Bool, L' = [(86, .bool q7), (0, .slice A_l l.length c_l), (1, .slice A_outputs outputs.length c_outputs), (2, vs p), (3, .int .i64 i), (10, .pointer (some ⟨g_t430, 0, none⟩)), (12, .pointer none), (14, .pointer (some ⟨g4, 0, none⟩)), (15, .bool t761)] ∧ ((decide ((0 : Int) ≤ i)) && (decide (i < (l.length : Int)))) = q7 ∧ w30 = w') ?_ (fun hQ => ?_)
                      · rintro _ _ ⟨q7, rfl, rfl, rfl⟩
                        refine WL.y rfl (Yld.pure tab_ok rfl) ?_
                        refine WL.nil (WX.then_normal ?_)
                        refine WC.seq ?_
                        refine WC.seq ?_
                        refine WC.chainF (fun k => !(Nat.beq k 11)) (LD [6, 10] (fun w' => Bl w' g4 94 [.int .i64 t760_Tool, .slice A_t760_Args t760_Args.length c_t760_Args, .slice A_t760_Inputs t760_Inputs.length c_t760_Inputs, vs t760_Output] ∧ RdK 4 encH94 w' A_l c_l hs_l)) mixed (by kernel_rfl) (fun k w' h _ => ⟨(bl_eqv h hB8), (RdK.eqv h (hl.grown gr27))⟩) ?_
                        refine WJ.y rfl rfl (fun w' hw' => Yld.pure tab_ok rfl) ?_
                        refine WJ.y rfl rfl (fun w' hw' => Yld.pure tab_ok rfl) ?_
                        refine WJ.y rfl rfl (fun w' hw' => Yld.bneq Tryz.underlying4 rfl rfl) ?_
                        refine WJ.y rfl rfl (fun w' hw' => Yld.pure tab_ok rfl) ?_
                        obtain ⟨J2, H, hJ2⟩ := H
                        refine WJ.midF 11 (fun L' w' => ∃ q8 : Bool, L' = [(101, .bool q8), (0, .slice A_l l.length c_l), (1, .slice A_outputs outputs.length c_outputs), (2, vs p), (3, .int .i64 i), (10, .pointer (some ⟨g_t430, 0, none⟩)), (12, .pointer none), (14, .pointer (some ⟨g4, 0, none⟩))] ∧ J2 q8 ∧ w.grownBy w' none ∧ OwnK 4 encH94 w' w.heap.size 94 A_t430_l c_t430_l hs_t430_l ∧ RelD de94 w' hs_t430_l t430_l ∧ Own vh w' w.heap.size 98 A_t430_before c_t430_before hs_t430_before ∧ RelD de98 w' hs_t430_before t430_before ∧ Own vh w' w.heap.size 98 A_t430_after c_t430_after hs_t430_after ∧ RelD de98 w' hs_t430_after t430_after ∧ MapB vs okS vi w' g_t430_makers t430_makers ∧ Bl w' g_t430 169 [.slice A_t430_l t430_l.length c_t430_l, .map (some g_t430_makers), .slice A_t430_before t430_before.length c_t430_before, .slice A_t430_after t430_after.length c_t430_after] ∧ Own vs w' w.heap.size 9 A_t760_Args c_t760_Args t760_Args ∧ Own vs w' w.heap.size 9 A_t760_Inputs c_t760_Inputs t760_Inputs ∧ Bl w' g4 94 [.int .i64 t760_Tool, .slice A_t760_Args t760_Args.length c_t760_Args, .slice A_t760_Inputs t760_Inputs.length c_t760_Inputs, vs t760_Output]) ?_ (fun hQ => ?_)
                        · clear H
                          rintro _ w31 ⟨q8, rfl, H, gr28, k133, k134, k135, k136, k137, k138, k139, k140, k141, k142, k143⟩
                          replace H := hJ2 q8 H
                          refine WJ.nil (WX.then_normal ?_)
                          refine WC.cond rfl (fun b11 => ?_) (fun b11 => ?_)
                          · replace H := H.1 (b11)
                            refine WC.seq ?_
                            refine WC.region ?_
                            refine WL.y rfl (Yld.pure tab_ok rfl) ?_
                            refine WL.nil (WX.then_normal ?_)
                            refine WC.ret (WX.then_ret ?_)
                            exact WX.ret1 rfl rfl ⟨gr28, false, rfl, H⟩
                          · replace H := H.2 (b11)
                            refine WC.skip (WX.then_normal ?_)
                            refine WC.seq ?_
                            refine WC.seq ?_
                            refine WC.region ?_
                            refine WL.y rfl (Yld.pure tab_ok rfl) ?_
                            refine WL.nil (WX.then_normal ?_)
                            refine WC.block ?_
                            obtain ⟨I1, mu1, h0_1, HR1⟩ := H
                            refine WC.loopF (fun n' L' w' => ∃ (k : Int), ∃ (a2 : List (List UInt8)), ∃ (A_a2 : Option Addr), ∃ (c_a2 : Nat), ∃ (n_a2 : Nat), n' = mu1 k a2 ∧ L' = [(0, .slice A_l l.length c_l), (1, .slice A_outputs outputs.length c_outputs), (2, vs p), (3, .int .i64 i), (10, .pointer (some ⟨g_t430, 0, none⟩)), (12, .pointer none), (14, .pointer (some ⟨g4, 0, none⟩)), (17, .int .i64 k)] ∧ I1 k a2 ∧ n_a2 = a2.length ∧ w.grownBy w' none ∧ OwnK 4 encH94 w' w.heap.size 94 A_t430_l c_t430_l hs_t430_l ∧ RelD de94 w' hs_t430_l t430_l ∧ Own vh w' w.heap.size 98 A_t430_before c_t430_before hs_t430_before ∧ RelD de98 w' hs_t430_before t430_before ∧ Own vh w' w.heap.size 98 A_t430_after c_t430_after hs_t430_after ∧ RelD de98 w' hs_t430_after t430_after ∧ MapB vs okS vi w' g_t430_makers t430_makers ∧ Bl w' g_t430 169 [.slice A_t430_l t430_l.length c_t430_l, .map (some g_t430_makers), .slice A_t430_before t430_before.length c_t430_before, .slice A_t430_after t430_after.length c_t430_after] ∧ Own vs w' w.heap.size 9 A_t760_Args c_t760_Args t760_Args ∧ Bl w' g4 94 [.int .i64 t760_Tool, .slice A_t760_Args t760_Args.length c_t760_Args, .slice A_a2 n_a2 c_a2, vs t760_Output] ∧ Own vs w' w.heap.size 9 A_a2 c_a2 a2 ∧ Dj (blk A_t430_l) (blk A_t430_before) ∧ Dj (blk A_t430_l) (blk A_t430_after) ∧ Dj (blk A_t430_l) (some g_t430_makers) ∧ Dj (blk A_t430_l) (some g_t430) ∧ Dj (blk A_t430_l) (blk A_t760_Args) ∧ Dj (blk A_t430_l) (some g4) ∧ Dj (blk A_t430_l) (blk A_a2) ∧ DnD de94 hs_t430_l t430_l (blk A_t430_l) ∧ DnD de94 hs_t430_l t430_l (blk A_t430_before) ∧ DnD de94 hs_t430_l t430_l (blk A_t430_after) ∧ DnD de94 hs_t430_l t430_l (some g_t430_makers) ∧ DnD de94 hs_t430_l t430_l (some g_t430) ∧ DnD de94 hs_t430_l t430_l (blk A_t760_Args) ∧ DnD de94 hs_t430_l t430_l (some g4) ∧ DnD de94 hs_t430_l t430_l (blk A_a2) ∧ Dj (blk A_t430_before) (blk A_t430_after) ∧ Dj (blk A_t430_before) (some g_t430) ∧ Dj (blk A_t430_before) (blk A_t760_Args) ∧ Dj (blk A_t430_before) (some g4) ∧ Dj (blk A_t430_before) (blk A_a2) ∧ DnD de98 hs_t430_before t430_before (blk A_t430_l) ∧ DnD de98 hs_t430_before t430_before (blk A_t430_before) ∧ DnD de98 hs_t430_before t430_before (blk A_t430_after) ∧ DnD de98 hs_t430_before t430_before (some g_t430_makers) ∧ DnD de98 hs_t430_before t430_before (some g_t430) ∧ DnD de98 hs_t430_before t430_before (blk A_t760_Args) ∧ DnD de98 hs_t430_before t430_before (some g4) ∧ DnD de98 hs_t430_before t430_before (blk A_a2) ∧ Dj (blk A_t430_after) (some g_t430) ∧ Dj (blk A_t430_after) (blk A_t760_Args) ∧ Dj (blk A_t430_after) (some g4) ∧ Dj (blk A_t430_after) (blk A_a2) ∧ DnD de98 hs_t430_after t430_after (blk A_t430_l) ∧ DnD de98 hs_t430_after t430_after (blk A_t430_before) ∧ DnD de98 hs_t430_after t430_after (blk A_t430_after) ∧ DnD de98 hs_t430_after t430_after (some g_t430_makers) ∧ DnD de98 hs_t430_after t430_after (some g_t430) ∧ DnD de98 hs_t430_after t430_after (blk A_t760_Args) ∧ DnD de98 hs_t430_after t430_after (some g4) ∧ DnD de98 hs_t430_after t430_after (blk A_a2) ∧ Dj (some g_t430_makers) (blk A_t430_before) ∧ Dj (some g_t430_makers) (blk A_t430_after) ∧ Dj (some g_t430_makers) (some g_t430) ∧ Dj (some g_t430_makers) (blk A_t760_Args) ∧ Dj (some g_t430_makers) (some g4) ∧ Dj (some g_t430_makers) (blk A_a2) ∧ Dj (some g_t430) (blk A_t760_Args) ∧ Dj (some g_t430) (some g4) ∧ Dj (some g_t430) (blk A_a2) ∧ Dj (blk A_t760_Args) (some g4) ∧ Dj (blk A_t760_Args) (blk A_a2) ∧ Dj (some g4) (blk A_a2)) _ _ ⟨(0 : Int), t760_Inputs, A_t760_Inputs, c_t760_Inputs, t760_Inputs.length, rfl, rfl, h0_1, rfl, gr28, k133, k134, k135, k136, k137, k138, k139, k140, k141, k143, k142, dj19, dj20, dj21, dj22, (Dj.new k95.lt' hb11), (Dj.new k105.lt' (Ge.box hl4)), (Dj.new k95.lt' hb12), dj4, dj5, dj6, dj7, dj8, (k96.new hb11), (k106.new (Ge.box hl4)), (k96.new hb12), dj23, dj25, (Dj.new k97.lt' hb11), (Dj.new k107.lt' (Ge.box hl4)), (Dj.new k97.lt' hb12), dj9, dj10, dj11, dj12, dj13, (k98.new hb11), (k108.new (Ge.box hl4)), (k98.new hb12), dj27, (Dj.new k99.lt' hb11), (Dj.new k109.lt' (Ge.box hl4)), (Dj.new k99.lt' hb12), dj14, dj15, dj16, dj17, dj18, (k100.new hb11), (k110.new (Ge.box hl4)), (k100.new hb12), dj24.symm, dj26.symm, dj28, (Dj.new k101.lt' hb11), (Dj.new k111.lt' (Ge.box hl4)), (Dj.new k101.lt' hb12), (Dj.new k102.lt' hb11), (Dj.new k112.lt' (Ge.box hl4)), (Dj.new k102.lt' hb12), (Dj.new k103.lt' (Ge.box hl4)), dj29, (Dj.new k104.lt' (Ge.box hl4)).symm⟩ (by repeat (first | exact Sub.nil | refine Sub.cons rfl ?_)) ?_
                            clear h0_1
                            rintro _ _ w32 ⟨k, a2, A_a2, c_a2, n_a2, rfl, rfl, hI1, rfl, gr29, k144, k145, k146, k147, k148, k149, k150, k151, k152, k153, k154, dj30, dj31, dj32, dj33, dj34, dj35, dj36, dj37, dj38, dj39, dj40, dj41, dj42, dj43, dj44, dj45, dj46, dj47, dj48, dj49, dj50, dj51, dj52, dj53, dj54, dj55, dj56, dj57, dj58, dj59, dj60, dj61, dj62, dj63, dj64, dj65, dj66, dj67, dj68, dj69, dj70, dj71, dj72, dj73, dj74, dj75, dj76, dj77, dj78, dj79, dj80, dj81⟩
                            have H := HR1 k a2 hI1
                            refine WC.seq ?_
                            refine WC.seq ?_
                            refine WC.region ?_
                            refine WL.y rfl (Yld.pure tab_ok rfl) ?_
                            refine WL.y rfl (Yld.pure tab_ok rfl) ?_
                            refine WL.y rfl (Yld.bload tab_ok k153 rfl rfl rfl) ?_
                            refine WL.y rfl (Yld.pure tab_ok rfl) ?_
                            refine WL.y rfl (Yld.pure tab_ok rfl) ?_
                            refine WL.nil (WX.then_normal ?_)
                            refine WC.cond rfl (fun b12 => ?_) (fun b12 => ?_)
                            · replace H := H.1 (of_decide_eq_true b12)
                              refine WC.skip (WX.then_normal ?_)
                              refine WC.seq ?_
                              refine WC.block ?_
                              refine WC.region ?_
                              refine WL.y rfl (Yld.pure tab_ok rfl) ?_
                              refine WL.y rfl (Yld.bload tab_ok k153 rfl rfl rfl) ?_
                              refine WL.y rfl (Yld.pure tab_ok rfl) ?_
                              obtain ⟨h1, H⟩ := H
                              refine WL.y rfl (Yld.iaddrW tab_ok k154.rd rfl rfl rfl rfl h1.1 h1.2) ?_
                              refine WL.ostore (v := ([122, 122] : List UInt8)) one9 One.s k154 rfl rfl (iltN h1 rfl) (fun w33 hO1 hg28 => ?_)
                              have gr30 := gr_mod gr29 hg28 k154.ge'
                              have k155 := k144.go hg28 dj36
                              have k156 := k145.go hg28 dj44
                              have k157 := k146.go hg28 dj49
                              have k158 := k147.go hg28 dj57
                              have k159 := k148.go hg28 dj61
                              have k160 := k149.go hg28 dj69
                              have k161 := k150.go hg28 dj75
                              have k162 := k151.go hg28 dj78
                              have k163 := k152.go hg28 dj80
                              have k164 := k153.go hg28 dj81
                              refine WL.nil (WX.block_normal (WX.then_normal ?_))
                              refine WC.region ?_
                              refine WL.y rfl (Yld.pure tab_ok rfl) ?_
                              obtain ⟨h2, H⟩ := H
                              refine WL.y rfl (Yld.add rfl rfl h2) ?_
                              refine WL.y rfl (Yld.pure tab_ok rfl) ?_
                              refine WL.nil ?_
                              exact WX.roundF _ ⟨k + (1 : Int), a2.set k.toNat ([122, 122] : List UInt8), A_a2, c_a2, a2.length, rfl, rfl, H.1, List.length_set.symm, gr30, k155, k156, k157, k158, k159, k160, k161, k162, k163, k164, hO1, dj30, dj31, dj32, dj33, dj34, dj35, dj36, dj37, dj38, dj39, dj40, dj41, dj42, dj43, dj44, dj45, dj46, dj47, dj48, dj49, dj50, dj51, dj52, dj53, dj54, dj55, dj56, dj57, dj58, dj59, dj60, dj61, dj62, dj63, dj64, dj65, dj66, dj67, dj68, dj69, dj70, dj71, dj72, dj73, dj74, dj75, dj76, dj77, dj78, dj79, dj80, dj81⟩ (by repeat (first | exact Sub.nil | refine Sub.cons rfl ?_)) H.2
                            · replace H := H.2 (of_decide_eq_false b12)
                              refine WC.exit (WX.then_exit (WX.then_exit (WX.block_same (WX.then_normal ?_))))
                              refine WC.seq ?_
                              refine WC.region ?_
                              refine WL.y rfl (Yld.pure tab_ok rfl) ?_
                              refine WL.call rfl rfl (W_pgraph_Graph_Order k144.rd rfl k145 k150 k146.rd rfl k147 k148.rd rfl k149 k151 H) ?_
                              rintro _ w34 ⟨hg29, o, A_o, c_o, rfl, ho, H⟩
                              have hb13 := ho.ge'
                              have k165 := ho.base (fun g hg => Nat.le_trans (size_le gr29) (hb13 g hg))
                              have gr31 := gr_trans gr29 hg29
                              have k166 := k144.grown hg29
                              have k167 := k145.grown hg29
                              have k168 := k146.grown hg29
                              have k169 := k147.grown hg29
                              have k170 := k148.grown hg29
                              have k171 := k149.grown hg29
                              have k172 := k150.g0 hg29
                              have k173 := k151.g0 hg29
                              refine WL.y rfl (Yld.pure tab_ok rfl) ?_
                              refine WL.nil (WX.then_normal ?_)
                              refine WC.seq ?_
                              refine WC.seq ?_
                              refine WC.region ?_
                              refine WL.y rfl (Yld.pure tab_ok rfl) ?_
                              refine WL.y rfl (Yld.pure tab_ok rfl) ?_
                              exact False.elim H
                        · clear hJ2
                          rcases Bool.eq_false_or_eq_true (!(t761 == ((decide ((0 : Int) ≤ i)) && (decide (i < (l.length : Int)))))) with b13 | b13
                          · replace H := H.1 b13
                            refine WJ.no rfl rfl (okb b13) rfl ?_
                            refine WJ.no rfl rfl (okb b13) rfl ?_
                            refine WJ.gun rfl rfl rfl rfl ?_
                            refine WJ.gun rfl rfl rfl rfl ?_
                            refine WJ.gun rfl rfl rfl rfl ?_
                            refine WJ.gun rfl rfl rfl rfl ?_
                            refine WJ.gun rfl rfl rfl rfl ?_
                            refine WJ.gun rfl rfl rfl rfl ?_
                            refine WJ.gun rfl rfl rfl rfl ?_
                            refine WJ.no rfl rfl (okb b13) rfl ?_
                            refine WJ.y rfl rfl (fun w' hw' => Yld.pickT (okb b13) rfl) ?_
                            exact WJ.weaken (by repeat (first | exact Sub.nil | refine Sub.cons rfl ?_)) (hQ _ _ ⟨true, rfl, H, gr27, k123, k124, k125, k126, k127, k128, k129, k130, k131, k132, hB8⟩)
                          · replace H := H.2 b13
                            refine WJ.yw rfl (wants_some rfl rfl (okb b13)) rfl (fun w' hw' => Yld.pure tab_ok rfl) ?_
                            refine WJ.yw rfl (wants_some rfl rfl (okb b13)) rfl (fun w' hw' => Yld.pure tab_ok rfl) ?_
                            rcases Bool.eq_false_or_eq_true ((decide ((0 : Int) ≤ i)) && (decide (i < (l.length : Int)))) with b14 | b14
                            · replace H := H.1 b14
                              refine WJ.yw rfl (wants_some rfl rfl (okb b14)) rfl (fun w' hw' => Yld.bagg (vs := [.int .i64 t760_Tool, .slice A_t760_Args t760_Args.length c_t760_Args, .slice A_t760_Inputs t760_Inputs.length c_t760_Inputs, vs t760_Output]) tab_ok (hw' rfl).1 rfl rfl rfl rfl) ?_
                              refine WJ.yw rfl (wants_some rfl rfl (okb b14)) rfl (fun w' hw' => Yld.pure tab_ok rfl) ?_
                              refine WJ.yw rfl (wants_some rfl rfl (okb b14)) rfl (fun w' hw' => Yld.pure tab_ok rfl) ?_
                              obtain ⟨h3, H⟩ := H
                              refine WJ.yw rfl (wants_some rfl rfl (okb b14)) rfl (fun w' hw' => Yld.iaddrK tab_ok (hl.grown gr27) rfl rfl hr_l.1.symm rfl h3.1 h3.2) ?_
                              obtain ⟨⟨f1, ⟨A_el, n1, c_el⟩, ⟨A_el2, n2, c_el2⟩, f2⟩, eh1, ⟨en1, ⟨en2, hR1⟩, ⟨en3, hR2⟩, en4⟩⟩ := RelD.at hr_l (0, hd0, hd0, []) (0, [], [], []) (j := i.toNat) (Nat.lt_of_lt_of_eq (iltN h3 hr_l.1.symm) hr_l.1)
                              have en1 : f1 = (l.getD i.toNat (0, [], [], [])).1 := en1
                              subst en1
                              have en2 : n1 = ((l.getD i.toNat (0, [], [], [])).2.1).length := en2
                              subst en2
                              have en3 : n2 = ((l.getD i.toNat (0, [], [], [])).2.2.1).length := en3
                              subst en3
                              have en4 : f2 = (l.getD i.toNat (0, [], [], [])).2.2.2 := en4
                              subst en4
                              refine WJ.yw rfl (wants_some rfl rfl (okb b14)) rfl (fun w' hw' => Yld.to (v := .agg ⟨[.int .i64 ((l.getD i.toNat (0, [], [], [])).1), .slice A_el (((l.getD i.toNat (0, [], [], [])).2.1).length) c_el, .slice A_el2 (((l.getD i.toNat (0, [], [], [])).2.2.1).length) c_el2, vs ((l.getD i.toNat (0, [], [], [])).2.2.2)]⟩) (Yld.iloadK (0, hd0, hd0, []) tab_ok (hw' rfl).2 rfl rfl (iltN h3 hr_l.1.symm)) (by rw [eh1]; rfl)) ?_
                              refine WJ.call rfl (wants_some rfl rfl (okb b14)) rfl rfl (W_smithyref_SameAction k131.rd rfl k132.rd rfl (hR1.grown gr27) rfl (hR2.grown gr27) rfl H) (fun v w' h w2 e => DD.keep (⟨(Bl.g0 hB8 (gr_eqv h.1 e)), (RdK.grown (hl.grown gr27) (gr_eqv h.1 e))⟩)) ?_
                              rintro _ w35 ⟨hg30, t98, rfl, H⟩
                              have gr32 := gr_trans gr27 hg30
                              have k174 := k123.grown hg30
                              have k175 := k124.grown hg30
                              have k176 := k125.grown hg30
                              have k177 := k126.grown hg30
                              have k178 := k127.grown hg30
                              have k179 := k128.grown hg30
                              have k180 := k129.g0 hg30
                              have k181 := k130.g0 hg30
                              have k182 := k131.grown hg30
                              have k183 := k132.grown hg30
                              have k184 := hB8.g0 hg30
                              refine WJ.yw rfl (wants_some rfl rfl (okb b14)) rfl (fun w' hw' => Yld.pure tab_ok rfl) ?_
                              refine WJ.yw rfl (wants_some rfl rfl (okb b13)) rfl (fun w' hw' => Yld.pickT (okb b14) rfl) ?_
                              refine WJ.y rfl rfl (fun w' hw' => Yld.pickF (okb b13) rfl) ?_
                              exact WJ.weaken (by repeat (first | exact Sub.nil | refine Sub.cons rfl ?_)) (hQ _ _ ⟨!t98, rfl, H, gr32, k174, k175, k176, k177, k178, k179, k180, k181, k182, k183, k184⟩)
                            · replace H := H.2 b14
                              refine WJ.no rfl rfl (okb b14) rfl ?_
                              refine WJ.no rfl rfl (okb b14) rfl ?_
                              refine WJ.no rfl rfl (okb b14) rfl ?_
                              refine WJ.no rfl rfl (okb b14) rfl ?_
                              refine WJ.no rfl rfl (okb b14) rfl ?_
                              refine WJ.no rfl rfl (okb b14) rfl ?_
                              refine WJ.no rfl rfl (okb b14) rfl ?_
                              refine WJ.yw rfl (wants_some rfl rfl (okb b13)) rfl (fun w' hw' => Yld.pickF (okb b14) rfl) ?_
                              refine WJ.y rfl rfl (fun w' hw' => Yld.pickF (okb b13) rfl) ?_
                              exact WJ.weaken (by repeat (first | exact Sub.nil | refine Sub.cons rfl ?_)) (hQ _ _ ⟨false, rfl, H, gr27, k123, k124, k125, k126, k127, k128, k129, k130, k131, k132, hB8⟩)
                      · clear H
                        rcases Bool.eq_false_or_eq_true (decide ((0 : Int) ≤ i)) with b15 | b15
                        · refine WL.gyes rfl rfl (okb b15) rfl (Yld.pure tab_ok rfl) ?_
                          refine WL.gyes rfl rfl (okb b15) rfl (Yld.pure tab_ok rfl) ?_
                          refine WL.gyes rfl rfl (okb b15) rfl (Yld.pure tab_ok rfl) ?_
                          refine WL.gyes rfl rfl (okb b15) rfl (Yld.pure tab_ok rfl) ?_
                          refine WL.y rfl (Yld.pickT (okb b15) rfl) ?_
                          exact WL.weaken (by repeat (first | exact Sub.nil | refine Sub.cons rfl ?_)) (hQ _ _ ⟨decide (i < (l.length : Int)), rfl, by rw [b15] <;> rfl, rfl⟩)
                        · refine WL.gno rfl rfl (okb b15) rfl ?_
                          refine WL.gno rfl rfl (okb b15) rfl ?_
                          refine WL.gno rfl rfl (okb b15) rfl ?_
                          refine WL.gno rfl rfl (okb b15) rfl ?_
                          refine WL.y rfl (Yld.pickF (okb b15) rfl) ?_
                          exact WL.weaken (by repeat (first | exact Sub.nil | refine Sub.cons rfl ?_)) (hQ _ _ ⟨false, rfl, by rw [b15] <;> rfl, rfl⟩)
                · clear H
                  rcases Bool.eq_false_or_eq_true (!t533) with b16 | b16
                  · refine WL.gno rfl rfl (okb b16) rfl ?_
                    refine WL.gno rfl rfl (okb b16) rfl ?_
                    refine WL.gno rfl rfl (okb b16) rfl ?_
                    refine WL.gno rfl rfl (okb b16) rfl ?_
                    refine WL.gno rfl rfl (okb b16) rfl ?_
                    refine WL.gno rfl rfl (okb b16) rfl ?_
                    refine WL.y rfl (Yld.pickT (okb b16) rfl) ?_
                    exact WL.weaken (by repeat (first | exact Sub.nil | refine Sub.cons rfl ?_)) (hQ _ _ ⟨true, rfl, by first | (rw [b16] <;> rfl) | simp [b16], rfl⟩)
                  · refine WL.gyes rfl rfl (okb b16) rfl (Yld.pure tab_ok rfl) ?_
                    refine WL.gyes rfl rfl (okb b16) rfl (Yld.pnenil Tryz.underlying81 rfl rfl) ?_
                    refine WL.gyes rfl rfl (okb b16) rfl (Yld.pure tab_ok rfl) ?_
                    refine WL.gyes rfl rfl (okb b16) rfl (Yld.bload tab_ok k74 rfl rfl rfl) ?_
                    refine WL.gyes rfl rfl (okb b16) rfl (Yld.pure tab_ok rfl) ?_
                    refine WL.gyes rfl rfl (okb b16) rfl (Yld.bneq Tryz.underlying4 rfl rfl) ?_
                    refine WL.y rfl (Yld.pickF (okb b16) rfl) ?_
                    exact WL.weaken (by repeat (first | exact Sub.nil | refine Sub.cons rfl ?_)) (hQ _ _ ⟨!(true == (decide (t481_Code3 = (0 : Int)))), rfl, by first | (rw [b16] <;> rfl) | simp [b16], rfl⟩)
              · obtain ⟨g_t4802, t480_L2, A_t480_L2, c_t480_L2, hs_t480_L2, t481_Code4, t481_Placed4, t481_Pos4, t481_Filed4, t481_File4, rfl, ht480_L2, hr_t480_L2, ht4802, hge4, dj82, dj83, dj84, H⟩ := hc_
                have hg31 := hg_
                have hb14 := ht480_L2.ge'
                have k185 := ht480_L2.base (fun g hg => Nat.le_trans (size_le gr17) (hb14 g hg))
                have gr33 := gr_trans gr17 hg31
                have k186 := k36.grown hg31
                have k187 := hr_t430_l.grown hg31
                have k188 := k37.grown hg31
                have k189 := hr_t430_before.grown hg31
                have k190 := k38.grown hg31
                have k191 := hr_t430_after.grown hg31
                have k192 := ht4312.grown hg31
                have k193 := ht430_makers.g0 hg31
                have k194 := ht430.g0 hg31
                refine WL.y rfl (Yld.pure tab_ok rfl) ?_
                refine WL.y rfl (Yld.pure tab_ok rfl) ?_
                refine WL.y rfl (Yld.pure tab_ok rfl) ?_
                refine WL.alloc rfl zero86 (fun g5 w37 hB9 hg32 hl5 => ?_)
                have gr34 := gr_trans gr33 hg32
                have k195 := k186.grown hg32
                have k196 := k187.grown hg32
                have k197 := k188.grown hg32
                have k198 := k189.grown hg32
                have k199 := k190.grown hg32
                have k200 := k191.grown hg32
                have k201 := k192.grown hg32
                have k202 := k193.g0 hg32
                have k203 := k194.g0 hg32
                have k204 := k185.grown hg32
                have k205 := hr_t480_L2.grown hg32
                have k206 := ht4802.g0 hg32
                refine WL.y rfl (Yld.pure tab_ok rfl) ?_
                refine WL.storeW (vs := [.int .i64 t481_Code4, .bool t481_Placed4, .int .i64 t481_Pos4, .bool t481_Filed4, vs t481_File4]) tab_ok rfl rfl rfl (all1c rfl (all1c rfl (all1c rfl (all1c rfl (all1c rfl all1n))))) hB9 rfl rfl (fun w38 hB10 hg33 => ?_)
                have gr35 := gr_mod gr34 hg33 (Ge.le (Ge.box hl5) (size_le gr33))
                have k207 := k195.go hg33 (Dj.new k186.lt' (Ge.box hl5))
                have k208 := k196.go hg33 (k187.new (Ge.box hl5))
                have k209 := k197.go hg33 (Dj.new k188.lt' (Ge.box hl5))
                have k210 := k198.go hg33 (k189.new (Ge.box hl5))
                have k211 := k199.go hg33 (Dj.new k190.lt' (Ge.box hl5))
                have k212 := k200.go hg33 (k191.new (Ge.box hl5))
                have k213 := ErrR.go k201 hG gr34 hg33 gr35 hB9 rfl
                have k214 := k202.go hg33 (Dj.new k193.lt' (Ge.box hl5))
                have k215 := k203.go hg33 (Dj.new k194.lt' (Ge.box hl5))
                have k216 := k204.go hg33 (Dj.new k185.lt' (Ge.box hl5))
                have k217 := k205.go hg33 (hr_t480_L2.new (Ge.box hl5))
                have k218 := k206.go hg33 (Dj.new ht4802.lt' (Ge.box hl5))
                refine WL.nil (WX.then_normal ?_)
                refine WC.seq ?_
                refine WC.seq ?_
                refine WC.region ?_
                refine WL.y rfl (Yld.pure tab_ok rfl) ?_
                refine WL.y rfl (Yld.bagg (vs := [.int .i64 t481_Code4, .bool t481_Placed4, .int .i64 t481_Pos4, .bool t481_Filed4, vs t481_File4]) tab_ok hB10 rfl rfl rfl rfl) ?_
                refine WL.call rfl rfl (W_smithysee_Same (hG.grown gr35) hS0 hS1 hS2 hS3 hS4 hS5 hS6 hS7 hS8 hS9 hS10 hS11 hS12 hS13 hS14 hS15 hS16 k213 H) ?_
                rintro _ w39 ⟨hg34, t534, rfl, H⟩
                have gr36 := gr_trans gr35 hg34
                have k219 := k207.grown hg34
                have k220 := k208.grown hg34
                have k221 := k209.grown hg34
                have k222 := k210.grown hg34
                have k223 := k211.grown hg34
                have k224 := k212.grown hg34
                have k225 := k214.g0 hg34
                have k226 := k215.g0 hg34
                have k227 := k216.grown hg34
                have k228 := k217.grown hg34
                have k229 := k218.g0 hg34
                have k230 := hB10.g0 hg34
                refine WL.y rfl (Yld.pure tab_ok rfl) ?_
                refine WL.y rfl (Yld.pure tab_ok rfl) ?_
                refine WL.midF 7 (fun L' w' => ∃ q9 : Bool, L' = [(62, .bool q9), (0, .slice A_l l.length c_l), (1, .slice A_outputs outputs.length c_outputs), (2, vs p), (3, .int .i64 i), (10, .pointer (some ⟨g_t430, 0, none⟩)), (12, .pointer (some ⟨g_t4802, 0, none⟩))] ∧ ((!t534) || (!(true == (decide (t481_Code4 = (0 : Int)))))) = q9 ∧ w39 = w') ?_ (fun hQ => ?_)
                · rintro _ _ ⟨q9, rfl, rfl, rfl⟩
                  refine WL.nil (WX.then_normal ?_)
                  refine WC.cond rfl (fun b17 => ?_) (fun b17 => ?_)
                  · replace H := H.1 (b17)
                    refine WC.seq ?_
                    refine WC.region ?_
                    refine WL.y rfl (Yld.pure tab_ok rfl) ?_
                    refine WL.nil (WX.then_normal ?_)
                    refine WC.ret (WX.then_ret ?_)
                    exact WX.ret1 rfl rfl ⟨gr36, false, rfl, H⟩
                  · replace H := H.2 (b17)
                    refine WC.skip (WX.then_normal ?_)
                    refine WC.seq ?_
                    refine WC.seq ?_
                    refine WC.region ?_
                    refine WL.y rfl (Yld.pure tab_ok rfl) ?_
                    refine WL.y rfl (Yld.pure tab_ok rfl) ?_
                    refine WL.call rfl rfl (W_graph_Only (hG.grown gr36) hS4 hS6 hS9 hS10 hS11 hS100 (hl.grown gr36) rfl (hr_l.grown gr36) (houtputs.grown gr36) rfl H) ?_
                    rintro _ w40 ⟨hg35, t654, A_t654, c_t654, hs_t654, rfl, ht654, hr_t654, H⟩
                    have hb15 := ht654.ge'
                    have k231 := ht654.base (fun g hg => Nat.le_trans (size_le gr36) (hb15 g hg))
                    have gr37 := gr_trans gr36 hg35
                    have k232 := k219.grown hg35
                    have k233 := k220.grown hg35
                    have k234 := k221.grown hg35
                    have k235 := k222.grown hg35
                    have k236 := k223.grown hg35
                    have k237 := k224.grown hg35
                    have k238 := k225.g0 hg35
                    have k239 := k226.g0 hg35
                    have k240 := k227.grown hg35
                    have k241 := k228.grown hg35
                    have k242 := k229.g0 hg35
                    refine WL.y rfl (Yld.pure tab_ok rfl) ?_
                    refine WL.y rfl (Yld.pure tab_ok rfl) ?_
                    refine WL.call rfl rfl (W_smithyref17_Only (hl.grown gr37) rfl (hr_l.grown gr37) (houtputs.grown gr37) rfl H) ?_
                    rintro _ w41 ⟨hg36, t684, A_t684, c_t684, hs_t684, rfl, ht684, hr_t684, H⟩
                    have hb16 := ht684.ge'
                    have k243 := ht684.base (fun g hg => Nat.le_trans (size_le gr37) (hb16 g hg))
                    have gr38 := gr_trans gr37 hg36
                    have k244 := k232.grown hg36
                    have k245 := k233.grown hg36
                    have k246 := k234.grown hg36
                    have k247 := k235.grown hg36
                    have k248 := k236.grown hg36
                    have k249 := k237.grown hg36
                    have k250 := k238.g0 hg36
                    have k251 := k239.g0 hg36
                    have k252 := k240.grown hg36
                    have k253 := k241.grown hg36
                    have k254 := k242.g0 hg36
                    have k255 := k231.grown hg36
                    have k256 := hr_t654.grown hg36
                    refine WL.call rfl rfl (W_smithyref_SameActions k255.rd rfl k256 k243.rd rfl hr_t684 H) ?_
                    rintro _ w42 ⟨hg37, t694, rfl, H⟩
                    have gr39 := gr_trans gr38 hg37
                    have k257 := k244.grown hg37
                    have k258 := k245.grown hg37
                    have k259 := k246.grown hg37
                    have k260 := k247.grown hg37
                    have k261 := k248.grown hg37
                    have k262 := k249.grown hg37
                    have k263 := k250.g0 hg37
                    have k264 := k251.g0 hg37
                    have k265 := k252.grown hg37
                    have k266 := k253.grown hg37
                    have k267 := k254.g0 hg37
                    refine WL.y rfl (Yld.pure tab_ok rfl) ?_
                    refine WL.nil (WX.then_normal ?_)
                    refine WC.cond rfl (fun b18 => ?_) (fun b18 => ?_)
                    · replace H := H.1 (b18)
                      refine WC.seq ?_
                      refine WC.region ?_
                      refine WL.y rfl (Yld.pure tab_ok rfl) ?_
                      refine WL.nil (WX.then_normal ?_)
                      refine WC.ret (WX.then_ret ?_)
                      exact WX.ret1 rfl rfl ⟨gr39, false, rfl, H⟩
                    · replace H := H.2 (b18)
                      refine WC.skip (WX.then_normal ?_)
                      refine WC.seq ?_
                      refine WC.seq ?_
                      refine WC.region ?_
                      refine WL.y rfl (Yld.pure tab_ok rfl) ?_
                      refine WL.y rfl (Yld.peqnil Tryz.underlying81 rfl rfl) ?_
                      refine WL.nil (WX.then_normal ?_)
                      refine WC.cond rfl (fun h => by cases h) (fun _ => ?_)
                      refine WC.skip (WX.then_normal ?_)
                      refine WC.seq ?_
                      refine WC.region ?_
                      refine WL.y rfl (Yld.pure tab_ok rfl) ?_
                      refine WL.y rfl (Yld.pure tab_ok rfl) ?_
                      refine WL.call rfl rfl (W_pgraph_Graph_Action k257.rd rfl k258 k263 k259.rd rfl k260 k261.rd rfl k262 k264 H) ?_
                      rintro _ w43 ⟨hg38, t760_Tool2, t760_Args2, A_t760_Args2, c_t760_Args2, t760_Inputs2, A_t760_Inputs2, c_t760_Inputs2, t760_Output2, t7612, rfl, ht760_Args2, ht760_Inputs2, dj85, H⟩
                      have hb17 := ht760_Args2.ge'
                      have k268 := ht760_Args2.base (fun g hg => Nat.le_trans (size_le gr39) (hb17 g hg))
                      have hb18 := ht760_Inputs2.ge'
                      have k269 := ht760_Inputs2.base (fun g hg => Nat.le_trans (size_le gr39) (hb18 g hg))
                      have gr40 := gr_trans gr39 hg38
                      have k270 := k257.grown hg38
                      have k271 := k258.grown hg38
                      have k272 := k259.grown hg38
                      have k273 := k260.grown hg38
                      have k274 := k261.grown hg38
                      have k275 := k262.grown hg38
                      have k276 := k263.g0 hg38
                      have k277 := k264.g0 hg38
                      have k278 := k265.grown hg38
                      have k279 := k266.grown hg38
                      have k280 := k267.g0 hg38
                      refine WL.y rfl (Yld.pure tab_ok rfl) ?_
                      refine WL.y rfl (Yld.pure tab_ok rfl) ?_
                      refine WL.y rfl (Yld.pure tab_ok rfl) ?_
                      refine WL.alloc rfl zero94 (fun g6 w44 hB11 hg39 hl6 => ?_)
                      have gr41 := gr_trans gr40 hg39
                      have k281 := k270.grown hg39
                      have k282 := k271.grown hg39
                      have k283 := k272.grown hg39
                      have k284 := k273.grown hg39
                      have k285 := k274.grown hg39
                      have k286 := k275.grown hg39
                      have k287 := k276.g0 hg39
                      have k288 := k277.g0 hg39
                      have k289 := k278.grown hg39
                      have k290 := k279.grown hg39
                      have k291 := k280.g0 hg39
                      have k292 := k268.grown hg39
                      have k293 := k269.grown hg39
                      refine WL.storeW (vs := [.int .i64 t760_Tool2, .slice A_t760_Args2 t760_Args2.length c_t760_Args2, .slice A_t760_Inputs2 t760_Inputs2.length c_t760_Inputs2, vs t760_Output2]) tab_ok rfl rfl rfl (all1c rfl (all1c rfl (all1c rfl (all1c rfl all1n)))) hB11 rfl rfl (fun w45 hB12 hg40 => ?_)
                      have gr42 := gr_mod gr41 hg40 (Ge.le (Ge.box hl6) (size_le gr40))
                      have k294 := k281.go hg40 (Dj.new k270.lt' (Ge.box hl6))
                      have k295 := k282.go hg40 (k271.new (Ge.box hl6))
                      have k296 := k283.go hg40 (Dj.new k272.lt' (Ge.box hl6))
                      have k297 := k284.go hg40 (k273.new (Ge.box hl6))
                      have k298 := k285.go hg40 (Dj.new k274.lt' (Ge.box hl6))
                      have k299 := k286.go hg40 (k275.new (Ge.box hl6))
                      have k300 := k287.go hg40 (Dj.new k276.lt' (Ge.box hl6))
                      have k301 := k288.go hg40 (Dj.new k277.lt' (Ge.box hl6))
                      have k302 := k289.go hg40 (Dj.new k278.lt' (Ge.box hl6))
                      have k303 := k290.go hg40 (k279.new (Ge.box hl6))
                      have k304 := k291.go hg40 (Dj.new k280.lt' (Ge.box hl6))
                      have k305 := k292.go hg40 (Dj.new k268.lt' (Ge.box hl6))
                      have k306 := k293.go hg40 (Dj.new k269.lt' (Ge.box hl6))
                      refine WL.y rfl (Yld.pure tab_ok rfl) ?_
                      refine WL.nil (WX.then_normal ?_)
                      refine WC.seq ?_
                      refine WC.region ?_
                      refine WL.y rfl (Yld.pure tab_ok rfl) ?_
                      refine WL.y rfl (Yld.pure tab_ok rfl) ?_
                      refine WL.y rfl (Yld.pure tab_ok rfl) ?_
                      refine WL.midF 5 (fun L' w' => ∃ q10 : Bool, L' = [(86, .bool q10), (0, .slice A_l l.length c_l), (1, .slice A_outputs outputs.length c_outputs), (2, vs p), (3, .int .i64 i), (10, .pointer (some ⟨g_t430, 0, none⟩)), (12, .pointer (some ⟨g_t4802, 0, none⟩)), (14, .pointer (some ⟨g6, 0, none⟩)), (15, .bool t7612)] ∧ ((decide ((0 : Int) ≤ i)) && (decide (i < (l.length : Int)))) = q10 ∧ w45 = w') ?_ (fun hQ => ?_)
                      · rintro _ _ ⟨q10, rfl, rfl, rfl⟩
                        refine WL.y rfl (Yld.pure tab_ok rfl) ?_
                        refine WL.nil (WX.then_normal ?_)
                        refine WC.seq ?_
                        refine WC.seq ?_
                        refine WC.chainF (fun k => !(Nat.beq k 11)) (LD [6, 10] (fun w' => Bl w' g6 94 [.int .i64 t760_Tool2, .slice A_t760_Args2 t760_Args2.length c_t760_Args2, .slice A_t760_Inputs2 t760_Inputs2.length c_t760_Inputs2, vs t760_Output2] ∧ RdK 4 encH94 w' A_l c_l hs_l)) mixed (by kernel_rfl) (fun k w' h _ => ⟨(bl_eqv h hB12), (RdK.eqv h (hl.grown gr42))⟩) ?_
                        refine WJ.y rfl rfl (fun w' hw' => Yld.pure tab_ok rfl) ?_
                        refine WJ.y rfl rfl (fun w' hw' => Yld.pure tab_ok rfl) ?_
                        refine WJ.y rfl rfl (fun w' hw' => Yld.bneq Tryz.underlying4 rfl rfl) ?_
                        refine WJ.y rfl rfl (fun w' hw' => Yld.pure tab_ok rfl) ?_
                        obtain ⟨J3, H, hJ3⟩ := H
                        refine WJ.midF 11 (fun L' w' => ∃ q11 : Bool, L' = [(101, .bool q11), (0, .slice A_l l.length c_l), (1, .slice A_outputs outputs.length c_outputs), (2, vs p), (3, .int .i64 i), (10, .pointer (some ⟨g_t430, 0, none⟩)), (12, .pointer (some ⟨g_t4802, 0, none⟩)), (14, .pointer (some ⟨g6, 0, none⟩))] ∧ J3 q11 ∧ w.grownBy w' none ∧ OwnK 4 encH94 w' w.heap.size 94 A_t430_l c_t430_l hs_t430_l ∧ RelD de94 w' hs_t430_l t430_l ∧ Own vh w' w.heap.size 98 A_t430_before c_t430_before hs_t430_before ∧ RelD de98 w' hs_t430_before t430_before ∧ Own vh w' w.heap.size 98 A_t430_after c_t430_after hs_t430_after ∧ RelD de98 w' hs_t430_after t430_after ∧ MapB vs okS vi w' g_t430_makers t430_makers ∧ Bl w' g_t430 169 [.slice A_t430_l t430_l.length c_t430_l, .map (some g_t430_makers), .slice A_t430_before t430_before.length c_t430_before, .slice A_t430_after t430_after.length c_t430_after] ∧ OwnK 4 encH94 w' w.heap.size 94 A_t480_L2 c_t480_L2 hs_t480_L2 ∧ RelD de94 w' hs_t480_L2 t480_L2 ∧ Bl w' g_t4802 185 [.slice A_t480_L2 t480_L2.length c_t480_L2] ∧ Own vs w' w.heap.size 9 A_t760_Args2 c_t760_Args2 t760_Args2 ∧ Own vs w' w.heap.size 9 A_t760_Inputs2 c_t760_Inputs2 t760_Inputs2 ∧ Bl w' g6 94 [.int .i64 t760_Tool2, .slice A_t760_Args2 t760_Args2.length c_t760_Args2, .slice A_t760_Inputs2 t760_Inputs2.length c_t760_Inputs2, vs t760_Output2]) ?_ (fun hQ => ?_)
                        · clear H
                          rintro _ w46 ⟨q11, rfl, H, gr43, k307, k308, k309, k310, k311, k312, k313, k314, k315, k316, k317, k318, k319, k320⟩
                          replace H := hJ3 q11 H
                          refine WJ.nil (WX.then_normal ?_)
                          refine WC.cond rfl (fun b19 => ?_) (fun b19 => ?_)
                          · replace H := H.1 (b19)
                            refine WC.seq ?_
                            refine WC.region ?_
                            refine WL.y rfl (Yld.pure tab_ok rfl) ?_
                            refine WL.nil (WX.then_normal ?_)
                            refine WC.ret (WX.then_ret ?_)
                            exact WX.ret1 rfl rfl ⟨gr43, false, rfl, H⟩
                          · replace H := H.2 (b19)
                            refine WC.skip (WX.then_normal ?_)
                            refine WC.seq ?_
                            refine WC.seq ?_
                            refine WC.region ?_
                            refine WL.y rfl (Yld.pure tab_ok rfl) ?_
                            refine WL.nil (WX.then_normal ?_)
                            refine WC.block ?_
                            obtain ⟨I2, mu2, h0_2, HR2⟩ := H
                            refine WC.loopF (fun n' L' w' => ∃ (k_2 : Int), ∃ (a22 : List (List UInt8)), ∃ (A_a22 : Option Addr), ∃ (c_a22 : Nat), ∃ (n_a22 : Nat), n' = mu2 k_2 a22 ∧ L' = [(0, .slice A_l l.length c_l), (1, .slice A_outputs outputs.length c_outputs), (2, vs p), (3, .int .i64 i), (10, .pointer (some ⟨g_t430, 0, none⟩)), (12, .pointer (some ⟨g_t4802, 0, none⟩)), (14, .pointer (some ⟨g6, 0, none⟩)), (17, .int .i64 k_2)] ∧ I2 k_2 a22 ∧ n_a22 = a22.length ∧ w.grownBy w' none ∧ OwnK 4 encH94 w' w.heap.size 94 A_t430_l c_t430_l hs_t430_l ∧ RelD de94 w' hs_t430_l t430_l ∧ Own vh w' w.heap.size 98 A_t430_before c_t430_before hs_t430_before ∧ RelD de98 w' hs_t430_before t430_before ∧ Own vh w' w.heap.size 98 A_t430_after c_t430_after hs_t430_after ∧ RelD de98 w' hs_t430_after t430_after ∧ MapB vs okS vi w' g_t430_makers t430_makers ∧ Bl w' g_t430 169 [.slice A_t430_l t430_l.length c_t430_l, .map (some g_t430_makers), .slice A_t430_before t430_before.length c_t430_before, .slice A_t430_after t430_after.length c_t430_after] ∧ OwnK 4 encH94 w' w.heap.size 94 A_t480_L2 c_t480_L2 hs_t480_L2 ∧ RelD de94 w' hs_t480_L2 t480_L2 ∧ Bl w' g_t4802 185 [.slice A_t480_L2 t480_L2.length c_t480_L2] ∧ Own vs w' w.heap.size 9 A_t760_Args2 c_t760_Args2 t760_Args2 ∧ Bl w' g6 94 [.int .i64 t760_Tool2, .slice A_t760_Args2 t760_Args2.length c_t760_Args2, .slice A_a22 n_a22 c_a22, vs t760_Output2] ∧ Own vs w' w.heap.size 9 A_a22 c_a22 a22 ∧ Dj (blk A_t430_l) (blk A_t430_before) ∧ Dj (blk A_t430_l) (blk A_t430_after) ∧ Dj (blk A_t430_l) (some g_t430_makers) ∧ Dj (blk A_t430_l) (some g_t430) ∧ Dj (blk A_t430_l) (blk A_t480_L2) ∧ Dj (blk A_t430_l) (some g_t4802) ∧ Dj (blk A_t430_l) (blk A_t760_Args2) ∧ Dj (blk A_t430_l) (some g6) ∧ Dj (blk A_t430_l) (blk A_a22) ∧ DnD de94 hs_t430_l t430_l (blk A_t430_l) ∧ DnD de94 hs_t430_l t430_l (blk A_t430_before) ∧ DnD de94 hs_t430_l t430_l (blk A_t430_after) ∧ DnD de94 hs_t430_l t430_l (some g_t430_makers) ∧ DnD de94 hs_t430_l t430_l (some g_t430) ∧ DnD de94 hs_t430_l t430_l (blk A_t480_L2) ∧ DnD de94 hs_t430_l t430_l (some g_t4802) ∧ DnD de94 hs_t430_l t430_l (blk A_t760_Args2) ∧ DnD de94 hs_t430_l t430_l (some g6) ∧ DnD de94 hs_t430_l t430_l (blk A_a22) ∧ Dj (blk A_t430_before) (blk A_t430_after) ∧ Dj (blk A_t430_before) (some g_t430) ∧ Dj (blk A_t430_before) (blk A_t480_L2) ∧ Dj (blk A_t430_before) (some g_t4802) ∧ Dj (blk A_t430_before) (blk A_t760_Args2) ∧ Dj (blk A_t430_before) (some g6) ∧ Dj (blk A_t430_before) (blk A_a22) ∧ DnD de98 hs_t430_before t430_before (blk A_t430_l) ∧ DnD de98 hs_t430_before t430_before (blk A_t430_before) ∧ DnD de98 hs_t430_before t430_before (blk A_t430_after) ∧ DnD de98 hs_t430_before t430_before (some g_t430_makers) ∧ DnD de98 hs_t430_before t430_before (some g_t430) ∧ DnD de98 hs_t430_before t430_before (blk A_t480_L2) ∧ DnD de98 hs_t430_before t430_before (some g_t4802) ∧ DnD de98 hs_t430_before t430_before (blk A_t760_Args2) ∧ DnD de98 hs_t430_before t430_before (some g6) ∧ DnD de98 hs_t430_before t430_before (blk A_a22) ∧ Dj (blk A_t430_after) (some g_t430) ∧ Dj (blk A_t430_after) (blk A_t480_L2) ∧ Dj (blk A_t430_after) (some g_t4802) ∧ Dj (blk A_t430_after) (blk A_t760_Args2) ∧ Dj (blk A_t430_after) (some g6) ∧ Dj (blk A_t430_after) (blk A_a22) ∧ DnD de98 hs_t430_after t430_after (blk A_t430_l) ∧ DnD de98 hs_t430_after t430_after (blk A_t430_before) ∧ DnD de98 hs_t430_after t430_after (blk A_t430_after) ∧ DnD de98 hs_t430_after t430_after (some g_t430_makers) ∧ DnD de98 hs_t430_after t430_after (some g_t430) ∧ DnD de98 hs_t430_after t430_after (blk A_t480_L2) ∧ DnD de98 hs_t430_after t430_after (some g_t4802) ∧ DnD de98 hs_t430_after t430_after (blk A_t760_Args2) ∧ DnD de98 hs_t430_after t430_after (some g6) ∧ DnD de98 hs_t430_after t430_after (blk A_a22) ∧ Dj (some g_t430_makers) (blk A_t430_before) ∧ Dj (some g_t430_makers) (blk A_t430_after) ∧ Dj (some g_t430_makers) (some g_t430) ∧ Dj (some g_t430_makers) (blk A_t480_L2) ∧ Dj (some g_t430_makers) (some g_t4802) ∧ Dj (some g_t430_makers) (blk A_t760_Args2) ∧ Dj (some g_t430_makers) (some g6) ∧ Dj (some g_t430_makers) (blk A_a22) ∧ Dj (some g_t430) (blk A_t480_L2) ∧ Dj (some g_t430) (some g_t4802) ∧ Dj (some g_t430) (blk A_t760_Args2) ∧ Dj (some g_t430) (some g6) ∧ Dj (some g_t430) (blk A_a22) ∧ Dj (blk A_t480_L2) (some g_t4802) ∧ Dj (blk A_t480_L2) (blk A_t760_Args2) ∧ Dj (blk A_t480_L2) (some g6) ∧ Dj (blk A_t480_L2) (blk A_a22) ∧ DnD de94 hs_t480_L2 t480_L2 (blk A_t480_L2) ∧ DnD de94 hs_t480_L2 t480_L2 (some g_t4802) ∧ DnD de94 hs_t480_L2 t480_L2 (blk A_t760_Args2) ∧ DnD de94 hs_t480_L2 t480_L2 (some g6) ∧ DnD de94 hs_t480_L2 t480_L2 (blk A_a22) ∧ Dj (some g_t4802) (blk A_t760_Args2) ∧ Dj (some g_t4802) (some g6) ∧ Dj (some g_t4802) (blk A_a22) ∧ Dj (blk A_t760_Args2) (some g6) ∧ Dj (blk A_t760_Args2) (blk A_a22) ∧ Dj (some g6) (blk A_a22)) _ _ ⟨(0 : Int), t760_Inputs2, A_t760_Inputs2, c_t760_Inputs2, t760_Inputs2.length, rfl, rfl, h0_2, rfl, gr43, k307, k308, k309, k310, k311, k312, k313, k314, k315, k316, k317, k318, k320, k319, dj19, dj20, dj21, dj22, (Dj.new k36.lt' hb14), (Dj.new k36.lt' hge4), (Dj.new k257.lt' hb17), (Dj.new k270.lt' (Ge.box hl6)), (Dj.new k257.lt' hb18), dj4, dj5, dj6, dj7, dj8, (hr_t430_l.new hb14), (hr_t430_l.new hge4), (k258.new hb17), (k271.new (Ge.box hl6)), (k258.new hb18), dj23, dj25, (Dj.new k37.lt' hb14), (Dj.new k37.lt' hge4), (Dj.new k259.lt' hb17), (Dj.new k272.lt' (Ge.box hl6)), (Dj.new k259.lt' hb18), dj9, dj10, dj11, dj12, dj13, (hr_t430_before.new hb14), (hr_t430_before.new hge4), (k260.new hb17), (k273.new (Ge.box hl6)), (k260.new hb18), dj27, (Dj.new k38.lt' hb14), (Dj.new k38.lt' hge4), (Dj.new k261.lt' hb17), (Dj.new k274.lt' (Ge.box hl6)), (Dj.new k261.lt' hb18), dj14, dj15, dj16, dj17, dj18, (hr_t430_after.new hb14), (hr_t430_after.new hge4), (k262.new hb17), (k275.new (Ge.box hl6)), (k262.new hb18), dj24.symm, dj26.symm, dj28, (Dj.new ht430_makers.lt' hb14), (Dj.new ht430_makers.lt' hge4), (Dj.new k263.lt' hb17), (Dj.new k276.lt' (Ge.box hl6)), (Dj.new k263.lt' hb18), (Dj.new ht430.lt' hb14), (Dj.new ht430.lt' hge4), (Dj.new k264.lt' hb17), (Dj.new k277.lt' (Ge.box hl6)), (Dj.new k264.lt' hb18), dj84, (Dj.new k265.lt' hb17), (Dj.new k278.lt' (Ge.box hl6)), (Dj.new k265.lt' hb18), dj82, dj83, (k266.new hb17), (k279.new (Ge.box hl6)), (k266.new hb18), (Dj.new k267.lt' hb17), (Dj.new k280.lt' (Ge.box hl6)), (Dj.new k267.lt' hb18), (Dj.new k268.lt' (Ge.box hl6)), dj85, (Dj.new k269.lt' (Ge.box hl6)).symm⟩ (by repeat (first | exact Sub.nil | refine Sub.cons rfl ?_)) ?_
                            clear h0_2
                            rintro _ _ w47 ⟨k_2, a22, A_a22, c_a22, n_a22, rfl, rfl, hI2, rfl, gr44, k321, k322, k323, k324, k325, k326, k327, k328, k329, k330, k331, k332, k333, k334, dj86, dj87, dj88, dj89, dj90, dj91, dj92, dj93, dj94, dj95, dj96, dj97, dj98, dj99, dj100, dj101, dj102, dj103, dj104, dj105, dj106, dj107, dj108, dj109, dj110, dj111, dj112, dj113, dj114, dj115, dj116, dj117, dj118, dj119, dj120, dj121, dj122, dj123, dj124, dj125, dj126, dj127, dj128, dj129, dj130, dj131, dj132, dj133, dj134, dj135, dj136, dj137, dj138, dj139, dj140, dj141, dj142, dj143, dj144, dj145, dj146, dj147, dj148, dj149, dj150, dj151, dj152, dj153, dj154, dj155, dj156, dj157, dj158, dj159, dj160, dj161, dj162, dj163, dj164, dj165⟩
                            have H := HR2 k_2 a22 hI2
                            refine WC.seq ?_
                            refine WC.seq ?_
                            refine WC.region ?_
                            refine WL.y rfl (Yld.pure tab_ok rfl) ?_
                            refine WL.y rfl (Yld.pure tab_ok rfl) ?_
                            refine WL.y rfl (Yld.bload tab_ok k333 rfl rfl rfl) ?_
                            refine WL.y rfl (Yld.pure tab_ok rfl) ?_
                            refine WL.y rfl (Yld.pure tab_ok rfl) ?_
                            refine WL.nil (WX.then_normal ?_)
                            refine WC.cond rfl (fun b20 => ?_) (fun b20 => ?_)
                            · replace H := H.1 (of_decide_eq_true b20)
                              refine WC.skip (WX.then_normal ?_)
                              refine WC.seq ?_
                              refine WC.block ?_
                              refine WC.region ?_
                              refine WL.y rfl (Yld.pure tab_ok rfl) ?_
                              refine WL.y rfl (Yld.bload tab_ok k333 rfl rfl rfl) ?_
                              refine WL.y rfl (Yld.pure tab_ok rfl) ?_
                              obtain ⟨h4, H⟩ := H
                              refine WL.y rfl (Yld.iaddrW tab_ok k334.rd rfl rfl rfl rfl h4.1 h4.2) ?_
                              refine WL.ostore (v := ([122, 122] : List UInt8)) one9 One.s k334 rfl rfl (iltN h4 rfl) (fun w48 hO2 hg41 => ?_)
                              have gr45 := gr_mod gr44 hg41 k334.ge'
                              have k335 := k321.go hg41 dj94
                              have k336 := k322.go hg41 dj104
                              have k337 := k323.go hg41 dj111
                              have k338 := k324.go hg41 dj121
                              have k339 := k325.go hg41 dj127
                              have k340 := k326.go hg41 dj137
                              have k341 := k327.go hg41 dj145
                              have k342 := k328.go hg41 dj150
                              have k343 := k329.go hg41 dj154
                              have k344 := k330.go hg41 dj159
                              have k345 := k331.go hg41 dj162
                              have k346 := k332.go hg41 dj164
                              have k347 := k333.go hg41 dj165
                              refine WL.nil (WX.block_normal (WX.then_normal ?_))
                              refine WC.region ?_
                              refine WL.y rfl (Yld.pure tab_ok rfl) ?_
                              obtain ⟨h5, H⟩ := H
                              refine WL.y rfl (Yld.add rfl rfl h5) ?_
                              refine WL.y rfl (Yld.pure tab_ok rfl) ?_
                              refine WL.nil ?_
                              exact WX.roundF _ ⟨k_2 + (1 : Int), a22.set k_2.toNat ([122, 122] : List UInt8), A_a22, c_a22, a22.length, rfl, rfl, H.1, List.length_set.symm, gr45, k335, k336, k337, k338, k339, k340, k341, k342, k343, k344, k345, k346, k347, hO2, dj86, dj87, dj88, dj89, dj90, dj91, dj92, dj93, dj94, dj95, dj96, dj97, dj98, dj99, dj100, dj101, dj102, dj103, dj104, dj105, dj106, dj107, dj108, dj109, dj110, dj111, dj112, dj113, dj114, dj115, dj116, dj117, dj118, dj119, dj120, dj121, dj122, dj123, dj124, dj125, dj126, dj127, dj128, dj129, dj130, dj131, dj132, dj133, dj134, dj135, dj136, dj137, dj138, dj139, dj140, dj141, dj142, dj143, dj144, dj145, dj146, dj147, dj148, dj149, dj150, dj151, dj152, dj153, dj154, dj155, dj156, dj157, dj158, dj159, dj160, dj161, dj162, dj163, dj164, dj165⟩ (by repeat (first | exact Sub.nil | refine Sub.cons rfl ?_)) H.2
                            · replace H := H.2 (of_decide_eq_false b20)
                              refine WC.exit (WX.then_exit (WX.then_exit (WX.block_same (WX.then_normal ?_))))
                              refine WC.seq ?_
                              refine WC.region ?_
                              refine WL.y rfl (Yld.pure tab_ok rfl) ?_
                              refine WL.call rfl rfl (W_pgraph_Graph_Order k321.rd rfl k322 k327 k323.rd rfl k324 k325.rd rfl k326 k328 H) ?_
                              rintro _ w49 ⟨hg42, o2, A_o2, c_o2, rfl, ho2, H⟩
                              have hb19 := ho2.ge'
                              have k348 := ho2.base (fun g hg => Nat.le_trans (size_le gr44) (hb19 g hg))
                              have gr46 := gr_trans gr44 hg42
                              have k349 := k321.grown hg42
                              have k350 := k322.grown hg42
                              have k351 := k323.grown hg42
                              have k352 := k324.grown hg42
                              have k353 := k325.grown hg42
                              have k354 := k326.grown hg42
                              have k355 := k327.g0 hg42
                              have k356 := k328.g0 hg42
                              have k357 := k329.grown hg42
                              have k358 := k330.grown hg42
                              have k359 := k331.g0 hg42
                              refine WL.y rfl (Yld.pure tab_ok rfl) ?_
                              refine WL.nil (WX.then_normal ?_)
                              refine WC.seq ?_
                              refine WC.seq ?_
                              refine WC.region ?_
                              refine WL.y rfl (Yld.pure tab_ok rfl) ?_
                              refine WL.y rfl (Yld.pure tab_ok rfl) ?_
                              refine WL.call rfl rfl (W_psmithyref17_Graph_Order k357.rd rfl k358 k359 H) ?_
                              rintro _ w50 ⟨hg43, t117, A_t117, c_t117, rfl, ht117, H⟩
                              have hb20 := ht117.ge'
                              have k360 := ht117.base (fun g hg => Nat.le_trans (size_le gr46) (hb20 g hg))
                              have gr47 := gr_trans gr46 hg43
                              have k361 := k349.grown hg43
                              have k362 := k350.grown hg43
                              have k363 := k351.grown hg43
                              have k364 := k352.grown hg43
                              have k365 := k353.grown hg43
                              have k366 := k354.grown hg43
                              have k367 := k355.g0 hg43
                              have k368 := k356.g0 hg43
                              have k369 := k357.grown hg43
                              have k370 := k358.grown hg43
                              have k371 := k359.g0 hg43
                              have k372 := k348.grown hg43
                              refine WL.call rfl rfl (W_smithyref_SameInts k372.rd rfl k360.rd rfl H) ?_
                              rintro _ _ ⟨rfl, t118, rfl, H⟩
                              refine WL.y rfl (Yld.pure tab_ok rfl) ?_
                              refine WL.nil (WX.then_normal ?_)
                              refine WC.cond rfl (fun b21 => ?_) (fun b21 => ?_)
                              · replace H := H.1 (b21)
                                refine WC.seq ?_
                                refine WC.region ?_
                                refine WL.y rfl (Yld.pure tab_ok rfl) ?_
                                refine WL.nil (WX.then_normal ?_)
                                refine WC.ret (WX.then_ret ?_)
                                exact WX.ret1 rfl rfl ⟨gr47, false, rfl, H⟩
                              · replace H := H.2 (b21)
                                refine WC.skip (WX.then_normal ?_)
                                refine WC.seq ?_
                                refine WC.seq ?_
                                refine WC.region ?_
                                refine WL.y rfl (Yld.pure tab_ok rfl) ?_
                                refine WL.nil (WX.then_normal ?_)
                                refine WC.block ?_
                                obtain ⟨I3, mu3, h0_3, HR3⟩ := H
                                refine WC.loopF (fun n' L' w' => ∃ (k_3 : Int), ∃ (o3 : List Int), n' = mu3 k_3 o3 ∧ L' = [(0, .slice A_l l.length c_l), (1, .slice A_outputs outputs.length c_outputs), (2, vs p), (3, .int .i64 i), (10, .pointer (some ⟨g_t430, 0, none⟩)), (12, .pointer (some ⟨g_t4802, 0, none⟩)), (18, .slice A_o2 o2.length c_o2), (19, .int .i64 k_3)] ∧ I3 k_3 o3 ∧ o2.length = o3.length ∧ w.grownBy w' none ∧ OwnK 4 encH94 w' w.heap.size 94 A_t430_l c_t430_l hs_t430_l ∧ RelD de94 w' hs_t430_l t430_l ∧ Own vh w' w.heap.size 98 A_t430_before c_t430_before hs_t430_before ∧ RelD de98 w' hs_t430_before t430_before ∧ Own vh w' w.heap.size 98 A_t430_after c_t430_after hs_t430_after ∧ RelD de98 w' hs_t430_after t430_after ∧ MapB vs okS vi w' g_t430_makers t430_makers ∧ Bl w' g_t430 169 [.slice A_t430_l t430_l.length c_t430_l, .map (some g_t430_makers), .slice A_t430_before t430_before.length c_t430_before, .slice A_t430_after t430_after.length c_t430_after] ∧ OwnK 4 encH94 w' w.heap.size 94 A_t480_L2 c_t480_L2 hs_t480_L2 ∧ RelD de94 w' hs_t480_L2 t480_L2 ∧ Bl w' g_t4802 185 [.slice A_t480_L2 t480_L2.length c_t480_L2] ∧ Own vi w' w.heap.size 3 A_o2 c_o2 o3 ∧ Dj (blk A_t430_l) (blk A_t430_before) ∧ Dj (blk A_t430_l) (blk A_t430_after) ∧ Dj (blk A_t430_l) (some g_t430_makers) ∧ Dj (blk A_t430_l) (some g_t430) ∧ Dj (blk A_t430_l) (blk A_t480_L2) ∧ Dj (blk A_t430_l) (some g_t4802) ∧ Dj (blk A_t430_l) (blk A_o2) ∧ DnD de94 hs_t430_l t430_l (blk A_t430_l) ∧ DnD de94 hs_t430_l t430_l (blk A_t430_before) ∧ DnD de94 hs_t430_l t430_l (blk A_t430_after) ∧ DnD de94 hs_t430_l t430_l (some g_t430_makers) ∧ DnD de94 hs_t430_l t430_l (some g_t430) ∧ DnD de94 hs_t430_l t430_l (blk A_t480_L2) ∧ DnD de94 hs_t430_l t430_l (some g_t4802) ∧ DnD de94 hs_t430_l t430_l (blk A_o2) ∧ Dj (blk A_t430_before) (blk A_t430_after) ∧ Dj (blk A_t430_before) (some g_t430) ∧ Dj (blk A_t430_before) (blk A_t480_L2) ∧ Dj (blk A_t430_before) (some g_t4802) ∧ Dj (blk A_t430_before) (blk A_o2) ∧ DnD de98 hs_t430_before t430_before (blk A_t430_l) ∧ DnD de98 hs_t430_before t430_before (blk A_t430_before) ∧ DnD de98 hs_t430_before t430_before (blk A_t430_after) ∧ DnD de98 hs_t430_before t430_before (some g_t430_makers) ∧ DnD de98 hs_t430_before t430_before (some g_t430) ∧ DnD de98 hs_t430_before t430_before (blk A_t480_L2) ∧ DnD de98 hs_t430_before t430_before (some g_t4802) ∧ DnD de98 hs_t430_before t430_before (blk A_o2) ∧ Dj (blk A_t430_after) (some g_t430) ∧ Dj (blk A_t430_after) (blk A_t480_L2) ∧ Dj (blk A_t430_after) (some g_t4802) ∧ Dj (blk A_t430_after) (blk A_o2) ∧ DnD de98 hs_t430_after t430_after (blk A_t430_l) ∧ DnD de98 hs_t430_after t430_after (blk A_t430_before) ∧ DnD de98 hs_t430_after t430_after (blk A_t430_after) ∧ DnD de98 hs_t430_after t430_after (some g_t430_makers) ∧ DnD de98 hs_t430_after t430_after (some g_t430) ∧ DnD de98 hs_t430_after t430_after (blk A_t480_L2) ∧ DnD de98 hs_t430_after t430_after (some g_t4802) ∧ DnD de98 hs_t430_after t430_after (blk A_o2) ∧ Dj (some g_t430_makers) (blk A_t430_before) ∧ Dj (some g_t430_makers) (blk A_t430_after) ∧ Dj (some g_t430_makers) (some g_t430) ∧ Dj (some g_t430_makers) (blk A_t480_L2) ∧ Dj (some g_t430_makers) (some g_t4802) ∧ Dj (some g_t430_makers) (blk A_o2) ∧ Dj (some g_t430) (blk A_t480_L2) ∧ Dj (some g_t430) (some g_t4802) ∧ Dj (some g_t430) (blk A_o2) ∧ Dj (blk A_t480_L2) (some g_t4802) ∧ Dj (blk A_t480_L2) (blk A_o2) ∧ DnD de94 hs_t480_L2 t480_L2 (blk A_t480_L2) ∧ DnD de94 hs_t480_L2 t480_L2 (some g_t4802) ∧ DnD de94 hs_t480_L2 t480_L2 (blk A_o2) ∧ Dj (some g_t4802) (blk A_o2)) _ _ ⟨(0 : Int), o2, rfl, rfl, h0_3, rfl, gr47, k361, k362, k363, k364, k365, k366, k367, k368, k369, k370, k371, k372, dj86, dj87, dj88, dj89, dj90, dj91, (Dj.new k321.lt' hb19), dj95, dj96, dj97, dj98, dj99, dj100, dj101, (k322.new hb19), dj105, dj106, dj107, dj108, (Dj.new k323.lt' hb19), dj112, dj113, dj114, dj115, dj116, dj117, dj118, (k324.new hb19), dj122, dj123, dj124, (Dj.new k325.lt' hb19), dj128, dj129, dj130, dj131, dj132, dj133, dj134, (k326.new hb19), dj138, dj139, dj140, dj141, dj142, (Dj.new k327.lt' hb19), dj146, dj147, (Dj.new k328.lt' hb19), dj151, (Dj.new k329.lt' hb19), dj155, dj156, (k330.new hb19), (Dj.new k331.lt' hb19)⟩ (by repeat (first | exact Sub.nil | refine Sub.cons rfl ?_)) ?_
                                clear h0_3
                                rintro _ _ w51 ⟨k_3, o3, rfl, rfl, hI3, hn_o3, gr48, k373, k374, k375, k376, k377, k378, k379, k380, k381, k382, k383, k384, dj166, dj167, dj168, dj169, dj170, dj171, dj172, dj173, dj174, dj175, dj176, dj177, dj178, dj179, dj180, dj181, dj182, dj183, dj184, dj185, dj186, dj187, dj188, dj189, dj190, dj191, dj192, dj193, dj194, dj195, dj196, dj197, dj198, dj199, dj200, dj201, dj202, dj203, dj204, dj205, dj206, dj207, dj208, dj209, dj210, dj211, dj212, dj213, dj214, dj215, dj216, dj217, dj218, dj219, dj220⟩
                                have H := HR3 k_3 o3 hI3
                                replace H := H hn_o3
                                refine WC.seq ?_
                                refine WC.seq ?_
                                refine WC.region ?_
                                refine WL.y rfl (Yld.pure tab_ok rfl) ?_
                                refine WL.y rfl (Yld.pure tab_ok rfl) ?_
                                refine WL.y rfl (Yld.pure tab_ok rfl) ?_
                                refine WL.y rfl (Yld.pure tab_ok rfl) ?_
                                refine WL.nil (WX.then_normal ?_)
                                refine WC.cond rfl (fun b22 => ?_) (fun b22 => ?_)
                                · replace H := H.1 (of_decide_eq_true b22)
                                  refine WC.skip (WX.then_normal ?_)
                                  refine WC.seq ?_
                                  refine WC.block ?_
                                  refine WC.region ?_
                                  refine WL.y rfl (Yld.pure tab_ok rfl) ?_
                                  refine WL.y rfl (Yld.pure tab_ok rfl) ?_
                                  obtain ⟨h6, H⟩ := H
                                  refine WL.y rfl (Yld.iaddrW tab_ok k384.rd rfl rfl hn_o3 rfl h6.1 h6.2) ?_
                                  refine WL.ostore (v := (-1 : Int)) one3 One.i k384 rfl rfl (iltN h6 hn_o3) (fun w52 hO3 hg44 => ?_)
                                  have gr49 := gr_mod gr48 hg44 k384.ge'
                                  have k385 := k373.go hg44 dj172
                                  have k386 := k374.go hg44 dj180
                                  have k387 := k375.go hg44 dj185
                                  have k388 := k376.go hg44 dj193
                                  have k389 := k377.go hg44 dj197
                                  have k390 := k378.go hg44 dj205
                                  have k391 := k379.go hg44 dj211
                                  have k392 := k380.go hg44 dj214
                                  have k393 := k381.go hg44 dj216
                                  have k394 := k382.go hg44 dj219
                                  have k395 := k383.go hg44 dj220
                                  refine WL.nil (WX.block_normal (WX.then_normal ?_))
                                  refine WC.region ?_
                                  refine WL.y rfl (Yld.pure tab_ok rfl) ?_
                                  obtain ⟨h7, H⟩ := H
                                  refine WL.y rfl (Yld.add rfl rfl h7) ?_
                                  refine WL.y rfl (Yld.pure tab_ok rfl) ?_
                                  refine WL.nil ?_
                                  exact WX.roundF _ ⟨k_3 + (1 : Int), o3.set k_3.toNat (-1 : Int), rfl, rfl, H.1, (hn_o3.trans List.length_set.symm), gr49, k385, k386, k387, k388, k389, k390, k391, k392, k393, k394, k395, hO3, dj166, dj167, dj168, dj169, dj170, dj171, dj172, dj173, dj174, dj175, dj176, dj177, dj178, dj179, dj180, dj181, dj182, dj183, dj184, dj185, dj186, dj187, dj188, dj189, dj190, dj191, dj192, dj193, dj194, dj195, dj196, dj197, dj198, dj199, dj200, dj201, dj202, dj203, dj204, dj205, dj206, dj207, dj208, dj209, dj210, dj211, dj212, dj213, dj214, dj215, dj216, dj217, dj218, dj219, dj220⟩ (by repeat (first | exact Sub.nil | refine Sub.cons rfl ?_)) H.2
                                · replace H := H.2 (of_decide_eq_false b22)
                                  refine WC.exit (WX.then_exit (WX.then_exit (WX.block_same (WX.then_normal ?_))))
                                  refine WC.seq ?_
                                  refine WC.region ?_
                                  refine WL.y rfl (Yld.pure tab_ok rfl) ?_
                                  refine WL.call rfl rfl (W_pgraph_Graph_Len k373.rd rfl k374 k379 k375.rd rfl k376 k377.rd rfl k378 k380 H) ?_
                                  rintro _ _ ⟨rfl, t130, rfl, H⟩
                                  refine WL.y rfl (Yld.pure tab_ok rfl) ?_
                                  refine WL.y rfl (Yld.pure tab_ok rfl) ?_
                                  refine WL.y rfl (Yld.pure tab_ok rfl) ?_
                                  refine WL.y rfl (Yld.pure tab_ok rfl) ?_
                                  obtain ⟨J4, H, hJ4⟩ := H
                                  refine WL.midF 8 (fun L' w' => ∃ q12 : Bool, L' = [(142, .bool q12), (1, .slice A_outputs outputs.length c_outputs), (3, .int .i64 i), (10, .pointer (some ⟨g_t430, 0, none⟩)), (12, .pointer (some ⟨g_t4802, 0, none⟩))] ∧ J4 q12 ∧ w51 = w') ?_ (fun hQ => ?_)
                                  · clear H
                                    rintro _ _ ⟨q12, rfl, H, rfl⟩
                                    replace H := hJ4 q12 H
                                    refine WL.y rfl (Yld.pure tab_ok rfl) ?_
                                    obtain ⟨J5, H, hJ5⟩ := H
                                    refine WL.midF 8 (fun L' w' => ∃ q13 : Bool, L' = [(151, .bool q13), (1, .slice A_outputs outputs.length c_outputs), (3, .int .i64 i), (10, .pointer (some ⟨g_t430, 0, none⟩)), (12, .pointer (some ⟨g_t4802, 0, none⟩))] ∧ J5 q13 ∧ w.grownBy w' none ∧ OwnK 4 encH94 w' w.heap.size 94 A_t430_l c_t430_l hs_t430_l ∧ RelD de94 w' hs_t430_l t430_l ∧ Own vh w' w.heap.size 98 A_t430_before c_t430_before hs_t430_before ∧ RelD de98 w' hs_t430_before t430_before ∧ Own vh w' w.heap.size 98 A_t430_after c_t430_after hs_t430_after ∧ RelD de98 w' hs_t430_after t430_after ∧ MapB vs okS vi w' g_t430_makers t430_makers ∧ Bl w' g_t430 169 [.slice A_t430_l t430_l.length c_t430_l, .map (some g_t430_makers), .slice A_t430_before t430_before.length c_t430_before, .slice A_t430_after t430_after.length c_t430_after] ∧ OwnK 4 encH94 w' w.heap.size 94 A_t480_L2 c_t480_L2 hs_t480_L2 ∧ RelD de94 w' hs_t480_L2 t480_L2 ∧ Bl w' g_t4802 185 [.slice A_t480_L2 t480_L2.length c_t480_L2]) ?_ (fun hQ => ?_)
                                    · clear H
                                      rintro _ w53 ⟨q13, rfl, H, gr50, k396, k397, k398, k399, k400, k401, k402, k403, k404, k405, k406⟩
                                      replace H := hJ5 q13 H
                                      refine WL.y rfl (Yld.pure tab_ok rfl) ?_
                                      obtain ⟨J6, H, hJ6⟩ := H
                                      refine WL.midF 8 (fun L' w' => ∃ q14 : Bool, L' = [(160, .bool q14), (1, .slice A_outputs outputs.length c_outputs), (10, .pointer (some ⟨g_t430, 0, none⟩)), (12, .pointer (some ⟨g_t4802, 0, none⟩))] ∧ J6 q14 ∧ w.grownBy w' none ∧ OwnK 4 encH94 w' w.heap.size 94 A_t430_l c_t430_l hs_t430_l ∧ RelD de94 w' hs_t430_l t430_l ∧ Own vh w' w.heap.size 98 A_t430_before c_t430_before hs_t430_before ∧ RelD de98 w' hs_t430_before t430_before ∧ Own vh w' w.heap.size 98 A_t430_after c_t430_after hs_t430_after ∧ RelD de98 w' hs_t430_after t430_after ∧ MapB vs okS vi w' g_t430_makers t430_makers ∧ Bl w' g_t430 169 [.slice A_t430_l t430_l.length c_t430_l, .map (some g_t430_makers), .slice A_t430_before t430_before.length c_t430_before, .slice A_t430_after t430_after.length c_t430_after] ∧ OwnK 4 encH94 w' w.heap.size 94 A_t480_L2 c_t480_L2 hs_t480_L2 ∧ RelD de94 w' hs_t480_L2 t480_L2 ∧ Bl w' g_t4802 185 [.slice A_t480_L2 t480_L2.length c_t480_L2]) ?_ (fun hQ => ?_)
                                      · clear H
                                        rintro _ w54 ⟨q14, rfl, H, gr51, k407, k408, k409, k410, k411, k412, k413, k414, k415, k416, k417⟩
                                        replace H := hJ6 q14 H
                                        refine WL.y rfl (Yld.pure tab_ok rfl) ?_
                                        obtain ⟨J7, H, hJ7⟩ := H
                                        refine WL.midF 6 (fun L' w' => ∃ q15 : Bool, L' = [(167, .bool q15), (1, .slice A_outputs outputs.length c_outputs), (10, .pointer (some ⟨g_t430, 0, none⟩)), (12, .pointer (some ⟨g_t4802, 0, none⟩))] ∧ J7 q15 ∧ w.grownBy w' none ∧ OwnK 4 encH94 w' w.heap.size 94 A_t430_l c_t430_l hs_t430_l ∧ RelD de94 w' hs_t430_l t430_l ∧ Own vh w' w.heap.size 98 A_t430_before c_t430_before hs_t430_before ∧ RelD de98 w' hs_t430_before t430_before ∧ Own vh w' w.heap.size 98 A_t430_after c_t430_after hs_t430_after ∧ RelD de98 w' hs_t430_after t430_after ∧ MapB vs okS vi w' g_t430_makers t430_makers ∧ Bl w' g_t430 169 [.slice A_t430_l t430_l.length c_t430_l, .map (some g_t430_makers), .slice A_t430_before t430_before.length c_t430_before, .slice A_t430_after t430_after.length c_t430_after] ∧ OwnK 4 encH94 w' w.heap.size 94 A_t480_L2 c_t480_L2 hs_t480_L2 ∧ RelD de94 w' hs_t480_L2 t480_L2 ∧ Bl w' g_t4802 185 [.slice A_t480_L2 t480_L2.length c_t480_L2]) ?_ (fun hQ => ?_)
                                        · clear H
                                          rintro _ w55 ⟨q15, rfl, H, gr52, k418, k419, k420, k421, k422, k423, k424, k425, k426, k427, k428⟩
                                          replace H := hJ7 q15 H
                                          refine WL.y rfl (Yld.pure tab_ok rfl) ?_
                                          obtain ⟨J8, H, hJ8⟩ := H
                                          refine WL.midF 8 (fun L' w' => ∃ q16 : Bool, L' = [(176, .bool q16), (10, .pointer (some ⟨g_t430, 0, none⟩)), (12, .pointer (some ⟨g_t4802, 0, none⟩))] ∧ J8 q16 ∧ w.grownBy w' none ∧ OwnK 4 encH94 w' w.heap.size 94 A_t430_l c_t430_l hs_t430_l ∧ RelD de94 w' hs_t430_l t430_l ∧ Own vh w' w.heap.size 98 A_t430_before c_t430_before hs_t430_before ∧ RelD de98 w' hs_t430_before t430_before ∧ Own vh w' w.heap.size 98 A_t430_after c_t430_after hs_t430_after ∧ RelD de98 w' hs_t430_after t430_after ∧ MapB vs okS vi w' g_t430_makers t430_makers ∧ Bl w' g_t430 169 [.slice A_t430_l t430_l.length c_t430_l, .map (some g_t430_makers), .slice A_t430_before t430_before.length c_t430_before, .slice A_t430_after t430_after.length c_t430_after] ∧ OwnK 4 encH94 w' w.heap.size 94 A_t480_L2 c_t480_L2 hs_t480_L2 ∧ RelD de94 w' hs_t480_L2 t480_L2 ∧ Bl w' g_t4802 185 [.slice A_t480_L2 t480_L2.length c_t480_L2]) ?_ (fun hQ => ?_)
                                          · clear H
                                            rintro _ w56 ⟨q16, rfl, H, gr53, k429, k430, k431, k432, k433, k434, k435, k436, k437, k438, k439⟩
                                            replace H := hJ8 q16 H
                                            refine WL.y rfl (Yld.pure tab_ok rfl) ?_
                                            obtain ⟨J9, H, hJ9⟩ := H
                                            refine WL.midF 6 (fun L' w' => ∃ q17 : Bool, L' = [(183, .bool q17)] ∧ J9 q17 ∧ w.grownBy w' none) ?_ (fun hQ => ?_)
                                            · clear H
                                              rintro _ w57 ⟨q17, rfl, H, gr54⟩
                                              replace H := hJ9 q17 H
                                              refine WL.y rfl (Yld.pure tab_ok rfl) ?_
                                              refine WL.nil (WX.then_normal ?_)
                                              refine WC.ret ?_
                                              exact WX.ret1 rfl rfl ⟨gr54, q17, rfl, H⟩
                                            · clear hJ9
                                              rcases Bool.eq_false_or_eq_true (q16) with b23 | b23
                                              · replace H := H.1 b23
                                                refine WL.gyes rfl rfl (okb b23) rfl (Yld.pure tab_ok rfl) ?_
                                                refine WL.callw (wants_some rfl rfl (okb b23)) rfl rfl (W_pgraph_Graph_Sources k429.rd rfl k430 k435 k431.rd rfl k432 k433.rd rfl k434 k436 H) ?_
                                                rintro _ w58 ⟨hg45, t179, A_t179, c_t179, rfl, ht179, H⟩
                                                have hb21 := ht179.ge'
                                                have k440 := ht179.base (fun g hg => Nat.le_trans (size_le gr53) (hb21 g hg))
                                                have gr55 := gr_trans gr53 hg45
                                                have k441 := k429.grown hg45
                                                have k442 := k430.grown hg45
                                                have k443 := k431.grown hg45
                                                have k444 := k432.grown hg45
                                                have k445 := k433.grown hg45
                                                have k446 := k434.grown hg45
                                                have k447 := k435.g0 hg45
                                                have k448 := k436.g0 hg45
                                                have k449 := k437.grown hg45
                                                have k450 := k438.grown hg45
                                                have k451 := k439.g0 hg45
                                                refine WL.gyes rfl rfl (okb b23) rfl (Yld.pure tab_ok rfl) ?_
                                                refine WL.callw (wants_some rfl rfl (okb b23)) rfl rfl (W_psmithyref17_Graph_Sources k449.rd rfl k450 k451 H) ?_
                                                rintro _ w59 ⟨hg46, t181, A_t181, c_t181, rfl, ht181, H⟩
                                                have hb22 := ht181.ge'
                                                have k452 := ht181.base (fun g hg => Nat.le_trans (size_le gr55) (hb22 g hg))
                                                have gr56 := gr_trans gr55 hg46
                                                have k453 := k449.grown hg46
                                                have k454 := k450.grown hg46
                                                have k455 := k451.g0 hg46
                                                have k456 := k440.grown hg46
                                                refine WL.callw (wants_some rfl rfl (okb b23)) rfl rfl (W_smithyref_SameTexts k456.rd rfl k452.rd rfl H) ?_
                                                rintro _ _ ⟨rfl, t182, rfl, H⟩
                                                refine WL.y rfl (Yld.pickT (okb b23) rfl) ?_
                                                exact WL.weaken (by repeat (first | exact Sub.nil | refine Sub.cons rfl ?_)) (hQ _ _ ⟨t182, rfl, H, gr56⟩)
                                              · replace H := H.2 b23
                                                refine WL.gno rfl rfl (okb b23) rfl ?_
                                                refine WL.gno rfl rfl (okb b23) rfl ?_
                                                refine WL.gno rfl rfl (okb b23) rfl ?_
                                                refine WL.gno rfl rfl (okb b23) rfl ?_
                                                refine WL.gno rfl rfl (okb b23) rfl ?_
                                                refine WL.y rfl (Yld.pickF (okb b23) rfl) ?_
                                                exact WL.weaken (by repeat (first | exact Sub.nil | refine Sub.cons rfl ?_)) (hQ _ _ ⟨false, rfl, H, gr53⟩)
                                          · clear hJ8
                                            rcases Bool.eq_false_or_eq_true (q15) with b24 | b24
                                            · replace H := H.1 b24
                                              refine WL.gyes rfl rfl (okb b24) rfl (Yld.pure tab_ok rfl) ?_
                                              refine WL.gyes rfl rfl (okb b24) rfl (Yld.pure tab_ok rfl) ?_
                                              refine WL.callw (wants_some rfl rfl (okb b24)) rfl rfl (W_pgraph_Graph_Needs k418.rd rfl k419 k424 k420.rd rfl k421 k422.rd rfl k423 k425 (houtputs.grown gr52) rfl H) ?_
                                              rintro _ w60 ⟨hg47, t171, A_t171, c_t171, rfl, ht171, H⟩
                                              have hb23 := ht171.ge'
                                              have k457 := ht171.base (fun g hg => Nat.le_trans (size_le gr52) (hb23 g hg))
                                              have gr57 := gr_trans gr52 hg47
                                              have k458 := k418.grown hg47
                                              have k459 := k419.grown hg47
                                              have k460 := k420.grown hg47
                                              have k461 := k421.grown hg47
                                              have k462 := k422.grown hg47
                                              have k463 := k423.grown hg47
                                              have k464 := k424.g0 hg47
                                              have k465 := k425.g0 hg47
                                              have k466 := k426.grown hg47
                                              have k467 := k427.grown hg47
                                              have k468 := k428.g0 hg47
                                              refine WL.gyes rfl rfl (okb b24) rfl (Yld.pure tab_ok rfl) ?_
                                              refine WL.gyes rfl rfl (okb b24) rfl (Yld.pure tab_ok rfl) ?_
                                              refine WL.callw (wants_some rfl rfl (okb b24)) rfl rfl (W_psmithyref17_Graph_Needs k466.rd rfl k467 k468 (houtputs.grown gr57) rfl H) ?_
                                              rintro _ w61 ⟨hg48, t174, A_t174, c_t174, rfl, ht174, H⟩
                                              have hb24 := ht174.ge'
                                              have k469 := ht174.base (fun g hg => Nat.le_trans (size_le gr57) (hb24 g hg))
                                              have gr58 := gr_trans gr57 hg48
                                              have k470 := k458.grown hg48
                                              have k471 := k459.grown hg48
                                              have k472 := k460.grown hg48
                                              have k473 := k461.grown hg48
                                              have k474 := k462.grown hg48
                                              have k475 := k463.grown hg48
                                              have k476 := k464.g0 hg48
                                              have k477 := k465.g0 hg48
                                              have k478 := k466.grown hg48
                                              have k479 := k467.grown hg48
                                              have k480 := k468.g0 hg48
                                              have k481 := k457.grown hg48
                                              refine WL.callw (wants_some rfl rfl (okb b24)) rfl rfl (W_smithyref_SameInts k481.rd rfl k469.rd rfl H) ?_
                                              rintro _ _ ⟨rfl, t175, rfl, H⟩
                                              refine WL.y rfl (Yld.pickT (okb b24) rfl) ?_
                                              exact WL.weaken (by repeat (first | exact Sub.nil | refine Sub.cons rfl ?_)) (hQ _ _ ⟨t175, rfl, H, gr58, k470, k471, k472, k473, k474, k475, k476, k477, k478, k479, k480⟩)
                                            · replace H := H.2 b24
                                              refine WL.gno rfl rfl (okb b24) rfl ?_
                                              refine WL.gno rfl rfl (okb b24) rfl ?_
                                              refine WL.gno rfl rfl (okb b24) rfl ?_
                                              refine WL.gno rfl rfl (okb b24) rfl ?_
                                              refine WL.gno rfl rfl (okb b24) rfl ?_
                                              refine WL.gno rfl rfl (okb b24) rfl ?_
                                              refine WL.gno rfl rfl (okb b24) rfl ?_
                                              refine WL.y rfl (Yld.pickF (okb b24) rfl) ?_
                                              exact WL.weaken (by repeat (first | exact Sub.nil | refine Sub.cons rfl ?_)) (hQ _ _ ⟨false, rfl, H, gr52, k418, k419, k420, k421, k422, k423, k424, k425, k426, k427, k428⟩)
                                        · clear hJ7
                                          rcases Bool.eq_false_or_eq_true (q14) with b25 | b25
                                          · replace H := H.1 b25
                                            refine WL.gyes rfl rfl (okb b25) rfl (Yld.pure tab_ok rfl) ?_
                                            refine WL.callw (wants_some rfl rfl (okb b25)) rfl rfl (W_pgraph_Graph_Order k407.rd rfl k408 k413 k409.rd rfl k410 k411.rd rfl k412 k414 H) ?_
                                            rintro _ w62 ⟨hg49, t163, A_t163, c_t163, rfl, ht163, H⟩
                                            have hb25 := ht163.ge'
                                            have k482 := ht163.base (fun g hg => Nat.le_trans (size_le gr51) (hb25 g hg))
                                            have gr59 := gr_trans gr51 hg49
                                            have k483 := k407.grown hg49
                                            have k484 := k408.grown hg49
                                            have k485 := k409.grown hg49
                                            have k486 := k410.grown hg49
                                            have k487 := k411.grown hg49
                                            have k488 := k412.grown hg49
                                            have k489 := k413.g0 hg49
                                            have k490 := k414.g0 hg49
                                            have k491 := k415.grown hg49
                                            have k492 := k416.grown hg49
                                            have k493 := k417.g0 hg49
                                            refine WL.gyes rfl rfl (okb b25) rfl (Yld.pure tab_ok rfl) ?_
                                            refine WL.callw (wants_some rfl rfl (okb b25)) rfl rfl (W_psmithyref17_Graph_Order k491.rd rfl k492 k493 H) ?_
                                            rintro _ w63 ⟨hg50, t165, A_t165, c_t165, rfl, ht165, H⟩
                                            have hb26 := ht165.ge'
                                            have k494 := ht165.base (fun g hg => Nat.le_trans (size_le gr59) (hb26 g hg))
                                            have gr60 := gr_trans gr59 hg50
                                            have k495 := k483.grown hg50
                                            have k496 := k484.grown hg50
                                            have k497 := k485.grown hg50
                                            have k498 := k486.grown hg50
                                            have k499 := k487.grown hg50
                                            have k500 := k488.grown hg50
                                            have k501 := k489.g0 hg50
                                            have k502 := k490.g0 hg50
                                            have k503 := k491.grown hg50
                                            have k504 := k492.grown hg50
                                            have k505 := k493.g0 hg50
                                            have k506 := k482.grown hg50
                                            refine WL.callw (wants_some rfl rfl (okb b25)) rfl rfl (W_smithyref_SameInts k506.rd rfl k494.rd rfl H) ?_
                                            rintro _ _ ⟨rfl, t166, rfl, H⟩
                                            refine WL.y rfl (Yld.pickT (okb b25) rfl) ?_
                                            exact WL.weaken (by repeat (first | exact Sub.nil | refine Sub.cons rfl ?_)) (hQ _ _ ⟨t166, rfl, H, gr60, k495, k496, k497, k498, k499, k500, k501, k502, k503, k504, k505⟩)
                                          · replace H := H.2 b25
                                            refine WL.gno rfl rfl (okb b25) rfl ?_
                                            refine WL.gno rfl rfl (okb b25) rfl ?_
                                            refine WL.gno rfl rfl (okb b25) rfl ?_
                                            refine WL.gno rfl rfl (okb b25) rfl ?_
                                            refine WL.gno rfl rfl (okb b25) rfl ?_
                                            refine WL.y rfl (Yld.pickF (okb b25) rfl) ?_
                                            exact WL.weaken (by repeat (first | exact Sub.nil | refine Sub.cons rfl ?_)) (hQ _ _ ⟨false, rfl, H, gr51, k407, k408, k409, k410, k411, k412, k413, k414, k415, k416, k417⟩)
                                      · clear hJ6
                                        rcases Bool.eq_false_or_eq_true (q13) with b26 | b26
                                        · replace H := H.1 b26
                                          refine WL.gyes rfl rfl (okb b26) rfl (Yld.pure tab_ok rfl) ?_
                                          refine WL.gyes rfl rfl (okb b26) rfl (Yld.pure tab_ok rfl) ?_
                                          refine WL.callw (wants_some rfl rfl (okb b26)) rfl rfl (W_pgraph_Graph_After k396.rd rfl k397 k402 k398.rd rfl k399 k400.rd rfl k401 k403 H) ?_
                                          rintro _ w64 ⟨hg51, t155, A_t155, c_t155, rfl, ht155, H⟩
                                          have hb27 := ht155.ge'
                                          have k507 := ht155.base (fun g hg => Nat.le_trans (size_le gr50) (hb27 g hg))
                                          have gr61 := gr_trans gr50 hg51
                                          have k508 := k396.grown hg51
                                          have k509 := k397.grown hg51
                                          have k510 := k398.grown hg51
                                          have k511 := k399.grown hg51
                                          have k512 := k400.grown hg51
                                          have k513 := k401.grown hg51
                                          have k514 := k402.g0 hg51
                                          have k515 := k403.g0 hg51
                                          have k516 := k404.grown hg51
                                          have k517 := k405.grown hg51
                                          have k518 := k406.g0 hg51
                                          refine WL.gyes rfl rfl (okb b26) rfl (Yld.pure tab_ok rfl) ?_
                                          refine WL.gyes rfl rfl (okb b26) rfl (Yld.pure tab_ok rfl) ?_
                                          refine WL.callw (wants_some rfl rfl (okb b26)) rfl rfl (W_psmithyref17_Graph_After k516.rd rfl k517 k518 H) ?_
                                          rintro _ w65 ⟨hg52, t158, A_t158, c_t158, rfl, ht158, H⟩
                                          have hb28 := ht158.ge'
                                          have k519 := ht158.base (fun g hg => Nat.le_trans (size_le gr61) (hb28 g hg))
                                          have gr62 := gr_trans gr61 hg52
                                          have k520 := k508.grown hg52
                                          have k521 := k509.grown hg52
                                          have k522 := k510.grown hg52
                                          have k523 := k511.grown hg52
                                          have k524 := k512.grown hg52
                                          have k525 := k513.grown hg52
                                          have k526 := k514.g0 hg52
                                          have k527 := k515.g0 hg52
                                          have k528 := k516.grown hg52
                                          have k529 := k517.grown hg52
                                          have k530 := k518.g0 hg52
                                          have k531 := k507.grown hg52
                                          refine WL.callw (wants_some rfl rfl (okb b26)) rfl rfl (W_smithyref_SameInts k531.rd rfl k519.rd rfl H) ?_
                                          rintro _ _ ⟨rfl, t159, rfl, H⟩
                                          refine WL.y rfl (Yld.pickT (okb b26) rfl) ?_
                                          exact WL.weaken (by repeat (first | exact Sub.nil | refine Sub.cons rfl ?_)) (hQ _ _ ⟨t159, rfl, H, gr62, k520, k521, k522, k523, k524, k525, k526, k527, k528, k529, k530⟩)
                                        · replace H := H.2 b26
                                          refine WL.gno rfl rfl (okb b26) rfl ?_
                                          refine WL.gno rfl rfl (okb b26) rfl ?_
                                          refine WL.gno rfl rfl (okb b26) rfl ?_
                                          refine WL.gno rfl rfl (okb b26) rfl ?_
                                          refine WL.gno rfl rfl (okb b26) rfl ?_
                                          refine WL.gno rfl rfl (okb b26) rfl ?_
                                          refine WL.gno rfl rfl (okb b26) rfl ?_
                                          refine WL.y rfl (Yld.pickF (okb b26) rfl) ?_
                                          exact WL.weaken (by repeat (first | exact Sub.nil | refine Sub.cons rfl ?_)) (hQ _ _ ⟨false, rfl, H, gr50, k396, k397, k398, k399, k400, k401, k402, k403, k404, k405, k406⟩)
                                    · clear hJ5
                                      rcases Bool.eq_false_or_eq_true (q12) with b27 | b27
                                      · replace H := H.1 b27
                                        refine WL.gyes rfl rfl (okb b27) rfl (Yld.pure tab_ok rfl) ?_
                                        refine WL.gyes rfl rfl (okb b27) rfl (Yld.pure tab_ok rfl) ?_
                                        refine WL.callw (wants_some rfl rfl (okb b27)) rfl rfl (W_pgraph_Graph_Before k373.rd rfl k374 k379 k375.rd rfl k376 k377.rd rfl k378 k380 H) ?_
                                        rintro _ w66 ⟨hg53, t146, A_t146, c_t146, rfl, ht146, H⟩
                                        have hb29 := ht146.ge'
                                        have k532 := ht146.base (fun g hg => Nat.le_trans (size_le gr48) (hb29 g hg))
                                        have gr63 := gr_trans gr48 hg53
                                        have k533 := k373.grown hg53
                                        have k534 := k374.grown hg53
                                        have k535 := k375.grown hg53
                                        have k536 := k376.grown hg53
                                        have k537 := k377.grown hg53
                                        have k538 := k378.grown hg53
                                        have k539 := k379.g0 hg53
                                        have k540 := k380.g0 hg53
                                        have k541 := k381.grown hg53
                                        have k542 := k382.grown hg53
                                        have k543 := k383.g0 hg53
                                        refine WL.gyes rfl rfl (okb b27) rfl (Yld.pure tab_ok rfl) ?_
                                        refine WL.gyes rfl rfl (okb b27) rfl (Yld.pure tab_ok rfl) ?_
                                        refine WL.callw (wants_some rfl rfl (okb b27)) rfl rfl (W_psmithyref17_Graph_Before k541.rd rfl k542 k543 H) ?_
                                        rintro _ w67 ⟨hg54, t149, A_t149, c_t149, rfl, ht149, H⟩
                                        have hb30 := ht149.ge'
                                        have k544 := ht149.base (fun g hg => Nat.le_trans (size_le gr63) (hb30 g hg))
                                        have gr64 := gr_trans gr63 hg54
                                        have k545 := k533.grown hg54
                                        have k546 := k534.grown hg54
                                        have k547 := k535.grown hg54
                                        have k548 := k536.grown hg54
                                        have k549 := k537.grown hg54
                                        have k550 := k538.grown hg54
                                        have k551 := k539.g0 hg54
                                        have k552 := k540.g0 hg54
                                        have k553 := k541.grown hg54
                                        have k554 := k542.grown hg54
                                        have k555 := k543.g0 hg54
                                        have k556 := k532.grown hg54
                                        refine WL.callw (wants_some rfl rfl (okb b27)) rfl rfl (W_smithyref_SameInts k556.rd rfl k544.rd rfl H) ?_
                                        rintro _ _ ⟨rfl, t150, rfl, H⟩
                                        refine WL.y rfl (Yld.pickT (okb b27) rfl) ?_
                                        exact WL.weaken (by repeat (first | exact Sub.nil | refine Sub.cons rfl ?_)) (hQ _ _ ⟨t150, rfl, H, gr64, k545, k546, k547, k548, k549, k550, k551, k552, k553, k554, k555⟩)
                                      · replace H := H.2 b27
                                        refine WL.gno rfl rfl (okb b27) rfl ?_
                                        refine WL.gno rfl rfl (okb b27) rfl ?_
                                        refine WL.gno rfl rfl (okb b27) rfl ?_
                                        refine WL.gno rfl rfl (okb b27) rfl ?_
                                        refine WL.gno rfl rfl (okb b27) rfl ?_
                                        refine WL.gno rfl rfl (okb b27) rfl ?_
                                        refine WL.gno rfl rfl (okb b27) rfl ?_
                                        refine WL.y rfl (Yld.pickF (okb b27) rfl) ?_
                                        exact WL.weaken (by repeat (first | exact Sub.nil | refine Sub.cons rfl ?_)) (hQ _ _ ⟨false, rfl, H, gr48, k373, k374, k375, k376, k377, k378, k379, k380, k381, k382, k383⟩)
                                  · clear hJ4
                                    rcases Bool.eq_false_or_eq_true (decide (t130 = (l.length : Int))) with b28 | b28
                                    · replace H := H.1 b28
                                      refine WL.gyes rfl rfl (okb b28) rfl (Yld.pure tab_ok rfl) ?_
                                      refine WL.gyes rfl rfl (okb b28) rfl (Yld.pure tab_ok rfl) ?_
                                      refine WL.callw (wants_some rfl rfl (okb b28)) rfl rfl (W_pgraph_Graph_Maker k373.rd rfl k374 k379 k375.rd rfl k376 k377.rd rfl k378 k380 H) ?_
                                      rintro _ _ ⟨rfl, t137, rfl, H⟩
                                      refine WL.gyes rfl rfl (okb b28) rfl (Yld.pure tab_ok rfl) ?_
                                      refine WL.gyes rfl rfl (okb b28) rfl (Yld.pure tab_ok rfl) ?_
                                      refine WL.callw (wants_some rfl rfl (okb b28)) rfl rfl (W_psmithyref17_Graph_Maker k381.rd rfl k382 k383 H) ?_
                                      rintro _ _ ⟨rfl, t140, rfl, H⟩
                                      refine WL.gyes rfl rfl (okb b28) rfl (Yld.pure tab_ok rfl) ?_
                                      refine WL.y rfl (Yld.pickT (okb b28) rfl) ?_
                                      exact WL.weaken (by repeat (first | exact Sub.nil | refine Sub.cons rfl ?_)) (hQ _ _ ⟨decide (t137 = t140), rfl, H, rfl⟩)
                                    · replace H := H.2 b28
                                      refine WL.gno rfl rfl (okb b28) rfl ?_
                                      refine WL.gno rfl rfl (okb b28) rfl ?_
                                      refine WL.gno rfl rfl (okb b28) rfl ?_
                                      refine WL.gno rfl rfl (okb b28) rfl ?_
                                      refine WL.gno rfl rfl (okb b28) rfl ?_
                                      refine WL.gno rfl rfl (okb b28) rfl ?_
                                      refine WL.gno rfl rfl (okb b28) rfl ?_
                                      refine WL.y rfl (Yld.pickF (okb b28) rfl) ?_
                                      exact WL.weaken (by repeat (first | exact Sub.nil | refine Sub.cons rfl ?_)) (hQ _ _ ⟨false, rfl, H, rfl⟩)
                        · clear hJ3
                          rcases Bool.eq_false_or_eq_true (!(t7612 == ((decide ((0 : Int) ≤ i)) && (decide (i < (l.length : Int)))))) with b29 | b29
                          · replace H := H.1 b29
                            refine WJ.no rfl rfl (okb b29) rfl ?_
                            refine WJ.no rfl rfl (okb b29) rfl ?_
                            refine WJ.gun rfl rfl rfl rfl ?_
                            refine WJ.gun rfl rfl rfl rfl ?_
                            refine WJ.gun rfl rfl rfl rfl ?_
                            refine WJ.gun rfl rfl rfl rfl ?_
                            refine WJ.gun rfl rfl rfl rfl ?_
                            refine WJ.gun rfl rfl rfl rfl ?_
                            refine WJ.gun rfl rfl rfl rfl ?_
                            refine WJ.no rfl rfl (okb b29) rfl ?_
                            refine WJ.y rfl rfl (fun w' hw' => Yld.pickT (okb b29) rfl) ?_
                            exact WJ.weaken (by repeat (first | exact Sub.nil | refine Sub.cons rfl ?_)) (hQ _ _ ⟨true, rfl, H, gr42, k294, k295, k296, k297, k298, k299, k300, k301, k302, k303, k304, k305, k306, hB12⟩)
                          · replace H := H.2 b29
                            refine WJ.yw rfl (wants_some rfl rfl (okb b29)) rfl (fun w' hw' => Yld.pure tab_ok rfl) ?_
                            refine WJ.yw rfl (wants_some rfl rfl (okb b29)) rfl (fun w' hw' => Yld.pure tab_ok rfl) ?_
                            rcases Bool.eq_false_or_eq_true ((decide ((0 : Int) ≤ i)) && (decide (i < (l.length : Int)))) with b30 | b30
                            · replace H := H.1 b30
                              refine WJ.yw rfl (wants_some rfl rfl (okb b30)) rfl (fun w' hw' => Yld.bagg (vs := [.int .i64 t760_Tool2, .slice A_t760_Args2 t760_Args2.length c_t760_Args2, .slice A_t760_Inputs2 t760_Inputs2.length c_t760_Inputs2, vs t760_Output2]) tab_ok (hw' rfl).1 rfl rfl rfl rfl) ?_
                              refine WJ.yw rfl (wants_some rfl rfl (okb b30)) rfl (fun w' hw' => Yld.pure tab_ok rfl) ?_
                              refine WJ.yw rfl (wants_some rfl rfl (okb b30)) rfl (fun w' hw' => Yld.pure tab_ok rfl) ?_
                              obtain ⟨h8, H⟩ := H
                              refine WJ.yw rfl (wants_some rfl rfl (okb b30)) rfl (fun w' hw' => Yld.iaddrK tab_ok (hl.grown gr42) rfl rfl hr_l.1.symm rfl h8.1 h8.2) ?_
                              obtain ⟨⟨f3, ⟨A_el3, n3, c_el3⟩, ⟨A_el4, n4, c_el4⟩, f4⟩, eh2, ⟨en5, ⟨en6, hR3⟩, ⟨en7, hR4⟩, en8⟩⟩ := RelD.at hr_l (0, hd0, hd0, []) (0, [], [], []) (j := i.toNat) (Nat.lt_of_lt_of_eq (iltN h8 hr_l.1.symm) hr_l.1)
                              have en5 : f3 = (l.getD i.toNat (0, [], [], [])).1 := en5
                              subst en5
                              have en6 : n3 = ((l.getD i.toNat (0, [], [], [])).2.1).length := en6
                              subst en6
                              have en7 : n4 = ((l.getD i.toNat (0, [], [], [])).2.2.1).length := en7
                              subst en7
                              have en8 : f4 = (l.getD i.toNat (0, [], [], [])).2.2.2 := en8
                              subst en8
                              refine WJ.yw rfl (wants_some rfl rfl (okb b30)) rfl (fun w' hw' => Yld.to (v := .agg ⟨[.int .i64 ((l.getD i.toNat (0, [], [], [])).1), .slice A_el3 (((l.getD i.toNat (0, [], [], [])).2.1).length) c_el3, .slice A_el4 (((l.getD i.toNat (0, [], [], [])).2.2.1).length) c_el4, vs ((l.getD i.toNat (0, [], [], [])).2.2.2)]⟩) (Yld.iloadK (0, hd0, hd0, []) tab_ok (hw' rfl).2 rfl rfl (iltN h8 hr_l.1.symm)) (by rw [eh2]; rfl)) ?_
                              refine WJ.call rfl (wants_some rfl rfl (okb b30)) rfl rfl (W_smithyref_SameAction k305.rd rfl k306.rd rfl (hR3.grown gr42) rfl (hR4.grown gr42) rfl H) (fun v w' h w2 e => DD.keep (⟨(Bl.g0 hB12 (gr_eqv h.1 e)), (RdK.grown (hl.grown gr42) (gr_eqv h.1 e))⟩)) ?_
                              rintro _ w68 ⟨hg55, t982, rfl, H⟩
                              have gr65 := gr_trans gr42 hg55
                              have k557 := k294.grown hg55
                              have k558 := k295.grown hg55
                              have k559 := k296.grown hg55
                              have k560 := k297.grown hg55
                              have k561 := k298.grown hg55
                              have k562 := k299.grown hg55
                              have k563 := k300.g0 hg55
                              have k564 := k301.g0 hg55
                              have k565 := k302.grown hg55
                              have k566 := k303.grown hg55
                              have k567 := k304.g0 hg55
                              have k568 := k305.grown hg55
                              have k569 := k306.grown hg55
                              have k570 := hB12.g0 hg55
                              refine WJ.yw rfl (wants_some rfl rfl (okb b30)) rfl (fun w' hw' => Yld.pure tab_ok rfl) ?_
                              refine WJ.yw rfl (wants_some rfl rfl (okb b29)) rfl (fun w' hw' => Yld.pickT (okb b30) rfl) ?_
                              refine WJ.y rfl rfl (fun w' hw' => Yld.pickF (okb b29) rfl) ?_
                              exact WJ.weaken (by repeat (first | exact Sub.nil | refine Sub.cons rfl ?_)) (hQ _ _ ⟨!t982, rfl, H, gr65, k557, k558, k559, k560, k561, k562, k563, k564, k565, k566, k567, k568, k569, k570⟩)
                            · replace H := H.2 b30
                              refine WJ.no rfl rfl (okb b30) rfl ?_
                              refine WJ.no rfl rfl (okb b30) rfl ?_
                              refine WJ.no rfl rfl (okb b30) rfl ?_
                              refine WJ.no rfl rfl (okb b30) rfl ?_
                              refine WJ.no rfl rfl (okb b30) rfl ?_
                              refine WJ.no rfl rfl (okb b30) rfl ?_
                              refine WJ.no rfl rfl (okb b30) rfl ?_
                              refine WJ.yw rfl (wants_some rfl rfl (okb b29)) rfl (fun w' hw' => Yld.pickF (okb b30) rfl) ?_
                              refine WJ.y rfl rfl (fun w' hw' => Yld.pickF (okb b29) rfl) ?_
                              exact WJ.weaken (by repeat (first | exact Sub.nil | refine Sub.cons rfl ?_)) (hQ _ _ ⟨false, rfl, H, gr42, k294, k295, k296, k297, k298, k299, k300, k301, k302, k303, k304, k305, k306, hB12⟩)
                      · clear H
                        rcases Bool.eq_false_or_eq_true (decide ((0 : Int) ≤ i)) with b31 | b31
                        · refine WL.gyes rfl rfl (okb b31) rfl (Yld.pure tab_ok rfl) ?_
                          refine WL.gyes rfl rfl (okb b31) rfl (Yld.pure tab_ok rfl) ?_
                          refine WL.gyes rfl rfl (okb b31) rfl (Yld.pure tab_ok rfl) ?_
                          refine WL.gyes rfl rfl (okb b31) rfl (Yld.pure tab_ok rfl) ?_
                          refine WL.y rfl (Yld.pickT (okb b31) rfl) ?_
                          exact WL.weaken (by repeat (first | exact Sub.nil | refine Sub.cons rfl ?_)) (hQ _ _ ⟨decide (i < (l.length : Int)), rfl, by rw [b31] <;> rfl, rfl⟩)
                        · refine WL.gno rfl rfl (okb b31) rfl ?_
                          refine WL.gno rfl rfl (okb b31) rfl ?_
                          refine WL.gno rfl rfl (okb b31) rfl ?_
                          refine WL.gno rfl rfl (okb b31) rfl ?_
                          refine WL.y rfl (Yld.pickF (okb b31) rfl) ?_
                          exact WL.weaken (by repeat (first | exact Sub.nil | refine Sub.cons rfl ?_)) (hQ _ _ ⟨false, rfl, by rw [b31] <;> rfl, rfl⟩)
                · clear H
                  rcases Bool.eq_false_or_eq_true (!t534) with b32 | b32
                  · refine WL.gno rfl rfl (okb b32) rfl ?_
                    refine WL.gno rfl rfl (okb b32) rfl ?_
                    refine WL.gno rfl rfl (okb b32) rfl ?_
                    refine WL.gno rfl rfl (okb b32) rfl ?_
                    refine WL.gno rfl rfl (okb b32) rfl ?_
                    refine WL.gno rfl rfl (okb b32) rfl ?_
                    refine WL.y rfl (Yld.pickT (okb b32) rfl) ?_
                    exact WL.weaken (by repeat (first | exact Sub.nil | refine Sub.cons rfl ?_)) (hQ _ _ ⟨true, rfl, by first | (rw [b32] <;> rfl) | simp [b32], rfl⟩)
                  · refine WL.gyes rfl rfl (okb b32) rfl (Yld.pure tab_ok rfl) ?_
                    refine WL.gyes rfl rfl (okb b32) rfl (Yld.pnenil Tryz.underlying81 rfl rfl) ?_
                    refine WL.gyes rfl rfl (okb b32) rfl (Yld.pure tab_ok rfl) ?_
                    refine WL.gyes rfl rfl (okb b32) rfl (Yld.bload tab_ok k230 rfl rfl rfl) ?_
                    refine WL.gyes rfl rfl (okb b32) rfl (Yld.pure tab_ok rfl) ?_
                    refine WL.gyes rfl rfl (okb b32) rfl (Yld.bneq Tryz.underlying4 rfl rfl) ?_
                    refine WL.y rfl (Yld.pickF (okb b32) rfl) ?_
                    exact WL.weaken (by repeat (first | exact Sub.nil | refine Sub.cons rfl ?_)) (hQ _ _ ⟨!(true == (decide (t481_Code4 = (0 : Int)))), rfl, by first | (rw [b32] <;> rfl) | simp [b32], rfl⟩)
        · clear H
          rcases Bool.eq_false_or_eq_true (q1 || (decide ((250 : Int) < (p.length : Int)))) with b33 | b33
          · refine WL.gno rfl rfl (okb b33) rfl ?_
            refine WL.gno rfl rfl (okb b33) rfl ?_
            refine WL.y rfl (Yld.pickT (okb b33) rfl) ?_
            exact WL.weaken (by repeat (first | exact Sub.nil | refine Sub.cons rfl ?_)) (hQ _ _ ⟨true, rfl, by rw [b33] <;> rfl, rfl⟩)
          · refine WL.gyes rfl rfl (okb b33) rfl (Yld.pure tab_ok rfl) ?_
            refine WL.gyes rfl rfl (okb b33) rfl (Yld.pure tab_ok rfl) ?_
            refine WL.y rfl (Yld.pickF (okb b33) rfl) ?_
            exact WL.weaken (by repeat (first | exact Sub.nil | refine Sub.cons rfl ?_)) (hQ _ _ ⟨!ok, rfl, by rw [b33] <;> rfl, rfl⟩)
      · clear H
        rcases Bool.eq_false_or_eq_true (q1) with b34 | b34
        · refine WL.gno rfl rfl (okb b34) rfl ?_
          refine WL.gno rfl rfl (okb b34) rfl ?_
          refine WL.gno rfl rfl (okb b34) rfl ?_
          refine WL.y rfl (Yld.pickT (okb b34) rfl) ?_
          exact WL.weaken (by repeat (first | exact Sub.nil | refine Sub.cons rfl ?_)) (hQ _ _ ⟨true, rfl, by rw [b34] <;> rfl, rfl⟩)
        · refine WL.gyes rfl rfl (okb b34) rfl (Yld.pure tab_ok rfl) ?_
          refine WL.gyes rfl rfl (okb b34) rfl (Yld.pure tab_ok rfl) ?_
          refine WL.gyes rfl rfl (okb b34) rfl (Yld.pure tab_ok rfl) ?_
          refine WL.y rfl (Yld.pickF (okb b34) rfl) ?_
          exact WL.weaken (by repeat (first | exact Sub.nil | refine Sub.cons rfl ?_)) (hQ _ _ ⟨decide ((250 : Int) < (p.length : Int)), rfl, by rw [b34] <;> rfl, rfl⟩)
    · clear hJ1
      rcases Bool.eq_false_or_eq_true (!t24) with b35 | b35
      · replace H := H.1 b35
        refine WL.gno rfl rfl (okb b35) rfl ?_
        refine WL.gno rfl rfl (okb b35) rfl ?_
        refine WL.gno rfl rfl (okb b35) rfl ?_
        refine WL.y rfl (Yld.pickT (okb b35) rfl) ?_
        exact WL.weaken (by repeat (first | exact Sub.nil | refine Sub.cons rfl ?_)) (hQ _ _ ⟨true, rfl, H, rfl⟩)
      · replace H := H.2 b35
        refine WL.gyes rfl rfl (okb b35) rfl (Yld.pure tab_ok rfl) ?_
        refine WL.callw (wants_some rfl rfl (okb b35)) rfl rfl (W_smithyworld_Texts (houtputs.grown gr1) rfl H) ?_
        rintro _ _ ⟨rfl, t28, rfl, H⟩
        refine WL.gyes rfl rfl (okb b35) rfl (Yld.pure tab_ok rfl) ?_
        refine WL.y rfl (Yld.pickF (okb b35) rfl) ?_
        exact WL.weaken (by repeat (first | exact Sub.nil | refine Sub.cons rfl ?_)) (hQ _ _ ⟨!t28, rfl, H, rfl⟩)

end Go.Proofs.YtlonpmajnglmoaaGreatDoor

 /- GraphRings, plainly. -/
namespace Go.Proofs.YtlonpmajnglmoaaGreatDoor
open Go Go.RowKit
def abN (i : Nat) : List UInt8 := [UInt8.ofNat (97 + i)]
theorem ab_ok : NOk abN [] 2 := ⟨by decide, fun i hi => by
  match i, hi with
  | 0, _ => decide +kernel
  | 1, _ => decide +kernel, fun i _ => by simp [abN], by simp, by simp, by simp, by simp⟩
theorem gfirst_M {K : Bool → Prop} (h : K true) : M_smithylaw22_first K := by
  refine fun _ _ => ?_
  have e : ([((1 : Int), ([] : TL), ([] : TL), ([97] : List UInt8)), (1, [], [[97]], [98])] : List GAct) = rg abN [] 2 none := by decide
  show M_graph_New ([((1 : Int), ([] : TL), ([] : TL), ([97] : List UInt8)), (1, [], [[97]], [98])] : List GAct) _ _
  rw [e]
  refine row_M ab_ok (by omega) (by omega) ?_
  refine ⟨fun b => b = true, ⟨fun _ => row_order ab_ok (by omega) (by omega) (sameInts_M (by simp) ?_), fun h => by simp at h⟩, fun q5 hq5 => ?_⟩
  · decide
  · subst hq5
    refine ⟨fun b => b = true, ⟨fun _ => row_needs (nm := abN) (k := 1) ab_ok (by omega) (by omega) (by omega) (sameInts_M (by simp) ?_), fun h => by simp at h⟩, fun q6 hq6 => by rw [hq6]; exact h⟩
    decide
end Go.Proofs.YtlonpmajnglmoaaGreatDoor


 /- GraphSays, plainly. -/
namespace Go.Proofs.YtlonpmajnglmoaaGreatDoor
open Go Go.RowKit
def pick (l : List GAct) (ns : List Int) : List GAct := ns.map fun k => l.getD k.toNat az
structure GSmall (l : List GAct) : Prop where
  len : l.length ≤ 24
  arg : ∀ a ∈ l, a.2.1.length ≤ 8 ∧ ∀ s ∈ a.2.1, s.length ≤ 100
  inp : ∀ a ∈ l, a.2.2.1.length ≤ 10 ∧ ∀ s ∈ a.2.2.1, s.length ≤ 250
  out : ∀ a ∈ l, a.2.2.2.length ≤ 250
theorem GSmall.sz {l : List GAct} (h : GSmall l) : ∀ a ∈ l, (∀ s ∈ a.2.2.1, s.length ≤ 3999999999) ∧ a.2.2.2.length ≤ 3999999999 := fun a ha => ⟨fun s hs => Nat.le_trans ((h.inp a ha).2 s hs) (by omega), Nat.le_trans (h.out a ha) (by omega)⟩
theorem GSmall.at {l : List GAct} (h : GSmall l) (j : Nat) : (l.getD j az).2.1.length ≤ 8 ∧ (l.getD j az).2.2.1.length ≤ 10 := by
  by_cases hj : j < l.length
  · exact ⟨(h.arg _ (getD_mem2 hj)).1, (h.inp _ (getD_mem2 hj)).1⟩
  · have : l.getD j az = az := by simp [List.getD, List.getElem?_eq_none (show l.length ≤ j by omega)]
    rw [this]; decide
theorem gtx_B {l : TL} {most long : Int} {K : Bool → Prop} (hm : most ≤ 1000000) (h : ∀ t : Bool, (t = true → (l.length : Int) ≤ most ∧ ∀ x ∈ l, (x.length : Int) ≤ long) → K t) : M_smithyworld_Texts l most long K := by
  intro _
  refine ⟨fun _ => h false fun h => (by cases h), fun hle => ?_⟩
  refine ⟨fun i => 0 ≤ i ∧ i ≤ l.length ∧ ∀ j, j < i.toNat → ((l.getD j []).length : Int) ≤ long, fun i => l.length - i.toNat, ⟨by omega, by omega, fun j hj => by simp at hj⟩, fun i ⟨a0, a1, a2⟩ => ⟨fun hlt => ⟨⟨a0, hlt⟩, fun _ => h false fun h => (by cases h), fun hn => ⟨by simp only [In]; omega, ⟨by omega, by omega, fun j hj => ?_⟩, by (try dsimp only); omega⟩⟩, fun hge => h true fun _ => ⟨by omega, fun x hx => ?_⟩⟩⟩
  · by_cases e : j = i.toNat
    · rw [e]; omega
    · exact a2 j (by omega)
  · obtain ⟨j, hj, rfl⟩ := List.getElem_of_mem hx
    have := a2 j (by omega)
    simpa [List.getD, hj] using this
theorem gacts_B {l : List GAct} {K : Bool → Prop} (h : ∀ t : Bool, (t = true → GSmall l) → K t) : M_smithyworld_Actions l K := by
  intro _
  refine ⟨fun _ => h false fun h => (by cases h), fun hle => ?_⟩
  refine ⟨fun i => 0 ≤ i ∧ i ≤ l.length ∧ ∀ j, j < i.toNat → ((l.getD j az).2.1.length ≤ 8 ∧ ∀ s ∈ (l.getD j az).2.1, s.length ≤ 100) ∧ ((l.getD j az).2.2.1.length ≤ 10 ∧ ∀ s ∈ (l.getD j az).2.2.1, s.length ≤ 250) ∧ (l.getD j az).2.2.2.length ≤ 250, fun i => l.length - i.toNat, ⟨by omega, by omega, fun j hj => by simp at hj⟩, fun i ⟨a0, a1, a2⟩ => ⟨fun hlt => ?_, fun hge => h true fun _ => ?_⟩⟩
  · have hgd : l.getD i.toNat (0, [], [], []) = l.getD i.toNat az := rfl
    rw [hgd]
    refine ⟨⟨a0, hlt⟩, gtx_B (by omega) fun t ht => ?_⟩
    refine ⟨fun q => q = false → ((l.getD i.toNat az).2.1.length ≤ 8 ∧ ∀ s ∈ (l.getD i.toNat az).2.1, s.length ≤ 100) ∧ ((l.getD i.toNat az).2.2.1.length ≤ 10 ∧ ∀ s ∈ (l.getD i.toNat az).2.2.1, s.length ≤ 250), ⟨fun _ h => (by cases h), fun hq => ⟨⟨a0, hlt⟩, gtx_B (by omega) fun t2 ht2 h2 => ?_⟩⟩, fun q hq => ⟨fun _ => ⟨a0, hlt⟩, fun _ => h false fun h => (by cases h), fun hc => ⟨by simp only [In]; omega, ⟨by omega, by omega, fun j hj => ?_⟩, by (try dsimp only); omega⟩⟩⟩
    · obtain ⟨p1, p2⟩ := ht (by simpa using hq)
      obtain ⟨p3, p4⟩ := ht2 (by simpa using h2)
      exact ⟨⟨by omega, fun s hs => by have := p2 s hs; omega⟩, ⟨by omega, fun s hs => by have := p4 s hs; omega⟩⟩
    · rw [Bool.or_eq_false_iff, decide_eq_false_iff_not] at hc
      by_cases e : j = i.toNat
      · rw [e]
        obtain ⟨p1, p2⟩ := hq hc.1
        exact ⟨p1, p2, by omega⟩
      · exact a2 j (by omega)
  · have key : ∀ a ∈ l, (a.2.1.length ≤ 8 ∧ ∀ s ∈ a.2.1, s.length ≤ 100) ∧ (a.2.2.1.length ≤ 10 ∧ ∀ s ∈ a.2.2.1, s.length ≤ 250) ∧ a.2.2.2.length ≤ 250 := fun a ha => by
      obtain ⟨j, hj, rfl⟩ := List.getElem_of_mem ha
      have := a2 j (by omega)
      simpa [List.getD, hj] using this
    exact ⟨by omega, fun a ha => (key a ha).1, fun a ha => (key a ha).2.1, fun a ha => (key a ha).2.2⟩
section
variable {l : List GAct} {outs : TL}
theorem pneeds_R {K : List Int → Prop} {aft : List (List Int)} (hs : GSmall l) (g : GOk l) (ho : outs.length ≤ 1000) (hol : ∀ s ∈ outs, s.length ≤ 1000)
    (h : ∀ met : List Bool, met.length = l.length → (∀ k : Nat, k < l.length → (met.getD k false = true ↔ Rch (befL l l.length) (outs.filterMap (mget (mkP l l.length))) k)) → K (onesN met l.length)) : M_pgraph_Graph_Needs l (mkP l l.length) (befL l l.length) aft outs K := by
  have h1 := hs.len
  have h2 := tot_bef (c := 1000) g.inp l.length
  refine needs_M (by omega) (befL_len l l.length) (fun j _ k hk => bef_in hk) (by omega) (fun s hs => by have := hol s hs; omega) (fun s v hv => ?_) (by omega) h
  obtain ⟨j, j1, j2, _⟩ := mkP_val hv
  omega
theorem only_R {K : List GAct → Prop} (hs : GSmall l) (ho : outs.length ≤ 1000) (hol : ∀ s ∈ outs, s.length ≤ 1000) (h0 : ∀ e, GRes l e → e ≠ .ok → K [])
    (h1 : GRes l .ok → ∀ met : List Bool, (∀ k : Nat, k < l.length → (met.getD k false = true ↔ Rch (befL l l.length) (outs.filterMap (mget (mkP l l.length))) k)) → K (pick l (onesN met l.length))) : M_graph_Only l outs K := by
  intro _ _
  have hl := hs.len
  refine new_R (by omega) hs.sz (fun e he hne => ⟨fun _ => h0 e he hne, fun he => absurd he hne⟩) fun hok => ⟨fun h => absurd rfl h, fun _ => pneeds_R hs hok.good ho hol fun met _ m2 => ?_⟩
  have hK := h1 hok met m2
  have hnl := onesN_len met l.length
  have hin : ∀ x ∈ onesN met l.length, 0 ≤ x ∧ x < (l.length : Int) := fun x hx => by
    obtain ⟨k, k1, k2, _⟩ := onesN_mem.1 hx
    omega
  generalize onesN met l.length = ns at hK hin hnl
  refine ⟨fun out t => 0 ≤ t ∧ t ≤ ns.length ∧ out = pick l (ns.take t.toNat), fun _ t => ns.length - t.toNat, ⟨by omega, by omega, rfl⟩, fun out t ⟨a0, a1, a2⟩ => ⟨fun hlt => ?_, fun hge => ?_⟩⟩
  · have ht : t.toNat < ns.length := by omega
    obtain ⟨b0, b1⟩ := hin _ (getD_mem2 (d := 0) ht)
    have hat := hs.at (ns.getD t.toNat 0).toNat
    have hol : out.length = t.toNat := by rw [a2]; unfold pick; rw [List.length_map, List.length_take]; omega
    refine ⟨⟨a0, hlt⟩, ⟨b0, b1⟩, copied_M (by show (l.getD (ns.getD t.toNat 0).toNat az).2.1.length ≤ _; omega) (by show (l.getD (ns.getD t.toNat 0).toNat az).2.2.1.length ≤ _; omega) ⟨by rw [hol, List.length_singleton]; omega, by simp only [In]; omega, ⟨by omega, by omega, ?_⟩, by (try dsimp only); omega⟩⟩
    rw [show (t + 1).toNat = t.toNat + 1 by omega, take_succ_getD 0 ht, a2]
    unfold pick
    rw [List.map_append]; rfl
  · have : t.toNat = ns.length := by omega
    rw [a2, this, List.take_length]; exact hK
theorem ronly_R {K : List GAct → Prop} (hs : GSmall l) (ho : outs.length ≤ 1000) (h0 : ∀ e, GRes l e → e ≠ .ok → K [])
    (h1 : GRes l .ok → ∀ met : List Bool, (∀ k : Nat, k < l.length → (met.getD k false = true ↔ Rch (befL l l.length) (outs.filterMap (mget (mkP l l.length))) k)) → K (pick l (onesN met l.length))) : M_smithyref17_Only l outs K := by
  intro _ _
  have hl := hs.len
  have hc : ∀ e, e ≠ Er.ok → fC e ≠ 0 := fun e hne => by
    cases e with
    | ok => exact absurd rfl hne
    | e n => show (101 + (n : Int)) ≠ 0; omega
    | at_ p n => show (101 + (n : Int)) ≠ 0; omega
  refine rnew_R (by omega) hs.sz (fun e he hne => ⟨fun _ => h0 e he hne, fun he => absurd he (hc e hne)⟩) fun hok => ⟨fun h => absurd rfl h, fun _ => rneeds_M hok.good.len hok.good.dst hok.good.inp (by omega) fun met _ m2 => ?_⟩
  have hK := h1 hok met m2
  have hnl := onesN_len met l.length
  have hin : ∀ x ∈ onesN met l.length, 0 ≤ x ∧ x < (l.length : Int) := fun x hx => by
    obtain ⟨k, k1, k2, _⟩ := onesN_mem.1 hx
    omega
  generalize onesN met l.length = ns at hK hin hnl
  refine ⟨fun out t => 0 ≤ t ∧ t ≤ ns.length ∧ out = pick l (ns.take t.toNat), fun _ t => ns.length - t.toNat, ⟨by omega, by omega, rfl⟩, fun out t ⟨a0, a1, a2⟩ => ⟨fun hlt => ?_, fun hge => ?_⟩⟩
  · have ht : t.toNat < ns.length := by omega
    obtain ⟨b0, b1⟩ := hin _ (getD_mem2 (d := 0) ht)
    have hol : out.length = t.toNat := by rw [a2]; unfold pick; rw [List.length_map, List.length_take]; omega
    refine ⟨⟨a0, hlt⟩, ⟨b0, b1⟩, by rw [hol, List.length_singleton]; omega, by simp only [In]; omega, ⟨by omega, by omega, ?_⟩, by (try dsimp only); omega⟩
    rw [show (t + 1).toNat = t.toNat + 1 by omega, take_succ_getD 0 ht, a2]
    unfold pick
    rw [List.map_append]; rfl
  · have : t.toNat = ns.length := by omega
    rw [a2, this, List.take_length]; exact hK
theorem sameAct_M {a b : GAct} {K : Bool → Prop} (ha : a.2.1.length ≤ 1000000000) (hi : a.2.2.1.length ≤ 1000000000) (h : K (decide (a = b))) : M_smithyref_SameAction a.1 a.2.1 a.2.2.1 a.2.2.2 b.1 b.2.1 b.2.2.1 b.2.2.2 K := by
  intro _ _ _ _
  refine sameTexts_M ha (sameTexts_M hi ?_)
  refine (congrArg K ?_).mp h
  obtain ⟨a1, a2, a3, a4⟩ := a
  obtain ⟨b1, b2, b3, b4⟩ := b
  rw [Bool.eq_iff_iff]
  simp only [Bool.and_eq_true, decide_eq_true_eq, Prod.mk.injEq]
  exact ⟨fun ⟨h1, h2, h3, h4⟩ => ⟨⟨⟨h2, h3⟩, h1⟩, h4⟩, fun ⟨⟨⟨h2, h3⟩, h1⟩, h4⟩ => ⟨h1, h2, h3, h4⟩⟩
theorem sameActs_M {a b : List GAct} {K : Bool → Prop} (hl : a.length ≤ 1000000000) (ha : ∀ x ∈ a, x.2.1.length ≤ 1000000000 ∧ x.2.2.1.length ≤ 1000000000) (h : K (decide (a = b))) : M_smithyref_SameActions a b K := by
  intro _ _
  refine ⟨fun hne => ?_, fun he => ?_⟩
  · rwa [decide_eq_false fun e => hne (by rw [e])] at h
  · refine ⟨fun i => 0 ≤ i ∧ i ≤ a.length ∧ ∀ j, j < i.toNat → a.getD j az = b.getD j az, fun i => a.length - i.toNat, ⟨by omega, by omega, by intro j hj; simp at hj⟩, fun i ⟨h0, h1, h2⟩ => ⟨fun hlt => ?_, fun hge => ?_⟩⟩
    · have hi : i.toNat < a.length := by omega
      have hm := ha _ (getD_mem2 (d := az) hi)
      refine ⟨⟨h0, hlt⟩, ⟨h0, by omega⟩, sameAct_M (a := a.getD i.toNat az) (b := b.getD i.toNat az) hm.1 hm.2 ⟨fun hn => ?_, fun hn => ⟨by simp only [In]; omega, ⟨by omega, by omega, fun j hj => ?_⟩, by (try dsimp only); omega⟩⟩⟩
      · have hne : a ≠ b := fun e => by rw [e] at hn; simp at hn
        rwa [decide_eq_false hne] at h
      · by_cases e : j = i.toNat
        · rw [e]; simpa using hn
        · exact h2 j (by omega)
    · have e : a = b := List.ext_getElem (by omega) fun j h3 h4 => by
        have := h2 j (by omega)
        simpa [List.getD, h3, h4] using this
      rwa [decide_eq_true e] at h
variable {i : Int}
def inR (l : List GAct) (i : Int) : Prop := 0 ≤ i ∧ i < (l.length : Int)
theorem action_R {mk : MK} {bef aft : List (List Int)} {K : Int → TL → TL → List UInt8 → Bool → Prop} (hs : GSmall l) (h : ∀ (a : GAct) (b : Bool), (b = true ∧ inR l i ∧ a = l.getD i.toNat az) ∨ (b = false ∧ ¬ inR l i ∧ a = az) → a.2.2.1.length ≤ 1000 → K a.1 a.2.1 a.2.2.1 a.2.2.2 b) : M_pgraph_Graph_Action l mk bef aft i K := by
  intro _ _ _
  refine ⟨fun hb => ?_, fun hb => ?_⟩
  · rw [Bool.or_eq_true, decide_eq_true_eq, decide_eq_true_eq] at hb
    exact h az false (.inr ⟨rfl, fun hc => by unfold inR at hc; omega, rfl⟩) (by decide)
  · rw [Bool.or_eq_false_iff, decide_eq_false_iff_not, decide_eq_false_iff_not] at hb
    have hat := hs.at i.toNat
    have hr : inR l i := by unfold inR; omega
    exact ⟨hr, copied_M (by show (l.getD i.toNat az).2.1.length ≤ _; omega) (by show (l.getD i.toNat az).2.2.1.length ≤ _; omega) (h (l.getD i.toNat az) true (.inl ⟨rfl, hr, rfl⟩) (by omega))⟩
theorem pmaker_R {bef aft : List (List Int)} {p : List UInt8} {K : Int → Prop} (hp : p.length ≤ 1000000) (h : K (mkI l p)) : M_pgraph_Graph_Maker l (mkP l l.length) bef aft p K := by
  intro _ _ _
  unfold mkI at h
  refine ⟨by unfold maxLen; omega, fun hs => ?_, fun hs => ?_⟩
  · obtain ⟨v, hv⟩ := Option.isSome_iff_exists.1 hs
    rw [hv] at h ⊢; exact h
  · have hn : mget (mkP l l.length) p = none := by simpa using hs
    rw [hn] at h; exact h
theorem pbefore_R {mk : MK} {aft : List (List Int)} {K : List Int → Prop} (hs : GSmall l) (h0 : ¬ inR l i → K []) (h : inR l i → K (bsP l i.toNat)) : M_pgraph_Graph_Before l mk (befL l l.length) aft i K := by
  intro _ _ _
  refine ⟨fun hb => h0 fun hc => ?_, fun hb => ?_⟩
  · rw [Bool.or_eq_true, decide_eq_true_eq, decide_eq_true_eq] at hb
    unfold inR at hc; omega
  · rw [Bool.or_eq_false_iff, decide_eq_false_iff_not, decide_eq_false_iff_not] at hb
    have hr : inR l i := by unfold inR; omega
    have hil : i.toNat < l.length := by omega
    have h1 := bsP_len l i.toNat
    have h2 := (hs.at i.toNat).2
    refine ⟨by rw [befL_len]; exact hr, ?_⟩
    rw [befL_getD, if_pos hil]
    exact cloneI_M (by omega) (h hr)
theorem pafter_R {mk : MK} {bef : List (List Int)} {K : List Int → Prop} (hs : GSmall l) (h0 : ¬ inR l i → K []) (h : inR l i → K (aftK l l.length i.toNat)) : M_pgraph_Graph_After l mk bef (aftL l l.length) i K := by
  intro _ _ _
  refine ⟨fun hb => h0 fun hc => ?_, fun hb => ?_⟩
  · rw [Bool.or_eq_true, decide_eq_true_eq, decide_eq_true_eq] at hb
    unfold inR at hc; omega
  · rw [Bool.or_eq_false_iff, decide_eq_false_iff_not, decide_eq_false_iff_not] at hb
    have hr : inR l i := by unfold inR; omega
    have hil : i.toNat < l.length := by omega
    have h1 := aftK_len l l.length i.toNat
    have h2 := hs.len
    have he : (aftL l l.length).getD i.toNat [] = aftK l l.length i.toNat := by unfold aftL; rw [rng_getD hil]
    refine ⟨by rw [aftL_len]; exact hr, ?_⟩
    rw [he]
    exact cloneI_M (by omega) (h hr)
theorem pick_small {ns : List Int} (hs : GSmall l) : ∀ x ∈ pick l ns, x.2.1.length ≤ 1000000000 ∧ x.2.2.1.length ≤ 1000000000 := fun x hx => by
  obtain ⟨k, _, rfl⟩ := List.mem_map.1 hx
  have := hs.at k.toNat
  omega
end
theorem says_gr {l : List GAct} {outs : TL} {p : List UInt8} {i : Int} {K : Bool → Prop} (H : K true) : M_smithylaw22_GraphSays l outs p i K := by
  intro _ _
  refine gfirst_M ⟨fun h => by simp at h, fun _ => gacts_B fun t ht => ?_⟩
  refine ⟨fun q => q = false → GSmall l ∧ outs.length ≤ 10 ∧ ∀ s ∈ outs, s.length ≤ 250, ⟨fun _ h => (by cases h), fun h1 => gtx_B (by omega) fun t2 ht2 h2 => ?_⟩, fun q hq => ⟨fun _ => H, fun hc => ?_⟩⟩
  · obtain ⟨a, b⟩ := ht2 (by simpa using h2)
    exact ⟨ht (by simpa using h1), by omega, fun s hs => by have := b s hs; omega⟩
  simp only [Bool.or_eq_false_iff, decide_eq_false_iff_not] at hc
  obtain ⟨hs, ho, hol⟩ := hq hc.1.1
  have hp : p.length ≤ 250 := by omega
  clear hq hc ht
  have hl := hs.len
  have hol2 : ∀ s ∈ outs, s.length ≤ 1000 := fun s h => Nat.le_trans (hol s h) (by omega)
  have hsz := hs.sz
  refine new_R (by omega) hsz (fun e he hne => rnew_R (by omega) hsz (fun e' he' hne' => ?_) fun hok => absurd (he.uniq hok) hne) fun hok => rnew_R (by omega) hsz (fun e' he' hne' => absurd (he'.uniq hok) hne') fun _ => ?_
  · obtain rfl := he.uniq he'
    refine sameR_M ⟨fun h => ?_, fun _ => ?_⟩
    · exfalso
      have hc : fC e ≠ 0 := by
        cases e with
        | ok => exact absurd rfl hne
        | e n => show (101 + (n : Int)) ≠ 0; omega
        | at_ p n => show (101 + (n : Int)) ≠ 0; omega
      rw [decide_eq_false hc] at h
      simp at h
    · refine only_R hs (by omega) hol2 (fun _ _ _ => ronly_R hs (by omega) (fun _ _ _ => ?_) fun hok => absurd (he.uniq hok) hne) fun hok => absurd (he.uniq hok) hne
      refine sameActs_M (by simp) (by simp) ⟨fun h => by simp at h, fun _ => H⟩
  have g := hok.good
  have hbs : ∀ j, (bsP l j).length ≤ 1000 := fun j => by
    have h1 := bsP_len l j
    have h2 := hs.at j
    omega
  have hi10 : ∀ j, (l.getD j az).2.2.1.length ≤ 100 := fun j => by have := hs.at j; omega
  refine sameR_M (e := .ok) ⟨fun h => by simp at h, fun _ => ?_⟩
  refine only_R hs (by omega) hol2 (fun e he hne => absurd (he.uniq hok) hne) fun _ met m2 => ronly_R hs (by omega) (fun e he hne => absurd (he.uniq hok) hne) fun _ met' m2' => ?_
  have hme : onesN met l.length = onesN met' l.length := ones_eq fun k hk => (m2 k hk).trans (m2' k hk).symm
  have hpl : (pick l (onesN met l.length)).length ≤ 24 := by
    have := onesN_len met l.length
    unfold pick
    rw [List.length_map]; omega
  refine sameActs_M (by omega) (pick_small hs) ⟨fun h => by rw [hme] at h; simp at h, fun _ => ?_⟩
  refine action_R hs fun a b hab hlen => ?_
  refine ⟨fun q => q = false, ⟨fun h => ?_, fun h => ⟨fun hr => ?_, fun _ => rfl⟩⟩, fun q hq => ⟨fun h => (by rw [hq] at h; cases h), fun _ => ?_⟩⟩
  · exfalso
    rcases hab with ⟨rfl, hr, _⟩ | ⟨rfl, hr, _⟩
    · unfold inR at hr
      rw [decide_eq_true hr.1, decide_eq_true hr.2] at h
      cases h
    · have : (decide (0 ≤ i) && decide (i < (l.length : Int))) = false := by
        rw [Bool.and_eq_false_iff, decide_eq_false_iff_not, decide_eq_false_iff_not]
        unfold inR at hr; omega
      rw [this] at h; cases h
  · rw [Bool.and_eq_true, decide_eq_true_eq, decide_eq_true_eq] at hr
    rcases hab with ⟨rfl, _, rfl⟩ | ⟨_, hn, _⟩
    · have hat := hs.at i.toNat
      refine ⟨hr, sameAct_M (a := l.getD i.toNat az) (b := l.getD i.toNat az) (by omega) (by omega) ?_⟩
      rw [decide_eq_true rfl]; rfl
    · exact absurd hr hn
  refine ⟨fun k xs => 0 ≤ k ∧ xs.length ≤ 1000, fun k xs => xs.length - k.toNat, ⟨by omega, hlen⟩, fun k xs ⟨k0, k1⟩ => ⟨fun hlt => ⟨⟨k0, hlt⟩, by simp only [In]; omega, ⟨by omega, by rw [List.length_set]; exact k1⟩, by (try dsimp only); rw [List.length_set]; omega⟩, fun _ => ?_⟩⟩
  have hord : ∀ {K : List Int → Prop}, K (ordR (befL l l.length) l.length l.length) → M_pgraph_Graph_Order l (mkP l l.length) (befL l l.length) (aftL l l.length) K := fun h => order_M g.len hbs g.acy h
  have hrord : ∀ {K : List Int → Prop}, K (ordR (befL l l.length) l.length l.length) → M_psmithyref17_Graph_Order l K := fun h => rorder_M g.len g.dst g.inp g.acy h
  have holn := (ordR_props g.acy l.length (Nat.le_refl _)).1
  refine hord (hrord (sameInts_M (by omega) ⟨fun h => by simp at h, fun _ => ?_⟩))
  generalize hO : ordR (befL l l.length) l.length l.length = O at holn
  refine ⟨fun k _ => 0 ≤ k, fun k _ => O.length - k.toNat, Int.le_refl 0, fun k _ (k0 : 0 ≤ k) _ => ⟨fun hlt => ⟨⟨k0, hlt⟩, by simp only [In]; omega, by (try dsimp only); omega, by (try dsimp only); omega⟩, fun _ => ?_⟩⟩
  refine fun _ _ _ => ⟨fun b => b = true, ⟨fun _ => pmaker_R (by omega) (rmaker_M (by omega) g.dst (by simp)), fun h => by simp at h⟩, fun q12 h12 => ?_⟩
  subst h12
  refine ⟨fun b => b = true, ⟨fun _ => pbefore_R hs (fun h => rbefore_M (by omega) g.dst g.inp (fun _ => sameInts_M (by simp) rfl) fun h2 => absurd h2 h) fun h => rbefore_M (by omega) g.dst g.inp (fun h2 => absurd h h2) fun _ => sameInts_M (by have := hbs i.toNat; omega) (by simp), fun h => by cases h⟩, fun q13 h13 => ?_⟩
  subst h13
  refine ⟨fun b => b = true, ⟨fun _ => pafter_R hs (fun h => rafter_M g.len g.dst g.inp (fun _ => sameInts_M (by simp) rfl) fun h2 => absurd h2 h) fun h => rafter_M g.len g.dst g.inp (fun h2 => absurd h h2) fun _ => sameInts_M (by have := aftK_len l l.length i.toNat; omega) (by simp), fun h => by cases h⟩, fun q14 h14 => ?_⟩
  subst h14
  refine ⟨fun b => b = true, ⟨fun _ => hord (hrord (sameInts_M (by rw [hO]; omega) (by simp))), fun h => by cases h⟩, fun q15 h15 => ?_⟩
  subst h15
  refine ⟨fun b => b = true, ⟨fun _ => pneeds_R hs g (by omega) hol2 fun met _ m2 => rneeds_M g.len g.dst g.inp (by omega) fun met' _ m2' => sameInts_M (by have := onesN_len met l.length; omega) (by simpa using ones_eq fun k hk => (m2 k hk).trans (m2' k hk).symm), fun h => by cases h⟩, fun q16 h16 => ?_⟩
  subst h16
  have hfl : (sortU (l.flatMap fun a => srcA (mkP l l.length) a.2.2.1)).length ≤ 1000 := by
    refine Nat.le_trans (sortU_length _) ?_
    have hlen : ∀ (xs : List GAct), (∀ a ∈ xs, a.2.2.1.length ≤ 10) → (xs.flatMap fun a => srcA (mkP l l.length) a.2.2.1).length ≤ 10 * xs.length := by
      intro xs
      induction xs with
      | nil => intro _; simp
      | cons a xs ih =>
        intro h
        have h1 := ih fun b hb => h b (List.mem_cons_of_mem _ hb)
        have h2 := h a (List.mem_cons_self ..)
        have h3 := srcA_len (mkP l l.length) a.2.2.1
        rw [List.flatMap_cons, List.length_append, List.length_cons]
        omega
    have := hlen l fun a ha => (hs.inp a ha).1
    omega
  refine ⟨fun b => b = true, ⟨fun _ => sources_M g.len (fun a ha => ⟨by have := (hs.inp a ha).1; omega, fun s hs2 => by have := (hs.inp a ha).2 s hs2; omega⟩) (rsources_M g.len g.dst hi10 (sameTexts_M (by omega) (by simp))), fun h => by cases h⟩, fun q17 h17 => ?_⟩
  subst h17
  exact H
theorem says_gr4 {P0 P1 P2 P3 : Prop} {l : List GAct} {outs : TL} {p : List UInt8} {i : Int} {K : Bool → Prop} (_ : P0) (_ : P1) (_ : P2) (_ : P3) (H : K true) : M_smithylaw22_GraphSays l outs p i K := says_gr H
end Go.Proofs.YtlonpmajnglmoaaGreatDoor


 