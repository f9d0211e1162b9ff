/- Texts of this claim, joined by a program: PathH, PathI, PathJ. -/
import Derived.Test.YtcfljnfaakjdjaaDoorJ5
/- Globs: the plain side. -/
namespace Go.Proofs.YtcfljnfaakjdjaaDoor
open Go Go.RowKit
theorem texts_M {l : List Bs} {K : List Bs → Prop} (hl : l.length ≤ 1000000000) (h : K l) : M_smithyref_Texts l K := by
  intro _
  refine ⟨by omega, fun out i => 0 ≤ i ∧ i ≤ l.length ∧ out = l.take i.toNat, fun _ i => l.length - i.toNat, ⟨by omega, by omega, by simp⟩, fun out i ⟨h0, h1, h2⟩ => ⟨fun hlt => ⟨by omega, ?_, by simp only [In]; omega, ⟨by omega, by omega, ?_⟩, by (try dsimp only); omega⟩, fun hge => ?_⟩⟩
  · subst h2
    simp only [List.length_take, List.length_cons, List.length_nil]
    omega
  · subst h2
    rw [show (i + 1).toNat = i.toNat + 1 by omega, List.take_succ_eq_append_getElem (by omega)]
    simp [List.getD, show i.toNat < l.length by omega]
  · have : i.toNat = l.length := by omega
    rw [h2, this, List.take_length]
    exact h
theorem sameTexts_M {a b : List Bs} {K : Bool → Prop} (ha : a.length ≤ 1000000000) (h : K (decide (a = b))) : M_smithyref_SameTexts a b K := by
  intro _ _
  refine ⟨fun hne => ?_, fun he => ?_⟩
  · rw [decide_eq_false (fun e => hne (by rw [e]))] at h
    exact h
  · refine ⟨fun i => 0 ≤ i ∧ i ≤ a.length ∧ ∀ j, j < i.toNat → a.getD j [] = b.getD j [], fun i => a.length - i.toNat, ⟨by omega, by omega, by intro j hj; simp at hj⟩, fun i ⟨h0, h1, h2⟩ => ⟨fun hlt => ⟨by omega, by omega, fun hne => ?_, fun hee => ⟨by simp only [In]; omega, ⟨by omega, by omega, fun j hj => ?_⟩, by (try dsimp only); omega⟩⟩, fun hge => ?_⟩⟩
    · rw [decide_eq_false (fun e => hne (by rw [e]))] at h
      exact h
    · by_cases e : j = i.toNat
      · rw [e]; exact hee
      · exact h2 j (by omega)
    · have e : a = b := List.ext_getElem (by omega) fun j h3 h4 => by
        have := h2 j (by omega)
        simpa [List.getD, h3, h4] using this
      rw [decide_eq_true e] at h
      exact h
theorem amongTexts_M {l : List Bs} {s : Bs} {K : Int → Prop} (hl : l.length ≤ 1000000000) (h0 : s ∉ l → K (-1)) (h1 : ∀ i : Int, 0 ≤ i → s ∈ l → K i) : M_smithyref_AmongTexts l s K := by
  intro _
  refine ⟨fun i => 0 ≤ i ∧ i ≤ l.length ∧ ∀ j, j < i.toNat → l.getD j [] ≠ s, fun i => l.length - i.toNat, ⟨by omega, by omega, by intro j hj; simp at hj⟩, fun i ⟨a0, a1, a2⟩ => ⟨fun hlt => ⟨by omega, fun he => ?_, fun hne => ⟨by simp only [In]; omega, ⟨by omega, by omega, fun j hj => ?_⟩, by (try dsimp only); omega⟩⟩, fun hge => ?_⟩⟩
  · refine h1 i a0 ?_
    rw [← he]
    exact getD_mem (by omega)
  · by_cases e : j = i.toNat
    · rw [e]; exact hne
    · exact a2 j (by omega)
  · refine h0 fun hm => ?_
    obtain ⟨j, hj, he⟩ := List.getElem_of_mem hm
    refine a2 j (by omega) ?_
    simp [List.getD, hj, he]
theorem bytesLess_lt (a b : Bs) : Op.bytesLess a b = decide (a < b) := bytesLess_eq a b
theorem sortedTexts_M {l : List Bs} {K : List Bs → Prop} (hl : l.length ≤ 1000000) (h : K (sortU l)) : M_smithyref_SortedTexts l K := by
  intro _
  refine ⟨fun out i => 0 ≤ i ∧ i ≤ l.length ∧ Strict out ∧ (∀ x, x ∈ out ↔ x ∈ l.take i.toNat) ∧ out.length ≤ i.toNat, fun _ i => l.length - i.toNat, ⟨by omega, by omega, List.Pairwise.nil, by simp, by simp⟩, fun out i ⟨a0, a1, a2, a3, a4⟩ => ⟨fun hlt => ?_, fun hge => ?_⟩⟩
  · generalize hx : l.getD i.toNat [] = x
    have htk : ∀ y, y ∈ l.take (i + 1).toNat ↔ y ∈ l.take i.toNat ∨ y = x := fun y => by
      rw [show (i + 1).toNat = i.toNat + 1 by omega, List.take_succ_eq_append_getElem (by omega), List.mem_append, List.mem_singleton, ← hx]
      simp [List.getD, show i.toNat < l.length by omega]
    refine ⟨fun o => Strict o ∧ (∀ y, y ∈ o ↔ y ∈ l.take (i + 1).toNat) ∧ o.length ≤ i.toNat + 1, ?_, fun o ⟨h1, h2, h3⟩ => ⟨by simp only [In]; omega, ⟨by omega, by omega, h1, h2, by omega⟩, by (try dsimp only); omega⟩⟩
    refine ⟨fun k => 0 ≤ k ∧ k ≤ out.length ∧ ∀ j, j < k.toNat → out.getD j [] < x, fun k => out.length - k.toNat, ⟨by omega, by omega, by intro j hj; simp at hj⟩, fun k ⟨b0, b1, b2⟩ => ⟨fun hd => ?_, fun hd => ?_, fun hc => ?_, fun hc => ⟨fun hd => ?_, fun hd => ?_, fun he => ?_, fun he => ?_⟩⟩⟩
    · simp only [decide_eq_true_eq] at hd; omega
    · omega
    · rw [Bool.and_eq_true, bytesLess_lt, decide_eq_true_eq, decide_eq_true_eq] at hc
      refine ⟨by simp only [In]; omega, ⟨by omega, by omega, fun j hj => ?_⟩, by (try dsimp only); omega⟩
      by_cases e : j = k.toNat
      · rw [e]; exact hc.2
      · exact b2 j (by omega)
    · simp only [decide_eq_true_eq] at hd; omega
    · omega
    · rw [Bool.and_eq_true, decide_eq_true_eq, decide_eq_true_eq] at he
      refine ⟨a2, fun y => ?_, by omega⟩
      rw [htk, a3]
      refine ⟨.inl, fun h => h.elim id fun h => ?_⟩
      rw [h, ← a3, ← he.2]
      exact getD_mem (by omega)
    · have hlen : (out.take k.toNat).length = k.toNat := by simp; omega
      refine ⟨by simp only [In]; omega, by omega, by omega, ?_, by omega, ?_, by omega, ?_, ?_⟩
      · simp only [List.length_nil, hlen]; omega
      · simp only [List.nil_append, List.length_cons, List.length_nil, hlen]; omega
      · simp only [List.nil_append, List.length_append, List.length_cons, List.length_nil, List.length_drop, hlen]; omega
      · rw [List.nil_append, List.append_assoc]
        refine ⟨strict_insert a2 (by omega) b2 fun hk => ?_, fun y => ?_, ?_⟩
        · have hk' : k < out.length := by omega
          rw [bytesLess_lt, decide_eq_true hk', Bool.true_and, decide_eq_false_iff_not] at hc
          rw [decide_eq_true hk', Bool.true_and, decide_eq_false_iff_not] at he
          rcases bs_lt_or (out.getD k.toNat []) x with h1 | h1 | h1
          · exact absurd h1 hc
          · exact absurd h1 he
          · exact h1
        · rw [htk, ← a3, List.mem_append, List.mem_append, List.mem_singleton]
          conv => rhs; lhs; rw [← List.take_append_drop k.toNat out, List.mem_append]
          constructor
          · rintro (h | h | h)
            · exact .inl (.inl h)
            · exact .inr h
            · exact .inl (.inr h)
          · rintro ((h | h) | h)
            · exact .inl h
            · exact .inr (.inr h)
            · exact .inr (.inl h)
        · simp only [List.length_append, List.length_cons, List.length_nil, List.length_drop, hlen]; omega
  · have e : i.toNat = l.length := by omega
    rw [e, List.take_length] at a3
    rw [sortU_of a2 a3]
    exact h
def oneB (pats : List Bs) (p : Bs) : Bool := pats.any fun x => patB x && matchB x p
theorem oneB_mem {pats : List Bs} {p : Bs} : oneB pats p = true ↔ ∃ x ∈ pats, (patB x && matchB x p) = true := by unfold oneB; exact List.any_eq_true
theorem pone_M {pats : List Bs} {p : Bs} {K : Bool → Prop} (hl : pats.length ≤ 1000000000) (hx : ∀ x ∈ pats, x.length ≤ 1000000000) (hp : p.length ≤ 1000000000) (h : K (oneB pats p)) : M_path_one pats p K := by
  intro _
  refine ⟨fun i => 0 ≤ i ∧ i ≤ pats.length ∧ ∀ j, j < i.toNat → (patB (pats.getD j []) && matchB (pats.getD j []) p) = false, fun i => pats.length - i.toNat, ⟨by omega, by omega, by intro j hj; simp at hj⟩, fun i ⟨a0, a1, a2⟩ => ⟨fun hlt => ⟨by omega, ?_⟩, fun hge => ?_⟩⟩
  · have hm : pats.getD i.toNat [] ∈ pats := getD_mem (by omega)
    have key : ∀ b : Bool, b = (patB (pats.getD i.toNat []) && matchB (pats.getD i.toNat []) p) → ((b = true → K true) ∧ (b = false → In .i64 (i + 1) ∧ (0 ≤ i + 1 ∧ i + 1 ≤ pats.length ∧ ∀ j, j < (i + 1).toNat → (patB (pats.getD j []) && matchB (pats.getD j []) p) = false) ∧ pats.length - (i + 1).toNat < pats.length - i.toNat)) := fun b hb => ⟨fun ht => by
        have : oneB pats p = true := oneB_mem.2 ⟨_, hm, by rw [← hb, ht]⟩
        rw [this] at h; exact h, fun hf => ⟨by simp only [In]; omega, ⟨by omega, by omega, fun j hj => by
        by_cases e : j = i.toNat
        · rw [e, ← hb, hf]
        · exact a2 j (by omega)⟩, by (try dsimp only); omega⟩⟩
    refine match_M (by have := hx _ hm; omega) (by omega) (fun hf => ?_) (fun ht => ?_)
    · exact key false (by rw [hf]; rfl)
    · exact key _ (by rw [ht, Bool.true_and])
  · have : oneB pats p = false := by
      rw [← Bool.not_eq_true, oneB_mem]
      rintro ⟨x, hm, he⟩
      obtain ⟨j, hj, rfl⟩ := List.getElem_of_mem hm
      have := a2 j (by omega)
      simp only [List.getD, List.getElem?_eq_getElem hj, Option.getD_some] at this
      rw [this] at he
      cases he
    rw [this] at h; exact h
theorem glob_M {pats but paths : List Bs} {K : List Bs → Er → Prop} (h1 : pats.length ≤ 1000000) (h2 : but.length ≤ 1000000) (h3 : paths.length ≤ 1000000) (hx : ∀ x ∈ pats, x.length ≤ 1000000) (hy : ∀ x ∈ but, x.length ≤ 1000000) (hz : ∀ x ∈ paths, x.length ≤ 1000000)
    (hbad : ∀ i : Nat, i < (pats ++ but).length → patB ((pats ++ but).getD i []) = false → (∀ j, j < i → patB ((pats ++ but).getD j []) = true) → K [] (.at_ i 11))
    (hgood : (∀ x ∈ pats ++ but, patB x = true) → K (sortU (paths.filter fun p => oneB pats p && !oneB but p)) .ok) : M_path_Glob pats but paths K := by
  intro _ _ _
  refine ⟨by omega, ?_⟩
  have hlen : (pats ++ but).length = pats.length + but.length := List.length_append
  refine ⟨fun i => 0 ≤ i ∧ i ≤ (pats ++ but).length ∧ ∀ j, j < i.toNat → patB ((pats ++ but).getD j []) = true, fun i => (pats ++ but).length - i.toNat, ⟨by omega, by omega, by intro j hj; simp at hj⟩, fun i ⟨a0, a1, a2⟩ => ⟨fun hlt => ⟨by omega, ?_⟩, fun hge => ?_⟩⟩
  · have hm : (pats ++ but).getD i.toNat [] ∈ pats ++ but := getD_mem (by omega)
    have hml : ((pats ++ but).getD i.toNat []).length ≤ 1000000 := (List.mem_append.1 hm).elim (hx _) (hy _)
    refine match_M (by omega) (by simp) (fun hf => ⟨fun _ => ⟨11, rfl, ?_⟩, fun e => by cases e⟩) (fun ht => ⟨fun e => absurd rfl e, fun _ => ⟨by simp only [In]; omega, ⟨by omega, by omega, fun j hj => ?_⟩, by (try dsimp only); omega⟩⟩)
    · have := hbad i.toNat (by omega) hf (fun j hj => a2 j hj)
      rwa [show ((i.toNat : Nat) : Int) = i by omega] at this
    · by_cases e : j = i.toNat
      · rw [e]; exact ht
      · exact a2 j (by omega)
  · have hall : ∀ x ∈ pats ++ but, patB x = true := fun x hm => by
      obtain ⟨j, hj, rfl⟩ := List.getElem_of_mem hm
      have := a2 j (by omega)
      simpa only [List.getD, List.getElem?_eq_getElem hj, Option.getD_some] using this
    have hK := hgood hall
    refine ⟨fun out k => 0 ≤ k ∧ k ≤ paths.length ∧ out = (paths.take k.toNat).filter fun p => oneB pats p && !oneB but p, fun _ k => paths.length - k.toNat, ⟨by omega, by omega, by simp⟩, fun out k ⟨b0, b1, b2⟩ => ⟨fun hlt => ?_, fun hge => ?_⟩⟩
    · have hm : paths.getD k.toNat [] ∈ paths := getD_mem (by omega)
      have hml := hz _ hm
      have hnext : (paths.take (k + 1).toNat).filter (fun p => oneB pats p && !oneB but p) = out ++ [paths.getD k.toNat []].filter (fun p => oneB pats p && !oneB but p) := by
        rw [b2, ← List.filter_append, show (k + 1).toNat = k.toNat + 1 by omega, List.take_succ_eq_append_getElem (by omega)]
        simp [List.getD, show k.toNat < paths.length by omega]
      refine ⟨fun o => o = (paths.take (k + 1).toNat).filter fun p => oneB pats p && !oneB but p, ⟨by omega, ?_⟩, fun o ho => ⟨by simp only [In]; omega, ⟨by omega, by omega, ho⟩, by (try dsimp only); omega⟩⟩
      refine pone_M (by omega) (fun x h => by have := hx x h; omega) (by omega) ?_
      refine ⟨fun b => b = (oneB pats (paths.getD k.toNat []) && !oneB but (paths.getD k.toNat [])), ⟨fun ht => ?_, fun hf => by rw [hf]; rfl⟩, fun b hb => ⟨fun ht => ⟨?_, ?_⟩, fun hf => ?_⟩⟩
      · refine pone_M (by omega) (fun x h => by have := hy x h; omega) (by omega) ?_
        rw [ht, Bool.true_and]
      · have hol : out.length ≤ paths.length := by
          rw [b2]
          exact Nat.le_trans (List.length_filter_le _ _) (by simp; omega)
        simp only [List.length_cons, List.length_nil]
        omega
      · show _ = _
        rw [hnext, List.filter_cons_of_pos (by rw [← hb, ht])]
        rfl
      · show _ = _
        rw [hnext, List.filter_cons_of_neg (by rw [← hb, hf]; simp)]
        simp
    · have e : k.toNat = paths.length := by omega
      rw [e, List.take_length] at b2
      subst b2
      have hfl : (paths.filter fun p => oneB pats p && !oneB but p).length ≤ paths.length := List.length_filter_le _ _
      exact ⟨by omega, hK⟩
/-! ## the chapter's patterns -/
theorem contains_two (x : Bs) : Lib.contains x [42, 42] = true ↔ ∃ k, k + 1 < x.length ∧ x.getD k 0 = 42 ∧ x.getD (k + 1) 0 = 42 := by
  induction x with
  | nil => simp [Lib.contains, Lib.index]
  | cons b l ih =>
    unfold Lib.contains at ih ⊢
    rw [Lib.index]
    cases hp : ([42, 42] : List UInt8).isPrefixOf (b :: l) with
    | true =>
      simp only [if_true, Int.le_refl, decide_true, true_iff]
      cases l with
      | nil => simp [List.isPrefixOf] at hp
      | cons c l =>
        simp only [List.isPrefixOf, Bool.and_true, Bool.and_eq_true, beq_iff_eq] at hp
        exact ⟨0, by simp, by simp [hp.1], by simp [hp.2]⟩
    | false =>
      simp only [Bool.false_eq_true, if_false]
      have hge := Lib.index_ge l [42, 42]
      have e1 : decide (0 ≤ (if (Lib.index l [42, 42] == -1) = true then -1 else Lib.index l [42, 42] + 1)) = decide (0 ≤ Lib.index l [42, 42]) := by
        rw [decide_eq_decide]
        split
        · rename_i h; rw [beq_iff_eq] at h; omega
        · rename_i h; rw [beq_iff_eq] at h; omega
      rw [e1, ih]
      constructor
      · rintro ⟨k, h1, h2, h3⟩
        exact ⟨k + 1, by simp; omega, by simpa using h2, by simpa using h3⟩
      · rintro ⟨k, h1, h2, h3⟩
        cases k with
        | zero =>
          exfalso
          cases l with
          | nil => simp at h1
          | cons c l =>
            simp at h2 h3
            subst h2; subst h3
            simp [List.isPrefixOf] at hp
        | succ k => exact ⟨k, by simp at h1; omega, by simpa using h2, by simpa using h3⟩
def starB (c : UInt8) : Bool := letB c || decide (c = 42)
theorem starB_map (x : Bs) : fairB (x.map fun c => if c = 42 then 95 else c) = (x.all starB && !dotsB (x.map fun c => if c = 42 then 95 else c)) := by
  unfold fairB
  rw [List.all_map]
  congr 2
  funext c
  unfold starB
  by_cases h : c = 42
  · subst h; decide
  · simp [h]
theorem dots_map (x : Bs) : dotsB (x.map fun c => if c = 42 then 95 else c) = dotsB x := by
  have h46 : ∀ c : UInt8, (if c = 42 then (95 : UInt8) else c) = 46 ↔ c = 46 := fun c => by
    by_cases h : c = 42
    · subst h; decide
    · simp [h]
  unfold dotsB
  congr 1
  · congr 1
    · simp
    · rw [decide_eq_decide]
      match x with
      | [] => simp
      | [a] => simp [h46]
      | a :: b :: l => simp
  · rw [decide_eq_decide]
    match x with
    | [] => simp
    | [a] => simp
    | [a, b] => simp [h46]
    | a :: b :: c :: l => simp
theorem patPart_eq (x : Bs) : patPart x = ((x.all starB && !dotsB x) && !(Lib.contains x [42, 42] && !decide (x = [42, 42]))) := by
  unfold patPart
  rw [starB_map, dots_map]
  cases Lib.contains x [42, 42] && !decide (x = [42, 42]) <;> cases dotsB x <;> cases x.all starB <;> rfl
theorem rpartS_M {s : Bs} {K : Bool → Prop} (hs : s.length ≤ 4000000000) (h : K (s.all starB && !dotsB s)) : M_smithyref1_part s true K := by
  unfold M_smithyref1_part
  refine ⟨fun i => ∃ k : Nat, i = k ∧ k ≤ s.length ∧ (s.take k).all starB = true, fun i => (s.length - i.toNat), ⟨0, rfl, by omega, by simp⟩, ?_⟩
  rintro _ ⟨k, rfl, hk, hall⟩
  refine ⟨fun hlt => ⟨by omega, rletter_M ?_⟩, fun hge => ?_⟩
  · have hk' : k < s.length := by omega
    rw [Int.toNat_natCast]
    have hb : decide (((s.getD k 0).toNat : Int) = (42 : Int)) = decide (s.getD k 0 = 42) := byteEq (s.getD k 0) 42
    have hno : starB (s.getD k 0) = false → s.all starB = false := fun hf => by
      rw [List.all_eq_false]
      exact ⟨s.getD k 0, getD_mem hk', by rw [hf]; simp⟩
    have hgo : starB (s.getD k 0) = true → In .i64 ((k : Int) + 1) ∧ (∃ j : Nat, (k : Int) + 1 = j ∧ j ≤ s.length ∧ (s.take j).all starB = true) ∧ s.length - ((k : Int) + 1).toNat < s.length - (k : Int).toNat := fun ht => ⟨by simp only [In]; omega, ⟨k + 1, by omega, by omega, take_all_succ hall hk' ht⟩, by (try dsimp only); omega⟩
    have hsb : starB (s.getD k 0) = (letB (s.getD k 0) || decide (s.getD k 0 = 42)) := rfl
    rw [hsb] at hno hgo
    cases hl : letB (s.getD k 0) with
    | true => rw [hl] at hgo; exact ⟨fun h1 => by simp at h1, fun h1 => by simp at h1, fun _ => hgo rfl⟩
    | false =>
      rw [hl, Bool.false_or] at hgo hno
      refine ⟨fun _ _ => by omega, fun hc => ?_, fun hc => ?_⟩
      · have hf : decide (s.getD k 0 = 42) = false := by rw [hb] at hc; simpa using hc
        rw [hno hf] at h
        exact h
      · have ht : decide (s.getD k 0 = 42) = true := by rw [hb] at hc; simpa using hc
        exact hgo ht
  · obtain rfl : k = s.length := by omega
    rw [List.take_length] at hall
    unfold dotsB at h
    rw [hall, Bool.true_and, Bool.not_or, Bool.not_or] at h
    exact h
end Go.Proofs.YtcfljnfaakjdjaaDoor
 /- The chapter's matches, by all that can be reached: they are those of the table; Glob. -/
namespace Go.Proofs.YtcfljnfaakjdjaaDoor
open Go Go.RowKit
def NX (star : Bool) (d e : Nat → Bool) (k j : Nat) : Prop := if star then ∃ m, m < k ∧ m ≤ j ∧ d m = true else ∃ m, j = m + 1 ∧ m < k ∧ d m = true ∧ e m = true
structure Tbl (n : Nat) (d : Nat → Prop) (xs : List Bool) : Prop where
  len : xs.length = n + 1
  is : ∀ j, j ≤ n → (xs.getD j false = true ↔ d j)
theorem Tbl.mono {n : Nat} {d d' : Nat → Prop} {xs : List Bool} (h : Tbl n d xs) (k : ∀ j, j ≤ n → (d j ↔ d' j)) : Tbl n d' xs := ⟨h.len, fun j hj => (h.is j hj).trans (k j hj)⟩
theorem Tbl.set {n : Nat} {d : Nat → Prop} {xs : List Bool} (h : Tbl n d xs) {a : Nat} (ha : a ≤ n) : Tbl n (fun j => d j ∨ j = a) (xs.set a true) := ⟨by rw [List.length_set, h.len], fun j hj => by
  rw [getD_set (by have := h.len; omega)]
  by_cases e : j = a
  · simp [e]
  · rw [if_neg e, h.is j hj]
    simp [e]⟩
theorem dp_nx (star : Nat → Bool) (eq : Nat → Nat → Bool) (i n : Nat) : ∀ j, j ≤ n → (NX (star i) (dp star eq i) (eq i) (n + 1) j ↔ dp star eq (i + 1) j = true)
  | 0, _ => by
    rw [dps0]
    unfold NX
    cases star i with
    | true =>
      simp only [if_true, Bool.true_and]
      exact ⟨fun ⟨m, _, h2, h3⟩ => by rw [show m = 0 by omega] at h3; exact h3, fun h => ⟨0, by omega, by omega, h⟩⟩
    | false => simp
  | j + 1, hj => by
    have ih := dp_nx star eq i n j (by omega)
    rw [dpss]
    unfold NX at ih ⊢
    cases hs : star i with
    | true =>
      rw [hs] at ih
      simp only [if_true] at ih ⊢
      rw [Bool.or_eq_true, ← ih]
      constructor
      · rintro ⟨m, h1, h2, h3⟩
        by_cases e : m = j + 1
        · rw [e] at h3; exact .inl h3
        · exact .inr ⟨m, h1, by omega, h3⟩
      · rintro (h | ⟨m, h1, h2, h3⟩)
        · exact ⟨j + 1, by omega, by omega, h⟩
        · exact ⟨m, h1, by omega, h3⟩
    | false =>
      simp only [Bool.false_eq_true, if_false, Bool.and_eq_true]
      exact ⟨fun ⟨m, h1, _, h3, h4⟩ => by rw [show j = m by omega]; exact ⟨h3, h4⟩, fun ⟨h3, h4⟩ => ⟨j, rfl, by omega, h3, h4⟩⟩
theorem tbl_start (star : Nat → Bool) (eq : Nat → Nat → Bool) (n : Nat) : Tbl n (fun j => dp star eq 0 j = true) ((List.replicate (n + 1) false).set 0 true) := by
  have h := rowStart star eq n
  exact ⟨h.1, fun j hj => by rw [h.2 j (by omega)]⟩
theorem tbl_zero (star : Bool) (d e : Nat → Bool) (n : Nat) : Tbl n (NX star d e 0) (List.replicate (n + 1) false) := ⟨by simp, fun j hj => by
  unfold NX
  cases star <;> simp [List.getD, show j < n + 1 by omega]⟩
theorem nx_skip {star : Bool} {d e : Nat → Bool} {k j : Nat} (h : d k = false) : NX star d e k j ↔ NX star d e (k + 1) j := by
  unfold NX
  cases star with
  | true =>
    simp only [if_true]
    exact ⟨fun ⟨m, h1, h2, h3⟩ => ⟨m, by omega, h2, h3⟩, fun ⟨m, h1, h2, h3⟩ => ⟨m, by
      rcases Nat.lt_or_ge m k with h4 | h4
      · exact h4
      · rw [show m = k by omega, h] at h3
        exact absurd h3 (by simp), h2, h3⟩⟩
  | false =>
    simp only [Bool.false_eq_true, if_false]
    exact ⟨fun ⟨m, h1, h2, h3⟩ => ⟨m, h1, by omega, h3⟩, fun ⟨m, h1, h2, h3⟩ => ⟨m, h1, by
      rcases Nat.lt_or_ge m k with h4 | h4
      · exact h4
      · rw [show m = k by omega, h] at h3
        exact absurd h3.1 (by simp), h3⟩⟩
theorem nx_star {d e : Nat → Bool} {k j n : Nat} (h : d k = true) (hj : j ≤ n) : NX true d e k j ∨ (k ≤ j ∧ j < n + 1) ↔ NX true d e (k + 1) j := by
  unfold NX
  simp only [if_true]
  constructor
  · rintro (⟨m, h1, h2, h3⟩ | ⟨h1, h2⟩)
    · exact ⟨m, by omega, h2, h3⟩
    · exact ⟨k, by omega, h1, h⟩
  · rintro ⟨m, h1, h2, h3⟩
    rcases Nat.lt_or_ge m k with h4 | h4
    · exact .inl ⟨m, h4, h2, h3⟩
    · exact .inr ⟨by omega, by omega⟩
theorem nx_step {d e : Nat → Bool} {k j : Nat} (h : d k = true) (he : e k = true) : NX false d e k j ∨ j = k + 1 ↔ NX false d e (k + 1) j := by
  unfold NX
  simp only [Bool.false_eq_true, if_false]
  constructor
  · rintro (⟨m, h1, h2, h3⟩ | h1)
    · exact ⟨m, h1, by omega, h3⟩
    · exact ⟨k, h1, by omega, h, he⟩
  · rintro ⟨m, h1, h2, h3⟩
    rcases Nat.lt_or_ge m k with h4 | h4
    · exact .inl ⟨m, h1, h4, h3⟩
    · exact .inr (by omega)
theorem nx_none {d e : Nat → Bool} {k j n : Nat} (he : ¬ (k < n ∧ e k = true)) (hj : j ≤ n) : NX false d e k j ↔ NX false d e (k + 1) j := by
  unfold NX
  simp only [Bool.false_eq_true, if_false]
  exact ⟨fun ⟨m, h1, h2, h3⟩ => ⟨m, h1, by omega, h3⟩, fun ⟨m, h1, h2, h3⟩ => ⟨m, h1, by
    rcases Nat.lt_or_ge m k with h4 | h4
    · exact h4
    · have : m = k := by omega
      subst this
      exact absurd ⟨by omega, h3.2⟩ he, h3⟩⟩
theorem nat1 (n : Nat) : ((n : Int) + (1 : Int)).toNat = n + 1 := by omega
theorem rone_M {pat s : Bs} {K : Bool → Prop} (hp : pat.length ≤ 1000000000) (hs : s.length ≤ 1000000000) (h : K (partB pat s)) : M_smithyref1_one pat s K := by
  unfold M_smithyref1_one
  simp only [nat1]
  have hB : ∀ a, bt pat a = pat.getD a 0 := fun _ => rfl
  generalize hst : (fun i => decide (bt pat i = 42)) = star
  generalize heq : (fun i j => decide (bt s j = bt pat i)) = eq
  have h' : K (dp star eq pat.length s.length) := by rw [← hst, ← heq]; exact h
  refine ⟨by simp only [In]; omega, by omega, by omega, ?_⟩
  refine ⟨fun reach i => 0 ≤ i ∧ i ≤ pat.length ∧ Tbl s.length (fun j => dp star eq i.toNat j = true) reach, fun _ i => pat.length - i.toNat, ⟨by omega, by omega, tbl_start star eq s.length⟩, fun reach i ⟨a0, a1, a2⟩ => ⟨fun hlt => ⟨by simp only [In]; omega, by omega, ?_⟩, fun hge => ⟨by have := a2.len; omega, ?_⟩⟩⟩
  · have hsi : star i.toNat = decide (((pat.getD i.toNat 0).toNat : Int) = 42) := by rw [← hst]; exact (byteEq (pat.getD i.toNat 0) 42).symm
    refine ⟨fun k next => 0 ≤ k ∧ k ≤ s.length + 1 ∧ Tbl s.length (NX (star i.toNat) (dp star eq i.toNat) (eq i.toNat) k.toNat) next, fun k _ => s.length + 1 - k.toNat, ⟨by omega, by omega, tbl_zero _ _ _ _⟩, fun k next ⟨b0, b1, b2⟩ _ => ⟨fun hk => ?_, fun hk => ⟨by simp only [In]; omega, ⟨by omega, by omega, ?_⟩, by (try dsimp only); omega⟩⟩⟩
    · refine ⟨fun xs => Tbl s.length (NX (star i.toNat) (dp star eq i.toNat) (eq i.toNat) (k.toNat + 1)) xs, ⟨by have := a2.len; omega, fun hr => ?_, fun hr => ⟨by omega, fun h42 => ?_, fun h42 => ?_⟩⟩, fun xs hxs _ => ⟨by simp only [In]; omega, ⟨by omega, by omega, by rw [show (k + 1).toNat = k.toNat + 1 by omega]; exact hxs⟩, by (try dsimp only); omega⟩⟩
      · have hd : dp star eq i.toNat k.toNat = false := by
          rw [← Bool.not_eq_true, ← a2.is k.toNat (by omega)]
          simpa using hr
        exact b2.mono fun j _ => nx_skip hd
      · have hd : dp star eq i.toNat k.toNat = true := by
          rw [← a2.is k.toNat (by omega)]
          simpa using hr
        rw [show star i.toNat = true by rw [hsi, decide_eq_true h42]] at b2 ⊢
        refine ⟨fun j nx => k ≤ j ∧ j ≤ s.length + 1 ∧ Tbl s.length (fun q => NX true (dp star eq i.toNat) (eq i.toNat) k.toNat q ∨ (k.toNat ≤ q ∧ q < j.toNat)) nx, fun j _ => s.length + 1 - j.toNat, ⟨by omega, by omega, b2.mono fun j _ => ⟨.inl, fun hq => hq.elim id fun hq => by omega⟩⟩, fun j nx ⟨c0, c1, c2⟩ _ => ⟨fun hj => ⟨by omega, by simp only [In]; omega, ⟨by omega, by omega, (c2.set (a := j.toNat) (by omega)).mono fun q _ => ?_⟩, by (try dsimp only); omega⟩, fun hj => c2.mono fun q hq => ?_⟩⟩
        · constructor
          · rintro ((h1 | h1) | h1)
            · exact .inl h1
            · exact .inr ⟨h1.1, by omega⟩
            · exact .inr ⟨by omega, by omega⟩
          · rintro (h1 | h1)
            · exact .inl (.inl h1)
            · by_cases e : q = j.toNat
              · exact .inr e
              · exact .inl (.inr ⟨h1.1, by omega⟩)
        · rw [show j.toNat = s.length + 1 by omega]
          exact nx_star hd hq
      · have hd : dp star eq i.toNat k.toNat = true := by
          rw [← a2.is k.toNat (by omega)]
          simpa using hr
        have hek : eq i.toNat k.toNat = decide (((s.getD k.toNat 0).toNat : Int) = ((pat.getD i.toNat 0).toNat : Int)) := by rw [← heq]; exact (byteEq (s.getD k.toNat 0) (pat.getD i.toNat 0)).symm
        rw [show star i.toNat = false by rw [hsi, decide_eq_false h42]] at b2 ⊢
        refine ⟨fun hd => by simp only [decide_eq_true_eq] at hd; omega, fun _ => by omega, fun hc => ?_, fun hc => ?_⟩
        · rw [← hek, Bool.and_eq_true, decide_eq_true_eq] at hc
          refine ⟨by simp only [In]; omega, by omega, ?_⟩
          rw [show (k + 1).toNat = k.toNat + 1 by omega]
          exact (b2.set (a := k.toNat + 1) (by omega)).mono fun q _ => nx_step hd hc.2
        · rw [← hek, Bool.and_eq_false_iff, decide_eq_false_iff_not] at hc
          exact b2.mono fun q hq => nx_none (n := s.length) (fun ⟨h1, h2⟩ => hc.elim (fun h3 => h3 (by omega)) (fun h3 => by rw [h2] at h3; cases h3)) hq
    · rw [show (i + 1).toNat = i.toNat + 1 by omega]
      rw [show k.toNat = s.length + 1 by omega] at b2
      exact b2.mono fun j hj => dp_nx star eq i.toNat s.length j hj
  · have e : i.toNat = pat.length := by omega
    rw [e] at a2
    rw [Int.toNat_natCast, show reach.getD s.length false = dp star eq pat.length s.length from Bool.eq_iff_iff.2 (a2.is s.length (Nat.le_refl _))]
    exact h'
def rmatchB (pat p : Bs) : Bool := partsB (cuts pat) (cuts p) && validB p
theorem rmatch_M {pat p : Bs} {K : Bool → Prop} (hp : pat.length ≤ 100000000) (hs : p.length ≤ 100000000) (h : K (partsB (cuts pat) (cuts p) && validB p)) : M_smithyref1_Match pat p K := by
  unfold M_smithyref1_Match
  refine rparts_M (by omega) (rparts_M (by omega) ?_)
  have hla := cuts_length pat
  have hlb := cuts_length p
  have hxa : ∀ x ∈ cuts pat, x.length ≤ pat.length := fun x hx => cuts_part hx
  have hxb : ∀ x ∈ cuts p, x.length ≤ p.length := fun x hx => cuts_part hx
  generalize cuts pat = a at *
  generalize cuts p = b at *
  simp only [nat1]
  generalize hst : (fun i => decide (a.getD i [] = [42, 42])) = star
  generalize heq : (fun i j => partB (a.getD i []) (b.getD j [])) = eq
  have h' : K (dp star eq a.length b.length && validB p) := by rw [← hst, ← heq]; exact h
  refine ⟨by simp only [In]; omega, by omega, by omega, ?_⟩
  refine ⟨fun reach i => 0 ≤ i ∧ i ≤ a.length ∧ Tbl b.length (fun j => dp star eq i.toNat j = true) reach, fun _ i => a.length - i.toNat, ⟨by omega, by omega, tbl_start star eq b.length⟩, fun reach i ⟨a0, a1, a2⟩ => ⟨fun hlt => ⟨by simp only [In]; omega, by omega, ?_⟩, fun hge => ⟨by have := a2.len; omega, ?_⟩⟩⟩
  · have hsi : star i.toNat = decide (a.getD i.toNat [] = [42, 42]) := by rw [← hst]
    refine ⟨fun k next => 0 ≤ k ∧ k ≤ b.length + 1 ∧ Tbl b.length (NX (star i.toNat) (dp star eq i.toNat) (eq i.toNat) k.toNat) next, fun k _ => b.length + 1 - k.toNat, ⟨by omega, by omega, tbl_zero _ _ _ _⟩, fun k next ⟨b0, b1, b2⟩ _ => ⟨fun hk => ?_, fun hk => ⟨by simp only [In]; omega, ⟨by omega, by omega, ?_⟩, by (try dsimp only); omega⟩⟩⟩
    · refine ⟨fun xs => Tbl b.length (NX (star i.toNat) (dp star eq i.toNat) (eq i.toNat) (k.toNat + 1)) xs, ⟨by have := a2.len; omega, fun hr => ?_, fun hr => ⟨by omega, fun h42 => ?_, fun h42 => ?_⟩⟩, fun xs hxs _ => ⟨by simp only [In]; omega, ⟨by omega, by omega, by rw [show (k + 1).toNat = k.toNat + 1 by omega]; exact hxs⟩, by (try dsimp only); omega⟩⟩
      · have hd : dp star eq i.toNat k.toNat = false := by
          rw [← Bool.not_eq_true, ← a2.is k.toNat (by omega)]
          simpa using hr
        exact b2.mono fun j _ => nx_skip hd
      · have hd : dp star eq i.toNat k.toNat = true := by
          rw [← a2.is k.toNat (by omega)]
          simpa using hr
        rw [show star i.toNat = true by rw [hsi, decide_eq_true h42]] at b2 ⊢
        refine ⟨fun j nx => k ≤ j ∧ j ≤ b.length + 1 ∧ Tbl b.length (fun q => NX true (dp star eq i.toNat) (eq i.toNat) k.toNat q ∨ (k.toNat ≤ q ∧ q < j.toNat)) nx, fun j _ => b.length + 1 - j.toNat, ⟨by omega, by omega, b2.mono fun j _ => ⟨.inl, fun hq => hq.elim id fun hq => by omega⟩⟩, fun j nx ⟨c0, c1, c2⟩ _ => ⟨fun hj => ⟨by omega, by simp only [In]; omega, ⟨by omega, by omega, (c2.set (a := j.toNat) (by omega)).mono fun q _ => ?_⟩, by (try dsimp only); omega⟩, fun hj => c2.mono fun q hq => ?_⟩⟩
        · constructor
          · rintro ((h1 | h1) | h1)
            · exact .inl h1
            · exact .inr ⟨h1.1, by omega⟩
            · exact .inr ⟨by omega, by omega⟩
          · rintro (h1 | h1)
            · exact .inl (.inl h1)
            · by_cases e : q = j.toNat
              · exact .inr e
              · exact .inl (.inr ⟨h1.1, by omega⟩)
        · rw [show j.toNat = b.length + 1 by omega]
          exact nx_star hd hq
      · have hd : dp star eq i.toNat k.toNat = true := by
          rw [← a2.is k.toNat (by omega)]
          simpa using hr
        have hek : eq i.toNat k.toNat = partB (a.getD i.toNat []) (b.getD k.toNat []) := by rw [← heq]
        rw [show star i.toNat = false by rw [hsi, decide_eq_false h42]] at b2 ⊢
        refine ⟨fun q => q = (decide (k < (b.length : Int)) && eq i.toNat k.toNat), ⟨fun hd => ⟨by omega, by simp only [decide_eq_true_eq] at hd; omega, ?_⟩, fun hd => by rw [hd]; rfl⟩, fun q hq => ⟨fun ht => ?_, fun hf => ?_⟩⟩
        · simp only [decide_eq_true_eq] at hd
          have h1 := hxa (a.getD i.toNat []) (getD_mem (by omega))
          have h2 := hxb (b.getD k.toNat []) (getD_mem (by omega))
          refine rone_M (by omega) (by omega) ?_
          rw [decide_eq_true hd, Bool.true_and, hek]
        · rw [hq, Bool.and_eq_true, decide_eq_true_eq] at ht
          refine ⟨by simp only [In]; omega, by omega, ?_⟩
          rw [show (k + 1).toNat = k.toNat + 1 by omega]
          exact (b2.set (a := k.toNat + 1) (by omega)).mono fun q _ => nx_step hd ht.2
        · rw [hq, Bool.and_eq_false_iff, decide_eq_false_iff_not] at hf
          exact b2.mono fun q hq => nx_none (n := b.length) (fun ⟨h1, h2⟩ => hf.elim (fun h3 => h3 (by omega)) (fun h3 => by rw [h2] at h3; cases h3)) hq
    · rw [show (i + 1).toNat = i.toNat + 1 by omega]
      rw [show k.toNat = b.length + 1 by omega] at b2
      exact b2.mono fun j hj => dp_nx star eq i.toNat b.length j hj
  · have e : i.toNat = a.length := by omega
    rw [e] at a2
    rw [Int.toNat_natCast, show reach.getD b.length false = dp star eq a.length b.length from Bool.eq_iff_iff.2 (a2.is b.length (Nat.le_refl _))]
    refine ⟨fun q => q = (dp star eq a.length b.length && validB p), ⟨fun ht => rclean_M (by omega) (kr (by rw [ht, Bool.true_and, valid_is])), fun hf => by rw [hf]; rfl⟩, fun q hq => by rw [hq]; exact h'⟩
theorem two_of {x : Bs} {k : Nat} (h : k + 1 < x.length) (h1 : x.getD k 0 = 42) (h2 : x.getD (k + 1) 0 = 42) : Lib.contains x [42, 42] = true := (contains_two x).2 ⟨k, h, h1, h2⟩
theorem rpattern_M {s : Bs} {K : Bool → Prop} (hs : s.length ≤ 100000000) (h : K (patB s)) : M_smithyref1_Pattern s K := by
  unfold M_smithyref1_Pattern
  refine rparts_M (by omega) ?_
  have hl := cuts_length s
  have hx : ∀ x ∈ cuts s, x.length ≤ s.length := fun x hx => cuts_part hx
  have hpat : patB s = ((cuts s).all patPart && decide (s.length ≤ 200)) := rfl
  generalize cuts s = l at *
  have hno : ∀ i : Nat, i < l.length → patPart (l.getD i []) = false → K false := fun i hi hf => by
    have : l.all patPart = false := by
      rw [List.all_eq_false]
      exact ⟨l.getD i [], getD_mem hi, by rw [hf]; simp⟩
    rw [hpat, this] at h
    exact h
  refine ⟨fun i => 0 ≤ i ∧ i ≤ l.length ∧ ∀ j, j < i.toNat → patPart (l.getD j []) = true, fun i => l.length - i.toNat, ⟨by omega, by omega, by intro j hj; simp at hj⟩, fun i ⟨a0, a1, a2⟩ => ⟨fun hlt => ⟨by omega, ?_⟩, fun hge => ?_⟩⟩
  · have hm : l.getD i.toNat [] ∈ l := getD_mem (by omega)
    have hxl := hx _ hm
    have hno' := hno i.toNat (by omega)
    have hgo : patPart (l.getD i.toNat []) = true → In .i64 (i + 1) ∧ (0 ≤ i + 1 ∧ i + 1 ≤ l.length ∧ ∀ j, j < (i + 1).toNat → patPart (l.getD j []) = true) ∧ l.length - (i + 1).toNat < l.length - i.toNat := fun ht => ⟨by simp only [In]; omega, ⟨by omega, by omega, fun j hj => by
      by_cases e : j = i.toNat
      · rw [e]; exact ht
      · exact a2 j (by omega)⟩, by omega⟩
    generalize l.getD i.toNat [] = x at *
    have hpe := patPart_eq x
    refine rpartS_M (by omega) ⟨fun hf => ?_, fun ht => ?_⟩
    · have e : (x.all starB && !dotsB x) = false := (Bool.not_eq_true' _).mp hf
      exact hno' (by rw [hpe, e, Bool.false_and])
    · have e : (x.all starB && !dotsB x) = true := (Bool.not_eq_false' _).mp ht
      rw [e, Bool.true_and] at hpe
      refine ⟨fun k => 0 ≤ k ∧ k ≤ x.length ∧ (x = [42, 42] ∨ ∀ j, j < k.toNat → j + 1 < x.length → ¬ (x.getD j 0 = 42 ∧ x.getD (j + 1) 0 = 42)), fun k => x.length - k.toNat, ⟨by omega, by omega, .inr (by intro j hj; simp at hj)⟩, fun k ⟨b0, b1, b2⟩ => ⟨by simp only [In]; omega, by omega, fun hlt2 => ⟨by omega, by omega, fun _ => by omega, fun _ => by simp only [In]; omega, fun _ => by omega, fun _ => by omega, fun hc => ?_, fun hc => ⟨by simp only [In]; omega, ⟨by omega, by omega, ?_⟩, by (try dsimp only); omega⟩⟩, fun hge2 => ?_⟩⟩
      · simp only [Bool.and_eq_true, decide_eq_true_eq, Bool.not_eq_true', decide_eq_false_iff_not] at hc
        obtain ⟨⟨h1, h2⟩, h3⟩ := hc
        have d1 : x.getD k.toNat 0 = 42 := of_decide_eq_true ((byteEq (x.getD k.toNat 0) 42).symm.trans (decide_eq_true h1))
        have d2 : x.getD (k.toNat + 1) 0 = 42 := by
          rw [show (k + 1).toNat = k.toNat + 1 by omega] at h2
          exact of_decide_eq_true ((byteEq (x.getD (k.toNat + 1) 0) 42).symm.trans (decide_eq_true h2))
        refine hno' ?_
        rw [hpe, two_of (by omega) d1 d2, decide_eq_false h3]
        rfl
      · by_cases h3 : x = [42, 42]
        · exact .inl h3
        · refine .inr fun j hj hj2 hh => ?_
          rcases b2 with b2 | b2
          · exact h3 b2
          · by_cases e2 : j = k.toNat
            · subst e2
              rw [decide_eq_false h3] at hc
              have d1 : decide (((x.getD k.toNat 0).toNat : Int) = 42) = true := (byteEq (x.getD k.toNat 0) 42).trans (decide_eq_true hh.1)
              have d2 : decide (((x.getD (k + 1).toNat 0).toNat : Int) = 42) = true := by
                rw [show (k + 1).toNat = k.toNat + 1 by omega]
                exact (byteEq (x.getD (k.toNat + 1) 0) 42).trans (decide_eq_true hh.2)
              rw [d1, d2] at hc
              cases hc
            · exact b2 j (by omega) hj2 hh
      · refine hgo ?_
        rw [hpe]
        by_cases h3 : x = [42, 42]
        · rw [decide_eq_true h3]; simp
        · have : Lib.contains x [42, 42] = false := by
            rw [← Bool.not_eq_true, contains_two]
            rintro ⟨j, hj, h1, h2⟩
            rcases b2 with b2 | b2
            · exact h3 b2
            · exact b2 j (by omega) hj ⟨h1, h2⟩
          rw [this]; rfl
  · have hall : l.all patPart = true := by
      rw [List.all_eq_true]
      intro x hx
      obtain ⟨j, hj, rfl⟩ := List.getElem_of_mem hx
      have := a2 j (by omega)
      simpa only [List.getD, List.getElem?_eq_getElem hj, Option.getD_some] using this
    rw [hpat, hall, Bool.true_and] at h
    rw [show decide ((s.length : Int) ≤ 200) = decide (s.length ≤ 200) by rw [decide_eq_decide]; omega]
    exact h
theorem matchB_r (pat p : Bs) : (partsB (cuts pat) (cuts p) && validB p) = matchB pat p := Bool.and_comm _ _
theorem rglob_M {pats but paths : List Bs} {K : List Bs → Int → Prop} (h1 : pats.length ≤ 100000) (h2 : but.length ≤ 100000) (h3 : paths.length ≤ 100000) (hx : ∀ x ∈ pats, x.length ≤ 1000000) (hy : ∀ x ∈ but, x.length ≤ 1000000) (hz : ∀ x ∈ paths, x.length ≤ 1000000)
    (hbad : ∀ i : Nat, i < (pats ++ but).length → patB ((pats ++ but).getD i []) = false → (∀ j, j < i → patB ((pats ++ but).getD j []) = true) → K [] i)
    (hgood : (∀ x ∈ pats ++ but, patB x = true) → K (sortU (paths.filter fun p => oneB pats p && !oneB but p)) (-1)) : M_smithyref1_Glob pats but paths K := by
  intro _ _ _
  refine texts_M (by omega) ⟨by omega, ?_⟩
  have hlen : (pats ++ but).length = pats.length + but.length := List.length_append
  refine ⟨fun i => 0 ≤ i ∧ i ≤ (pats ++ but).length ∧ ∀ j, j < i.toNat → patB ((pats ++ but).getD j []) = true, fun i => (pats ++ but).length - i.toNat, ⟨by omega, by omega, by intro j hj; simp at hj⟩, fun i ⟨a0, a1, a2⟩ => ⟨fun hlt => ⟨by omega, ?_⟩, fun hge => ?_⟩⟩
  · have hm : (pats ++ but).getD i.toNat [] ∈ pats ++ but := getD_mem (by omega)
    have hml : ((pats ++ but).getD i.toNat []).length ≤ 1000000 := (List.mem_append.1 hm).elim (hx _) (hy _)
    refine rpattern_M (by omega) ⟨fun hf => ?_, fun ht => ⟨by simp only [In]; omega, ⟨by omega, by omega, fun j hj => ?_⟩, by (try dsimp only); omega⟩⟩
    · have := hbad i.toNat (by omega) (by simpa using hf) (fun j hj => a2 j hj)
      rwa [show ((i.toNat : Nat) : Int) = i by omega] at this
    · by_cases e : j = i.toNat
      · rw [e]; simpa using ht
      · exact a2 j (by omega)
  · have hall : ∀ x ∈ pats ++ but, patB x = true := fun x hm => by
      obtain ⟨j, hj, rfl⟩ := List.getElem_of_mem hm
      have := a2 j (by omega)
      simpa only [List.getD, List.getElem?_eq_getElem hj, Option.getD_some] using this
    have hallp : ∀ x ∈ pats, patB x = true := fun x hm => hall x (List.mem_append_left _ hm)
    have hallb : ∀ x ∈ but, patB x = true := fun x hm => hall x (List.mem_append_right _ hm)
    have hone : ∀ (l : List Bs) (p : Bs), (∀ x ∈ l, patB x = true) → oneB l p = l.any fun x => matchB x p := fun l p hl => by
      unfold oneB
      induction l with
      | nil => rfl
      | cons a l ih =>
        rw [List.any_cons, List.any_cons, ih fun x hm => hl x (by simp [hm]), hl a (by simp), Bool.true_and]
    have hK := hgood hall
    refine ⟨fun out k => 0 ≤ k ∧ k ≤ paths.length ∧ out = (paths.take k.toNat).filter fun p => oneB pats p && !oneB but p, fun _ k => paths.length - k.toNat, ⟨by omega, by omega, by simp⟩, fun out k ⟨b0, b1, b2⟩ => ⟨fun hlt => ?_, fun hge => ?_⟩⟩
    · have hm : paths.getD k.toNat [] ∈ paths := getD_mem (by omega)
      have hml := hz _ hm
      have hnext : (paths.take (k + 1).toNat).filter (fun p => oneB pats p && !oneB but p) = out ++ [paths.getD k.toNat []].filter (fun p => oneB pats p && !oneB but p) := by
        rw [b2, ← List.filter_append, show (k + 1).toNat = k.toNat + 1 by omega, List.take_succ_eq_append_getElem (by omega)]
        simp [List.getD, show k.toNat < paths.length by omega]
      have hol : out.length ≤ paths.length := by
        rw [b2]
        exact Nat.le_trans (List.length_filter_le _ _) (by simp; omega)
      generalize hp : paths.getD k.toNat [] = p at *
      refine ⟨fun o => o = (paths.take (k + 1).toNat).filter fun p => oneB pats p && !oneB but p, ?_, fun o ho => ⟨by simp only [In]; omega, ⟨by omega, by omega, ho⟩, by (try dsimp only); omega⟩⟩
      refine ⟨fun b q => 0 ≤ q ∧ q ≤ pats.length ∧ b = (pats.take q.toNat).any fun x => matchB x p, fun _ q => pats.length - q.toNat, ⟨by omega, by omega, by simp⟩, fun b q ⟨c0, c1, c2⟩ => ⟨fun hq => ?_, fun hq => ?_⟩⟩
      · have hmq : pats.getD q.toNat [] ∈ pats := getD_mem (by omega)
        have hqn : (pats.take (q + 1).toNat).any (fun x => matchB x p) = (b || matchB (pats.getD q.toNat []) p) := by
          rw [c2, show (q + 1).toNat = q.toNat + 1 by omega, List.take_succ_eq_append_getElem (by omega), List.any_append]
          simp [List.getD, show q.toNat < pats.length by omega]
        refine ⟨fun r => r = (b || matchB (pats.getD q.toNat []) p), ⟨fun ht => by rw [ht]; rfl, fun hf => ⟨by omega, by omega, ?_⟩⟩, fun r hr => ⟨by simp only [In]; omega, ⟨by omega, by omega, hr.trans hqn.symm⟩, by (try dsimp only); omega⟩⟩
        refine rmatch_M (by have := hx _ hmq; omega) (by omega) ?_
        rw [matchB_r, hf, Bool.false_or]
      · have hb : b = oneB pats p := by rw [c2, show q.toNat = pats.length by omega, List.take_length, hone pats p hallp]
        refine ⟨fun r q => 0 ≤ q ∧ q ≤ but.length ∧ r = (b && !((but.take q.toNat).any fun x => matchB x p)), fun _ q => but.length - q.toNat, ⟨by omega, by omega, by simp⟩, fun r q2 ⟨d0, d1, d2⟩ => ⟨fun hq2 => ?_, fun hq2 => ?_⟩⟩
        · have hmq : but.getD q2.toNat [] ∈ but := getD_mem (by omega)
          have hqn : (b && !((but.take (q2 + 1).toNat).any fun x => matchB x p)) = (r && !matchB (but.getD q2.toNat []) p) := by
            rw [d2, show (q2 + 1).toNat = q2.toNat + 1 by omega, List.take_succ_eq_append_getElem (by omega), List.any_append]
            simp [List.getD, show q2.toNat < but.length by omega, Bool.and_assoc]
          refine ⟨fun r' => r' = (r && !matchB (but.getD q2.toNat []) p), ⟨fun ht => ⟨by omega, by omega, ?_⟩, fun hf => by rw [hf]; rfl⟩, fun r' hr => ⟨by simp only [In]; omega, ⟨by omega, by omega, hr.trans hqn.symm⟩, by (try dsimp only); omega⟩⟩
          refine rmatch_M (by have := hy _ hmq; omega) (by omega) ?_
          rw [matchB_r, ht, Bool.true_and]
        · have hr : r = (oneB pats p && !oneB but p) := by rw [d2, hb, show q2.toNat = but.length by omega, List.take_length, hone but p hallb]
          refine ⟨fun ht => ⟨by omega, by simp only [List.length_cons, List.length_nil]; omega, ?_⟩, fun hf => ?_⟩
          · show _ = _
            rw [hnext, List.filter_cons_of_pos (by rw [← hr, ht])]
            rfl
          · show _ = _
            rw [hnext, List.filter_cons_of_neg (by rw [← hr, hf]; simp)]
            simp
    · have e : k.toNat = paths.length := by omega
      rw [e, List.take_length] at b2
      subst b2
      have hfl : (paths.filter fun p => oneB pats p && !oneB but p).length ≤ paths.length := List.length_filter_le _ _
      exact sortedTexts_M (by omega) hK
end Go.Proofs.YtcfljnfaakjdjaaDoor
 /- PathMatches and PathGlobs, plainly. -/
namespace Go.Proofs.YtcfljnfaakjdjaaDoor
open Go Go.RowKit
theorem samePos_M {p q : Int} {n : Nat} {c : Int} {K : Bool → Prop} (h : K (decide (101 + (n : Int) = c) && decide (p = q))) : M_smithysee_Same (.at_ p n) c true q false [] K := by
  unfold M_smithysee_Same M_smithysee_Fault M_smithysee_placed M_smithyref_SameFault M_smithyref_None M_smithyref_Bare M_smithyref_Placed M_smithysee_sentinel
  refine ⟨fun h2 => (by cases h2), fun _ => ⟨fun p' m h2 => ?_, fun h2 => absurd rfl (h2 p n)⟩⟩
  cases h2
  refine ⟨fun h2 => (by simp at h2), fun _ => ⟨fun h2 => (by simp only [sentV] at h2; omega), fun _ => ?_⟩⟩
  have e : ∀ x : Bool, (x = (decide (101 + (n : Int) = c) && decide (p = q))) → K x := fun x hx => hx ▸ h
  refine e _ ?_
  rw [Bool.eq_iff_iff]
  simp [sentV]
  exact fun _ => decide_eq_true_iff
theorem placed_M {c p : Int} {K : Int → Bool → Int → Bool → List UInt8 → Prop} (hc : c ≠ 0) (h : K c true p false []) : M_smithyref_Placed c p K := ⟨fun e => absurd e hc, fun _ => h⟩
theorem allLen {l : List Bs} {n : Nat} (h : ∀ j, j < l.length → (l.getD j []).length ≤ n) : ∀ x ∈ l, x.length ≤ n := fun x hx => by
  obtain ⟨j, hj, rfl⟩ := List.getElem_of_mem hx
  have := h j hj
  simpa [List.getD, hj] using this
theorem matches_ok {pattern p : Bs} {l but paths : List Bs} {K : Bool → Prop} (_ : pattern.length ≤ maxLen) (_ : p.length ≤ maxLen) (_ : ∀ x ∈ l, x.length ≤ maxLen) (_ : ∀ x ∈ but, x.length ≤ maxLen) (_ : ∀ x ∈ paths, x.length ≤ maxLen) (H : K true) : M_smithylaw1_PathMatches pattern p l but paths K := by
  intro _ _ _
  refine first_M ⟨fun h => by simp at h, fun _ => ⟨fun _ => H, fun h1 => ?_⟩⟩
  have h2 : ((((pattern.length ≤ 210 ∧ p.length ≤ 210) ∧ l.length ≤ 8) ∧ but.length ≤ 8) ∧ paths.length ≤ 30) := by simp at h1; omega
  obtain ⟨⟨⟨⟨b1, b2⟩, b3⟩, b4⟩, b5⟩ := h2
  refine texts_M (by omega) ⟨by omega, by simp only [List.length_append]; omega, ?_⟩
  have hlen : ((l ++ but) ++ paths).length = l.length + but.length + paths.length := by simp; omega
  refine ⟨fun i => 0 ≤ i ∧ i ≤ ((l ++ but) ++ paths).length ∧ ∀ j, j < i.toNat → (((l ++ but) ++ paths).getD j []).length ≤ 210, fun i => ((l ++ but) ++ paths).length - i.toNat, ⟨by omega, by omega, by intro j hj; simp at hj⟩, fun i ⟨a0, a1, a2⟩ => ⟨fun hlt => ⟨by omega, fun _ => H, fun hle => ⟨by simp only [In]; omega, ⟨by omega, by omega, fun j hj => ?_⟩, by (try dsimp only); omega⟩⟩, fun hge => ?_⟩⟩
  · by_cases e : j = i.toNat
    · rw [e]; omega
    · exact a2 j (by omega)
  have hall := allLen (n := 210) fun j hj => a2 j (by omega)
  have hL : ∀ x ∈ l, x.length ≤ 210 := fun x hx => hall x (by simp [hx])
  have hB : ∀ x ∈ but, x.length ≤ 210 := fun x hx => hall x (by simp [hx])
  have hP : ∀ x ∈ paths, x.length ≤ 210 := fun x hx => hall x (by simp [hx])
  have rest : ∀ (q : Bool) (e : Er), (patB pattern = false → q = false ∧ e = .e 11) → (patB pattern = true → q = matchB pattern p ∧ e = .ok) → M_smithyref1_Pattern pattern (fun (good : Bool) =>
      M_smithylaw1_code good (fun (t80 : Int) =>
      M_smithysee_Is e t80 (fun (t81 : Bool) =>
      ∃ J1 : Bool → Prop, ((((!t81) = true → J1 true) ∧
      ((!t81) = false → ((good = true → M_smithyref1_Match pattern p (fun (t89 : Bool) =>
      J1 (!(q == t89)))) ∧
      (good = false → J1 (!(q == false))))))) ∧
      (∀ q6 : Bool, J1 q6 → ((q6 = true → K false) ∧
      (q6 = false → M_path_Glob l but paths (fun (t970 : List (List UInt8)) (t971 : Er) =>
      M_smithyref1_Glob l but paths (fun (t1040 : List (List UInt8)) (t1041 : Int) =>
      (((0 : Int) ≤ t1041 → ∃ J2 : Bool → Prop, ((((decide ((t970.length : Int) = (0 : Int))) = true → M_smithyref_Placed (112 : Int) t1041 (fun (t115_Code : Int) (t115_Placed : Bool) (t115_Pos : Int) (t115_Filed : Bool) (t115_File : List UInt8) =>
      M_smithysee_Same t971 t115_Code t115_Placed t115_Pos t115_Filed t115_File (fun (t116 : Bool) =>
      J2 t116))) ∧
      ((decide ((t970.length : Int) = (0 : Int))) = false → J2 false))) ∧
      (∀ q7 : Bool, J2 q7 → K q7)) ∧
      (¬ ((0 : Int) ≤ t1041) → ∃ J3 : Bool → Prop, ((((decide (t971 = Er.ok)) = true → M_smithyref_SameTexts t970 t1040 (fun (t123 : Bool) =>
      J3 t123)) ∧
      ((decide (t971 = Er.ok)) = false → J3 false))) ∧
      (∀ q8 : Bool, J3 q8 → K q8))))))))))) := by
    intro q e hq0 hq1
    refine rpattern_M (by omega) (code_M (is_M ?_))
    have hIs : isB e (if patB pattern then 0 else 112) = true := by
      cases hp : patB pattern with
      | false => rw [(hq0 hp).2]; rfl
      | true => rw [(hq1 hp).2]; rfl
    rw [hIs]
    refine ⟨fun b => b = false, ⟨fun h => by simp at h, fun _ => ⟨fun hg => rmatch_M (by omega) (by omega) ?_, fun hg => by rw [(hq0 hg).1]; rfl⟩⟩, ?_⟩
    · rw [matchB_r, (hq1 hg).1]; simp
    rintro _ rfl
    refine ⟨fun h => by simp at h, fun _ => ?_⟩
    refine glob_M (by omega) (by omega) (by omega) (fun x hx => by have := hL x hx; omega) (fun x hx => by have := hB x hx; omega) (fun x hx => by have := hP x hx; omega) (fun i hi hf hmin => ?_) (fun hgood => ?_)
    · refine rglob_M (by omega) (by omega) (by omega) (fun x hx => by have := hL x hx; omega) (fun x hx => by have := hB x hx; omega) (fun x hx => by have := hP x hx; omega) (fun i' hi' hf' hmin' => ?_) (fun hg => ?_)
      · have e : i' = i := by
          rcases Nat.lt_trichotomy i' i with h | h | h
          · rw [hmin i' h] at hf'; cases hf'
          · exact h
          · rw [hmin' i h] at hf; cases hf
        subst e
        refine ⟨fun _ => ⟨fun b => b = true, ⟨fun _ => placed_M (by decide) (samePos_M (by simp)), fun h => by simp at h⟩, ?_⟩, fun h => absurd (Int.natCast_nonneg i') h⟩
        rintro _ rfl
        exact H
      · rw [hg _ (getD_mem hi)] at hf; cases hf
    · refine rglob_M (by omega) (by omega) (by omega) (fun x hx => by have := hL x hx; omega) (fun x hx => by have := hB x hx; omega) (fun x hx => by have := hP x hx; omega) (fun i' hi' hf' hmin' => ?_) (fun hg => ?_)
      · rw [hgood _ (getD_mem hi')] at hf'; cases hf'
      · have hfl : (paths.filter fun p => oneB l p && !oneB but p).length ≤ paths.length := List.length_filter_le _ _
        have hsl := sortU_length (paths.filter fun p => oneB l p && !oneB but p)
        refine ⟨fun h => absurd h (by decide), fun _ => ⟨fun b => b = true, ⟨fun _ => sameTexts_M (by omega) (by simp), fun h => by simp at h⟩, ?_⟩⟩
        rintro _ rfl
        exact H
  refine match_M (by omega) (by omega) (fun hf => rest _ _ (fun _ => ⟨rfl, rfl⟩) (fun ht => by rw [hf] at ht; cases ht)) (fun ht => rest _ _ (fun hf => by rw [hf] at ht; cases ht) (fun _ => ⟨rfl, rfl⟩))
theorem oneB_snoc (l : List Bs) (m p : Bs) : oneB (l ++ [m]) p = (oneB l p || (patB m && matchB m p)) := by
  unfold oneB
  rw [List.any_append]
  simp
theorem globC_M {pats but paths : List Bs} {K : List Bs → Er → Prop} (h1 : pats.length ≤ 1000) (h2 : but.length ≤ 1000) (h3 : paths.length ≤ 1000) (hx : ∀ x ∈ pats, x.length ≤ 1000) (hy : ∀ x ∈ but, x.length ≤ 1000) (hz : ∀ x ∈ paths, x.length ≤ 1000)
    (hbad : (∃ x ∈ pats ++ but, patB x = false) → ∀ i : Int, K [] (.at_ i 11)) (hgood : (∀ x ∈ pats ++ but, patB x = true) → K (sortU (paths.filter fun p => oneB pats p && !oneB but p)) .ok) : M_path_Glob pats but paths K :=
  glob_M (by omega) (by omega) (by omega) (fun x h => by have := hx x h; omega) (fun x h => by have := hy x h; omega) (fun x h => by have := hz x h; omega) (fun i hi hf _ => hbad ⟨_, getD_mem hi, hf⟩ i) hgood
theorem globs_ok {l but paths : List Bs} {more : Bs} {K : Bool → Prop} (_ : ∀ x ∈ l, x.length ≤ maxLen) (_ : ∀ x ∈ but, x.length ≤ maxLen) (_ : ∀ x ∈ paths, x.length ≤ maxLen) (_ : more.length ≤ maxLen) (H : K true) : M_smithylaw1_PathGlobs l but paths more K := by
  intro _ _ _
  refine first_M ⟨fun h => by simp at h, fun _ => ⟨fun _ => H, fun h1 => ?_⟩⟩
  have h2 : ((l.length ≤ 6 ∧ but.length ≤ 6) ∧ paths.length ≤ 20) ∧ more.length ≤ 100 := by simp at h1; omega
  obtain ⟨⟨⟨b3, b4⟩, b5⟩, b6⟩ := h2
  refine texts_M (by omega) ⟨by omega, by simp only [List.length_append]; omega, ?_⟩
  have hlen : ((l ++ but) ++ paths).length = l.length + but.length + paths.length := by simp; omega
  refine ⟨fun i => 0 ≤ i ∧ i ≤ ((l ++ but) ++ paths).length ∧ ∀ j, j < i.toNat → (((l ++ but) ++ paths).getD j []).length ≤ 100, fun i => ((l ++ but) ++ paths).length - i.toNat, ⟨by omega, by omega, by intro j hj; simp at hj⟩, fun i ⟨a0, a1, a2⟩ => ⟨fun hlt => ⟨by omega, fun _ => H, fun hle => ⟨by simp only [In]; omega, ⟨by omega, by omega, fun j hj => ?_⟩, by (try dsimp only); omega⟩⟩, fun hge => ?_⟩⟩
  · by_cases e : j = i.toNat
    · rw [e]; omega
    · exact a2 j (by omega)
  have hall := allLen (n := 100) fun j hj => a2 j (by omega)
  have hL : ∀ x ∈ l, x.length ≤ 1000 := fun x hx => by have := hall x (by simp [hx]); omega
  have hB : ∀ x ∈ but, x.length ≤ 1000 := fun x hx => by have := hall x (by simp [hx]); omega
  have hP : ∀ x ∈ paths, x.length ≤ 1000 := fun x hx => by have := hall x (by simp [hx]); omega
  have hLm : ∀ x ∈ l ++ [more], x.length ≤ 1000 := fun x hx => by
    rcases List.mem_append.1 hx with h | h
    · exact hL x h
    · simp at h; subst h; omega
  have hBm : ∀ x ∈ but ++ [more], x.length ≤ 1000 := fun x hx => by
    rcases List.mem_append.1 hx with h | h
    · exact hB x h
    · simp at h; subst h; omega
  have c1 : (l ++ [more]).length ≤ 1000 := by simp; omega
  have c2 : (but ++ [more]).length ≤ 1000 := by simp; omega
  refine globC_M (by omega) (by omega) (by omega) hL hB hP (fun ⟨x, hx, hxf⟩ i1 => ?_) (fun hgood => ?_)
  · -- a pattern that is none
    refine texts_M (by omega) ⟨by simp only [List.length_cons, List.length_nil]; omega, globC_M c1 (by omega) (by omega) hLm hB hP (fun _ i2 => texts_M (by omega) ⟨by simp only [List.length_cons, List.length_nil]; omega, globC_M (by omega) c2 (by omega) hL hBm hP (fun _ i3 => ?_) (fun hg => ?_)⟩) (fun hg => ?_)⟩
    · exact ⟨fun _ => by simpa using H, fun h => by cases h⟩
    · rw [hg x (by simp at hx ⊢; rcases hx with h | h <;> simp [h])] at hxf; cases hxf
    · rw [hg x (by simp at hx ⊢; rcases hx with h | h <;> simp [h])] at hxf; cases hxf
  · have hgl : ∀ x ∈ l, patB x = true := fun x hx => hgood x (by simp [hx])
    have hgb : ∀ x ∈ but, patB x = true := fun x hx => hgood x (by simp [hx])
    generalize hA : sortU (paths.filter fun p => oneB l p && !oneB but p) = A
    have hAs : Strict A := by rw [← hA]; exact sortU_strict _
    have hAm : ∀ x, x ∈ A ↔ x ∈ paths ∧ oneB l x = true ∧ oneB but x = false := fun x => by
      rw [← hA, sortU_mem, List.mem_filter, Bool.and_eq_true, Bool.not_eq_true']
    have hAl : A.length ≤ 20 := by
      have h5 := sortU_length (paths.filter fun p => oneB l p && !oneB but p)
      have h6 : (paths.filter fun p => oneB l p && !oneB but p).length ≤ paths.length := List.length_filter_le _ _
      rw [hA] at h5
      omega
    have hAx : ∀ x ∈ A, x.length ≤ 1000 := fun x hx => hP x ((hAm x).1 hx).1
    have tail : ∀ (rb rc : List Bs) (eb ec : Er), (patB more = true → eb = .ok ∧ ec = .ok ∧ (∀ x ∈ A, x ∈ rb) ∧ (∀ x ∈ A, x ∈ rc ↔ matchB more x = false) ∧ rc.length ≤ A.length) → (patB more = false → eb ≠ .ok ∧ ec ≠ .ok ∧ rc = []) → rb.length ≤ 1000 → rc.length ≤ 1000 →
        ((¬ (Er.ok = Er.ok) → K (((decide ((A.length : Int) = (0 : Int))) && (!decide (eb = Er.ok))) && (!decide (ec = Er.ok)))) ∧
        (Er.ok = Er.ok → Lp1 (fun (i2 : Int) k_2 => ((i2 < (A.length : Int) → (0 ≤ i2 ∧ i2 < (A.length : Nat)) ∧
        M_smithyref_AmongTexts paths (A.getD i2.toNat []) (fun (t118 : Int) =>
        ((decide (t118 < (0 : Int))) = false → (decide ((0 : Int) < i2)) = true → (0 ≤ i2 ∧ i2 < (A.length : Nat))) ∧
        ((decide (t118 < (0 : Int))) = false → (decide ((0 : Int) < i2)) = true → (In .i64 (i2 - (1 : Int)))) ∧
        ((decide (t118 < (0 : Int))) = false → (decide ((0 : Int) < i2)) = true → (0 ≤ i2 - (1 : Int) ∧ i2 - (1 : Int) < (A.length : Nat))) ∧
        ∃ J1 : Bool → Prop, (((((decide (t118 < (0 : Int))) || ((decide ((0 : Int) < i2)) && (Op.bytesLess (A.getD i2.toNat []) (A.getD ((i2 - (1 : Int)).toNat) []) || decide ((A.getD i2.toNat []) = (A.getD ((i2 - (1 : Int)).toNat) []))))) = true → J1 true) ∧
        (((decide (t118 < (0 : Int))) || ((decide ((0 : Int) < i2)) && (Op.bytesLess (A.getD i2.toNat []) (A.getD ((i2 - (1 : Int)).toNat) []) || decide ((A.getD i2.toNat []) = (A.getD ((i2 - (1 : Int)).toNat) []))))) = false → (((decide (eb = Er.ok)) = true → (0 ≤ i2 ∧ i2 < (A.length : Nat)) ∧
        M_smithyref_AmongTexts rb (A.getD i2.toNat []) (fun (t145 : Int) =>
        J1 (decide (t145 < (0 : Int))))) ∧
        ((decide (eb = Er.ok)) = false → J1 false))))) ∧
        (∀ q8 : Bool, J1 q8 → ((q8 = true → K false) ∧
        (q8 = false → (0 ≤ i2 ∧ i2 < (A.length : Nat)) ∧
        M_path_Match more (A.getD i2.toNat []) (fun (t1550 : Bool) (t1551 : Er) =>
        ∃ J2 : Bool → Prop, (((((decide (t1551 = Er.ok)) && (decide (ec = Er.ok))) = true → (0 ≤ i2 ∧ i2 < (A.length : Nat)) ∧
        M_smithyref_AmongTexts rc (A.getD i2.toNat []) (fun (t170 : Int) =>
        J2 (!((decide (t170 < (0 : Int))) == t1550)))) ∧
        (((decide (t1551 = Er.ok)) && (decide (ec = Er.ok))) = false → J2 false))) ∧
        (∀ q10 : Bool, J2 q10 → ((q10 = true → K false) ∧
        (q10 = false → (In .i64 (i2 + (1 : Int))) ∧
        k_2 (i2 + (1 : Int))))))))))) ∧
        (¬ (i2 < (A.length : Int)) → K (((decide (eb = Er.ok)) == (decide (ec = Er.ok))) && (decide ((rc.length : Int) ≤ (A.length : Int))))))) (0 : Int))) := by
      intro rb rc eb ec ht hf hrb hrc
      refine ⟨fun h => absurd rfl h, fun _ => ⟨fun i => 0 ≤ i ∧ i ≤ A.length, fun i => A.length - i.toNat, ⟨by omega, by omega⟩, fun i ⟨d0, d1⟩ => ⟨fun hlt => ⟨by omega, ?_⟩, fun hge => ?_⟩⟩⟩
      · have hm : A.getD i.toNat [] ∈ A := getD_mem (by omega)
        have hmx := hAx _ hm
        have hprev : 0 < i → A.getD (i - 1).toNat [] < A.getD i.toNat [] := fun h0 => by
          have := List.pairwise_iff_getElem.1 hAs (i - 1).toNat i.toNat (by omega) (by omega) (by omega)
          have e1 : A.getD (i - 1).toNat [] = A[(i - 1).toNat]'(by omega) := by rw [List.getD, List.getElem?_eq_getElem (by omega)]; rfl
          have e2 : A.getD i.toNat [] = A[i.toNat]'(by omega) := by rw [List.getD, List.getElem?_eq_getElem (by omega)]; rfl
          rw [e1, e2]
          exact this
        refine amongTexts_M (by omega) (fun hn => absurd ((hAm _).1 hm).1 hn) (fun ix hix _ => ?_)
        have hd : decide (ix < 0) = false := decide_eq_false (by omega)
        refine ⟨fun _ _ => by omega, fun _ h0 => by simp only [decide_eq_true_eq] at h0; simp only [In]; omega, fun _ h0 => by simp only [decide_eq_true_eq] at h0; omega, fun b => b = false, ⟨fun hc => ?_, fun _ => ⟨fun he => ⟨by omega, amongTexts_M (by omega) (fun hn => ?_) (fun iy hiy _ => decide_eq_false (by omega))⟩, fun _ => rfl⟩⟩, ?_⟩
        · rw [hd, Bool.false_or, Bool.and_eq_true, decide_eq_true_eq, bytesLess_lt, Bool.or_eq_true, decide_eq_true_eq, decide_eq_true_eq] at hc
          have := hprev hc.1
          rcases hc.2 with h3 | h3
          · exact absurd h3 (List.lt_asymm this)
          · rw [h3] at this; exact absurd this (List.lt_irrefl _)
        · cases hp : patB more with
          | true => exact absurd ((ht hp).2.2.1 _ hm) hn
          | false => exact absurd (of_decide_eq_true he) (hf hp).1
        rintro _ rfl
        refine ⟨fun h => by simp at h, fun _ => ⟨by omega, ?_⟩⟩
        have go : ∀ q : Bool, q = false → ((q = true → K false) ∧ (q = false → In .i64 (i + 1) ∧ (0 ≤ i + 1 ∧ i + 1 ≤ (A.length : Int)) ∧ A.length - (i + 1).toNat < A.length - i.toNat)) := fun q hq => ⟨fun h => absurd (hq.symm.trans h) (by simp), fun _ => ⟨by simp only [In]; omega, by omega, by omega⟩⟩
        refine match_M (by omega) (by omega) (fun hp => ⟨fun b => b = false, ⟨fun h => by simp at h, fun _ => rfl⟩, go⟩) (fun hp => ⟨fun b => b = false, ⟨fun _ => ⟨by omega, ?_⟩, fun _ => rfl⟩, go⟩)
        have hmc := (ht hp).2.2.2.1 _ hm
        refine amongTexts_M (by omega) (fun hn => ?_) (fun iy hiy hy => ?_)
        · have : matchB more (A.getD i.toNat []) = true := by
            rw [← Bool.not_eq_false]
            exact fun h => hn (hmc.2 h)
          rw [this]; rfl
        · rw [hmc.1 hy, decide_eq_false (by omega : ¬ iy < 0)]; rfl
      · cases hp : patB more with
        | true =>
          obtain ⟨e1, e2, _, _, e5⟩ := ht hp
          rw [e1, e2, decide_eq_true (by omega : (rc.length : Int) ≤ A.length)]
          simpa using H
        | false =>
          obtain ⟨e1, e2, e3⟩ := hf hp
          rw [e3, decide_eq_false e1, decide_eq_false e2]
          simpa using H
    have memLm : (∃ x ∈ (l ++ [more]) ++ but, patB x = false) → patB more = false := fun ⟨x, hx, hxf⟩ => by
      simp at hx
      rcases hx with h | h | h
      · rw [hgl x h] at hxf; cases hxf
      · rw [← h]; exact hxf
      · rw [hgb x h] at hxf; cases hxf
    have memBm : (∃ x ∈ l ++ (but ++ [more]), patB x = false) → patB more = false := fun ⟨x, hx, hxf⟩ => by
      simp at hx
      rcases hx with h | h | h
      · rw [hgl x h] at hxf; cases hxf
      · rw [hgb x h] at hxf; cases hxf
      · rw [← h]; exact hxf
    refine texts_M (by omega) ⟨by simp only [List.length_cons, List.length_nil]; omega, globC_M c1 (by omega) (by omega) hLm hB hP (fun hb1 i2 => ?_) (fun hg1 => ?_)⟩
    · have hpf := memLm hb1
      refine texts_M (by omega) ⟨by simp only [List.length_cons, List.length_nil]; omega, globC_M (by omega) c2 (by omega) hL hBm hP (fun _ i3 => ?_) (fun hg => ?_)⟩
      · exact tail [] [] _ _ (fun h => by rw [hpf] at h; cases h) (fun _ => ⟨by simp, by simp, rfl⟩) (by simp) (by simp)
      · rw [hg more (by simp)] at hpf; cases hpf
    · have hpt := hg1 more (by simp)
      refine texts_M (by omega) ⟨by simp only [List.length_cons, List.length_nil]; omega, globC_M (by omega) c2 (by omega) hL hBm hP (fun hb _ => ?_) (fun hg => ?_)⟩
      · rw [memBm hb] at hpt; cases hpt
      · have h5 := sortU_length (paths.filter fun p => oneB (l ++ [more]) p && !oneB but p)
        have h6 : (paths.filter fun p => oneB (l ++ [more]) p && !oneB but p).length ≤ paths.length := List.length_filter_le _ _
        have hC : sortU (paths.filter fun p => oneB l p && !oneB (but ++ [more]) p) = A.filter fun p => !matchB more p := by
          rw [← hA, ← sortU_filter]
          congr 1
          rw [List.filter_filter]
          refine List.filter_congr fun x _ => ?_
          rw [oneB_snoc, hpt]
          cases oneB l x <;> cases oneB but x <;> cases matchB more x <;> rfl
        rw [hC]
        have h7 : (A.filter fun p => !matchB more p).length ≤ A.length := List.length_filter_le _ _
        refine tail _ _ _ _ (fun _ => ⟨rfl, rfl, fun x hx => ?_, fun x hx => ?_, h7⟩) (fun h => by rw [hpt] at h; cases h) (by omega) (by omega)
        · rw [sortU_mem, List.mem_filter, oneB_snoc]
          have := (hAm x).1 hx
          exact ⟨this.1, by rw [this.2.1, this.2.2]; rfl⟩
        · rw [List.mem_filter, Bool.not_eq_true']
          exact ⟨fun h => h.2, fun h => ⟨hx, h⟩⟩
end Go.Proofs.YtcfljnfaakjdjaaDoor
 