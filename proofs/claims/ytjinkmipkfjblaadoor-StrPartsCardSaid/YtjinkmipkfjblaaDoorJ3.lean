/- Texts of this claim, joined by a program: StrF. -/
import Derived.Test.YtjinkmipkfjblaaDoorJ2
/- The chapter's first look, and three laws, plainly: StrCuts, StrParts, StrRooms. -/
namespace Go.Proofs.YtjinkmipkfjblaaDoor
open Go Go.RowKit
theorem sameT_M {a b : List (List UInt8)} {K : Bool → Prop} (ha : a.length ≤ 1000000) (_ : b.length ≤ 1000000) (h : K (decide (a = b))) : M_smithyref_SameTexts a b K := by
  intro _ _
  refine ⟨fun e => ?_, fun e => ?_⟩
  · rw [decide_eq_false (fun e2 => e (by rw [e2]))] at h; exact h
  · have e' : a.length = b.length := by omega
    refine ⟨fun i => 0 ≤ i ∧ i ≤ a.length ∧ ∀ j, j < i.toNat → a.getD j [] = b.getD j [], fun i => a.length - i.toNat, ⟨by omega, by omega, fun j hj => by simp at hj⟩, fun i ⟨a0, a1, a2⟩ => ⟨fun hlt => ⟨by omega, by omega, fun f => ?_, fun f => ⟨by simp only [In]; omega, ⟨by omega, by omega, fun j hj => ?_⟩, by dsimp only; omega⟩⟩, fun hge => ?_⟩⟩
    · rw [decide_eq_false (fun e2 => f (by rw [e2]))] at h; exact h
    · by_cases e3 : j = i.toNat
      · rw [e3]; exact f
      · exact a2 j (by omega)
    · have : a = b := by
        apply List.ext_getElem e'
        intro j h1 h2
        have := a2 j (by omega)
        simpa [List.getD, h1, h2] using this
      rw [decide_eq_true this] at h; exact h
theorem in_le {x : Int} (h : -1000 ≤ x ∧ x ≤ 1000) : In .i64 x := by simp only [In]; omega
theorem name_x {K : Bool → Prop} (h : K true) : M_lex_Name [120] K := by
  refine ⟨fun i => i = 0 ∨ i = 1, fun i => (2 - i).toNat, .inl rfl, ?_⟩
  rintro i (rfl | rfl)
  · refine ⟨fun _ => ⟨by decide, ?_⟩, fun f => absurd (by decide) f⟩
    unfold M_lex_letter
    refine ⟨fun q => q = false, ⟨fun f => absurd f (by decide), fun _ => rfl⟩, ?_⟩
    rintro _ rfl
    exact ⟨fun f => (by cases f), fun _ => ⟨by simp only [In]; omega, .inr rfl, by decide⟩⟩
  · refine ⟨fun f => absurd f (by decide), fun _ => ⟨fun q => q = true, ⟨fun _ => ?_, fun f => absurd f (by decide)⟩, ?_⟩⟩
    · unfold M_lex_Words
      intro _ _
      generalize hw : ([([70, 97, 108, 115, 101] : List UInt8), ([78, 111, 110, 101] : List UInt8), ([84, 114, 117, 101] : List UInt8), ([97, 110, 100] : List UInt8), ([98, 114, 101, 97, 107] : List UInt8), ([99, 111, 110, 116, 105, 110, 117, 101] : List UInt8), ([100, 101, 102] : List UInt8), ([101, 108, 105, 102] : List UInt8), ([101, 108, 115, 101] : List UInt8), ([102, 111, 114] : List UInt8), ([105, 102] : List UInt8), ([105, 110] : List UInt8), ([108, 111, 97, 100] : List UInt8), ([110, 111, 116] : List UInt8), ([111, 114] : List UInt8), ([112, 97, 115, 115] : List UInt8), ([114, 101, 116, 117, 114, 110] : List UInt8)] : List (List UInt8)) = W
      have hm : ([120] : List UInt8) ∉ W := by rw [← hw]; decide
      have hl : W.length = 17 := by rw [← hw]; rfl
      refine ⟨fun i => 0 ≤ i ∧ i ≤ 17, fun i => (17 - i).toNat, ⟨by omega, by omega⟩, fun i ⟨a0, a1⟩ => ⟨fun hlt => ⟨by omega, fun f => ?_, fun _ => ⟨by simp only [In]; omega, ⟨by omega, by omega⟩, by dsimp only; omega⟩⟩, fun _ => ?_⟩⟩
      · exact absurd (by rw [f]; exact getD_memB (by omega)) hm
      · rfl
    · rintro _ rfl
      exact h
theorem format_first {K : List UInt8 → Er → Prop} (h : K [49, 45, 50] .ok) : M_str_Format [123, 125, 45, 123, 120, 125] [[49]] [[120]] [[50]] K := by
  intro _ _ _
  have g1 : mget ([] : List (List UInt8 × List UInt8)) [120] = none := rfl
  have g2 : mput ([] : List (List UInt8 × List UInt8)) [120] [50] = [([120], [50])] := by decide
  have g3 : mget ([([120], [50])] : List (List UInt8 × List UInt8)) [120] = some [50] := by decide
  refine ⟨fun i m => (i = 0 ∧ m = []) ∨ (i = 1 ∧ m = [([120], [50])]), fun i _ => (2 - i).toNat, .inl ⟨rfl, rfl⟩, ?_⟩
  rintro i m (⟨rfl, rfl⟩ | ⟨rfl, rfl⟩)
  · refine ⟨fun _ => ⟨fun m => m = [([120], [50])], ⟨by decide, by decide, fun _ => ⟨by decide, by decide, ?_⟩, fun f => absurd f (by decide)⟩, ?_⟩, fun f => absurd (by decide) f⟩
    · exact g2
    · rintro _ rfl
      exact ⟨by simp only [In]; omega, .inr ⟨rfl, rfl⟩, by decide⟩
  refine ⟨fun f => absurd f (by decide), fun _ => ?_⟩
  refine ⟨fun i b n t bad => (i = 0 ∧ b = [] ∧ n = 0 ∧ t = false ∧ bad = false) ∨ (i = 2 ∧ b = [49] ∧ n = 1 ∧ t = false ∧ bad = false) ∨ (i = 3 ∧ b = [49, 45] ∧ n = 1 ∧ t = false ∧ bad = false) ∨ (i = 6 ∧ b = [49, 45, 50] ∧ n = 1 ∧ t = false ∧ bad = false), fun i _ _ _ _ => (6 - i).toNat, .inl ⟨rfl, rfl, rfl, rfl, rfl⟩, ?_⟩
  have pre : ∀ (s p : List UInt8) (K : Bool → Prop), K (decide (p.length ≤ s.length) && decide (s.take p.length = p)) → M_strings_HasPrefix s p K := fun s p K hK => by
    refine ⟨fun f => ?_, ?_⟩
    · rw [decide_eq_true_eq] at f; omega
    · rw [show decide ((p.length : Int) ≤ (s.length : Int)) = decide (p.length ≤ s.length) by congr 1; rw [eq_iff_iff]; omega]
      exact hK
  rintro i b n t bad (⟨rfl, rfl, rfl, rfl, rfl⟩ | ⟨rfl, rfl, rfl, rfl, rfl⟩ | ⟨rfl, rfl, rfl, rfl, rfl⟩ | ⟨rfl, rfl, rfl, rfl, rfl⟩)
  · refine ⟨fun _ => ⟨by decide, ?_⟩, fun f => absurd f (by decide)⟩
    intro _ _
    refine ⟨fun q => q = false, pre _ _ _ ⟨fun f => absurd f (by decide), fun _ => pre _ _ _ (by decide)⟩, ?_⟩
    rintro _ rfl
    refine ⟨fun f => (by cases f), fun _ => ⟨by decide, fun f => absurd f (by decide), fun _ => ⟨by decide, fun f => absurd (by decide) f, fun _ => ?_⟩⟩⟩
    refine ⟨fun f => absurd f (by decide), fun _ => ⟨by decide, ?_⟩⟩
    intro _ _
    refine ⟨fun _ => ?_, fun f => absurd (by decide) f⟩
    intro _ _
    refine ⟨fun f => absurd f (by decide), fun _ => ⟨by decide, by decide, ?_⟩⟩
    exact ⟨in_le (by decide), in_le (by decide), in_le (by decide), fun f => absurd f (by decide), fun _ => ⟨.inr (.inl ⟨by decide, by decide, by decide, rfl, rfl⟩), by decide⟩⟩
  · refine ⟨fun _ => ⟨by decide, ?_⟩, fun f => absurd f (by decide)⟩
    intro _ _
    refine ⟨fun q => q = false, pre _ _ _ ⟨fun f => absurd f (by decide), fun _ => pre _ _ _ (by decide)⟩, ?_⟩
    rintro _ rfl
    refine ⟨fun f => (by cases f), fun _ => ⟨by decide, fun f => absurd f (by decide), fun _ => ⟨by decide, fun _ => ⟨by decide, by decide, ?_⟩, fun f => absurd f (by decide)⟩⟩⟩
    exact ⟨in_le (by decide), fun f => absurd f (by decide), fun _ => ⟨.inr (.inr (.inl ⟨by decide, by decide, rfl, rfl, rfl⟩)), by decide⟩⟩
  · refine ⟨fun _ => ⟨by decide, ?_⟩, fun f => absurd f (by decide)⟩
    intro _ _
    refine ⟨fun q => q = false, pre _ _ _ ⟨fun f => absurd f (by decide), fun _ => pre _ _ _ (by decide)⟩, ?_⟩
    rintro _ rfl
    refine ⟨fun f => (by cases f), fun _ => ⟨by decide, fun f => absurd f (by decide), fun _ => ⟨by decide, fun f => absurd (by decide) f, fun _ => ?_⟩⟩⟩
    refine ⟨fun f => absurd f (by decide), fun _ => ⟨by decide, ?_⟩⟩
    intro _ _
    refine ⟨fun f => absurd f (by decide), fun _ => ?_⟩
    refine digits_M (by decide) ⟨fun f => absurd f (by decide), fun _ => ⟨by decide, fun q => q = false, ⟨fun f => absurd f (by decide), fun _ => ?_⟩, ?_⟩⟩
    · exact name_x rfl
    · rintro _ rfl
      refine ⟨by decide, ?_⟩
      exact ⟨in_le (by decide), in_le (by decide), fun f => absurd f (by decide), fun _ => ⟨.inr (.inr (.inr ⟨by decide, by decide, rfl, rfl, rfl⟩)), by decide⟩⟩
  · exact ⟨fun f => absurd f (by decide), fun _ => ⟨fun f => (by cases f), fun _ => h⟩⟩
theorem sfirst_M {K : Bool → Prop} (h : K true) : M_smithylaw11_first K := by
  have e1 : splP [97, 44, 98, 44, 44, 99] [44] 2 = ([[97], [98], [44, 99]], .ok) := by decide +kernel
  have e2 : cutP 5 (-2) 9 true true = (3, 5) := by decide +kernel
  refine split_M (by decide) (format_first (cut_M (by decide) (by decide) (by simp only [In]; omega) (by simp only [In]; omega) ?_))
  rw [e1, e2]
  refine ⟨fun q => q = true, ⟨fun _ => sameT_M (by decide) (by decide) (by decide), fun f => absurd f (by decide)⟩, ?_⟩
  rintro _ rfl
  exact h
theorem find_whole {s t : List UInt8} (h : 0 ≤ Lib.index s t) : findP s t 0 s.length = Lib.index s t := by
  have e : cutP (s.length : Int) 0 (s.length : Int) true true = (0, (s.length : Int)) := by
    have h1 : cutA (s.length : Int) 0 true = 0 := by simp [cutA, bndP]; omega
    have h2 : cutB (s.length : Int) (s.length : Int) true = s.length := by simp [cutB, bndP]; omega
    unfold cutP
    rw [h1, h2]
    congr 1
    split <;> omega
  unfold findP
  rw [e]
  simp only [Int.toNat_zero, List.drop_zero, Nat.sub_zero, Int.toNat_natCast, List.take_length]
  rw [if_neg (by omega)]
  omega
theorem find_none {s t : List UInt8} (h : Lib.index s t = -1) : findP s t 0 s.length = -1 := by
  have e : cutP (s.length : Int) 0 (s.length : Int) true true = (0, (s.length : Int)) := by
    have h1 : cutA (s.length : Int) 0 true = 0 := by simp [cutA, bndP]; omega
    have h2 : cutB (s.length : Int) (s.length : Int) true = s.length := by simp [cutB, bndP]; omega
    unfold cutP
    rw [h1, h2]
    congr 1
    split <;> omega
  unfold findP
  rw [e]
  simp only [Int.toNat_zero, List.drop_zero, Nat.sub_zero, Int.toNat_natCast, List.take_length]
  rw [h]; rfl
/-! StrParts -/
theorem numP_all (c : Nat) : numP (-1) c = c := rfl
theorem parts_ok {s a o : List UInt8} {K : Bool → Prop} (_ : s.length ≤ maxLen) (_ : a.length ≤ maxLen) (_ : o.length ≤ maxLen) (H : K true) : M_smithylaw11_StrParts s a o K := by
  refine sfirst_M ⟨fun h => (by cases h), fun _ => ⟨fun _ => H, fun h => ?_⟩⟩
  simp only [Bool.not_true, Bool.or_false, Bool.or_eq_false_iff, decide_eq_false_iff_not] at h
  obtain ⟨⟨⟨h1, h2⟩, h3⟩, hne⟩ := h
  have hpos := List.length_pos_iff.2 hne
  have hle := cnt_le hne s
  have hle2 := Nat.le_mul_of_pos_right (Lib.count s a) hpos
  have e1 : splP s a (-1) = (Lib.splitK a 0 (Lib.count s a) s, .ok) := by
    unfold splP
    rw [if_neg hne, numP_all, if_neg (by omega)]
  refine split_M (by omega) ?_
  rw [e1]
  dsimp only
  have hlen := spl_len hne (Lib.count s a) s
  rw [Nat.min_self] at hlen
  have hj : Lib.join (Lib.splitK a 0 (Lib.count s a) s) a = s := by rw [join_spl, rpl_same a hne]
  have hx : ∀ x ∈ Lib.splitK a 0 (Lib.count s a) s, x.length ≤ 1000000 := by
    have go : ∀ (k : Nat) (s : List UInt8), ∀ x ∈ Lib.splitK a 0 k s, x.length ≤ s.length := by
      intro k
      induction k with
      | zero => intro s x hx; simp [Lib.splitK] at hx; rw [hx]; exact Nat.le_refl _
      | succ k ih =>
        intro s x hx
        unfold Lib.splitK at hx
        split at hx
        · simp at hx; rw [hx]; exact Nat.le_refl _
        · rcases List.mem_cons.1 hx with e | e
          · rw [e, List.length_take]; omega
          · have := ih _ _ e
            rw [List.length_drop] at this; omega
    intro x hx
    have := go _ _ x hx
    omega
  refine join_M (by omega) (by omega) hx ?_
  have e2 : joinP a (Lib.splitK a 0 (Lib.count s a) s) = (s, .ok) := by unfold joinP; rw [hj, if_neg (by omega)]
  rw [e2]
  refine ⟨fun q => q = false, ⟨fun f => by simp at f, fun _ => count_M (by omega) ⟨?_, ?_⟩⟩, ?_⟩
  · unfold cntP; rw [if_neg hne]; simp only [In]; omega
  · unfold cntP; rw [if_neg hne, hlen]; simp
  rintro _ rfl
  refine ⟨fun f => (by cases f), fun _ => join_M (by omega) (by omega) hx (replace_M (by omega) (by omega) (by omega) ?_)⟩
  have e3 : rplP s a o (-1) = joinP o (Lib.splitK a 0 (Lib.count s a) s) := by
    unfold rplP joinP rplT cntP
    rw [if_neg hne, if_neg hne, numP_all, join_spl]
  rw [e3]
  refine ⟨fun f => by simp at f, fun _ => find_MB (by omega) (by simp only [In]; omega) (by simp only [In]; omega) ⟨by omega, ?_⟩⟩
  refine (congrArg K ?_).mp H
  rcases Lib.index_spec s a with ⟨i1, _⟩ | ⟨i, i1, i2, _⟩
  · rw [find_none i1, Lib.count_miss i1, spl_none i1]
    simp
  · rw [find_whole (by omega), i1]
    have hc := Lib.count_hit hne i1
    rw [hc, Nat.add_comm 1, spl_at i1]
    have : ((s.take i).length : Int) = i := by rw [List.length_take]; omega
    simp only [List.getD_cons_zero, List.length_cons, this]
    rw [hc, Nat.add_comm 1, spl_at i1, List.length_cons] at hlen
    rw [decide_eq_true (show (1 : Int) < ((Lib.splitK a 0 (Lib.count (s.drop (i + a.length)) a) (s.drop (i + a.length))).length + 1 : Nat) by omega)]
    simp
end Go.Proofs.YtjinkmipkfjblaaDoor


 