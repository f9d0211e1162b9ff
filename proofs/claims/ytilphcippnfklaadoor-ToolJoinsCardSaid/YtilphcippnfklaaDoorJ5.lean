/- Texts of this claim, joined by a program: ToolP, ToolQ, ToolR, GTr, Ord, GTl, See, ToolF, ToolJ. -/
import Derived.Test.YtilphcippnfklaaDoorJ4
import Derived.Lib.Replace
import Derived.Lib.CountLaws
import Derived.Lib.IndexMore
/- What the tools write: the plain side of the program. -/
namespace Go.Proofs.YtilphcippnfklaaDoor
open Go Go.RowKit
theorem getD_mem {α : Type} {l : List α} {k : Nat} {d : α} (h : k < l.length) : l.getD k d ∈ l := by
  simp [List.getD, h]
theorem trimS_M {s : List UInt8} {K : List UInt8 → Prop} (hs : s.length ≤ 4000000000) (h : K (Lib.trimSuffix s [10])) : M_strings_TrimSuffix s [10] K := by
  have e : ((decide ((([10] : List UInt8).length : Int) ≤ (s.length : Int))) && (decide ((s.drop ((s.length : Int) - (([10] : List UInt8).length : Int)).toNat) = ([10] : List UInt8)))) = Lib.hasSuffix s [10] := by
    unfold Lib.hasSuffix
    rw [Bool.eq_iff_iff, Bool.and_eq_true, decide_eq_true_eq, decide_eq_true_eq, List.isSuffixOf_iff_suffix]
    have hn : ((s.length : Int) - (([10] : List UInt8).length : Int)).toNat = s.length - ([10] : List UInt8).length := by simp
    rw [hn]
    exact ⟨fun h => List.suffix_iff_eq_drop.2 h.2.symm, fun h => ⟨by have := h.length_le; omega, (List.suffix_iff_eq_drop.1 h).symm⟩⟩
  refine ⟨fun h1 => ?_, fun h1 => ?_, ?_⟩
  · simp only [In]; simp; omega
  · rw [decide_eq_true_eq] at h1; simp at h1 ⊢; omega
  · rw [e]
    unfold Lib.trimSuffix at h
    refine ⟨fun h1 => ?_, fun h1 => ?_⟩
    · rw [if_pos h1] at h
      have hl : 1 ≤ s.length := by
        unfold Lib.hasSuffix at h1
        have := (List.isSuffixOf_iff_suffix.1 h1).length_le
        simpa using this
      refine ⟨by simp only [In]; simp; omega, by simp; omega, ?_⟩
      have hn : ((s.length : Int) - (([10] : List UInt8).length : Int)).toNat = s.length - ([10] : List UInt8).length := by simp
      rw [hn]
      exact h
    · rw [if_neg (by rw [h1]; decide)] at h
      exact h
theorem lineRs_M {s : List UInt8} {K : List (List UInt8) → Prop} (hs : s.length ≤ 4000000000) (h : K (lineR s)) : M_tool_Lines s K := by
  rw [lineR_cut] at h
  refine ⟨fun e => by rw [if_pos e] at h; exact h, fun e => trimS_M hs ⟨?_, by simp, ?_⟩⟩
  · have : (Lib.trimSuffix s [10]).length ≤ s.length := by
      unfold Lib.trimSuffix
      split
      · rw [List.length_take]; omega
      · exact Nat.le_refl _
    omega
  · rw [if_neg e] at h
    rw [show splitL [10] (Lib.trimSuffix s [10]) = cutC 10 (Lib.trimSuffix s [10]) from split_cutC 10 _]
    exact h
theorem lineR_len (s : List UInt8) : (lineR s).length ≤ s.length + 1 := Nat.le_trans (wtL_len _) (lineR_wt s)
theorem linesA_take {l : List (List UInt8)} {i : Nat} (h : i < l.length) : linesA (l.take (i + 1)) = linesA (l.take i) ++ lineR (l.getD i []) := by
  unfold linesA
  rw [List.take_succ_eq_append_getElem h, List.flatMap_append]
  simp [List.getD, h]
theorem linesA_len {l : List (List UInt8)} (h : ∀ x ∈ l, x.length ≤ 100000) : (linesA l).length ≤ 100001 * l.length := by
  induction l with
  | nil => simp [linesA]
  | cons x l ih =>
    have h1 := lineR_len x
    have h2 := h x (by simp)
    have h3 := ih fun y hy => h y (by simp [hy])
    have e : linesA (x :: l) = lineR x ++ linesA l := rfl
    rw [e, List.length_append, List.length_cons]
    omega
theorem linesA_M {l : List (List UInt8)} {K : List (List UInt8) → Prop} (hl : l.length ≤ 1000) (hx : ∀ x ∈ l, x.length ≤ 100000) (h : K (linesA l)) : M_tool_lines l K := by
  intro _
  refine ⟨fun o i => 0 ≤ i ∧ i ≤ l.length ∧ o = linesA (l.take i.toNat), fun _ i => l.length - i.toNat, ⟨by omega, by omega, rfl⟩, fun o i ⟨a0, a1, a2⟩ => ⟨fun hlt => ?_, fun hge => ?_⟩⟩
  · have h1 := hx _ (getD_mem (l := l) (k := i.toNat) (d := []) (by omega))
    have h2 := lineR_len (l.getD i.toNat [])
    have h3 := linesA_len (l := l.take i.toNat) fun x hx' => hx x (List.mem_of_mem_take hx')
    rw [List.length_take, ← a2] at h3
    refine ⟨by omega, lineRs_M (by omega) ⟨by omega, by simp only [In]; omega, ⟨by omega, by omega, ?_⟩, by dsimp only; omega⟩⟩
    rw [show (i + 1).toNat = i.toNat + 1 by omega, linesA_take (by omega), ← a2]
  · rw [a2, List.take_of_length_le (by omega)]
    exact h
def wNot : List UInt8 := [110, 111, 116]
def wRev : List UInt8 := [114, 101, 118, 101, 114, 115, 101]
def wUni : List UInt8 := [117, 110, 105, 113, 117, 101]
def filtOk (args : List (List UInt8)) : Bool := !((decide ((args.length : Int) < 1) || decide ((2 : Int) < (args.length : Int))) || (decide ((args.length : Int) = 2) && !decide (args.getD 1 [] = wNot)))
def filtB (args : List (List UInt8)) (x : List UInt8) : Bool := Lib.contains x (args.getD 0 []) == decide ((args.length : Int) = 1)
theorem filter_step (p : List UInt8 → Bool) (l : List (List UInt8)) (i : Nat) (h : i < l.length) : (l.take (i + 1)).filter p = (l.take i).filter p ++ (if p (l.getD i []) = true then [l.getD i []] else []) := by
  rw [List.take_succ_eq_append_getElem h, List.filter_append]
  have : l.getD i [] = l[i] := by simp [List.getD, h]
  rw [this]
  cases hp : p l[i] <;> simp [hp]
theorem filter_M {args l : List (List UInt8)} {K : List (List UInt8) → Bool → Prop} (hl : l.length ≤ 1000000000) (hx : ∀ x ∈ l, x.length ≤ 1000000) (h0 : filtOk args = false → K [] false) (h1 : filtOk args = true → K (l.filter (filtB args)) true) : M_tool_filter args l K := by
  intro _ _
  refine ⟨fun _ h2 => by rw [decide_eq_true_eq] at h2; omega, fun h => h0 (by unfold filtOk; rw [show wNot = ([110, 111, 116] : List UInt8) from rfl, h]; rfl), fun h => ?_⟩
  have hok : filtOk args = true := by unfold filtOk; rw [show wNot = ([110, 111, 116] : List UInt8) from rfl, h]; rfl
  have hn : 1 ≤ args.length := by
    rw [Bool.or_eq_false_iff, Bool.or_eq_false_iff, decide_eq_false_iff_not] at h
    omega
  refine ⟨fun o i => 0 ≤ i ∧ i ≤ l.length ∧ o = (l.take i.toNat).filter (filtB args), fun _ i => l.length - i.toNat, ⟨by omega, by omega, rfl⟩, fun o i ⟨a0, a1, a2⟩ => ⟨fun hlt => ?_, fun hge => ?_⟩⟩
  · have hol : o.length ≤ l.length := by
      rw [a2]
      exact Nat.le_trans (List.length_filter_le _ _) (by rw [List.length_take]; omega)
    have hxl := hx _ (getD_mem (l := l) (k := i.toNat) (d := []) (by omega))
    refine ⟨fun o' => o' = (l.take (i.toNat + 1)).filter (filtB args), ⟨by omega, by omega, by omega, fun e => ⟨by simp only [List.length_singleton]; omega, ?_⟩, fun e => ?_⟩, ?_⟩
    · rw [filter_step _ _ _ (by omega), if_pos (show filtB args (l.getD i.toNat []) = true from e), ← a2]
    · rw [filter_step _ _ _ (by omega), if_neg (by rw [show filtB args (l.getD i.toNat []) = false from e]; decide), ← a2, List.append_nil]
    · rintro _ rfl
      exact ⟨by simp only [In]; omega, ⟨by omega, by omega, by rw [show (i + 1).toNat = i.toNat + 1 by omega]⟩, by dsimp only; omega⟩
  · rw [a2, List.take_of_length_le (by omega)]
    exact h1 hok
theorem contains_M {l : List (List UInt8)} {v : List UInt8} {K : Bool → Prop} (h : K (l.contains v)) : M_slices_Contains_string_string l v K := by
  intro hm _
  refine ⟨fun i => 0 ≤ i ∧ i ≤ l.length ∧ ∀ j, j < i.toNat → l.getD j [] ≠ v, fun i => l.length - i.toNat, ⟨by omega, by omega, fun j hj => by simp at hj⟩, fun i ⟨a0, a1, a2⟩ => ⟨fun hlt => ⟨by omega, fun e => ?_, fun e => ⟨by simp only [In]; simp only [maxLen] at hm; omega, ⟨by omega, by omega, fun j hj => ?_⟩, by dsimp only; omega⟩⟩, fun hge => ?_⟩⟩
  · have : l.contains v = true := by rw [e]; exact List.contains_iff_mem.2 (getD_mem (by omega))
    rw [this] at h
    show K (decide ((0 : Int) ≤ i))
    rw [decide_eq_true a0]; exact h
  · by_cases e2 : j = i.toNat
    · rw [e2]; exact fun e3 => e e3.symm
    · exact a2 j (by omega)
  · have : l.contains v = false := by
      rw [← Bool.not_eq_true, List.contains_iff_mem]
      intro hmem
      obtain ⟨j, hj, rfl⟩ := List.getElem_of_mem hmem
      exact a2 j (by omega) (by simp [List.getD, hj])
    rw [this] at h
    exact h
def sortOk (args : List (List UInt8)) : Bool := decide (((if args.contains wRev then 1 else 0) + (if args.contains wUni then 1 else 0) : Int) = (args.length : Int))
def sortR (args l : List (List UInt8)) : List (List UInt8) := if args.contains wRev then (if args.contains wUni then sortU l else sortB l).reverse else (if args.contains wUni then sortU l else sortB l)
theorem sorted_M {args l : List (List UInt8)} {K : List (List UInt8) → Bool → Prop} (hl : l.length ≤ 1000000000) (h0 : sortOk args = false → K [] false) (h1 : sortOk args = true → K (sortR args l) true) : M_tool_sorted args l K := by
  intro _ _
  refine contains_M (contains_M ?_)
  have e1 : args.contains ([114, 101, 118, 101, 114, 115, 101] : List UInt8) = args.contains wRev := rfl
  have e2 : args.contains ([117, 110, 105, 113, 117, 101] : List UInt8) = args.contains wUni := rfl
  rw [e1, e2]
  unfold sortOk at h0 h1
  unfold sortR at h1
  revert h0 h1
  generalize args.contains wRev = r
  generalize args.contains wUni = u
  intro h0 h1
  cases r <;> cases u
  all_goals
    simp only [if_true, if_false, Bool.false_eq_true, decide_eq_true_eq, decide_eq_false_iff_not] at h0 h1
  · refine ⟨fun n => n = 0, ⟨fun h => (by cases h), fun _ => rfl⟩, ?_⟩
    rintro _ rfl
    refine ⟨fun n => n = 0, ⟨fun h => (by cases h), fun _ => rfl⟩, ?_⟩
    rintro _ rfl
    refine ⟨fun h => h0 (by simpa using h), fun h => ⟨hl, fun o => o = sortB l, ⟨fun h => (by cases h), fun _ => rfl⟩, ?_⟩⟩
    rintro _ rfl
    refine ⟨fun o => o = sortB l, ⟨fun h => (by cases h), fun _ => rfl⟩, ?_⟩
    rintro _ rfl
    exact h1 (by simpa using h)
  · refine ⟨fun n => n = 0, ⟨fun h => (by cases h), fun _ => rfl⟩, ?_⟩
    rintro _ rfl
    refine ⟨fun n => n = 1, ⟨fun _ => ⟨by simp only [In]; omega, rfl⟩, fun h => (by cases h)⟩, ?_⟩
    rintro _ rfl
    refine ⟨fun h => h0 (by simpa using h), fun h => ⟨hl, fun o => o = sortU l, ⟨fun _ => rfl, fun h => (by cases h)⟩, ?_⟩⟩
    rintro _ rfl
    refine ⟨fun o => o = sortU l, ⟨fun h => (by cases h), fun _ => rfl⟩, ?_⟩
    rintro _ rfl
    exact h1 (by simpa using h)
  · refine ⟨fun n => n = 1, ⟨fun _ => ⟨by simp only [In]; omega, rfl⟩, fun h => (by cases h)⟩, ?_⟩
    rintro _ rfl
    refine ⟨fun n => n = 1, ⟨fun h => (by cases h), fun _ => rfl⟩, ?_⟩
    rintro _ rfl
    refine ⟨fun h => h0 (by simpa using h), fun h => ⟨hl, fun o => o = sortB l, ⟨fun h => (by cases h), fun _ => rfl⟩, ?_⟩⟩
    rintro _ rfl
    refine ⟨fun o => o = (sortB l).reverse, ⟨fun _ => rfl, fun h => (by cases h)⟩, ?_⟩
    rintro _ rfl
    exact h1 (by simpa using h)
  · refine ⟨fun n => n = 1, ⟨fun _ => ⟨by simp only [In]; omega, rfl⟩, fun h => (by cases h)⟩, ?_⟩
    rintro _ rfl
    refine ⟨fun n => n = 2, ⟨fun _ => ⟨by simp only [In]; omega, rfl⟩, fun h => (by cases h)⟩, ?_⟩
    rintro _ rfl
    refine ⟨fun h => h0 (by simpa using h), fun h => ⟨hl, fun o => o = sortU l, ⟨fun _ => rfl, fun h => (by cases h)⟩, ?_⟩⟩
    rintro _ rfl
    refine ⟨fun o => o = (sortU l).reverse, ⟨fun _ => rfl, fun h => (by cases h)⟩, ?_⟩
    rintro _ rfl
    exact h1 (by simpa using h)
end Go.Proofs.YtilphcippnfklaaDoor

 /- What the tools write: joining, listing: the plain side of the program. -/
namespace Go.Proofs.YtilphcippnfklaaDoor
open Go Go.RowKit
theorem joined_M {l : List (List UInt8)} {by_ end_ : List UInt8} {K : List UInt8 → Er → Prop} (hx : ∀ x ∈ l, x.length ≤ 1000000000) (hb : by_.length ≤ 1000000000) (he : end_.length ≤ 1000000000)
    (h1 : (joinE l by_ end_).length ≤ 65536 → K (joinE l by_ end_) .ok) (h0 : 65536 < (joinE l by_ end_).length → K [] (.e 16)) : M_tool_joined l by_ end_ K := by
  intro hm
  refine ⟨fun n i => 0 ≤ i ∧ i ≤ l.length ∧ n = ((joinE (l.take i.toNat) by_ end_).length : Int) ∧ n ≤ 65536, fun _ i => l.length - i.toNat, ⟨by omega, by omega, rfl, by omega⟩, fun n i ⟨a0, a1, a2, a3⟩ => ⟨fun hlt => ⟨by omega, ?_⟩, fun hge => ?_⟩⟩
  · have hxl := hx _ (getD_mem (l := l) (k := i.toNat) (d := []) (by omega))
    have ht := congrArg List.length (joinE_take (l := l) (i := i.toNat) (by omega) by_ end_)
    have hle := joinE_le l (i.toNat + 1) by_ end_
    simp only [List.length_append] at ht
    simp only [maxLen] at hm
    refine ⟨fun n2 => n2 = n + ((if i.toNat = 0 then ([] : List UInt8) else by_).length : Int), ⟨fun h => ⟨by simp only [In]; omega, by rw [if_neg (by omega)]⟩, fun h => by rw [if_pos (by omega)]; simp⟩, ?_⟩
    rintro n2 rfl
    have hif : (if i.toNat = 0 then ([] : List UInt8) else by_).length ≤ 1000000000 := by
      split
      · simp
      · exact hb
    refine ⟨by simp only [In]; omega, by simp only [In]; omega, fun h => h0 (by omega), fun h => ⟨by simp only [In]; omega, ⟨by omega, by omega, ?_, by omega⟩, by dsimp only; omega⟩⟩
    rw [show (i + 1).toNat = i.toNat + 1 by omega]
    omega
  · rw [List.take_of_length_le (by omega)] at a2
    exact ⟨by omega, h1 (by omega)⟩
def digestsP (l : List (List UInt8)) : List (List UInt8) := l.map fun s => hexS (shaS s)
theorem textZ_M {s : List UInt8} {K : List UInt8 → Prop} (hl : s.length = 32) (h : K (hexS s)) : M_sha_Text s K := by
  intro t ht he
  have : t = s := List.ext_getElem (by omega) fun i h1 h2 => by
    have := he i (by omega)
    simpa [List.getD, h1, h2] using this
  rw [this]; exact h
/-- the lines that a tool lists, and whether its arguments may be -/
def listP (tool : Int) (args inputs : List (List UInt8)) : List (List UInt8) × Bool :=
  if tool = 2 then (if filtOk args then ((linesA inputs).filter (filtB args), true) else ([], false))
  else if tool = 4 then (if sortOk args then (sortR args (linesA inputs), true) else ([], false))
  else (digestsP inputs, decide ((args.length : Int) = 0))
theorem lineR_le {s x : List UInt8} (h : x ∈ lineR s) : x.length ≤ s.length := by
  have h1 := wtL_mem h
  have h2 := lineR_wt s
  omega
theorem linesA_le {l : List (List UInt8)} {x : List UInt8} (h : x ∈ linesA l) (hx : ∀ y ∈ l, y.length ≤ 100000) : x.length ≤ 100000 := by
  unfold linesA at h
  obtain ⟨y, hy, hxy⟩ := List.mem_flatMap.1 h
  have := lineR_le hxy
  have := hx y hy
  omega
theorem listed_M {tool : Int} {args inputs : List (List UInt8)} {K : List (List UInt8) → Bool → Prop} (hl : inputs.length ≤ 1000) (hx : ∀ x ∈ inputs, x.length ≤ 100000) (h : K (listP tool args inputs).1 (listP tool args inputs).2) : M_tool_listed tool args inputs K := by
  intro _ _
  have hlen := linesA_len hx
  unfold listP at h
  refine ⟨fun e => linesA_M hl hx (filter_M (by omega) (fun x hx' => by have := linesA_le hx' hx; omega) (fun e2 => ?_) (fun e2 => ?_)), fun e => ⟨fun e3 => linesA_M hl hx (sorted_M (by omega) (fun e2 => ?_) (fun e2 => ?_)), fun e3 => ?_⟩⟩
  · rw [if_pos e, if_neg (by rw [e2]; decide)] at h; exact h
  · rw [if_pos e, if_pos e2] at h; exact h
  · rw [if_neg e, if_pos e3, if_neg (by rw [e2]; decide)] at h; exact h
  · rw [if_neg e, if_pos e3, if_pos e2] at h; exact h
  · rw [if_neg e, if_neg e3] at h
    refine ⟨fun o i => 0 ≤ i ∧ i ≤ inputs.length ∧ o = digestsP (inputs.take i.toNat), fun _ i => inputs.length - i.toNat, ⟨by omega, by omega, rfl⟩, fun o i ⟨a0, a1, a2⟩ => ⟨fun hlt => ?_, fun hge => ?_⟩⟩
    · have hxl := hx _ (getD_mem (l := inputs) (k := i.toNat) (d := []) (by omega))
      have hol : o.length ≤ 1000 := by rw [a2, digestsP, List.length_map, List.length_take]; omega
      refine ⟨by omega, by simp only [maxLen]; omega, by omega, textZ_M (shaS_len _) ⟨by simp only [List.length_singleton]; omega, by simp only [In]; omega, ⟨by omega, by omega, ?_⟩, by dsimp only; omega⟩⟩
      rw [show (i + 1).toNat = i.toNat + 1 by omega, a2]
      unfold digestsP
      rw [List.take_succ_eq_append_getElem (show i.toNat < inputs.length by omega), List.map_append]
      simp [List.getD, show i.toNat < inputs.length by omega]
    · rw [a2, List.take_of_length_le (by omega)]
      exact h
end Go.Proofs.YtilphcippnfklaaDoor

 /- What the tools write: replacing; all of Do: the plain side of the program. -/
namespace Go.Proofs.YtilphcippnfklaaDoor
open Go Go.RowKit
theorem replK_len (old new : List UInt8) (ho : old ≠ []) : ∀ (k : Nat) (s : List UInt8), Lib.count s old = k → (Lib.replaceK old new k s).length + k * old.length = s.length + k * new.length := by
  intro k
  induction k with
  | zero => intro s _; simp [Lib.replaceK]
  | succ k ih =>
    intro s hc
    obtain ⟨i, hi⟩ := Lib.index_of_count (s := s) (old := old) (by omega)
    have h1 := Lib.count_hit ho hi
    have h2 := Lib.index_room s old (by omega)
    have h3 := ih (s.drop (i + old.length)) (by omega)
    rw [Lib.replaceK_hit old new k s i hi, List.length_append, List.length_append, List.length_take]
    rw [List.length_drop] at h3
    rw [Nat.succ_mul, Nat.succ_mul]
    omega
theorem replAll_len (s old new : List UInt8) (ho : old ≠ []) : (Lib.replaceAll s old new).length + Lib.count s old * old.length = s.length + Lib.count s old * new.length := by
  by_cases he : old = new
  · have : Lib.replaceAll s old new = s := by
      unfold Lib.replaceAll Lib.replace
      simp [he]
    rw [this, he]
  · have : Lib.replaceAll s old new = Lib.replaceK old new (Lib.count s old) s := by
      unfold Lib.replaceAll Lib.replace Lib.replaceNum
      simp [he]
    rw [this]
    exact replK_len old new ho _ s rfl
def subP : List (List UInt8) → List UInt8 → List UInt8 × Er
  | a :: b :: r, s => if a = [] then ([], .e 16) else if (0 : Int) < (b.length : Int) - (a.length : Int) ∧ (65536 - (s.length : Int)) / ((b.length : Int) - (a.length : Int)) < (Lib.count s a : Int) then ([], .e 16) else subP r (Lib.replaceAll s a b)
  | _, s => (s, .ok)
theorem subP_cons (a b : List UInt8) (r : List (List UInt8)) (s : List UInt8) : subP (a :: b :: r) s = if a = [] then ([], .e 16) else if (0 : Int) < (b.length : Int) - (a.length : Int) ∧ (65536 - (s.length : Int)) / ((b.length : Int) - (a.length : Int)) < (Lib.count s a : Int) then ([], .e 16) else subP r (Lib.replaceAll s a b) := rfl
def substP (args inputs : List (List UInt8)) : List UInt8 × Er :=
  if (args.length : Int) % 2 = 0 then (if 65536 < (joinE inputs [] []).length then ([], .e 16) else subP args (joinE inputs [] [])) else ([], .e 16)
theorem substitute_M {args inputs : List (List UInt8)} {K : List UInt8 → Er → Prop} (ha : ∀ x ∈ args, x.length ≤ 1000000) (hx : ∀ x ∈ inputs, x.length ≤ 1000000000) (h : K (substP args inputs).1 (substP args inputs).2) : M_tool_substitute args inputs K := by
  intro hm _
  simp only [maxLen] at hm
  unfold substP at h
  refine ⟨by omega, fun e => by rw [if_neg e] at h; exact h, fun e => ?_⟩
  rw [if_pos e] at h
  refine joined_M hx (by simp) (by simp) (fun hj => ⟨fun e2 => absurd rfl e2, fun _ => ?_⟩) (fun hj => ⟨fun _ => ?_, fun e2 => by cases e2⟩)
  · rw [if_neg (by omega)] at h
    generalize joinE inputs [] [] = s0 at *
    refine ⟨fun s i => 0 ≤ i ∧ i ≤ args.length ∧ i % 2 = 0 ∧ s.length ≤ 65536 ∧ subP args s0 = subP (args.drop i.toNat) s, fun _ i => args.length - i.toNat, ⟨by omega, by omega, by omega, hj, by simp⟩, fun s i ⟨a0, a1, a2, a3, a4⟩ => ⟨fun hlt => ⟨by omega, ?_⟩, fun hge => ?_⟩⟩
    · have hd : args.drop i.toNat = args.getD i.toNat [] :: args.getD (i.toNat + 1) [] :: args.drop (i.toNat + 2) := by
        rw [List.drop_eq_getElem_cons (show i.toNat < args.length by omega), List.drop_eq_getElem_cons (show i.toNat + 1 < args.length by omega)]
        simp [List.getD, show i.toNat < args.length by omega, show i.toNat + 1 < args.length by omega]
      rw [hd] at a4
      have l1 := ha _ (getD_mem (l := args) (k := i.toNat) (d := []) (by omega))
      have l2 := ha _ (getD_mem (l := args) (k := i.toNat + 1) (d := []) (by omega))
      have ei : (i + 1).toNat = i.toNat + 1 := by omega
      rw [ei]
      generalize args.getD i.toNat [] = a at *
      generalize args.getD (i.toNat + 1) [] = b at *
      rw [subP_cons] at a4
      refine ⟨fun hn => ?_, fun hn => ?_⟩
      · rw [if_pos hn] at a4
        rw [a4] at h; exact h
      · rw [if_neg hn] at a4
        have hal : 1 ≤ a.length := List.length_pos_iff.2 hn
        have hcnt : (Lib.countB ⟨⟨s⟩⟩ ⟨⟨a⟩⟩ : Nat) = Lib.count s a := rfl
        have hlen := replAll_len s a b hn
        have hcl := Lib.count_le s a
        have hmulle : Lib.count s a * b.length ≤ 65537 * 1000000 := Nat.mul_le_mul (by omega) l2
        refine ⟨by omega, by omega, hal, ?_⟩
        rw [hcnt]
        refine ⟨by simp only [In]; omega, by omega, by omega, by simp only [In]; omega, fun _ => by simp only [In]; omega, fun hp => ?_, fun hp => ?_, fun hp => ?_⟩
        · rw [decide_eq_true_eq] at hp
          exact ⟨by omega, by omega, by simp only [In]; omega⟩
        · rw [Bool.and_eq_true, decide_eq_true_eq, decide_eq_true_eq] at hp
          rw [if_pos hp] at a4
          rw [a4] at h; exact h
        · rw [Bool.and_eq_false_iff, decide_eq_false_iff_not, decide_eq_false_iff_not] at hp
          rw [if_neg (by rintro ⟨q1, q2⟩; rcases hp with hp | hp <;> contradiction)] at a4
          refine ⟨by omega, by simp only [In]; omega, by omega, by omega, hal, by rw [hcnt]; omega, by simp only [In]; omega, ⟨by omega, by omega, by omega, ?_, ?_⟩, by dsimp only; omega⟩
          · rcases hp with hp | hp
            · have : Lib.count s a * b.length ≤ Lib.count s a * a.length := Nat.mul_le_mul_left _ (by omega)
              omega
            · by_cases hd0 : (0 : Int) < (b.length : Int) - (a.length : Int)
              · have h5 : (Lib.count s a : Int) * ((b.length : Int) - (a.length : Int)) ≤ 65536 - (s.length : Int) := (Int.le_ediv_iff_mul_le hd0).1 (by omega)
                rw [Int.mul_sub] at h5
                have h6 : ((Lib.count s a * b.length : Nat) : Int) = (Lib.count s a : Int) * (b.length : Int) := Int.natCast_mul _ _
                have h7 : ((Lib.count s a * a.length : Nat) : Int) = (Lib.count s a : Int) * (a.length : Int) := Int.natCast_mul _ _
                omega
              · have : Lib.count s a * b.length ≤ Lib.count s a * a.length := Nat.mul_le_mul_left _ (by omega)
                omega
          · rw [show (i + 2).toNat = i.toNat + 2 by omega]
            exact a4
    · rw [List.drop_eq_nil_of_le (by omega)] at a4
      rw [a4] at h
      exact h
  · rw [if_pos hj] at h
    exact h
/-- what Do answers -/
def fitP (t : List UInt8) : List UInt8 × Er := if t.length ≤ 65536 then (t, .ok) else ([], .e 16)
def doP (tool : Int) (args inputs : List (List UInt8)) : List UInt8 × Er :=
  if tool = 3 then substP args inputs
  else if tool = 1 then (if 1 < args.length then ([], .e 16) else fitP (joinE inputs (if args.length = 1 then args.getD 0 [] else []) []))
  else if tool = 2 ∨ tool = 4 ∨ tool = 5 then (if (listP tool args inputs).2 = true then fitP (joinE (listP tool args inputs).1 [] [10]) else ([], .e 16))
  else ([], .e 10)
theorem sortU_le {l : List (List UInt8)} {x : List UInt8} (h : x ∈ sortU l) : x ∈ l := (sortU_mem l x).1 h
theorem listP_le {tool : Int} {args inputs : List (List UInt8)} (hx : ∀ x ∈ inputs, x.length ≤ 100000) : ∀ x ∈ (listP tool args inputs).1, x.length ≤ 100000 := by
  intro x h
  unfold listP at h
  split at h
  · split at h
    · exact linesA_le (List.mem_filter.1 h).1 hx
    · cases h
  · split at h
    · split at h
      · refine linesA_le (l := inputs) ?_ hx
        unfold sortR at h
        split at h
        · rw [List.mem_reverse] at h
          split at h
          · exact sortU_le h
          · exact (sortB_mem _ _).1 h
        · split at h
          · exact sortU_le h
          · exact (sortB_mem _ _).1 h
      · cases h
    · unfold digestsP at h
      obtain ⟨y, _, rfl⟩ := List.mem_map.1 h
      rw [hexS_len, shaS_len]; omega
theorem do_M {tool : Int} {args inputs : List (List UInt8)} {K : List UInt8 → Er → Prop} (ha : ∀ x ∈ args, x.length ≤ 1000000) (hl : inputs.length ≤ 1000) (hx : ∀ x ∈ inputs, x.length ≤ 100000) (h : K (doP tool args inputs).1 (doP tool args inputs).2) : M_tool_Do tool args inputs K := by
  intro _ _
  have fit : ∀ (l : List (List UInt8)) (b e : List UInt8), (∀ x ∈ l, x.length ≤ 1000000) → b.length ≤ 1000000 → e.length ≤ 1000000 → K (fitP (joinE l b e)).1 (fitP (joinE l b e)).2 → M_tool_joined l b e K := fun l b e q1 q2 q3 q4 => by
    unfold fitP at q4
    refine joined_M (fun x hx' => by have := q1 x hx'; omega) (by omega) (by omega) (fun q5 => ?_) (fun q5 => ?_)
    · rw [if_pos q5] at q4; exact q4
    · rw [if_neg (by omega)] at q4; exact q4
  unfold doP at h
  refine ⟨fun a2 i2 e is => (tool = 1 ∧ a2 = args ∧ i2 = inputs ∧ e = [] ∧ is = true) ∨ ((tool = 2 ∨ tool = 4 ∨ tool = 5) ∧ a2 = [] ∧ i2 = (listP tool args inputs).1 ∧ e = [10] ∧ is = (listP tool args inputs).2), ⟨fun e => substitute_M ha (fun x hx' => by have := hx x hx'; omega) (by rw [if_pos e] at h; exact h), fun e => ?_⟩, ?_⟩
  · rw [if_neg e] at h
    refine ⟨fun b => b = decide (tool = 2 ∨ tool = 4 ∨ tool = 5), ⟨fun e2 => by simp [e2], fun e2 => ⟨fun e3 => by simp [e3], fun e3 => by simp [e2, e3]⟩⟩, ?_⟩
    rintro b rfl
    refine ⟨fun hb => listed_M hl hx (.inr ⟨of_decide_eq_true hb, rfl, rfl, rfl, rfl⟩), fun hb => ⟨fun e1 => .inl ⟨e1, rfl, rfl, rfl, rfl⟩, fun e1 => ?_⟩⟩
    rw [if_neg e1, if_neg (of_decide_eq_false hb)] at h
    exact h
  · rintro a2 i2 e is (⟨rfl, rfl, rfl, rfl, rfl⟩ | ⟨ht, rfl, rfl, rfl, rfl⟩)
    · rw [if_neg (by decide), if_pos rfl] at h
      refine ⟨fun h1 => ?_, fun h1 => ?_⟩
      · have : 1 < a2.length := by simp at h1; omega
        rw [if_pos this] at h
        exact h
      · have hle : ¬ 1 < a2.length := by simp at h1; omega
        rw [if_neg hle] at h
        refine ⟨fun b => b = (if a2.length = 1 then a2.getD 0 [] else []), ⟨fun e1 => ⟨by omega, by rw [if_pos (by omega)]⟩, fun e1 => by rw [if_neg (by omega)]⟩, ?_⟩
        rintro b rfl
        refine fit _ _ _ (fun x hx' => by have := hx x hx'; omega) ?_ (by simp) h
        split
        · exact ha _ (getD_mem (by omega))
        · simp
    · have hn3 : ¬ tool = 3 := by omega
      have hn1 : ¬ tool = 1 := by omega
      rw [if_neg hn3, if_neg hn1, if_pos ht] at h
      refine ⟨fun h1 => ?_, fun h1 => ?_⟩
      · have : ¬ (listP tool args inputs).2 = true := by simpa using h1
        rw [if_neg this] at h
        exact h
      · have : (listP tool args inputs).2 = true := by simpa using h1
        rw [if_pos this] at h
        refine ⟨fun b => b = [], ⟨fun e1 => by simp at e1, fun _ => rfl⟩, ?_⟩
        rintro b rfl
        exact fit _ _ _ (fun x hx' => by have := listP_le hx x hx'; omega) (by simp) (by simp) h
end Go.Proofs.YtilphcippnfklaaDoor

 /- Printed by a program (wip/vg): what the functions mean, plainly, and their walks. -/
namespace Go.Proofs.YtilphcippnfklaaDoor
open Go Go.RowKit
attribute [local irreducible] WL WC WX WQ WK WJ Yld Eff Ef0 Fn
def M_smithyref_SortedTexts (l : List (List UInt8)) (K : (List (List UInt8)) → Prop) : Prop :=
 (l.length ≤ maxLen →
 Lp2 (fun (out : List (List UInt8)) (i : Int) k_1 => ((i < (l.length : Int) → ∃ J1 : (List (List UInt8)) → Prop, (Lp1 (fun (k : Int) k_2 => ((decide (k < (out.length : Int))) = true → (0 ≤ k ∧ k < (out.length : Nat))) ∧
 ((decide (k < (out.length : Int))) = true → (0 ≤ i ∧ i < (l.length : Nat))) ∧
 ((((decide (k < (out.length : Int))) && (Op.bytesLess (out.getD k.toNat []) (l.getD i.toNat []))) = true → (In .i64 (k + (1 : Int))) ∧
 k_2 (k + (1 : Int))) ∧
 (((decide (k < (out.length : Int))) && (Op.bytesLess (out.getD k.toNat []) (l.getD i.toNat []))) = false → ((decide (k < (out.length : Int))) = true → (0 ≤ k ∧ k < (out.length : Nat))) ∧
 ((decide (k < (out.length : Int))) = true → (0 ≤ i ∧ i < (l.length : Nat))) ∧
 ((((decide (k < (out.length : Int))) && (decide ((out.getD k.toNat []) = (l.getD i.toNat [])))) = true → J1 out) ∧
 (((decide (k < (out.length : Int))) && (decide ((out.getD k.toNat []) = (l.getD i.toNat [])))) = false → (In .i64 ((out.length : Int) + (1 : Int))) ∧
 (0 ≤ (out.length : Int) + (1 : Int) ∧ ((out.length : Int) + (1 : Int)) * 16 ≤ 140737488355328 ∧ (out.length : Int) + (1 : Int) ≤ 140737488355328) ∧
 (0 ≤ k ∧ k ≤ (out.length : Nat)) ∧
 (((([] : List (List UInt8))).length + (out.take k.toNat).length) * 16 ≤ 140737488355328) ∧
 (0 ≤ i ∧ i < (l.length : Nat)) ∧
 (((([] : List (List UInt8)) ++ (out.take k.toNat)).length + (([l.getD i.toNat []] : List (List UInt8))).length) * 16 ≤ 140737488355328) ∧
 (0 ≤ k ∧ k ≤ (out.length : Int) ∧ (out.length : Int) ≤ (out.length : Nat)) ∧
 ((((([] : List (List UInt8)) ++ (out.take k.toNat)) ++ ([l.getD i.toNat []] : List (List UInt8))).length + (out.drop k.toNat).length) * 16 ≤ 140737488355328) ∧
 J1 (((([] : List (List UInt8)) ++ (out.take k.toNat)) ++ ([l.getD i.toNat []] : List (List UInt8))) ++ (out.drop k.toNat))))))) (0 : Int)) ∧
 (∀ out2 : List (List UInt8), J1 out2 → (In .i64 (i + (1 : Int))) ∧
 k_1 out2 (i + (1 : Int)))) ∧
 (¬ (i < (l.length : Int)) → K out))) [] (0 : Int))

def M_smithyworld_Texts (l : List (List UInt8)) (most : Int) (long : Int) (K : Bool → Prop) : Prop :=
 (l.length ≤ maxLen →
 ((most < (l.length : Int) → K false) ∧
 (¬ (most < (l.length : Int)) → Lp1 (fun (i : Int) k_1 => ((i < (l.length : Int) → (0 ≤ i ∧ i < (l.length : Nat)) ∧
 ((long < ((l.getD i.toNat []).length : Int) → K false) ∧
 (¬ (long < ((l.getD i.toNat []).length : Int)) → (In .i64 (i + (1 : Int))) ∧
 k_1 (i + (1 : Int))))) ∧
 (¬ (i < (l.length : Int)) → K true))) (0 : Int))))

def M_smithylaw23_first (K : Bool → Prop) : Prop :=
 M_tool_Do (4 : Int) [] ([([98, 10, 97, 10] : List UInt8)] : List (List UInt8)) (fun (t70 : List UInt8) (t71 : Er) =>
 M_tool_Do (3 : Int) ([([97] : List UInt8), ([98] : List UInt8)] : List (List UInt8)) ([([97, 97] : List UInt8)] : List (List UInt8)) (fun (t130 : List UInt8) (t131 : Er) =>
 K ((((decide (t71 = Er.ok)) && (decide (t131 = Er.ok))) && (decide (t70 = ([97, 10, 98, 10] : List UInt8)))) && (decide (t130 = ([98, 98] : List UInt8))))))

set_option maxHeartbeats 8000000 in
theorem W_smithyref_SortedTexts {w : World} {l : List (List UInt8)} {A_l : Option Addr} {c_l : Nat} {n_l : Nat} {K : (List (List UInt8)) → Prop} (hl : Rd vs w A_l c_l l) (hn_l : n_l = l.length) (H : M_smithyref_SortedTexts l K) : Fn Tryd.prog 47 ⟨[.slice A_l n_l c_l]⟩ w (fun v w' => w.grownBy w' none ∧ ∃ (r : List (List UInt8)), ∃ (A_r : Option Addr), ∃ (c_r : Nat), v = .slice A_r r.length c_r ∧ Own vs w' w.heap.size 9 A_r c_r r ∧ K r) := by
  subst hn_l
  unfold M_smithyref_SortedTexts at H
  refine Fn.enter (by kernel_rfl) Tryd.func47 rfl Tryd.ntmps47 rfl ?_
  replace H := H (Nat.le_trans hl.cap hl.max)
  refine WC.seq ?_
  refine WC.region ?_
  refine WL.y rfl (Yld.pure tab_ok rfl) ?_
  refine WL.nil (WX.then_normal ?_)
  refine WC.seq ?_
  refine WC.region ?_
  refine WL.y rfl (Yld.pure tab_ok rfl) ?_
  refine WL.nil (WX.then_normal ?_)
  refine WC.seq ?_
  refine WC.seq ?_
  refine WC.region ?_
  refine WL.y rfl (Yld.pure tab_ok rfl) ?_
  refine WL.nil (WX.then_normal ?_)
  refine WC.block ?_
  obtain ⟨I1, mu1, h0_1, HR1⟩ := H
  refine WC.loopF (fun n' L' w' => ∃ (out : List (List UInt8)), ∃ (A_out : Option Addr), ∃ (c_out : Nat), ∃ (n_out : Nat), ∃ (i : Int), n' = mu1 out i ∧ L' = [(0, .slice A_l l.length c_l), (3, .slice A_out n_out c_out), (4, .int .i64 i)] ∧ I1 out i ∧ n_out = out.length ∧ w.grownBy w' none ∧ Own vs w' w.heap.size 9 A_out c_out out) _ _ ⟨[], none, 0, 0, (0 : Int), rfl, rfl, h0_1, rfl, (gr_refl _ _), (Own.nil vs w w.heap.size 9)⟩ (by repeat (first | exact Sub.nil | refine Sub.cons rfl ?_)) ?_
  clear h0_1
  rintro _ _ w1 ⟨out, A_out, c_out, n_out, i, rfl, rfl, hI1, rfl, gr1, k1⟩
  have H := HR1 out i hI1
  refine WC.seq ?_
  refine WC.seq ?_
  refine WC.region ?_
  refine WL.y rfl (Yld.pure tab_ok rfl) ?_
  refine WL.y rfl (Yld.pure tab_ok rfl) ?_
  refine WL.y rfl (Yld.pure tab_ok rfl) ?_
  refine WL.y rfl (Yld.pure tab_ok rfl) ?_
  refine WL.nil (WX.then_normal ?_)
  refine WC.cond rfl (fun b1 => ?_) (fun b1 => ?_)
  · replace H := H.1 (of_decide_eq_true b1)
    refine WC.skip (WX.then_normal ?_)
    refine WC.seq ?_
    obtain ⟨J1, H, hJ1⟩ := H
    refine WC.midF (fun L' w' => ∃ (out2 : List (List UInt8)), ∃ (A_out2 : Option Addr), ∃ (c_out2 : Nat), ∃ (n_out2 : Nat), L' = [(0, .slice A_l l.length c_l), (3, .slice A_out2 n_out2 c_out2), (4, .int .i64 i)] ∧ J1 out2 ∧ n_out2 = out2.length ∧ w.grownBy w' none ∧ Own vs w' w.heap.size 9 A_out2 c_out2 out2) ?_ (fun hQ => ?_)
    · clear H
      rintro _ w2 ⟨out2, A_out2, c_out2, n_out2, rfl, H, rfl, gr2, k2⟩
      replace H := hJ1 out2 H
      refine WX.then_normal ?_
      refine WC.region ?_
      refine WL.y rfl (Yld.pure tab_ok rfl) ?_
      obtain ⟨h1, H⟩ := H
      refine WL.y rfl (Yld.add rfl rfl h1) ?_
      refine WL.y rfl (Yld.pure tab_ok rfl) ?_
      refine WL.nil ?_
      exact WX.roundF _ ⟨out2, A_out2, c_out2, out2.length, i + (1 : Int), rfl, rfl, H.1, rfl, gr2, k2⟩ (by repeat (first | exact Sub.nil | refine Sub.cons rfl ?_)) H.2
    · clear hJ1
      refine WC.block ?_
      refine WC.seq ?_
      refine WC.region ?_
      refine WL.y rfl (Yld.pure tab_ok rfl) ?_
      refine WL.nil (WX.then_normal ?_)
      refine WC.seq ?_
      refine WC.block ?_
      obtain ⟨I2, mu2, h0_2, HR2⟩ := H
      refine WC.loopF (fun n' L' w' => ∃ (k : Int), n' = mu2 k ∧ L' = [(0, .slice A_l l.length c_l), (3, .slice A_out out.length c_out), (4, .int .i64 i), (5, .int .i64 k)] ∧ I2 k ∧ w1 = w') _ _ ⟨(0 : Int), rfl, rfl, h0_2, rfl⟩ (by repeat (first | exact Sub.nil | refine Sub.cons rfl ?_)) ?_
      clear h0_2
      rintro _ _ _ ⟨k, rfl, rfl, hI2, rfl⟩
      have H := HR2 k hI2
      refine WC.seq ?_
      refine WC.seq ?_
      refine WC.quiet mixed (by kernel_rfl) ?_
      refine WQ.y rfl (Yld.pure tab_ok rfl) ?_
      refine WQ.y rfl (Yld.pure tab_ok rfl) ?_
      refine WQ.y rfl (Yld.pure tab_ok rfl) ?_
      refine WQ.y rfl (Yld.pure tab_ok rfl) ?_
      refine WQ.y rfl (Yld.pure tab_ok rfl) ?_
      obtain ⟨h2, H⟩ := H
      obtain ⟨h3, H⟩ := H
      refine WQ.midF 10 (fun L' w' => ∃ q1 : Bool, L' = [(27, .bool q1), (0, .slice A_l l.length c_l), (3, .slice A_out out.length c_out), (4, .int .i64 i), (5, .int .i64 k)] ∧ q1 = ((decide (k < (out.length : Int))) && (Op.bytesLess (out.getD k.toNat []) (l.getD i.toNat []))) ∧ w1 = w') ?_ (fun hQ => ?_)
      · rintro _ _ ⟨q1, rfl, rfl, rfl⟩
        refine WQ.nil (WX.then_normal ?_)
        refine WC.cond rfl (fun b2 => ?_) (fun b2 => ?_)
        · replace H := H.1 (b2)
          refine WC.skip (WX.then_normal ?_)
          refine WC.block ?_
          refine WC.region ?_
          refine WL.y rfl (Yld.pure tab_ok rfl) ?_
          obtain ⟨h4, H⟩ := H
          refine WL.y rfl (Yld.add rfl rfl h4) ?_
          refine WL.y rfl (Yld.pure tab_ok rfl) ?_
          refine WL.nil (WX.block_normal ?_)
          exact WX.roundF _ ⟨k + (1 : Int), rfl, rfl, H.1, rfl⟩ (by repeat (first | exact Sub.nil | refine Sub.cons rfl ?_)) H.2
        · replace H := H.2 (b2)
          refine WC.exit (WX.then_exit (WX.then_exit (WX.block_same (WX.then_normal ?_))))
          refine WC.seq ?_
          refine WC.seq ?_
          refine WC.quiet mixed (by kernel_rfl) ?_
          refine WQ.y rfl (Yld.pure tab_ok rfl) ?_
          refine WQ.y rfl (Yld.pure tab_ok rfl) ?_
          refine WQ.y rfl (Yld.pure tab_ok rfl) ?_
          refine WQ.y rfl (Yld.pure tab_ok rfl) ?_
          refine WQ.y rfl (Yld.pure tab_ok rfl) ?_
          obtain ⟨h5, H⟩ := H
          obtain ⟨h6, H⟩ := H
          refine WQ.midF 10 (fun L' w' => ∃ q2 : Bool, L' = [(44, .bool q2), (0, .slice A_l l.length c_l), (3, .slice A_out out.length c_out), (4, .int .i64 i), (5, .int .i64 k)] ∧ q2 = ((decide (k < (out.length : Int))) && (decide ((out.getD k.toNat []) = (l.getD i.toNat [])))) ∧ w1 = w') ?_ (fun hQ => ?_)
          · rintro _ _ ⟨q2, rfl, rfl, rfl⟩
            refine WQ.nil (WX.then_normal ?_)
            refine WC.cond rfl (fun b3 => ?_) (fun b3 => ?_)
            · replace H := H.1 (b3)
              refine WC.exit (WX.then_exit (WX.block_same ?_))
              exact WX.weaken (by repeat (first | exact Sub.nil | refine Sub.cons rfl ?_)) (hQ _ _ ⟨out, A_out, c_out, out.length, rfl, H, rfl, gr1, k1⟩)
            · replace H := H.2 (b3)
              refine WC.skip (WX.then_normal ?_)
              refine WC.seq ?_
              refine WC.chainF (fun k => !(Nat.beq k 3 || Nat.beq k 7)) (LD [] (fun w' => True)) mixed (by kernel_rfl) (fun k w' h _ => trivial) ?_
              refine WJ.y rfl rfl (fun w' hw' => Yld.pure tab_ok rfl) ?_
              refine WJ.y rfl rfl (fun w' hw' => Yld.pure tab_ok rfl) ?_
              obtain ⟨h7, H⟩ := H
              refine WJ.y rfl rfl (fun w' hw' => Yld.add rfl rfl h7) ?_
              obtain ⟨h8, H⟩ := H
              refine WJ.putw rfl (wants_none) rfl (Eff.makeCI (f := vs) (B := w.heap.size) tab_ok rfl rfl rfl h8.1 h8.2.1 h8.2.2 (size_le gr1)) (fun v w' ⟨_, _, h⟩ => DD.keep trivial) ?_
              rintro _ w3 ⟨rfl, hB1, hg1⟩
              obtain ⟨g_t48, hl1⟩ : ∃ g, g = w1.heap.size := ⟨_, rfl⟩
              rw [← hl1] at hB1
              rw [← hl1]
              have hO1 : Own vs w3 w.heap.size 9 (some ⟨g_t48, 0, none⟩) (((out.length : Int) + (1 : Int)).toNat) ([] : List (List UInt8)) := hB1.base (fun g hg => by cases hg; exact Nat.le_trans (size_le gr1) (Nat.le_of_eq hl1.symm))
              have gr3 := gr_trans gr1 hg1
              have k3 := k1.grown hg1
              refine WJ.y rfl rfl (fun w' hw' => Yld.pure tab_ok rfl) ?_
              refine WJ.y rfl rfl (fun w' hw' => Yld.pure tab_ok rfl) ?_
              obtain ⟨h9, H⟩ := H
              refine WJ.y rfl rfl (fun w' hw' => Yld.ocutY tab_ok k3.rd rfl rfl rfl rfl rfl h9.1 h9.2) ?_
              obtain ⟨h10, H⟩ := H
              refine WJ.putw rfl (wants_none) rfl (Eff.append tab_ok rfl One.s hO1 rfl rfl (k3.rd.take k.toNat) rfl rfl h10 (applen h10) (size_le gr3)) (fun v w' ⟨_, _, _, _, h, _⟩ => DD.keep trivial) ?_
              rintro _ w4 ⟨A_next, c_next, rfl, hO2, hg2, hk1⟩
              have gr4 := gr_mod gr3 hg2 hO1.ge'
              have k4 := k3.go hg2 (Dj.new k1.lt' (Ge.box (Nat.le_of_eq hl1.symm)))
              refine WJ.y rfl rfl (fun w' hw' => Yld.pure tab_ok rfl) ?_
              refine WJ.nil (WX.then_normal ?_)
              refine WC.seq ?_
              refine WC.region ?_
              refine WL.y rfl (Yld.pure tab_ok rfl) ?_
              refine WL.y rfl (Yld.pure tab_ok rfl) ?_
              refine WL.y rfl (Yld.pure tab_ok rfl) ?_
              obtain ⟨h11, H⟩ := H
              refine WL.y rfl (Yld.iaddrW tab_ok (hl.grown gr4) rfl rfl rfl rfl h11.1 h11.2) ?_
              refine WL.y rfl (Yld.iload [] tab_ok (hl.grown gr4) rfl rfl (iltN h11 rfl)) ?_
              refine WL.lit tab_ok rfl rfl rfl (all1c rfl all1n) rfl (by omega) (fun g1 w5 hB2 hg3 hl2 => ?_)
              have hO3 : Own vs w5 w.heap.size 9 (some ⟨g1, 0, none⟩) 1 ([l.getD i.toNat []] : List (List UInt8)) := Own.ofBl hB2 (Nat.le_trans (size_le gr4) hl2) (by simp [maxLen]) rfl
              have gr5 := gr_trans gr4 hg3
              have k5 := k4.grown hg3
              have k6 := hO2.grown hg3
              obtain ⟨h12, H⟩ := H
              refine WL.append tab_ok rfl rfl One.s k6 rfl rfl hO3.rd rfl rfl h12 (applen h12) (size_le gr5) (fun A_next2 c_next2 w6 hO4 hg4 hk2 => ?_)
              have gr6 := gr_mod gr5 hg4 k6.ge'
              have k7 := k5.go hg4 ((Dj.app (Dj.new k1.lt' (Ge.box (Nat.le_of_eq hl1.symm))).symm k3.lt' hk1).symm)
              refine WL.y rfl (Yld.pure tab_ok rfl) ?_
              refine WL.nil (WX.then_normal ?_)
              refine WC.region ?_
              refine WL.y rfl (Yld.pure tab_ok rfl) ?_
              refine WL.y rfl (Yld.pure tab_ok rfl) ?_
              refine WL.y rfl (Yld.pure tab_ok rfl) ?_
              obtain ⟨h13, H⟩ := H
              refine WL.cutF tab_ok k7.rd rfl rfl rfl rfl rfl h13.1 h13.2.1 (fun A_t63 c_t63 hR1 hb1 => ?_)
              obtain ⟨h14, H⟩ := H
              refine WL.append tab_ok rfl rfl One.s hO4 rfl rfl hR1 rfl rfl h14 (applen h14) (size_le gr6) (fun A_out3 c_out3 w7 hO5 hg5 hk3 => ?_)
              have gr7 := gr_mod gr6 hg5 hO4.ge'
              refine WL.y rfl (Yld.pure tab_ok rfl) ?_
              refine WL.nil (WX.block_normal ?_)
              exact WX.weaken (by repeat (first | exact Sub.nil | refine Sub.cons rfl ?_)) (hQ _ _ ⟨((([] : List (List UInt8)) ++ (out.take k.toNat)) ++ ([l.getD i.toNat []] : List (List UInt8))) ++ (out.drop k.toNat), A_out3, c_out3, (((([] : List (List UInt8)) ++ (out.take k.toNat)) ++ ([l.getD i.toNat []] : List (List UInt8))) ++ (out.drop k.toNat)).length, rfl, H, rfl, gr7, hO5⟩)
          · clear H
            rcases Bool.eq_false_or_eq_true (decide (k < (out.length : Int))) with b4 | b4
            · refine WQ.gyes rfl rfl (okb b4) rfl (Yld.pure tab_ok rfl) ?_
              refine WQ.gyes rfl rfl (okb b4) rfl (Yld.pure tab_ok rfl) ?_
              refine WQ.gyes rfl rfl (okb b4) rfl (Yld.iaddrW tab_ok k1.rd rfl rfl rfl rfl (h5 b4).1 (h5 b4).2) ?_
              refine WQ.gyes rfl rfl (okb b4) rfl (Yld.iload [] tab_ok k1.rd rfl rfl (iltN (h5 b4) rfl)) ?_
              refine WQ.gyes rfl rfl (okb b4) rfl (Yld.pure tab_ok rfl) ?_
              refine WQ.gyes rfl rfl (okb b4) rfl (Yld.pure tab_ok rfl) ?_
              refine WQ.gyes rfl rfl (okb b4) rfl (Yld.iaddrW tab_ok (hl.grown gr1) rfl rfl rfl rfl (h6 b4).1 (h6 b4).2) ?_
              refine WQ.gyes rfl rfl (okb b4) rfl (Yld.iload [] tab_ok (hl.grown gr1) rfl rfl (iltN (h6 b4) rfl)) ?_
              refine WQ.gyes rfl rfl (okb b4) rfl (Yld.pure tab_ok rfl) ?_
              refine WQ.y rfl (Yld.pickT (okb b4) rfl) ?_
              exact WQ.weaken (by repeat (first | exact Sub.nil | refine Sub.cons rfl ?_)) (hQ _ _ ⟨decide ((out.getD k.toNat []) = (l.getD i.toNat [])), rfl, by rw [b4] <;> rfl, rfl⟩)
            · refine WQ.gno rfl rfl (okb b4) rfl ?_
              refine WQ.gno rfl rfl (okb b4) rfl ?_
              refine WQ.gno rfl rfl (okb b4) rfl ?_
              refine WQ.gno rfl rfl (okb b4) rfl ?_
              refine WQ.gno rfl rfl (okb b4) rfl ?_
              refine WQ.gno rfl rfl (okb b4) rfl ?_
              refine WQ.gno rfl rfl (okb b4) rfl ?_
              refine WQ.gno rfl rfl (okb b4) rfl ?_
              refine WQ.gno rfl rfl (okb b4) rfl ?_
              refine WQ.y rfl (Yld.pickF (okb b4) rfl) ?_
              exact WQ.weaken (by repeat (first | exact Sub.nil | refine Sub.cons rfl ?_)) (hQ _ _ ⟨false, rfl, by rw [b4] <;> rfl, rfl⟩)
      · clear H
        rcases Bool.eq_false_or_eq_true (decide (k < (out.length : Int))) with b5 | b5
        · refine WQ.gyes rfl rfl (okb b5) rfl (Yld.pure tab_ok rfl) ?_
          refine WQ.gyes rfl rfl (okb b5) rfl (Yld.pure tab_ok rfl) ?_
          refine WQ.gyes rfl rfl (okb b5) rfl (Yld.iaddrW tab_ok k1.rd rfl rfl rfl rfl (h2 b5).1 (h2 b5).2) ?_
          refine WQ.gyes rfl rfl (okb b5) rfl (Yld.iload [] tab_ok k1.rd rfl rfl (iltN (h2 b5) rfl)) ?_
          refine WQ.gyes rfl rfl (okb b5) rfl (Yld.pure tab_ok rfl) ?_
          refine WQ.gyes rfl rfl (okb b5) rfl (Yld.pure tab_ok rfl) ?_
          refine WQ.gyes rfl rfl (okb b5) rfl (Yld.iaddrW tab_ok (hl.grown gr1) rfl rfl rfl rfl (h3 b5).1 (h3 b5).2) ?_
          refine WQ.gyes rfl rfl (okb b5) rfl (Yld.iload [] tab_ok (hl.grown gr1) rfl rfl (iltN (h3 b5) rfl)) ?_
          refine WQ.gyes rfl rfl (okb b5) rfl (Yld.pure tab_ok rfl) ?_
          refine WQ.y rfl (Yld.pickT (okb b5) rfl) ?_
          exact WQ.weaken (by repeat (first | exact Sub.nil | refine Sub.cons rfl ?_)) (hQ _ _ ⟨Op.bytesLess (out.getD k.toNat []) (l.getD i.toNat []), rfl, by rw [b5] <;> rfl, rfl⟩)
        · refine WQ.gno rfl rfl (okb b5) rfl ?_
          refine WQ.gno rfl rfl (okb b5) rfl ?_
          refine WQ.gno rfl rfl (okb b5) rfl ?_
          refine WQ.gno rfl rfl (okb b5) rfl ?_
          refine WQ.gno rfl rfl (okb b5) rfl ?_
          refine WQ.gno rfl rfl (okb b5) rfl ?_
          refine WQ.gno rfl rfl (okb b5) rfl ?_
          refine WQ.gno rfl rfl (okb b5) rfl ?_
          refine WQ.gno rfl rfl (okb b5) rfl ?_
          refine WQ.y rfl (Yld.pickF (okb b5) rfl) ?_
          exact WQ.weaken (by repeat (first | exact Sub.nil | refine Sub.cons rfl ?_)) (hQ _ _ ⟨false, rfl, by rw [b5] <;> rfl, rfl⟩)
  · replace H := H.2 (of_decide_eq_false b1)
    refine WC.exit (WX.then_exit (WX.then_exit (WX.block_same (WX.then_normal ?_))))
    refine WC.seq ?_
    refine WC.region ?_
    refine WL.y rfl (Yld.pure tab_ok rfl) ?_
    refine WL.y rfl (Yld.pure tab_ok rfl) ?_
    refine WL.nil (WX.then_normal ?_)
    refine WC.ret ?_
    exact WX.ret1 rfl rfl ⟨gr1, out, A_out, c_out, rfl, k1, H⟩

set_option maxHeartbeats 8000000 in
theorem W_smithyworld_Texts {w : World} {l : List (List UInt8)} {A_l : Option Addr} {c_l : Nat} {most : Int} {long : Int} {n_l : Nat} {K : Bool → Prop} (hl : Rd vs w A_l c_l l) (hn_l : n_l = l.length) (H : M_smithyworld_Texts l most long K) : Fn Tryd.prog 44 ⟨[.slice A_l n_l c_l, .int .i64 most, .int .i64 long]⟩ w (fun v w' => w = w' ∧ ∃ (r : Bool), v = .bool r ∧ K r) := by
  subst hn_l
  unfold M_smithyworld_Texts at H
  refine Fn.enter (by kernel_rfl) Tryd.func44 rfl Tryd.ntmps44 rfl ?_
  replace H := H (Nat.le_trans hl.cap hl.max)
  refine WC.seq ?_
  refine WC.region ?_
  refine WL.y rfl (Yld.pure tab_ok rfl) ?_
  refine WL.nil (WX.then_normal ?_)
  refine WC.seq ?_
  refine WC.seq ?_
  refine WC.region ?_
  refine WL.y rfl (Yld.pure tab_ok rfl) ?_
  refine WL.y rfl (Yld.pure tab_ok rfl) ?_
  refine WL.y rfl (Yld.pure tab_ok rfl) ?_
  refine WL.y rfl (Yld.pure tab_ok rfl) ?_
  refine WL.nil (WX.then_normal ?_)
  refine WC.cond rfl (fun b1 => ?_) (fun b1 => ?_)
  · replace H := H.1 (of_decide_eq_true b1)
    refine WC.seq ?_
    refine WC.region ?_
    refine WL.y rfl (Yld.pure tab_ok rfl) ?_
    refine WL.nil (WX.then_normal ?_)
    refine WC.ret (WX.then_ret ?_)
    exact WX.ret1 rfl rfl ⟨rfl, false, rfl, H⟩
  · replace H := H.2 (of_decide_eq_false b1)
    refine WC.skip (WX.then_normal ?_)
    refine WC.seq ?_
    refine WC.seq ?_
    refine WC.region ?_
    refine WL.y rfl (Yld.pure tab_ok rfl) ?_
    refine WL.nil (WX.then_normal ?_)
    refine WC.block ?_
    obtain ⟨I1, mu1, h0_1, HR1⟩ := H
    refine WC.loopF (fun n' L' w' => ∃ (i : Int), n' = mu1 i ∧ L' = [(0, .slice A_l l.length c_l), (2, .int .i64 long), (7, .int .i64 i)] ∧ I1 i ∧ w = w') _ _ ⟨(0 : Int), rfl, rfl, h0_1, rfl⟩ (by repeat (first | exact Sub.nil | refine Sub.cons rfl ?_)) ?_
    clear h0_1
    rintro _ _ _ ⟨i, rfl, rfl, hI1, rfl⟩
    have H := HR1 i hI1
    refine WC.seq ?_
    refine WC.seq ?_
    refine WC.region ?_
    refine WL.y rfl (Yld.pure tab_ok rfl) ?_
    refine WL.y rfl (Yld.pure tab_ok rfl) ?_
    refine WL.y rfl (Yld.pure tab_ok rfl) ?_
    refine WL.y rfl (Yld.pure tab_ok rfl) ?_
    refine WL.nil (WX.then_normal ?_)
    refine WC.cond rfl (fun b2 => ?_) (fun b2 => ?_)
    · replace H := H.1 (of_decide_eq_true b2)
      refine WC.skip (WX.then_normal ?_)
      refine WC.seq ?_
      refine WC.block ?_
      refine WC.seq ?_
      refine WC.region ?_
      refine WL.y rfl (Yld.pure tab_ok rfl) ?_
      refine WL.y rfl (Yld.pure tab_ok rfl) ?_
      obtain ⟨h1, H⟩ := H
      refine WL.y rfl (Yld.iaddrW tab_ok hl rfl rfl rfl rfl h1.1 h1.2) ?_
      refine WL.y rfl (Yld.iload [] tab_ok hl rfl rfl (iltN h1 rfl)) ?_
      refine WL.y rfl (Yld.pure tab_ok rfl) ?_
      refine WL.y rfl (Yld.pure tab_ok rfl) ?_
      refine WL.y rfl (Yld.pure tab_ok rfl) ?_
      refine WL.nil (WX.then_normal ?_)
      refine WC.cond rfl (fun b3 => ?_) (fun b3 => ?_)
      · replace H := H.1 (of_decide_eq_true b3)
        refine WC.seq ?_
        refine WC.region ?_
        refine WL.y rfl (Yld.pure tab_ok rfl) ?_
        refine WL.nil (WX.then_normal ?_)
        refine WC.ret (WX.block_ret (WX.then_ret (WX.then_ret (WX.block_ret (WX.then_ret ?_)))))
        exact WX.ret1 rfl rfl ⟨rfl, false, rfl, H⟩
      · replace H := H.2 (of_decide_eq_false b3)
        refine WC.skip (WX.block_normal (WX.then_normal ?_))
        refine WC.region ?_
        refine WL.y rfl (Yld.pure tab_ok rfl) ?_
        obtain ⟨h2, H⟩ := H
        refine WL.y rfl (Yld.add rfl rfl h2) ?_
        refine WL.y rfl (Yld.pure tab_ok rfl) ?_
        refine WL.nil ?_
        exact WX.roundF _ ⟨i + (1 : Int), rfl, rfl, H.1, rfl⟩ (by repeat (first | exact Sub.nil | refine Sub.cons rfl ?_)) H.2
    · replace H := H.2 (of_decide_eq_false b2)
      refine WC.exit (WX.then_exit (WX.then_exit (WX.block_same (WX.then_normal ?_))))
      refine WC.seq ?_
      refine WC.region ?_
      refine WL.y rfl (Yld.pure tab_ok rfl) ?_
      refine WL.nil (WX.then_normal ?_)
      refine WC.ret ?_
      exact WX.ret1 rfl rfl ⟨rfl, true, rfl, H⟩

set_option maxHeartbeats 8000000 in
theorem W_smithylaw23_first {S : List Nat} {w : World} {K : Bool → Prop} (hG : GOK S w) (hS10 : 10 ∈ S) (hS16 : 16 ∈ S) (hS100 : 100 ∈ S) (H : M_smithylaw23_first  K) : Fn Tryd.prog 43 ⟨[]⟩ w (fun v w' => w.grownBy w' none ∧ ∃ (r : Bool), v = .bool r ∧ K r) := by
  unfold M_smithylaw23_first at H
  refine Fn.enter (by kernel_rfl) Tryd.func43 rfl Tryd.ntmps43 rfl ?_
  refine WC.seq ?_
  refine WC.region ?_
  refine WL.y rfl (Yld.pure tab_ok rfl) ?_
  refine WL.nil (WX.then_normal ?_)
  refine WC.seq ?_
  refine WC.region ?_
  refine WL.lit tab_ok rfl rfl rfl (all1c rfl all1n) rfl (by omega) (fun g1 w1 hB1 hg1 hl1 => ?_)
  have hO1 : Own vs w1 w.heap.size 9 (some ⟨g1, 0, none⟩) 1 ([([98, 10, 97, 10] : List UInt8)] : List (List UInt8)) := Own.ofBl hB1 (Nat.le_trans (Nat.le_refl _) hl1) (by simp [maxLen]) rfl
  have gr1 := hg1
  refine WL.call rfl rfl (W_tool_Do (hG.grown gr1) hS10 hS16 hS100 (Own.nil vs w1 w.heap.size 9).rd rfl hO1.rd rfl H) ?_
  rintro _ w2 ⟨hg2, t70, v_t71, t71, rfl, ht71, H⟩
  have gr2 := gr_trans gr1 hg2
  refine WL.y rfl (Yld.pure tab_ok rfl) ?_
  refine WL.y rfl (Yld.pure tab_ok rfl) ?_
  refine WL.y rfl (Yld.pure tab_ok rfl) ?_
  refine WL.y rfl (Yld.pure tab_ok rfl) ?_
  refine WL.y rfl (Yld.pure tab_ok rfl) ?_
  refine WL.nil (WX.then_normal ?_)
  refine WC.seq ?_
  refine WC.region ?_
  refine WL.lit tab_ok rfl rfl rfl (all1c rfl (all1c rfl all1n)) rfl (by omega) (fun g2 w3 hB2 hg3 hl2 => ?_)
  have hO2 : Own vs w3 w.heap.size 9 (some ⟨g2, 0, none⟩) 2 ([([97] : List UInt8), ([98] : List UInt8)] : List (List UInt8)) := Own.ofBl hB2 (Nat.le_trans (size_le gr2) hl2) (by simp [maxLen]) rfl
  have gr3 := gr_trans gr2 hg3
  have k1 := ht71.grown hg3
  refine WL.lit tab_ok rfl rfl rfl (all1c rfl all1n) rfl (by omega) (fun g3 w4 hB3 hg4 hl3 => ?_)
  have hO3 : Own vs w4 w.heap.size 9 (some ⟨g3, 0, none⟩) 1 ([([97, 97] : List UInt8)] : List (List UInt8)) := Own.ofBl hB3 (Nat.le_trans (size_le gr3) hl3) (by simp [maxLen]) rfl
  have gr4 := gr_trans gr3 hg4
  have k2 := k1.grown hg4
  have k3 := hO2.grown hg4
  refine WL.call rfl rfl (W_tool_Do (hG.grown gr4) hS10 hS16 hS100 k3.rd rfl hO3.rd rfl H) ?_
  rintro _ w5 ⟨hg5, t130, v_t131, t131, rfl, ht131, H⟩
  have gr5 := gr_trans gr4 hg5
  have k4 := k2.grown hg5
  refine WL.y rfl (Yld.pure tab_ok rfl) ?_
  refine WL.y rfl (Yld.pure tab_ok rfl) ?_
  refine WL.y rfl (Yld.pure tab_ok rfl) ?_
  refine WL.y rfl (Yld.pure tab_ok rfl) ?_
  refine WL.y rfl (Yld.pure tab_ok rfl) ?_
  refine WL.nil (WX.then_normal ?_)
  refine WC.seq ?_
  refine WC.region ?_
  refine WL.y rfl (Yld.pure tab_ok rfl) ?_
  refine WL.y rfl (Yld.erreql Tryd.underlying28 k4 rfl) ?_
  refine WL.y rfl (Yld.pure tab_ok rfl) ?_
  refine WL.midF 3 (fun L' w' => ∃ q1 : Bool, L' = [(21, .bool q1), (1, vs t70), (3, vs t130)] ∧ q1 = ((decide (t71 = Er.ok)) && (decide (t131 = Er.ok))) ∧ w5 = w') ?_ (fun hQ => ?_)
  · rintro _ _ ⟨q1, rfl, rfl, rfl⟩
    refine WL.y rfl (Yld.pure tab_ok rfl) ?_
    refine WL.midF 3 (fun L' w' => ∃ q2 : Bool, L' = [(25, .bool q2), (3, vs t130)] ∧ q2 = (((decide (t71 = Er.ok)) && (decide (t131 = Er.ok))) && (decide (t70 = ([97, 10, 98, 10] : List UInt8)))) ∧ w5 = w') ?_ (fun hQ => ?_)
    · rintro _ _ ⟨q2, rfl, rfl, rfl⟩
      refine WL.y rfl (Yld.pure tab_ok rfl) ?_
      refine WL.midF 3 (fun L' w' => ∃ q3 : Bool, L' = [(29, .bool q3)] ∧ q3 = ((((decide (t71 = Er.ok)) && (decide (t131 = Er.ok))) && (decide (t70 = ([97, 10, 98, 10] : List UInt8)))) && (decide (t130 = ([98, 98] : List UInt8)))) ∧ w5 = w') ?_ (fun hQ => ?_)
      · rintro _ _ ⟨q3, rfl, rfl, rfl⟩
        refine WL.y rfl (Yld.pure tab_ok rfl) ?_
        refine WL.nil (WX.then_normal ?_)
        refine WC.ret ?_
        exact WX.ret1 rfl rfl ⟨gr5, (((decide (t71 = Er.ok)) && (decide (t131 = Er.ok))) && (decide (t70 = ([97, 10, 98, 10] : List UInt8)))) && (decide (t130 = ([98, 98] : List UInt8))), rfl, H⟩
      · clear H
        rcases Bool.eq_false_or_eq_true (((decide (t71 = Er.ok)) && (decide (t131 = Er.ok))) && (decide (t70 = ([97, 10, 98, 10] : List UInt8)))) with b1 | b1
        · refine WL.gyes rfl rfl (okb b1) rfl (Yld.pure tab_ok rfl) ?_
          refine WL.gyes rfl rfl (okb b1) rfl (Yld.pure tab_ok rfl) ?_
          refine WL.y rfl (Yld.pickT (okb b1) rfl) ?_
          exact WL.weaken (by repeat (first | exact Sub.nil | refine Sub.cons rfl ?_)) (hQ _ _ ⟨decide (t130 = ([98, 98] : List UInt8)), rfl, by rw [b1] <;> rfl, rfl⟩)
        · refine WL.gno rfl rfl (okb b1) rfl ?_
          refine WL.gno rfl rfl (okb b1) rfl ?_
          refine WL.y rfl (Yld.pickF (okb b1) rfl) ?_
          exact WL.weaken (by repeat (first | exact Sub.nil | refine Sub.cons rfl ?_)) (hQ _ _ ⟨false, rfl, by rw [b1] <;> rfl, rfl⟩)
    · clear H
      rcases Bool.eq_false_or_eq_true ((decide (t71 = Er.ok)) && (decide (t131 = Er.ok))) with b2 | b2
      · refine WL.gyes rfl rfl (okb b2) rfl (Yld.pure tab_ok rfl) ?_
        refine WL.gyes rfl rfl (okb b2) rfl (Yld.pure tab_ok rfl) ?_
        refine WL.y rfl (Yld.pickT (okb b2) rfl) ?_
        exact WL.weaken (by repeat (first | exact Sub.nil | refine Sub.cons rfl ?_)) (hQ _ _ ⟨decide (t70 = ([97, 10, 98, 10] : List UInt8)), rfl, by rw [b2] <;> rfl, rfl⟩)
      · refine WL.gno rfl rfl (okb b2) rfl ?_
        refine WL.gno rfl rfl (okb b2) rfl ?_
        refine WL.y rfl (Yld.pickF (okb b2) rfl) ?_
        exact WL.weaken (by repeat (first | exact Sub.nil | refine Sub.cons rfl ?_)) (hQ _ _ ⟨false, rfl, by rw [b2] <;> rfl, rfl⟩)
  · clear H
    rcases Bool.eq_false_or_eq_true (decide (t71 = Er.ok)) with b3 | b3
    · refine WL.gyes rfl rfl (okb b3) rfl (Yld.pure tab_ok rfl) ?_
      refine WL.gyes rfl rfl (okb b3) rfl (Yld.erreql Tryd.underlying28 ht131 rfl) ?_
      refine WL.y rfl (Yld.pickT (okb b3) rfl) ?_
      exact WL.weaken (by repeat (first | exact Sub.nil | refine Sub.cons rfl ?_)) (hQ _ _ ⟨decide (t131 = Er.ok), rfl, by rw [b3] <;> rfl, rfl⟩)
    · refine WL.gno rfl rfl (okb b3) rfl ?_
      refine WL.gno rfl rfl (okb b3) rfl ?_
      refine WL.y rfl (Yld.pickF (okb b3) rfl) ?_
      exact WL.weaken (by repeat (first | exact Sub.nil | refine Sub.cons rfl ?_)) (hQ _ _ ⟨false, rfl, by rw [b3] <;> rfl, rfl⟩)

end Go.Proofs.YtilphcippnfklaaDoor
 /- Regions some of whose operations may come in several orders: the floats once, the others order by order, what stands behind once. -/
namespace Go.Proofs.YtilphcippnfklaaDoor
open Go Go.RowKit
section
variable {P : Program} {N : Nat} {ops : Array Oper} {fl : Nat → Bool} {D : World → Prop} {n g : Nat} {K : Act → World → Prop} {Q : Post} {L : Slots} {w : World} {f : Nat} {listed : Array Bool} {d : Nat} {op : Op} {ty : TypeId} {pos : String} {af : Array Edge} {gd : Option (Nat × Bool)}
structure HeadOk (ops : Array Oper) (n : Nat) : Prop where
  sel : Region.noSelect ops = true
  sink : Region.sinkB .any ops n = true
  chain : Region.chainB .any ops n = true
  lt : n < ops.size
def WA (P : Program) (N : Nat) (ops : Array Oper) (fl : Nat → Bool) (D : World → Prop) (n g : Nat) (K : Act → World → Prop) (f : Nat) (listed : Array Bool) (L : Slots) (w : World) : Prop :=
  HeadOk ops n → HeadInv .any ops n listed → ∀ a w1, Eqv w w1 → D w1 → Has N L a → anyT P .any ops fl D n (fun l' a' w' => Region.seqB .any ops g n l' = true ∧ K a' w') f listed a w1
def WI (P : Program) (N : Nat) (ops : Array Oper) (fl : Nat → Bool) (D : World → Prop) (n g : Nat) (K : Act → World → Prop) (f : Nat) (listed : Array Bool) (L : Slots) (w : World) (i : Nat) : Prop :=
  HeadOk ops n → HeadInv .any ops n (listed.setIfInBounds i true) → ∀ a w1, Eqv w w1 → D w1 → Has N L a → ∃ o, ops[i]? = some o ∧ fl i = false ∧ sRun P ops D o a w1 fun a' w' => anyT P .any ops fl D n (fun l' a' w' => Region.seqB .any ops g n l' = true ∧ K a' w') f (listed.setIfInBounds i true) a' w'
theorem WC.ordersK {i : Nat} {l : List Oper} (n : Nat) (fl : Nat → Bool) (D : World → Prop) (K : Act → World → Prop) (hm : P.follows .mixedOrders = true) (hB : (Region.noSelect l.toArray && (Region.sinkB .any l.toArray n && (Region.chainB .any l.toArray n && Nat.blt n l.length))) = true) (hE : ∀ w', Eqv w w' → D w')
    (h : WA P N l.toArray fl D n (l.length - n) K n (Array.replicate l.length false) L w)
    (ht : ∀ a w', K a w' → wpList P l.toArray Q (l.drop n) a w') : WC P N Q (.region i l.toArray true) L w := fun a wx e ha => by
  simp only [Bool.and_eq_true] at hB
  obtain ⟨hsel, hs, hc, hlt⟩ := hB
  have hn' : n < l.length := by simpa [Nat.blt_eq] using hlt
  refine wp_region_any hm ?_
  have inv0 : HeadInv .any l.toArray n (Array.replicate l.length false) :=
    ⟨by simp, fun j oj _ hl => (by rw [getD_replicate_false] at hl; cases hl), fun t _ ht => getD_in (by simpa using ht) (getD_replicate_false _ _)⟩
  have H := h ⟨hsel, hs, hc, by simpa using hn'⟩ inv0 a { wx with drawn := wx.drawn + 1 } (e.drawn _) (hE _ (e.drawn _)) ha
  have h2 := any_of_anyT (Q' := Q) (g := l.length - n) (fun listed a' w' _ hL => by
    obtain ⟨hq, hK⟩ := hL
    have := wpAny_of_seq (md := .any) (Q' := Q) (l.drop n) n listed a' w' (fun j => by simp [List.getElem?_drop]) (by rw [List.length_drop]; exact hq) (ht a' w' hK)
    rwa [List.length_drop] at this) _ _ _ _ (hE { wx with drawn := wx.drawn + 1 } (e.drawn _)) H
  rw [show n + (l.length - n) = l.length by omega] at h2
  simpa using h2
def Ends4 {S1 S2 S3 S4 : Type} (N : Nat) (Ls : S1 → S2 → S3 → S4 → Slots) (I : S1 → S2 → S3 → S4 → World → Prop) (a : Act) (w : World) : Prop := ∃ p q r s w0, I p q r s w0 ∧ Eqv w0 w ∧ Has N (Ls p q r s) a
theorem WC.orders4 {S1 S2 S3 S4 : Type} {i : Nat} {l : List Oper} (n : Nat) (fl : Nat → Bool) (D : World → Prop) (Ls : S1 → S2 → S3 → S4 → Slots) (I : S1 → S2 → S3 → S4 → World → Prop) (hm : P.follows .mixedOrders = true) (hB : (Region.noSelect l.toArray && (Region.sinkB .any l.toArray n && (Region.chainB .any l.toArray n && Nat.blt n l.length))) = true) (hE : ∀ w', Eqv w w' → D w')
    (h : WA P N l.toArray fl D n (l.length - n) (Ends4 N Ls I) n (Array.replicate l.length false) L w)
    (ht : ∀ p q r s w0, I p q r s w0 → WL P N l.toArray Q (l.drop n) (Ls p q r s) w0) : WC P N Q (.region i l.toArray true) L w :=
  WC.ordersK n fl D _ hm hB hE h fun a w' ⟨p, q, r, s, w0, hI, he, hh⟩ => ht p q r s w0 hI a w' he hh
theorem WA.done4 {S1 S2 S3 S4 : Type} {Ls : S1 → S2 → S3 → S4 → Slots} {I : S1 → S2 → S3 → S4 → World → Prop} (p : S1) (q : S2) (r : S3) (s : S4) (hq : Region.seqB .any ops g n listed = true) (hI : I p q r s w) (hs : Sub L (Ls p q r s)) : WA P N ops fl D n g (Ends4 N Ls I) 0 listed L w := fun _ _ _ _ e _ ha => ⟨hq, p, q, r, s, w, hI, e, ha.sub hs⟩
def EndsF (N : Nat) (F : Slots → World → Prop) (a : Act) (w : World) : Prop := ∃ L w0, F L w0 ∧ Eqv w0 w ∧ Has N L a
theorem WC.ordersF {i : Nat} {l : List Oper} (n : Nat) (fl : Nat → Bool) (D : World → Prop) (F : Slots → World → Prop) (hm : P.follows .mixedOrders = true) (hB : (Region.noSelect l.toArray && (Region.sinkB .any l.toArray n && (Region.chainB .any l.toArray n && Nat.blt n l.length))) = true) (hE : ∀ w', Eqv w w' → D w')
    (ht : ∀ L' w', F L' w' → WL P N l.toArray Q (l.drop n) L' w')
    (h : WA P N l.toArray fl D n (l.length - n) (EndsF N F) n (Array.replicate l.length false) L w) : WC P N Q (.region i l.toArray true) L w :=
  WC.ordersK n fl D _ hm hB hE h fun a w' ⟨L', w0, hI, he, hh⟩ => ht L' w0 hI a w' he hh
theorem WA.doneF {F : Slots → World → Prop} (L' : Slots) (hq : Region.seqB .any ops g n listed = true) (hI : F L' w) (hs : Sub L L') : WA P N ops fl D n g (EndsF N F) 0 listed L w := fun _ _ _ _ e _ ha => ⟨hq, L', w, hI, e, ha.sub hs⟩
theorem WA.y {v : Value} (k : Nat) (ho : ops[k]? = some ⟨some d, op, ty, pos, af, none⟩) (hf : (fl k && ((Region.ready .any ops listed).contains k && (Region.free .any ops listed k && Nat.blt k n))) = true) (hd : Nat.blt d N = true) (hy : ∀ w', D w' → Yld P N w' ⟨some d, op, ty, pos, af, none⟩ L v)
    (h : WA P N ops fl D n g K f (listed.setIfInBounds k true) ((d, v) :: L) w) : WA P N ops fl D n g K (f + 1) listed L w := fun ok inv a w1 e hw ha => by
  simp only [Bool.and_eq_true] at hf
  obtain ⟨hfl, hr, hfr, hkn⟩ := hf
  have hr' : k ∈ Region.ready .any ops listed := by simpa using hr
  have hkn' : k < n := by simpa [Nat.blt_eq] using hkn
  exact float_firstT ho hfl (Region.noSelect_spec ok.sel) ok.sink ok.chain ok.lt hkn' (fun _ _ _ hL => seqB_ready hL.1) f listed a w1 hw inv (Region.free_spec ho hfr) hr'
    (.inl ⟨by simp [Region.wanted], fun w' hw' => hy w' hw' a w' (Eqv.refl _) ha⟩) (h ok (inv.set hr' hkn') _ _ e hw (ha.put hd v))
def AllL {α : Type} (p : α → Prop) : List α → Prop
  | [] => True
  | [x] => p x
  | x :: y :: l => p x ∧ AllL p (y :: l)
theorem AllL.mem {α : Type} {p : α → Prop} : ∀ {l : List α}, AllL p l → ∀ x ∈ l, p x
  | [], _, x, h => by simp at h
  | [y], h, x, hx => by simp at hx; subst hx; exact h
  | y :: z :: l, h, x, hx => by
    rcases List.mem_cons.1 hx with rfl | hx
    · exact h.1
    · exact AllL.mem h.2 x hx
theorem WA.split (is : List Nat) (hr : Region.ready .any ops listed = is) (hc : (!is.isEmpty && is.all fun i => Nat.blt i n) = true) (h : AllL (WI P N ops fl D n g K f listed L w) is) : WA P N ops fl D n g K (f + 1) listed L w := fun ok inv a w1 e hw ha => by
  simp only [Bool.and_eq_true] at hc
  refine ⟨fun h0 => ?_, fun i hi => ?_⟩
  · rw [hr] at h0; subst h0; simp at hc
  · have hi' := hi
    rw [hr] at hi'
    have hin : i < n := by have := List.all_eq_true.1 hc.2 i hi'; simpa [Nat.blt_eq] using this
    obtain ⟨o, ho, hfl, hs⟩ := h.mem i hi' ok (inv.set hi hin) a w1 e hw ha
    exact ⟨hin, o, ho, .inr ⟨hfl, hs⟩⟩
theorem WI.put {i : Nat} {R : Value → World → Prop} (ho : ops[i]? = some ⟨some d, op, ty, pos, af, none⟩) (hf : fl i = false) (hd : Nat.blt d N = true) (hr : Eff P N w ⟨some d, op, ty, pos, af, none⟩ L R) (hD : ∀ v w', R v w' → D w')
    (hk : ∀ v w', R v w' → WA P N ops fl D n g K f (listed.setIfInBounds i true) ((d, v) :: L) w') : WI P N ops fl D n g K f listed L w i := fun ok inv a w1 e hw ha => by
  refine ⟨_, ho, hf, ?_⟩
  unfold sRun
  rw [if_pos (by simp [Region.wanted])]
  obtain ⟨v, w', h, hR⟩ := hr a w1 e ha
  rw [h]
  exact ⟨hD v w' hR, hk v w' hR ok inv _ w' (Eqv.refl _) (hD v w' hR) (ha.put hd v)⟩
theorem WI.eff {i : Nat} {R : World → Prop} (ho : ops[i]? = some ⟨none, op, ty, pos, af, none⟩) (hf : fl i = false) (hr : Ef0 P N w ⟨none, op, ty, pos, af, none⟩ L R) (hD : ∀ w', R w' → D w')
    (hk : ∀ w', R w' → WA P N ops fl D n g K f (listed.setIfInBounds i true) L w') : WI P N ops fl D n g K f listed L w i := fun ok inv a w1 e hw ha => by
  refine ⟨_, ho, hf, ?_⟩
  unfold sRun
  rw [if_pos (by simp [Region.wanted])]
  obtain ⟨w', h, hR⟩ := hr a w1 e ha
  rw [h]
  exact ⟨hD w' hR, hk w' hR ok inv _ w' (Eqv.refl _) (hD w' hR) ha⟩
theorem WI.call {i : Nat} {R : Value → World → Prop} {fn : FuncId} {as_ : List Operand} {ts : Array TypeId} {vs : List Value} (ho : ops[i]? = some ⟨some d, .call ⟨.value (.func fn), ⟨as_⟩, ts⟩, ty, pos, af, gd⟩) (hf : fl i = false) (hg : Wants N ops L gd) (hd : Nat.blt d N = true) (hv : opvs L as_ = some vs) (hc : Fn P fn ⟨vs⟩ w R) (hD : ∀ v w', R v w' → ∀ w2, Eqv w' w2 → D w2)
    (hk : ∀ v w', R v w' → WA P N ops fl D n g K f (listed.setIfInBounds i true) ((d, v) :: L) w') : WI P N ops fl D n g K f listed L w i := fun ok inv a w1 e hw ha => by
  refine ⟨_, ho, hf, ?_⟩
  unfold sRun
  rw [if_pos (Wants.wanted (o := ⟨some d, .call ⟨.value (.func fn), ⟨as_⟩, ts⟩, ty, pos, af, gd⟩) hg ha), run_enter ha hv hc.1]
  refine (hc.2 w1 e).mono ?_
  rintro en w' ⟨v, w0, rfl, h0, hR⟩
  exact ⟨v, rfl, hD v w0 hR w' h0, hk v w0 hR ok inv _ w' h0 (hD v w0 hR w' h0) (ha.put hd v)⟩
end
end Go.Proofs.YtilphcippnfklaaDoor
 /- Printed by a program (wip/vg): what the functions mean, plainly, and their walks. -/
namespace Go.Proofs.YtilphcippnfklaaDoor
open Go Go.RowKit
attribute [local irreducible] WL WC WX WQ WK WJ Yld Eff Ef0 Fn
def M_smithylaw23_ToolSorts (inputs : List (List UInt8)) (word : List UInt8) (K : Bool → Prop) : Prop :=
 (inputs.length ≤ maxLen →
 M_smithylaw23_first (fun (ok : Bool) =>
 (((!ok) = true → K false) ∧
 ((!ok) = false → M_smithyworld_Texts inputs (8 : Int) (300 : Int) (fun (t30 : Bool) =>
 (((((!t30) || (decide ((20 : Int) < (word.length : Int)))) || (!ok)) = true → K ok) ∧
 ((((!t30) || (decide ((20 : Int) < (word.length : Int)))) || (!ok)) = false → Lp2 (fun (n : Int) (i : Int) k_1 => ((i < (inputs.length : Int) → (0 ≤ i ∧ i < (inputs.length : Nat)) ∧
 M_tool_Lines (inputs.getD i.toNat []) (fun (t53 : List (List UInt8)) =>
 (In .i64 (n + (t53.length : Int))) ∧
 (In .i64 (i + (1 : Int))) ∧
 k_1 (n + (t53.length : Int)) (i + (1 : Int)))) ∧
 (¬ (i < (inputs.length : Int)) → M_tool_Do (4 : Int) [] inputs (fun (t580 : List UInt8) (t581 : Er) =>
 M_tool_Do (4 : Int) [] ([t580] : List (List UInt8)) (fun (t640 : List UInt8) (t641 : Er) =>
 M_tool_Do (4 : Int) ([([114, 101, 118, 101, 114, 115, 101] : List UInt8)] : List (List UInt8)) inputs (fun (t700 : List UInt8) (t701 : Er) =>
 M_tool_Do (4 : Int) [] ([t700] : List (List UInt8)) (fun (t760 : List UInt8) (t761 : Er) =>
 M_tool_Do (4 : Int) ([([117, 110, 105, 113, 117, 101] : List UInt8)] : List (List UInt8)) inputs (fun (t820 : List UInt8) (t821 : Er) =>
 ∃ J1 : Bool → Prop, ((((((((((!decide (t581 = Er.ok)) || (!decide (t641 = Er.ok))) || (!decide (t701 = Er.ok))) || (!decide (t761 = Er.ok))) || (!decide (t821 = Er.ok))) || (!decide (t580 = t640))) || (!decide (t580 = t760))) = true → J1 true) ∧
 ((((((((!decide (t581 = Er.ok)) || (!decide (t641 = Er.ok))) || (!decide (t701 = Er.ok))) || (!decide (t761 = Er.ok))) || (!decide (t821 = Er.ok))) || (!decide (t580 = t640))) || (!decide (t580 = t760))) = false → M_tool_Lines t580 (fun (t115 : List (List UInt8)) =>
 J1 (!decide ((t115.length : Int) = n)))))) ∧
 (∀ q9 : Bool, J1 q9 → ∃ J2 : Bool → Prop, (((q9 = true → J2 true) ∧
 (q9 = false → M_tool_Lines t820 (fun (t122 : List (List UInt8)) =>
 M_tool_Lines t580 (fun (t125 : List (List UInt8)) =>
 M_smithyref_SortedTexts t125 (fun (t126 : List (List UInt8)) =>
 J2 (!decide ((t122.length : Int) = (t126.length : Int))))))))) ∧
 (∀ q10 : Bool, J2 q10 → ((q10 = true → K false) ∧
 (q10 = false → M_tool_Lines t580 (fun (l : List (List UInt8)) =>
 Lp1 (fun (k : Int) k_2 => ((k < (l.length : Int) → (0 ≤ k ∧ k < (l.length : Nat)) ∧
 (In .i64 (k - (1 : Int))) ∧
 (0 ≤ k - (1 : Int) ∧ k - (1 : Int) < (l.length : Nat)) ∧
 (((Op.bytesLess (l.getD k.toNat []) (l.getD ((k - (1 : Int)).toNat) [])) = true → K false) ∧
 ((Op.bytesLess (l.getD k.toNat []) (l.getD ((k - (1 : Int)).toNat) [])) = false → (In .i64 (k + (1 : Int))) ∧
 k_2 (k + (1 : Int))))) ∧
 (¬ (k < (l.length : Int)) → M_tool_Do (2 : Int) ([word] : List (List UInt8)) inputs (fun (t1520 : List UInt8) (t1521 : Er) =>
 M_tool_Do (2 : Int) ([word, ([110, 111, 116] : List UInt8)] : List (List UInt8)) inputs (fun (t1590 : List UInt8) (t1591 : Er) =>
 M_tool_Do (4 : Int) [] ([t1520, t1590] : List (List UInt8)) (fun (t1660 : List UInt8) (t1661 : Er) =>
 K ((((decide (t1521 = Er.ok)) && (decide (t1591 = Er.ok))) && (decide (t1661 = Er.ok))) && (decide (t1660 = t580))))))))) (1 : Int)))))))))))))) (0 : Int) (0 : Int))))))))

def M_smithylaw23_ToolJoins (inputs : List (List UInt8)) (by_ : List UInt8) (K : Bool → Prop) : Prop :=
 (inputs.length ≤ maxLen →
 M_smithylaw23_first (fun (ok : Bool) =>
 (((!ok) = true → K false) ∧
 ((!ok) = false → M_smithyworld_Texts inputs (8 : Int) (200 : Int) (fun (t26 : Bool) =>
 ((((((!t26) || (decide ((by_.length : Int) = (0 : Int)))) || (decide ((20 : Int) < (by_.length : Int)))) || (!ok)) = true → K ok) ∧
 (((((!t26) || (decide ((by_.length : Int) = (0 : Int)))) || (decide ((20 : Int) < (by_.length : Int)))) || (!ok)) = false → Lp2 (fun (n : Int) (i : Int) k_1 => ((i < (inputs.length : Int) → (0 ≤ i ∧ i < (inputs.length : Nat)) ∧
 (In .i64 (n + ((inputs.getD i.toNat []).length : Int))) ∧
 (In .i64 (i + (1 : Int))) ∧
 k_1 (n + ((inputs.getD i.toNat []).length : Int)) (i + (1 : Int))) ∧
 (¬ (i < (inputs.length : Int)) → M_tool_Do (1 : Int) [] inputs (fun (t580 : List UInt8) (t581 : Er) =>
 M_tool_Do (1 : Int) ([by_] : List (List UInt8)) inputs (fun (t650 : List UInt8) (t651 : Er) =>
 M_tool_Do (3 : Int) ([by_, by_] : List (List UInt8)) ([t650] : List (List UInt8)) (fun (t740 : List UInt8) (t741 : Er) =>
 M_tool_Do (3 : Int) [] inputs (fun (t790 : List UInt8) (t791 : Er) =>
 M_tool_Do (5 : Int) [] inputs (fun (t840 : List UInt8) (t841 : Er) =>
 M_tool_Do (5 : Int) [] ([t580, t580] : List (List UInt8)) (fun (t910 : List UInt8) (t911 : Er) =>
 ((((((((!decide (t581 = Er.ok)) || (!decide (t651 = Er.ok))) || (!decide (t741 = Er.ok))) || (!decide (t791 = Er.ok))) || (!decide (t841 = Er.ok))) || (!decide (t911 = Er.ok))) = true → K false) ∧
 (((((((!decide (t581 = Er.ok)) || (!decide (t651 = Er.ok))) || (!decide (t741 = Er.ok))) || (!decide (t791 = Er.ok))) || (!decide (t841 = Er.ok))) || (!decide (t911 = Er.ok))) = false → (In .i64 ((inputs.length : Int) - (1 : Int))) ∧
 (In .i64 ((if ((inputs.length : Int) - (1 : Int)) < (0 : Int) then (0 : Int) else (inputs.length : Int) - (1 : Int)) * (by_.length : Int))) ∧
 M_tool_Lines t910 (fun (l : List (List UInt8)) =>
 ((decide ((t580.length : Int) = n)) = true → (In .i64 (n + ((if ((inputs.length : Int) - (1 : Int)) < (0 : Int) then (0 : Int) else (inputs.length : Int) - (1 : Int)) * (by_.length : Int))))) ∧
 ∃ J1 : Bool → Prop, (((((((decide ((t580.length : Int) = n)) && (decide ((t650.length : Int) = (n + ((if ((inputs.length : Int) - (1 : Int)) < (0 : Int) then (0 : Int) else (inputs.length : Int) - (1 : Int)) * (by_.length : Int)))))) && (decide (t740 = t650))) && (decide (t790 = t580))) = true → M_tool_Lines t840 (fun (t149 : List (List UInt8)) =>
 J1 (decide ((t149.length : Int) = (inputs.length : Int))))) ∧
 (((((decide ((t580.length : Int) = n)) && (decide ((t650.length : Int) = (n + ((if ((inputs.length : Int) - (1 : Int)) < (0 : Int) then (0 : Int) else (inputs.length : Int) - (1 : Int)) * (by_.length : Int)))))) && (decide (t740 = t650))) && (decide (t790 = t580))) = false → J1 false))) ∧
 (∀ q12 : Bool, J1 q12 → ((q12 && (decide ((l.length : Int) = (2 : Int)))) = true → (0 ≤ (0 : Int) ∧ (0 : Int) < (l.length : Nat))) ∧
 ((q12 && (decide ((l.length : Int) = (2 : Int)))) = true → (0 ≤ (1 : Int) ∧ (1 : Int) < (l.length : Nat))) ∧
 (((q12 && (decide ((l.length : Int) = (2 : Int)))) && (decide ((l.getD 0 []) = (l.getD 1 [])))) = true → (0 ≤ (0 : Int) ∧ (0 : Int) < (l.length : Nat))) ∧
 K (((q12 && (decide ((l.length : Int) = (2 : Int)))) && (decide ((l.getD 0 []) = (l.getD 1 [])))) && (decide (((l.getD 0 []).length : Int) = (64 : Int))))))))))))))))) (0 : Int) (0 : Int))))))))

set_option maxHeartbeats 8000000 in
theorem W_smithylaw23_ToolSorts {S : List Nat} {w : World} {inputs : List (List UInt8)} {A_inputs : Option Addr} {c_inputs : Nat} {word : List UInt8} {n_inputs : Nat} {K : Bool → Prop} (hG : GOK S w) (hS10 : 10 ∈ S) (hS16 : 16 ∈ S) (hS100 : 100 ∈ S) (hinputs : Rd vs w A_inputs c_inputs inputs) (hn_inputs : n_inputs = inputs.length) (H : M_smithylaw23_ToolSorts inputs word K) : Fn Tryd.prog 6 ⟨[.slice A_inputs n_inputs c_inputs, vs word]⟩ w (fun v w' => w.grownBy w' none ∧ ∃ (r : Bool), v = .bool r ∧ K r) := by
  subst hn_inputs
  unfold M_smithylaw23_ToolSorts at H
  refine Fn.enter (by kernel_rfl) Tryd.func6 rfl Tryd.ntmps6 rfl ?_
  replace H := H (Nat.le_trans hinputs.cap hinputs.max)
  refine WC.seq ?_
  refine WC.region ?_
  refine WL.y rfl (Yld.pure tab_ok rfl) ?_
  refine WL.nil (WX.then_normal ?_)
  refine WC.seq ?_
  refine WC.region ?_
  refine WL.call rfl rfl (W_smithylaw23_first hG hS10 hS16 hS100 H) ?_
  rintro _ w1 ⟨hg1, ok, rfl, H⟩
  have gr1 := hg1
  refine WL.y rfl (Yld.pure tab_ok rfl) ?_
  refine WL.nil (WX.then_normal ?_)
  refine WC.seq ?_
  refine WC.seq ?_
  refine WC.region ?_
  refine WL.y rfl (Yld.pure tab_ok rfl) ?_
  refine WL.y rfl (Yld.pure tab_ok rfl) ?_
  refine WL.nil (WX.then_normal ?_)
  refine WC.cond rfl (fun b1 => ?_) (fun b1 => ?_)
  · replace H := H.1 (b1)
    refine WC.seq ?_
    refine WC.region ?_
    refine WL.y rfl (Yld.pure tab_ok rfl) ?_
    refine WL.nil (WX.then_normal ?_)
    refine WC.ret (WX.then_ret ?_)
    exact WX.ret1 rfl rfl ⟨gr1, false, rfl, H⟩
  · replace H := H.2 (b1)
    refine WC.skip (WX.then_normal ?_)
    refine WC.seq ?_
    refine WC.seq ?_
    refine WC.region ?_
    refine WL.y rfl (Yld.pure tab_ok rfl) ?_
    refine WL.call rfl rfl (W_smithyworld_Texts (hinputs.grown gr1) rfl H) ?_
    rintro _ _ ⟨rfl, t30, rfl, H⟩
    refine WL.y rfl (Yld.pure tab_ok rfl) ?_
    refine WL.y rfl (Yld.pure tab_ok rfl) ?_
    refine WL.midF 4 (fun L' w' => ∃ q1 : Bool, L' = [(36, .bool q1), (0, .slice A_inputs inputs.length c_inputs), (1, vs word), (5, .bool ok)] ∧ q1 = ((!t30) || (decide ((20 : Int) < (word.length : Int)))) ∧ w1 = w') ?_ (fun hQ => ?_)
    · rintro _ _ ⟨q1, rfl, rfl, rfl⟩
      refine WL.y rfl (Yld.pure tab_ok rfl) ?_
      refine WL.midF 3 (fun L' w' => ∃ q2 : Bool, L' = [(40, .bool q2), (0, .slice A_inputs inputs.length c_inputs), (1, vs word), (5, .bool ok)] ∧ q2 = (((!t30) || (decide ((20 : Int) < (word.length : Int)))) || (!ok)) ∧ w1 = w') ?_ (fun hQ => ?_)
      · rintro _ _ ⟨q2, rfl, rfl, rfl⟩
        refine WL.nil (WX.then_normal ?_)
        refine WC.cond rfl (fun b2 => ?_) (fun b2 => ?_)
        · replace H := H.1 (b2)
          refine WC.seq ?_
          refine WC.region ?_
          refine WL.y rfl (Yld.pure tab_ok rfl) ?_
          refine WL.y rfl (Yld.pure tab_ok rfl) ?_
          refine WL.nil (WX.then_normal ?_)
          refine WC.ret (WX.then_ret ?_)
          exact WX.ret1 rfl rfl ⟨gr1, ok, rfl, H⟩
        · replace H := H.2 (b2)
          refine WC.skip (WX.then_normal ?_)
          refine WC.seq ?_
          refine WC.region ?_
          refine WL.y rfl (Yld.pure tab_ok rfl) ?_
          refine WL.nil (WX.then_normal ?_)
          refine WC.seq ?_
          refine WC.seq ?_
          refine WC.region ?_
          refine WL.y rfl (Yld.pure tab_ok rfl) ?_
          refine WL.nil (WX.then_normal ?_)
          refine WC.block ?_
          obtain ⟨I1, mu1, h0_1, HR1⟩ := H
          refine WC.loopF (fun n' L' w' => ∃ (n : Int), ∃ (i : Int), n' = mu1 n i ∧ L' = [(0, .slice A_inputs inputs.length c_inputs), (1, vs word), (6, .int .i64 n), (7, .int .i64 i)] ∧ I1 n i ∧ w.grownBy w' none) _ _ ⟨(0 : Int), (0 : Int), rfl, rfl, h0_1, gr1⟩ (by repeat (first | exact Sub.nil | refine Sub.cons rfl ?_)) ?_
          clear h0_1
          rintro _ _ w2 ⟨n, i, rfl, rfl, hI1, gr2⟩
          have H := HR1 n i hI1
          refine WC.seq ?_
          refine WC.seq ?_
          refine WC.region ?_
          refine WL.y rfl (Yld.pure tab_ok rfl) ?_
          refine WL.y rfl (Yld.pure tab_ok rfl) ?_
          refine WL.y rfl (Yld.pure tab_ok rfl) ?_
          refine WL.y rfl (Yld.pure tab_ok rfl) ?_
          refine WL.nil (WX.then_normal ?_)
          refine WC.cond rfl (fun b3 => ?_) (fun b3 => ?_)
          · replace H := H.1 (of_decide_eq_true b3)
            refine WC.skip (WX.then_normal ?_)
            refine WC.seq ?_
            refine WC.block ?_
            refine WC.region ?_
            refine WL.y rfl (Yld.pure tab_ok rfl) ?_
            refine WL.y rfl (Yld.pure tab_ok rfl) ?_
            refine WL.y rfl (Yld.pure tab_ok rfl) ?_
            obtain ⟨h1, H⟩ := H
            refine WL.y rfl (Yld.iaddrW tab_ok (hinputs.grown gr2) rfl rfl rfl rfl h1.1 h1.2) ?_
            refine WL.y rfl (Yld.iload [] tab_ok (hinputs.grown gr2) rfl rfl (iltN h1 rfl)) ?_
            refine WL.call rfl rfl (W_tool_Lines (hG.grown gr2) hS100 H) ?_
            rintro _ w3 ⟨hg2, t53, A_t53, c_t53, rfl, ht53, H⟩
            have hb1 := ht53.ge'
            have k1 := ht53.base (fun g hg => Nat.le_trans (size_le gr2) (hb1 g hg))
            have gr3 := gr_trans gr2 hg2
            refine WL.y rfl (Yld.pure tab_ok rfl) ?_
            obtain ⟨h2, H⟩ := H
            refine WL.y rfl (Yld.add rfl rfl h2) ?_
            refine WL.y rfl (Yld.pure tab_ok rfl) ?_
            refine WL.nil (WX.block_normal (WX.then_normal ?_))
            refine WC.region ?_
            refine WL.y rfl (Yld.pure tab_ok rfl) ?_
            obtain ⟨h3, H⟩ := H
            refine WL.y rfl (Yld.add rfl rfl h3) ?_
            refine WL.y rfl (Yld.pure tab_ok rfl) ?_
            refine WL.nil ?_
            exact WX.roundF _ ⟨n + (t53.length : Int), i + (1 : Int), rfl, rfl, H.1, gr3⟩ (by repeat (first | exact Sub.nil | refine Sub.cons rfl ?_)) H.2
          · replace H := H.2 (of_decide_eq_false b3)
            refine WC.exit (WX.then_exit (WX.then_exit (WX.block_same (WX.then_normal ?_))))
            refine WC.seq ?_
            refine WC.region ?_
            refine WL.y rfl (Yld.pure tab_ok rfl) ?_
            refine WL.call rfl rfl (W_tool_Do (hG.grown gr2) hS10 hS16 hS100 (Own.nil vs w2 w.heap.size 9).rd rfl (hinputs.grown gr2) rfl H) ?_
            rintro _ w4 ⟨hg3, t580, v_t581, t581, rfl, ht581, H⟩
            have gr4 := gr_trans gr2 hg3
            refine WL.y rfl (Yld.pure tab_ok rfl) ?_
            refine WL.y rfl (Yld.pure tab_ok rfl) ?_
            refine WL.y rfl (Yld.pure tab_ok rfl) ?_
            refine WL.y rfl (Yld.pure tab_ok rfl) ?_
            refine WL.y rfl (Yld.pure tab_ok rfl) ?_
            refine WL.nil (WX.then_normal ?_)
            refine WC.seq ?_
            refine WC.region ?_
            refine WL.y rfl (Yld.pure tab_ok rfl) ?_
            refine WL.lit tab_ok rfl rfl rfl (all1c rfl all1n) rfl (by omega) (fun g1 w5 hB1 hg4 hl1 => ?_)
            have hO1 : Own vs w5 w.heap.size 9 (some ⟨g1, 0, none⟩) 1 ([t580] : List (List UInt8)) := Own.ofBl hB1 (Nat.le_trans (size_le gr4) hl1) (by simp [maxLen]) rfl
            have gr5 := gr_trans gr4 hg4
            have k2 := ht581.grown hg4
            refine WL.call rfl rfl (W_tool_Do (hG.grown gr5) hS10 hS16 hS100 (Own.nil vs w5 w.heap.size 9).rd rfl hO1.rd rfl H) ?_
            rintro _ w6 ⟨hg5, t640, v_t641, t641, rfl, ht641, H⟩
            have gr6 := gr_trans gr5 hg5
            have k3 := k2.grown hg5
            refine WL.y rfl (Yld.pure tab_ok rfl) ?_
            refine WL.y rfl (Yld.pure tab_ok rfl) ?_
            refine WL.y rfl (Yld.pure tab_ok rfl) ?_
            refine WL.y rfl (Yld.pure tab_ok rfl) ?_
            refine WL.y rfl (Yld.pure tab_ok rfl) ?_
            refine WL.nil (WX.then_normal ?_)
            refine WC.seq ?_
            refine WC.region ?_
            refine WL.lit tab_ok rfl rfl rfl (all1c rfl all1n) rfl (by omega) (fun g2 w7 hB2 hg6 hl2 => ?_)
            have hO2 : Own vs w7 w.heap.size 9 (some ⟨g2, 0, none⟩) 1 ([([114, 101, 118, 101, 114, 115, 101] : List UInt8)] : List (List UInt8)) := Own.ofBl hB2 (Nat.le_trans (size_le gr6) hl2) (by simp [maxLen]) rfl
            have gr7 := gr_trans gr6 hg6
            have k4 := k3.grown hg6
            have k5 := ht641.grown hg6
            refine WL.y rfl (Yld.pure tab_ok rfl) ?_
            refine WL.call rfl rfl (W_tool_Do (hG.grown gr7) hS10 hS16 hS100 hO2.rd rfl (hinputs.grown gr7) rfl H) ?_
            rintro _ w8 ⟨hg7, t700, v_t701, t701, rfl, ht701, H⟩
            have gr8 := gr_trans gr7 hg7
            have k6 := k4.grown hg7
            have k7 := k5.grown hg7
            refine WL.y rfl (Yld.pure tab_ok rfl) ?_
            refine WL.y rfl (Yld.pure tab_ok rfl) ?_
            refine WL.y rfl (Yld.pure tab_ok rfl) ?_
            refine WL.y rfl (Yld.pure tab_ok rfl) ?_
            refine WL.y rfl (Yld.pure tab_ok rfl) ?_
            refine WL.nil (WX.then_normal ?_)
            refine WC.seq ?_
            refine WC.region ?_
            refine WL.y rfl (Yld.pure tab_ok rfl) ?_
            refine WL.lit tab_ok rfl rfl rfl (all1c rfl all1n) rfl (by omega) (fun g3 w9 hB3 hg8 hl3 => ?_)
            have hO3 : Own vs w9 w.heap.size 9 (some ⟨g3, 0, none⟩) 1 ([t700] : List (List UInt8)) := Own.ofBl hB3 (Nat.le_trans (size_le gr8) hl3) (by simp [maxLen]) rfl
            have gr9 := gr_trans gr8 hg8
            have k8 := k6.grown hg8
            have k9 := k7.grown hg8
            have k10 := ht701.grown hg8
            refine WL.call rfl rfl (W_tool_Do (hG.grown gr9) hS10 hS16 hS100 (Own.nil vs w9 w.heap.size 9).rd rfl hO3.rd rfl H) ?_
            rintro _ w10 ⟨hg9, t760, v_t761, t761, rfl, ht761, H⟩
            have gr10 := gr_trans gr9 hg9
            have k11 := k8.grown hg9
            have k12 := k9.grown hg9
            have k13 := k10.grown hg9
            refine WL.y rfl (Yld.pure tab_ok rfl) ?_
            refine WL.y rfl (Yld.pure tab_ok rfl) ?_
            refine WL.y rfl (Yld.pure tab_ok rfl) ?_
            refine WL.y rfl (Yld.pure tab_ok rfl) ?_
            refine WL.y rfl (Yld.pure tab_ok rfl) ?_
            refine WL.nil (WX.then_normal ?_)
            refine WC.seq ?_
            refine WC.region ?_
            refine WL.lit tab_ok rfl rfl rfl (all1c rfl all1n) rfl (by omega) (fun g4 w11 hB4 hg10 hl4 => ?_)
            have hO4 : Own vs w11 w.heap.size 9 (some ⟨g4, 0, none⟩) 1 ([([117, 110, 105, 113, 117, 101] : List UInt8)] : List (List UInt8)) := Own.ofBl hB4 (Nat.le_trans (size_le gr10) hl4) (by simp [maxLen]) rfl
            have gr11 := gr_trans gr10 hg10
            have k14 := k11.grown hg10
            have k15 := k12.grown hg10
            have k16 := k13.grown hg10
            have k17 := ht761.grown hg10
            refine WL.y rfl (Yld.pure tab_ok rfl) ?_
            refine WL.call rfl rfl (W_tool_Do (hG.grown gr11) hS10 hS16 hS100 hO4.rd rfl (hinputs.grown gr11) rfl H) ?_
            rintro _ w12 ⟨hg11, t820, v_t821, t821, rfl, ht821, H⟩
            have gr12 := gr_trans gr11 hg11
            have k18 := k14.grown hg11
            have k19 := k15.grown hg11
            have k20 := k16.grown hg11
            have k21 := k17.grown hg11
            refine WL.y rfl (Yld.pure tab_ok rfl) ?_
            refine WL.y rfl (Yld.pure tab_ok rfl) ?_
            refine WL.y rfl (Yld.pure tab_ok rfl) ?_
            refine WL.y rfl (Yld.pure tab_ok rfl) ?_
            refine WL.y rfl (Yld.pure tab_ok rfl) ?_
            refine WL.nil (WX.then_normal ?_)
            refine WC.seq ?_
            refine WC.seq ?_
            refine WC.region ?_
            refine WL.y rfl (Yld.pure tab_ok rfl) ?_
            refine WL.y rfl (Yld.errneq Tryd.underlying28 k18 rfl) ?_
            refine WL.y rfl (Yld.pure tab_ok rfl) ?_
            refine WL.midF 3 (fun L' w' => ∃ q3 : Bool, L' = [(90, .bool q3), (0, .slice A_inputs inputs.length c_inputs), (1, vs word), (6, .int .i64 n), (8, vs t580), (10, vs t640), (13, v_t701), (14, vs t760), (15, v_t761), (16, vs t820), (17, v_t821)] ∧ q3 = ((!decide (t581 = Er.ok)) || (!decide (t641 = Er.ok))) ∧ w12 = w') ?_ (fun hQ => ?_)
            · rintro _ _ ⟨q3, rfl, rfl, rfl⟩
              refine WL.y rfl (Yld.pure tab_ok rfl) ?_
              refine WL.midF 3 (fun L' w' => ∃ q4 : Bool, L' = [(94, .bool q4), (0, .slice A_inputs inputs.length c_inputs), (1, vs word), (6, .int .i64 n), (8, vs t580), (10, vs t640), (14, vs t760), (15, v_t761), (16, vs t820), (17, v_t821)] ∧ q4 = (((!decide (t581 = Er.ok)) || (!decide (t641 = Er.ok))) || (!decide (t701 = Er.ok))) ∧ w12 = w') ?_ (fun hQ => ?_)
              · rintro _ _ ⟨q4, rfl, rfl, rfl⟩
                refine WL.y rfl (Yld.pure tab_ok rfl) ?_
                refine WL.midF 3 (fun L' w' => ∃ q5 : Bool, L' = [(98, .bool q5), (0, .slice A_inputs inputs.length c_inputs), (1, vs word), (6, .int .i64 n), (8, vs t580), (10, vs t640), (14, vs t760), (16, vs t820), (17, v_t821)] ∧ q5 = ((((!decide (t581 = Er.ok)) || (!decide (t641 = Er.ok))) || (!decide (t701 = Er.ok))) || (!decide (t761 = Er.ok))) ∧ w12 = w') ?_ (fun hQ => ?_)
                · rintro _ _ ⟨q5, rfl, rfl, rfl⟩
                  refine WL.y rfl (Yld.pure tab_ok rfl) ?_
                  refine WL.midF 3 (fun L' w' => ∃ q6 : Bool, L' = [(102, .bool q6), (0, .slice A_inputs inputs.length c_inputs), (1, vs word), (6, .int .i64 n), (8, vs t580), (10, vs t640), (14, vs t760), (16, vs t820)] ∧ q6 = (((((!decide (t581 = Er.ok)) || (!decide (t641 = Er.ok))) || (!decide (t701 = Er.ok))) || (!decide (t761 = Er.ok))) || (!decide (t821 = Er.ok))) ∧ w12 = w') ?_ (fun hQ => ?_)
                  · rintro _ _ ⟨q6, rfl, rfl, rfl⟩
                    refine WL.y rfl (Yld.pure tab_ok rfl) ?_
                    refine WL.midF 4 (fun L' w' => ∃ q7 : Bool, L' = [(107, .bool q7), (0, .slice A_inputs inputs.length c_inputs), (1, vs word), (6, .int .i64 n), (8, vs t580), (14, vs t760), (16, vs t820)] ∧ q7 = ((((((!decide (t581 = Er.ok)) || (!decide (t641 = Er.ok))) || (!decide (t701 = Er.ok))) || (!decide (t761 = Er.ok))) || (!decide (t821 = Er.ok))) || (!decide (t580 = t640))) ∧ w12 = w') ?_ (fun hQ => ?_)
                    · rintro _ _ ⟨q7, rfl, rfl, rfl⟩
                      refine WL.y rfl (Yld.pure tab_ok rfl) ?_
                      refine WL.midF 4 (fun L' w' => ∃ q8 : Bool, L' = [(112, .bool q8), (0, .slice A_inputs inputs.length c_inputs), (1, vs word), (6, .int .i64 n), (8, vs t580), (16, vs t820)] ∧ q8 = (((((((!decide (t581 = Er.ok)) || (!decide (t641 = Er.ok))) || (!decide (t701 = Er.ok))) || (!decide (t761 = Er.ok))) || (!decide (t821 = Er.ok))) || (!decide (t580 = t640))) || (!decide (t580 = t760))) ∧ w12 = w') ?_ (fun hQ => ?_)
                      · rintro _ _ ⟨q8, rfl, rfl, rfl⟩
                        refine WL.y rfl (Yld.pure tab_ok rfl) ?_
                        obtain ⟨J1, H, hJ1⟩ := H
                        refine WL.midF 6 (fun L' w' => ∃ q9 : Bool, L' = [(119, .bool q9), (0, .slice A_inputs inputs.length c_inputs), (1, vs word), (8, vs t580), (16, vs t820)] ∧ J1 q9 ∧ w.grownBy w' none) ?_ (fun hQ => ?_)
                        · clear H
                          rintro _ w13 ⟨q9, rfl, H, gr13⟩
                          replace H := hJ1 q9 H
                          refine WL.y rfl (Yld.pure tab_ok rfl) ?_
                          obtain ⟨J2, H, hJ2⟩ := H
                          refine WL.midF 9 (fun L' w' => ∃ q10 : Bool, L' = [(129, .bool q10), (0, .slice A_inputs inputs.length c_inputs), (1, vs word), (8, vs t580)] ∧ J2 q10 ∧ w.grownBy w' none) ?_ (fun hQ => ?_)
                          · clear H
                            rintro _ w14 ⟨q10, rfl, H, gr14⟩
                            replace H := hJ2 q10 H
                            refine WL.nil (WX.then_normal ?_)
                            refine WC.cond rfl (fun b4 => ?_) (fun b4 => ?_)
                            · replace H := H.1 (b4)
                              refine WC.seq ?_
                              refine WC.region ?_
                              refine WL.y rfl (Yld.pure tab_ok rfl) ?_
                              refine WL.nil (WX.then_normal ?_)
                              refine WC.ret (WX.then_ret ?_)
                              exact WX.ret1 rfl rfl ⟨gr14, false, rfl, H⟩
                            · replace H := H.2 (b4)
                              refine WC.skip (WX.then_normal ?_)
                              refine WC.seq ?_
                              refine WC.region ?_
                              refine WL.y rfl (Yld.pure tab_ok rfl) ?_
                              refine WL.call rfl rfl (W_tool_Lines (hG.grown gr14) hS100 H) ?_
                              rintro _ w15 ⟨hg12, l, A_l, c_l, rfl, hl, H⟩
                              have hb2 := hl.ge'
                              have k22 := hl.base (fun g hg => Nat.le_trans (size_le gr14) (hb2 g hg))
                              have gr15 := gr_trans gr14 hg12
                              refine WL.y rfl (Yld.pure tab_ok rfl) ?_
                              refine WL.nil (WX.then_normal ?_)
                              refine WC.seq ?_
                              refine WC.seq ?_
                              refine WC.region ?_
                              refine WL.y rfl (Yld.pure tab_ok rfl) ?_
                              refine WL.nil (WX.then_normal ?_)
                              refine WC.block ?_
                              obtain ⟨I2, mu2, h0_2, HR2⟩ := H
                              refine WC.loopF (fun n' L' w' => ∃ (k : Int), n' = mu2 k ∧ L' = [(0, .slice A_inputs inputs.length c_inputs), (1, vs word), (8, vs t580), (18, .slice A_l l.length c_l), (19, .int .i64 k)] ∧ I2 k ∧ w15 = w') _ _ ⟨(1 : Int), rfl, rfl, h0_2, rfl⟩ (by repeat (first | exact Sub.nil | refine Sub.cons rfl ?_)) ?_
                              clear h0_2
                              rintro _ _ _ ⟨k, rfl, rfl, hI2, rfl⟩
                              have H := HR2 k hI2
                              refine WC.seq ?_
                              refine WC.seq ?_
                              refine WC.region ?_
                              refine WL.y rfl (Yld.pure tab_ok rfl) ?_
                              refine WL.y rfl (Yld.pure tab_ok rfl) ?_
                              refine WL.y rfl (Yld.pure tab_ok rfl) ?_
                              refine WL.y rfl (Yld.pure tab_ok rfl) ?_
                              refine WL.nil (WX.then_normal ?_)
                              refine WC.cond rfl (fun b5 => ?_) (fun b5 => ?_)
                              · replace H := H.1 (of_decide_eq_true b5)
                                refine WC.skip (WX.then_normal ?_)
                                refine WC.seq ?_
                                refine WC.block ?_
                                refine WC.seq ?_
                                refine WC.quiet mixed (by kernel_rfl) ?_
                                refine WQ.y rfl (Yld.pure tab_ok rfl) ?_
                                refine WQ.y rfl (Yld.pure tab_ok rfl) ?_
                                obtain ⟨h4, H⟩ := H
                                refine WQ.y rfl (Yld.iaddrW tab_ok k22.rd rfl rfl rfl rfl h4.1 h4.2) ?_
                                refine WQ.y rfl (Yld.iload [] tab_ok k22.rd rfl rfl (iltN h4 rfl)) ?_
                                refine WQ.y rfl (Yld.pure tab_ok rfl) ?_
                                refine WQ.y rfl (Yld.pure tab_ok rfl) ?_
                                obtain ⟨h5, H⟩ := H
                                refine WQ.y rfl (Yld.sub rfl rfl h5) ?_
                                obtain ⟨h6, H⟩ := H
                                refine WQ.y rfl (Yld.iaddrW tab_ok k22.rd rfl rfl rfl rfl h6.1 h6.2) ?_
                                refine WQ.y rfl (Yld.iload [] tab_ok k22.rd rfl rfl (iltN h6 rfl)) ?_
                                refine WQ.y rfl (Yld.pure tab_ok rfl) ?_
                                refine WQ.nil (WX.then_normal ?_)
                                refine WC.cond rfl (fun b6 => ?_) (fun b6 => ?_)
                                · replace H := H.1 (b6)
                                  refine WC.seq ?_
                                  refine WC.region ?_
                                  refine WL.y rfl (Yld.pure tab_ok rfl) ?_
                                  refine WL.nil (WX.then_normal ?_)
                                  refine WC.ret (WX.block_ret (WX.then_ret (WX.then_ret (WX.block_ret (WX.then_ret ?_)))))
                                  exact WX.ret1 rfl rfl ⟨gr15, false, rfl, H⟩
                                · replace H := H.2 (b6)
                                  refine WC.skip (WX.block_normal (WX.then_normal ?_))
                                  refine WC.region ?_
                                  refine WL.y rfl (Yld.pure tab_ok rfl) ?_
                                  obtain ⟨h7, H⟩ := H
                                  refine WL.y rfl (Yld.add rfl rfl h7) ?_
                                  refine WL.y rfl (Yld.pure tab_ok rfl) ?_
                                  refine WL.nil ?_
                                  exact WX.roundF _ ⟨k + (1 : Int), rfl, rfl, H.1, rfl⟩ (by repeat (first | exact Sub.nil | refine Sub.cons rfl ?_)) H.2
                              · replace H := H.2 (of_decide_eq_false b5)
                                refine WC.exit (WX.then_exit (WX.then_exit (WX.block_same (WX.then_normal ?_))))
                                refine WC.seq ?_
                                refine WC.region ?_
                                refine WL.y rfl (Yld.pure tab_ok rfl) ?_
                                refine WL.lit tab_ok rfl rfl rfl (all1c rfl all1n) rfl (by omega) (fun g5 w16 hB5 hg13 hl5 => ?_)
                                have hO5 : Own vs w16 w.heap.size 9 (some ⟨g5, 0, none⟩) 1 ([word] : List (List UInt8)) := Own.ofBl hB5 (Nat.le_trans (size_le gr15) hl5) (by simp [maxLen]) rfl
                                have gr16 := gr_trans gr15 hg13
                                refine WL.y rfl (Yld.pure tab_ok rfl) ?_
                                refine WL.call rfl rfl (W_tool_Do (hG.grown gr16) hS10 hS16 hS100 hO5.rd rfl (hinputs.grown gr16) rfl H) ?_
                                rintro _ w17 ⟨hg14, t1520, v_t1521, t1521, rfl, ht1521, H⟩
                                have gr17 := gr_trans gr16 hg14
                                refine WL.y rfl (Yld.pure tab_ok rfl) ?_
                                refine WL.y rfl (Yld.pure tab_ok rfl) ?_
                                refine WL.y rfl (Yld.pure tab_ok rfl) ?_
                                refine WL.y rfl (Yld.pure tab_ok rfl) ?_
                                refine WL.y rfl (Yld.pure tab_ok rfl) ?_
                                refine WL.nil (WX.then_normal ?_)
                                refine WC.seq ?_
                                refine WC.region ?_
                                refine WL.y rfl (Yld.pure tab_ok rfl) ?_
                                refine WL.lit tab_ok rfl rfl rfl (all1c rfl (all1c rfl all1n)) rfl (by omega) (fun g6 w18 hB6 hg15 hl6 => ?_)
                                have hO6 : Own vs w18 w.heap.size 9 (some ⟨g6, 0, none⟩) 2 ([word, ([110, 111, 116] : List UInt8)] : List (List UInt8)) := Own.ofBl hB6 (Nat.le_trans (size_le gr17) hl6) (by simp [maxLen]) rfl
                                have gr18 := gr_trans gr17 hg15
                                have k23 := ht1521.grown hg15
                                refine WL.y rfl (Yld.pure tab_ok rfl) ?_
                                refine WL.call rfl rfl (W_tool_Do (hG.grown gr18) hS10 hS16 hS100 hO6.rd rfl (hinputs.grown gr18) rfl H) ?_
                                rintro _ w19 ⟨hg16, t1590, v_t1591, t1591, rfl, ht1591, H⟩
                                have gr19 := gr_trans gr18 hg16
                                have k24 := k23.grown hg16
                                refine WL.y rfl (Yld.pure tab_ok rfl) ?_
                                refine WL.y rfl (Yld.pure tab_ok rfl) ?_
                                refine WL.y rfl (Yld.pure tab_ok rfl) ?_
                                refine WL.y rfl (Yld.pure tab_ok rfl) ?_
                                refine WL.y rfl (Yld.pure tab_ok rfl) ?_
                                refine WL.nil (WX.then_normal ?_)
                                refine WC.seq ?_
                                refine WC.region ?_
                                refine WL.y rfl (Yld.pure tab_ok rfl) ?_
                                refine WL.y rfl (Yld.pure tab_ok rfl) ?_
                                refine WL.lit tab_ok rfl rfl rfl (all1c rfl (all1c rfl all1n)) rfl (by omega) (fun g7 w20 hB7 hg17 hl7 => ?_)
                                have hO7 : Own vs w20 w.heap.size 9 (some ⟨g7, 0, none⟩) 2 ([t1520, t1590] : List (List UInt8)) := Own.ofBl hB7 (Nat.le_trans (size_le gr19) hl7) (by simp [maxLen]) rfl
                                have gr20 := gr_trans gr19 hg17
                                have k25 := k24.grown hg17
                                have k26 := ht1591.grown hg17
                                refine WL.call rfl rfl (W_tool_Do (hG.grown gr20) hS10 hS16 hS100 (Own.nil vs w20 w.heap.size 9).rd rfl hO7.rd rfl H) ?_
                                rintro _ w21 ⟨hg18, t1660, v_t1661, t1661, rfl, ht1661, H⟩
                                have gr21 := gr_trans gr20 hg18
                                have k27 := k25.grown hg18
                                have k28 := k26.grown hg18
                                refine WL.y rfl (Yld.pure tab_ok rfl) ?_
                                refine WL.y rfl (Yld.pure tab_ok rfl) ?_
                                refine WL.y rfl (Yld.pure tab_ok rfl) ?_
                                refine WL.y rfl (Yld.pure tab_ok rfl) ?_
                                refine WL.y rfl (Yld.pure tab_ok rfl) ?_
                                refine WL.nil (WX.then_normal ?_)
                                refine WC.seq ?_
                                refine WC.region ?_
                                refine WL.y rfl (Yld.pure tab_ok rfl) ?_
                                refine WL.y rfl (Yld.erreql Tryd.underlying28 k27 rfl) ?_
                                refine WL.y rfl (Yld.pure tab_ok rfl) ?_
                                refine WL.midF 3 (fun L' w' => ∃ q11 : Bool, L' = [(174, .bool q11), (8, vs t580), (24, vs t1660), (25, v_t1661)] ∧ q11 = ((decide (t1521 = Er.ok)) && (decide (t1591 = Er.ok))) ∧ w21 = w') ?_ (fun hQ => ?_)
                                · rintro _ _ ⟨q11, rfl, rfl, rfl⟩
                                  refine WL.y rfl (Yld.pure tab_ok rfl) ?_
                                  refine WL.midF 3 (fun L' w' => ∃ q12 : Bool, L' = [(178, .bool q12), (8, vs t580), (24, vs t1660)] ∧ q12 = (((decide (t1521 = Er.ok)) && (decide (t1591 = Er.ok))) && (decide (t1661 = Er.ok))) ∧ w21 = w') ?_ (fun hQ => ?_)
                                  · rintro _ _ ⟨q12, rfl, rfl, rfl⟩
                                    refine WL.y rfl (Yld.pure tab_ok rfl) ?_
                                    refine WL.midF 4 (fun L' w' => ∃ q13 : Bool, L' = [(183, .bool q13)] ∧ q13 = ((((decide (t1521 = Er.ok)) && (decide (t1591 = Er.ok))) && (decide (t1661 = Er.ok))) && (decide (t1660 = t580))) ∧ w21 = w') ?_ (fun hQ => ?_)
                                    · rintro _ _ ⟨q13, rfl, rfl, rfl⟩
                                      refine WL.y rfl (Yld.pure tab_ok rfl) ?_
                                      refine WL.nil (WX.then_normal ?_)
                                      refine WC.ret ?_
                                      exact WX.ret1 rfl rfl ⟨gr21, (((decide (t1521 = Er.ok)) && (decide (t1591 = Er.ok))) && (decide (t1661 = Er.ok))) && (decide (t1660 = t580)), rfl, H⟩
                                    · clear H
                                      rcases Bool.eq_false_or_eq_true (((decide (t1521 = Er.ok)) && (decide (t1591 = Er.ok))) && (decide (t1661 = Er.ok))) with b7 | b7
                                      · refine WL.gyes rfl rfl (okb b7) rfl (Yld.pure tab_ok rfl) ?_
                                        refine WL.gyes rfl rfl (okb b7) rfl (Yld.pure tab_ok rfl) ?_
                                        refine WL.gyes rfl rfl (okb b7) rfl (Yld.pure tab_ok rfl) ?_
                                        refine WL.y rfl (Yld.pickT (okb b7) rfl) ?_
                                        exact WL.weaken (by repeat (first | exact Sub.nil | refine Sub.cons rfl ?_)) (hQ _ _ ⟨decide (t1660 = t580), rfl, by rw [b7] <;> rfl, rfl⟩)
                                      · refine WL.gno rfl rfl (okb b7) rfl ?_
                                        refine WL.gno rfl rfl (okb b7) rfl ?_
                                        refine WL.gno rfl rfl (okb b7) rfl ?_
                                        refine WL.y rfl (Yld.pickF (okb b7) rfl) ?_
                                        exact WL.weaken (by repeat (first | exact Sub.nil | refine Sub.cons rfl ?_)) (hQ _ _ ⟨false, rfl, by rw [b7] <;> rfl, rfl⟩)
                                  · clear H
                                    rcases Bool.eq_false_or_eq_true ((decide (t1521 = Er.ok)) && (decide (t1591 = Er.ok))) with b8 | b8
                                    · refine WL.gyes rfl rfl (okb b8) rfl (Yld.pure tab_ok rfl) ?_
                                      refine WL.gyes rfl rfl (okb b8) rfl (Yld.erreql Tryd.underlying28 ht1661 rfl) ?_
                                      refine WL.y rfl (Yld.pickT (okb b8) rfl) ?_
                                      exact WL.weaken (by repeat (first | exact Sub.nil | refine Sub.cons rfl ?_)) (hQ _ _ ⟨decide (t1661 = Er.ok), rfl, by rw [b8] <;> rfl, rfl⟩)
                                    · refine WL.gno rfl rfl (okb b8) rfl ?_
                                      refine WL.gno rfl rfl (okb b8) rfl ?_
                                      refine WL.y rfl (Yld.pickF (okb b8) rfl) ?_
                                      exact WL.weaken (by repeat (first | exact Sub.nil | refine Sub.cons rfl ?_)) (hQ _ _ ⟨false, rfl, by rw [b8] <;> rfl, rfl⟩)
                                · clear H
                                  rcases Bool.eq_false_or_eq_true (decide (t1521 = Er.ok)) with b9 | b9
                                  · refine WL.gyes rfl rfl (okb b9) rfl (Yld.pure tab_ok rfl) ?_
                                    refine WL.gyes rfl rfl (okb b9) rfl (Yld.erreql Tryd.underlying28 k28 rfl) ?_
                                    refine WL.y rfl (Yld.pickT (okb b9) rfl) ?_
                                    exact WL.weaken (by repeat (first | exact Sub.nil | refine Sub.cons rfl ?_)) (hQ _ _ ⟨decide (t1591 = Er.ok), rfl, by rw [b9] <;> rfl, rfl⟩)
                                  · refine WL.gno rfl rfl (okb b9) rfl ?_
                                    refine WL.gno rfl rfl (okb b9) rfl ?_
                                    refine WL.y rfl (Yld.pickF (okb b9) rfl) ?_
                                    exact WL.weaken (by repeat (first | exact Sub.nil | refine Sub.cons rfl ?_)) (hQ _ _ ⟨false, rfl, by rw [b9] <;> rfl, rfl⟩)
                          · clear hJ2
                            rcases Bool.eq_false_or_eq_true (q9) with b10 | b10
                            · replace H := H.1 b10
                              refine WL.gno rfl rfl (okb b10) rfl ?_
                              refine WL.gno rfl rfl (okb b10) rfl ?_
                              refine WL.gno rfl rfl (okb b10) rfl ?_
                              refine WL.gno rfl rfl (okb b10) rfl ?_
                              refine WL.gno rfl rfl (okb b10) rfl ?_
                              refine WL.gno rfl rfl (okb b10) rfl ?_
                              refine WL.gno rfl rfl (okb b10) rfl ?_
                              refine WL.gno rfl rfl (okb b10) rfl ?_
                              refine WL.y rfl (Yld.pickT (okb b10) rfl) ?_
                              exact WL.weaken (by repeat (first | exact Sub.nil | refine Sub.cons rfl ?_)) (hQ _ _ ⟨true, rfl, H, gr13⟩)
                            · replace H := H.2 b10
                              refine WL.gyes rfl rfl (okb b10) rfl (Yld.pure tab_ok rfl) ?_
                              refine WL.callw (wants_some rfl rfl (okb b10)) rfl rfl (W_tool_Lines (hG.grown gr13) hS100 H) ?_
                              rintro _ w22 ⟨hg19, t122, A_t122, c_t122, rfl, ht122, H⟩
                              have hb3 := ht122.ge'
                              have k29 := ht122.base (fun g hg => Nat.le_trans (size_le gr13) (hb3 g hg))
                              have gr22 := gr_trans gr13 hg19
                              refine WL.gyes rfl rfl (okb b10) rfl (Yld.pure tab_ok rfl) ?_
                              refine WL.gyes rfl rfl (okb b10) rfl (Yld.pure tab_ok rfl) ?_
                              refine WL.callw (wants_some rfl rfl (okb b10)) rfl rfl (W_tool_Lines (hG.grown gr22) hS100 H) ?_
                              rintro _ w23 ⟨hg20, t125, A_t125, c_t125, rfl, ht125, H⟩
                              have hb4 := ht125.ge'
                              have k30 := ht125.base (fun g hg => Nat.le_trans (size_le gr22) (hb4 g hg))
                              have gr23 := gr_trans gr22 hg20
                              refine WL.callw (wants_some rfl rfl (okb b10)) rfl rfl (W_smithyref_SortedTexts k30.rd rfl H) ?_
                              rintro _ w24 ⟨hg21, t126, A_t126, c_t126, rfl, ht126, H⟩
                              have hb5 := ht126.ge'
                              have k31 := ht126.base (fun g hg => Nat.le_trans (size_le gr23) (hb5 g hg))
                              have gr24 := gr_trans gr23 hg21
                              have k32 := k30.grown hg21
                              refine WL.gyes rfl rfl (okb b10) rfl (Yld.pure tab_ok rfl) ?_
                              refine WL.gyes rfl rfl (okb b10) rfl (Yld.pure tab_ok rfl) ?_
                              refine WL.y rfl (Yld.pickF (okb b10) rfl) ?_
                              exact WL.weaken (by repeat (first | exact Sub.nil | refine Sub.cons rfl ?_)) (hQ _ _ ⟨!decide ((t122.length : Int) = (t126.length : Int)), rfl, H, gr24⟩)
                        · clear hJ1
                          rcases Bool.eq_false_or_eq_true (((((((!decide (t581 = Er.ok)) || (!decide (t641 = Er.ok))) || (!decide (t701 = Er.ok))) || (!decide (t761 = Er.ok))) || (!decide (t821 = Er.ok))) || (!decide (t580 = t640))) || (!decide (t580 = t760))) with b11 | b11
                          · replace H := H.1 b11
                            refine WL.gno rfl rfl (okb b11) rfl ?_
                            refine WL.gno rfl rfl (okb b11) rfl ?_
                            refine WL.gno rfl rfl (okb b11) rfl ?_
                            refine WL.gno rfl rfl (okb b11) rfl ?_
                            refine WL.gno rfl rfl (okb b11) rfl ?_
                            refine WL.y rfl (Yld.pickT (okb b11) rfl) ?_
                            exact WL.weaken (by repeat (first | exact Sub.nil | refine Sub.cons rfl ?_)) (hQ _ _ ⟨true, rfl, H, gr12⟩)
                          · replace H := H.2 b11
                            refine WL.gyes rfl rfl (okb b11) rfl (Yld.pure tab_ok rfl) ?_
                            refine WL.callw (wants_some rfl rfl (okb b11)) rfl rfl (W_tool_Lines (hG.grown gr12) hS100 H) ?_
                            rintro _ w25 ⟨hg22, t115, A_t115, c_t115, rfl, ht115, H⟩
                            have hb6 := ht115.ge'
                            have k33 := ht115.base (fun g hg => Nat.le_trans (size_le gr12) (hb6 g hg))
                            have gr25 := gr_trans gr12 hg22
                            refine WL.gyes rfl rfl (okb b11) rfl (Yld.pure tab_ok rfl) ?_
                            refine WL.gyes rfl rfl (okb b11) rfl (Yld.pure tab_ok rfl) ?_
                            refine WL.gyes rfl rfl (okb b11) rfl (Yld.pure tab_ok rfl) ?_
                            refine WL.y rfl (Yld.pickF (okb b11) rfl) ?_
                            exact WL.weaken (by repeat (first | exact Sub.nil | refine Sub.cons rfl ?_)) (hQ _ _ ⟨!decide ((t115.length : Int) = n), rfl, H, gr25⟩)
                      · clear H
                        rcases Bool.eq_false_or_eq_true ((((((!decide (t581 = Er.ok)) || (!decide (t641 = Er.ok))) || (!decide (t701 = Er.ok))) || (!decide (t761 = Er.ok))) || (!decide (t821 = Er.ok))) || (!decide (t580 = t640))) with b12 | b12
                        · refine WL.gno rfl rfl (okb b12) rfl ?_
                          refine WL.gno rfl rfl (okb b12) rfl ?_
                          refine WL.gno rfl rfl (okb b12) rfl ?_
                          refine WL.y rfl (Yld.pickT (okb b12) rfl) ?_
                          exact WL.weaken (by repeat (first | exact Sub.nil | refine Sub.cons rfl ?_)) (hQ _ _ ⟨true, rfl, by rw [b12] <;> rfl, rfl⟩)
                        · refine WL.gyes rfl rfl (okb b12) rfl (Yld.pure tab_ok rfl) ?_
                          refine WL.gyes rfl rfl (okb b12) rfl (Yld.pure tab_ok rfl) ?_
                          refine WL.gyes rfl rfl (okb b12) rfl (Yld.pure tab_ok rfl) ?_
                          refine WL.y rfl (Yld.pickF (okb b12) rfl) ?_
                          exact WL.weaken (by repeat (first | exact Sub.nil | refine Sub.cons rfl ?_)) (hQ _ _ ⟨!decide (t580 = t760), rfl, by rw [b12] <;> rfl, rfl⟩)
                    · clear H
                      rcases Bool.eq_false_or_eq_true (((((!decide (t581 = Er.ok)) || (!decide (t641 = Er.ok))) || (!decide (t701 = Er.ok))) || (!decide (t761 = Er.ok))) || (!decide (t821 = Er.ok))) with b13 | b13
                      · refine WL.gno rfl rfl (okb b13) rfl ?_
                        refine WL.gno rfl rfl (okb b13) rfl ?_
                        refine WL.gno rfl rfl (okb b13) rfl ?_
                        refine WL.y rfl (Yld.pickT (okb b13) rfl) ?_
                        exact WL.weaken (by repeat (first | exact Sub.nil | refine Sub.cons rfl ?_)) (hQ _ _ ⟨true, rfl, by rw [b13] <;> rfl, rfl⟩)
                      · refine WL.gyes rfl rfl (okb b13) rfl (Yld.pure tab_ok rfl) ?_
                        refine WL.gyes rfl rfl (okb b13) rfl (Yld.pure tab_ok rfl) ?_
                        refine WL.gyes rfl rfl (okb b13) rfl (Yld.pure tab_ok rfl) ?_
                        refine WL.y rfl (Yld.pickF (okb b13) rfl) ?_
                        exact WL.weaken (by repeat (first | exact Sub.nil | refine Sub.cons rfl ?_)) (hQ _ _ ⟨!decide (t580 = t640), rfl, by rw [b13] <;> rfl, rfl⟩)
                  · clear H
                    rcases Bool.eq_false_or_eq_true ((((!decide (t581 = Er.ok)) || (!decide (t641 = Er.ok))) || (!decide (t701 = Er.ok))) || (!decide (t761 = Er.ok))) with b14 | b14
                    · refine WL.gno rfl rfl (okb b14) rfl ?_
                      refine WL.gno rfl rfl (okb b14) rfl ?_
                      refine WL.y rfl (Yld.pickT (okb b14) rfl) ?_
                      exact WL.weaken (by repeat (first | exact Sub.nil | refine Sub.cons rfl ?_)) (hQ _ _ ⟨true, rfl, by rw [b14] <;> rfl, rfl⟩)
                    · refine WL.gyes rfl rfl (okb b14) rfl (Yld.pure tab_ok rfl) ?_
                      refine WL.gyes rfl rfl (okb b14) rfl (Yld.errneq Tryd.underlying28 ht821 rfl) ?_
                      refine WL.y rfl (Yld.pickF (okb b14) rfl) ?_
                      exact WL.weaken (by repeat (first | exact Sub.nil | refine Sub.cons rfl ?_)) (hQ _ _ ⟨!decide (t821 = Er.ok), rfl, by rw [b14] <;> rfl, rfl⟩)
                · clear H
                  rcases Bool.eq_false_or_eq_true (((!decide (t581 = Er.ok)) || (!decide (t641 = Er.ok))) || (!decide (t701 = Er.ok))) with b15 | b15
                  · refine WL.gno rfl rfl (okb b15) rfl ?_
                    refine WL.gno rfl rfl (okb b15) rfl ?_
                    refine WL.y rfl (Yld.pickT (okb b15) rfl) ?_
                    exact WL.weaken (by repeat (first | exact Sub.nil | refine Sub.cons rfl ?_)) (hQ _ _ ⟨true, rfl, by rw [b15] <;> rfl, rfl⟩)
                  · refine WL.gyes rfl rfl (okb b15) rfl (Yld.pure tab_ok rfl) ?_
                    refine WL.gyes rfl rfl (okb b15) rfl (Yld.errneq Tryd.underlying28 k21 rfl) ?_
                    refine WL.y rfl (Yld.pickF (okb b15) rfl) ?_
                    exact WL.weaken (by repeat (first | exact Sub.nil | refine Sub.cons rfl ?_)) (hQ _ _ ⟨!decide (t761 = Er.ok), rfl, by rw [b15] <;> rfl, rfl⟩)
              · clear H
                rcases Bool.eq_false_or_eq_true ((!decide (t581 = Er.ok)) || (!decide (t641 = Er.ok))) with b16 | b16
                · refine WL.gno rfl rfl (okb b16) rfl ?_
                  refine WL.gno rfl rfl (okb b16) rfl ?_
                  refine WL.y rfl (Yld.pickT (okb b16) rfl) ?_
                  exact WL.weaken (by repeat (first | exact Sub.nil | refine Sub.cons rfl ?_)) (hQ _ _ ⟨true, rfl, by rw [b16] <;> rfl, rfl⟩)
                · refine WL.gyes rfl rfl (okb b16) rfl (Yld.pure tab_ok rfl) ?_
                  refine WL.gyes rfl rfl (okb b16) rfl (Yld.errneq Tryd.underlying28 k20 rfl) ?_
                  refine WL.y rfl (Yld.pickF (okb b16) rfl) ?_
                  exact WL.weaken (by repeat (first | exact Sub.nil | refine Sub.cons rfl ?_)) (hQ _ _ ⟨!decide (t701 = Er.ok), rfl, by rw [b16] <;> rfl, rfl⟩)
            · clear H
              rcases Bool.eq_false_or_eq_true (!decide (t581 = Er.ok)) with b17 | b17
              · refine WL.gno rfl rfl (okb b17) rfl ?_
                refine WL.gno rfl rfl (okb b17) rfl ?_
                refine WL.y rfl (Yld.pickT (okb b17) rfl) ?_
                exact WL.weaken (by repeat (first | exact Sub.nil | refine Sub.cons rfl ?_)) (hQ _ _ ⟨true, rfl, by rw [b17] <;> rfl, rfl⟩)
              · refine WL.gyes rfl rfl (okb b17) rfl (Yld.pure tab_ok rfl) ?_
                refine WL.gyes rfl rfl (okb b17) rfl (Yld.errneq Tryd.underlying28 k19 rfl) ?_
                refine WL.y rfl (Yld.pickF (okb b17) rfl) ?_
                exact WL.weaken (by repeat (first | exact Sub.nil | refine Sub.cons rfl ?_)) (hQ _ _ ⟨!decide (t641 = Er.ok), rfl, by rw [b17] <;> rfl, rfl⟩)
      · clear H
        rcases Bool.eq_false_or_eq_true ((!t30) || (decide ((20 : Int) < (word.length : Int)))) with b18 | b18
        · refine WL.gno rfl rfl (okb b18) rfl ?_
          refine WL.gno rfl rfl (okb b18) rfl ?_
          refine WL.y rfl (Yld.pickT (okb b18) rfl) ?_
          exact WL.weaken (by repeat (first | exact Sub.nil | refine Sub.cons rfl ?_)) (hQ _ _ ⟨true, rfl, by rw [b18] <;> rfl, rfl⟩)
        · refine WL.gyes rfl rfl (okb b18) rfl (Yld.pure tab_ok rfl) ?_
          refine WL.gyes rfl rfl (okb b18) rfl (Yld.pure tab_ok rfl) ?_
          refine WL.y rfl (Yld.pickF (okb b18) rfl) ?_
          exact WL.weaken (by repeat (first | exact Sub.nil | refine Sub.cons rfl ?_)) (hQ _ _ ⟨!ok, rfl, by rw [b18] <;> rfl, rfl⟩)
    · clear H
      rcases Bool.eq_false_or_eq_true (!t30) with b19 | b19
      · refine WL.gno rfl rfl (okb b19) rfl ?_
        refine WL.gno rfl rfl (okb b19) rfl ?_
        refine WL.gno rfl rfl (okb b19) rfl ?_
        refine WL.y rfl (Yld.pickT (okb b19) rfl) ?_
        exact WL.weaken (by repeat (first | exact Sub.nil | refine Sub.cons rfl ?_)) (hQ _ _ ⟨true, rfl, by rw [b19] <;> rfl, rfl⟩)
      · refine WL.gyes rfl rfl (okb b19) rfl (Yld.pure tab_ok rfl) ?_
        refine WL.gyes rfl rfl (okb b19) rfl (Yld.pure tab_ok rfl) ?_
        refine WL.gyes rfl rfl (okb b19) rfl (Yld.pure tab_ok rfl) ?_
        refine WL.y rfl (Yld.pickF (okb b19) rfl) ?_
        exact WL.weaken (by repeat (first | exact Sub.nil | refine Sub.cons rfl ?_)) (hQ _ _ ⟨decide ((20 : Int) < (word.length : Int)), rfl, by rw [b19] <;> rfl, rfl⟩)

set_option maxHeartbeats 8000000 in
theorem W_smithylaw23_ToolJoins {S : List Nat} {w : World} {inputs : List (List UInt8)} {A_inputs : Option Addr} {c_inputs : Nat} {by_ : List UInt8} {n_inputs : Nat} {K : Bool → Prop} (hG : GOK S w) (hS10 : 10 ∈ S) (hS16 : 16 ∈ S) (hS100 : 100 ∈ S) (hinputs : Rd vs w A_inputs c_inputs inputs) (hn_inputs : n_inputs = inputs.length) (H : M_smithylaw23_ToolJoins inputs by_ K) : Fn Tryd.prog 7 ⟨[.slice A_inputs n_inputs c_inputs, vs by_]⟩ w (fun v w' => w.grownBy w' none ∧ ∃ (r : Bool), v = .bool r ∧ K r) := by
  subst hn_inputs
  unfold M_smithylaw23_ToolJoins at H
  refine Fn.enter (by kernel_rfl) Tryd.func7 rfl Tryd.ntmps7 rfl ?_
  replace H := H (Nat.le_trans hinputs.cap hinputs.max)
  refine WC.seq ?_
  refine WC.region ?_
  refine WL.y rfl (Yld.pure tab_ok rfl) ?_
  refine WL.nil (WX.then_normal ?_)
  refine WC.seq ?_
  refine WC.region ?_
  refine WL.call rfl rfl (W_smithylaw23_first hG hS10 hS16 hS100 H) ?_
  rintro _ w1 ⟨hg1, ok, rfl, H⟩
  have gr1 := hg1
  refine WL.y rfl (Yld.pure tab_ok rfl) ?_
  refine WL.nil (WX.then_normal ?_)
  refine WC.seq ?_
  refine WC.seq ?_
  refine WC.region ?_
  refine WL.y rfl (Yld.pure tab_ok rfl) ?_
  refine WL.y rfl (Yld.pure tab_ok rfl) ?_
  refine WL.nil (WX.then_normal ?_)
  refine WC.cond rfl (fun b1 => ?_) (fun b1 => ?_)
  · replace H := H.1 (b1)
    refine WC.seq ?_
    refine WC.region ?_
    refine WL.y rfl (Yld.pure tab_ok rfl) ?_
    refine WL.nil (WX.then_normal ?_)
    refine WC.ret (WX.then_ret ?_)
    exact WX.ret1 rfl rfl ⟨gr1, false, rfl, H⟩
  · replace H := H.2 (b1)
    refine WC.skip (WX.then_normal ?_)
    refine WC.seq ?_
    refine WC.seq ?_
    refine WC.region ?_
    refine WL.y rfl (Yld.pure tab_ok rfl) ?_
    refine WL.call rfl rfl (W_smithyworld_Texts (hinputs.grown gr1) rfl H) ?_
    rintro _ _ ⟨rfl, t26, rfl, H⟩
    refine WL.y rfl (Yld.pure tab_ok rfl) ?_
    refine WL.y rfl (Yld.pure tab_ok rfl) ?_
    refine WL.midF 4 (fun L' w' => ∃ q1 : Bool, L' = [(32, .bool q1), (0, .slice A_inputs inputs.length c_inputs), (1, vs by_), (5, .bool ok)] ∧ q1 = ((!t26) || (decide ((by_.length : Int) = (0 : Int)))) ∧ w1 = w') ?_ (fun hQ => ?_)
    · rintro _ _ ⟨q1, rfl, rfl, rfl⟩
      refine WL.y rfl (Yld.pure tab_ok rfl) ?_
      refine WL.midF 4 (fun L' w' => ∃ q2 : Bool, L' = [(37, .bool q2), (0, .slice A_inputs inputs.length c_inputs), (1, vs by_), (5, .bool ok)] ∧ q2 = (((!t26) || (decide ((by_.length : Int) = (0 : Int)))) || (decide ((20 : Int) < (by_.length : Int)))) ∧ w1 = w') ?_ (fun hQ => ?_)
      · rintro _ _ ⟨q2, rfl, rfl, rfl⟩
        refine WL.y rfl (Yld.pure tab_ok rfl) ?_
        refine WL.midF 3 (fun L' w' => ∃ q3 : Bool, L' = [(41, .bool q3), (0, .slice A_inputs inputs.length c_inputs), (1, vs by_), (5, .bool ok)] ∧ q3 = ((((!t26) || (decide ((by_.length : Int) = (0 : Int)))) || (decide ((20 : Int) < (by_.length : Int)))) || (!ok)) ∧ w1 = w') ?_ (fun hQ => ?_)
        · rintro _ _ ⟨q3, rfl, rfl, rfl⟩
          refine WL.nil (WX.then_normal ?_)
          refine WC.cond rfl (fun b2 => ?_) (fun b2 => ?_)
          · replace H := H.1 (b2)
            refine WC.seq ?_
            refine WC.region ?_
            refine WL.y rfl (Yld.pure tab_ok rfl) ?_
            refine WL.y rfl (Yld.pure tab_ok rfl) ?_
            refine WL.nil (WX.then_normal ?_)
            refine WC.ret (WX.then_ret ?_)
            exact WX.ret1 rfl rfl ⟨gr1, ok, rfl, H⟩
          · replace H := H.2 (b2)
            refine WC.skip (WX.then_normal ?_)
            refine WC.seq ?_
            refine WC.region ?_
            refine WL.y rfl (Yld.pure tab_ok rfl) ?_
            refine WL.nil (WX.then_normal ?_)
            refine WC.seq ?_
            refine WC.seq ?_
            refine WC.region ?_
            refine WL.y rfl (Yld.pure tab_ok rfl) ?_
            refine WL.nil (WX.then_normal ?_)
            refine WC.block ?_
            obtain ⟨I1, mu1, h0_1, HR1⟩ := H
            refine WC.loopF (fun n' L' w' => ∃ (n : Int), ∃ (i : Int), n' = mu1 n i ∧ L' = [(0, .slice A_inputs inputs.length c_inputs), (1, vs by_), (6, .int .i64 n), (7, .int .i64 i)] ∧ I1 n i ∧ w1 = w') _ _ ⟨(0 : Int), (0 : Int), rfl, rfl, h0_1, rfl⟩ (by repeat (first | exact Sub.nil | refine Sub.cons rfl ?_)) ?_
            clear h0_1
            rintro _ _ _ ⟨n, i, rfl, rfl, hI1, rfl⟩
            have H := HR1 n i hI1
            refine WC.seq ?_
            refine WC.seq ?_
            refine WC.region ?_
            refine WL.y rfl (Yld.pure tab_ok rfl) ?_
            refine WL.y rfl (Yld.pure tab_ok rfl) ?_
            refine WL.y rfl (Yld.pure tab_ok rfl) ?_
            refine WL.y rfl (Yld.pure tab_ok rfl) ?_
            refine WL.nil (WX.then_normal ?_)
            refine WC.cond rfl (fun b3 => ?_) (fun b3 => ?_)
            · replace H := H.1 (of_decide_eq_true b3)
              refine WC.skip (WX.then_normal ?_)
              refine WC.seq ?_
              refine WC.block ?_
              refine WC.region ?_
              refine WL.y rfl (Yld.pure tab_ok rfl) ?_
              refine WL.y rfl (Yld.pure tab_ok rfl) ?_
              refine WL.y rfl (Yld.pure tab_ok rfl) ?_
              obtain ⟨h1, H⟩ := H
              refine WL.y rfl (Yld.iaddrW tab_ok (hinputs.grown gr1) rfl rfl rfl rfl h1.1 h1.2) ?_
              refine WL.y rfl (Yld.iload [] tab_ok (hinputs.grown gr1) rfl rfl (iltN h1 rfl)) ?_
              refine WL.y rfl (Yld.pure tab_ok rfl) ?_
              obtain ⟨h2, H⟩ := H
              refine WL.y rfl (Yld.add rfl rfl h2) ?_
              refine WL.y rfl (Yld.pure tab_ok rfl) ?_
              refine WL.nil (WX.block_normal (WX.then_normal ?_))
              refine WC.region ?_
              refine WL.y rfl (Yld.pure tab_ok rfl) ?_
              obtain ⟨h3, H⟩ := H
              refine WL.y rfl (Yld.add rfl rfl h3) ?_
              refine WL.y rfl (Yld.pure tab_ok rfl) ?_
              refine WL.nil ?_
              exact WX.roundF _ ⟨n + ((inputs.getD i.toNat []).length : Int), i + (1 : Int), rfl, rfl, H.1, rfl⟩ (by repeat (first | exact Sub.nil | refine Sub.cons rfl ?_)) H.2
            · replace H := H.2 (of_decide_eq_false b3)
              refine WC.exit (WX.then_exit (WX.then_exit (WX.block_same (WX.then_normal ?_))))
              refine WC.seq ?_
              refine WC.region ?_
              refine WL.y rfl (Yld.pure tab_ok rfl) ?_
              refine WL.call rfl rfl (W_tool_Do (hG.grown gr1) hS10 hS16 hS100 (Own.nil vs w1 w.heap.size 9).rd rfl (hinputs.grown gr1) rfl H) ?_
              rintro _ w2 ⟨hg2, t580, v_t581, t581, rfl, ht581, H⟩
              have gr2 := gr_trans gr1 hg2
              refine WL.y rfl (Yld.pure tab_ok rfl) ?_
              refine WL.y rfl (Yld.pure tab_ok rfl) ?_
              refine WL.y rfl (Yld.pure tab_ok rfl) ?_
              refine WL.y rfl (Yld.pure tab_ok rfl) ?_
              refine WL.y rfl (Yld.pure tab_ok rfl) ?_
              refine WL.nil (WX.then_normal ?_)
              refine WC.seq ?_
              refine WC.region ?_
              refine WL.y rfl (Yld.pure tab_ok rfl) ?_
              refine WL.lit tab_ok rfl rfl rfl (all1c rfl all1n) rfl (by omega) (fun g1 w3 hB1 hg3 hl1 => ?_)
              have hO1 : Own vs w3 w.heap.size 9 (some ⟨g1, 0, none⟩) 1 ([by_] : List (List UInt8)) := Own.ofBl hB1 (Nat.le_trans (size_le gr2) hl1) (by simp [maxLen]) rfl
              have gr3 := gr_trans gr2 hg3
              have k1 := ht581.grown hg3
              refine WL.y rfl (Yld.pure tab_ok rfl) ?_
              refine WL.call rfl rfl (W_tool_Do (hG.grown gr3) hS10 hS16 hS100 hO1.rd rfl (hinputs.grown gr3) rfl H) ?_
              rintro _ w4 ⟨hg4, t650, v_t651, t651, rfl, ht651, H⟩
              have gr4 := gr_trans gr3 hg4
              have k2 := k1.grown hg4
              refine WL.y rfl (Yld.pure tab_ok rfl) ?_
              refine WL.y rfl (Yld.pure tab_ok rfl) ?_
              refine WL.y rfl (Yld.pure tab_ok rfl) ?_
              refine WL.y rfl (Yld.pure tab_ok rfl) ?_
              refine WL.y rfl (Yld.pure tab_ok rfl) ?_
              refine WL.nil (WX.then_normal ?_)
              refine WC.seq ?_
              refine WC.region ?_
              refine WL.y rfl (Yld.pure tab_ok rfl) ?_
              refine WL.y rfl (Yld.pure tab_ok rfl) ?_
              refine WL.lit tab_ok rfl rfl rfl (all1c rfl (all1c rfl all1n)) rfl (by omega) (fun g2 w5 hB2 hg5 hl2 => ?_)
              have hO2 : Own vs w5 w.heap.size 9 (some ⟨g2, 0, none⟩) 2 ([by_, by_] : List (List UInt8)) := Own.ofBl hB2 (Nat.le_trans (size_le gr4) hl2) (by simp [maxLen]) rfl
              have gr5 := gr_trans gr4 hg5
              have k3 := k2.grown hg5
              have k4 := ht651.grown hg5
              refine WL.y rfl (Yld.pure tab_ok rfl) ?_
              refine WL.lit tab_ok rfl rfl rfl (all1c rfl all1n) rfl (by omega) (fun g3 w6 hB3 hg6 hl3 => ?_)
              have hO3 : Own vs w6 w.heap.size 9 (some ⟨g3, 0, none⟩) 1 ([t650] : List (List UInt8)) := Own.ofBl hB3 (Nat.le_trans (size_le gr5) hl3) (by simp [maxLen]) rfl
              have gr6 := gr_trans gr5 hg6
              have k5 := k3.grown hg6
              have k6 := k4.grown hg6
              have k7 := hO2.grown hg6
              refine WL.call rfl rfl (W_tool_Do (hG.grown gr6) hS10 hS16 hS100 k7.rd rfl hO3.rd rfl H) ?_
              rintro _ w7 ⟨hg7, t740, v_t741, t741, rfl, ht741, H⟩
              have gr7 := gr_trans gr6 hg7
              have k8 := k5.grown hg7
              have k9 := k6.grown hg7
              refine WL.y rfl (Yld.pure tab_ok rfl) ?_
              refine WL.y rfl (Yld.pure tab_ok rfl) ?_
              refine WL.y rfl (Yld.pure tab_ok rfl) ?_
              refine WL.y rfl (Yld.pure tab_ok rfl) ?_
              refine WL.y rfl (Yld.pure tab_ok rfl) ?_
              refine WL.nil (WX.then_normal ?_)
              refine WC.seq ?_
              refine WC.region ?_
              refine WL.y rfl (Yld.pure tab_ok rfl) ?_
              refine WL.call rfl rfl (W_tool_Do (hG.grown gr7) hS10 hS16 hS100 (Own.nil vs w7 w.heap.size 9).rd rfl (hinputs.grown gr7) rfl H) ?_
              rintro _ w8 ⟨hg8, t790, v_t791, t791, rfl, ht791, H⟩
              have gr8 := gr_trans gr7 hg8
              have k10 := k8.grown hg8
              have k11 := k9.grown hg8
              have k12 := ht741.grown hg8
              refine WL.y rfl (Yld.pure tab_ok rfl) ?_
              refine WL.y rfl (Yld.pure tab_ok rfl) ?_
              refine WL.y rfl (Yld.pure tab_ok rfl) ?_
              refine WL.y rfl (Yld.pure tab_ok rfl) ?_
              refine WL.y rfl (Yld.pure tab_ok rfl) ?_
              refine WL.nil (WX.then_normal ?_)
              refine WC.seq ?_
              refine WC.region ?_
              refine WL.y rfl (Yld.pure tab_ok rfl) ?_
              refine WL.call rfl rfl (W_tool_Do (hG.grown gr8) hS10 hS16 hS100 (Own.nil vs w8 w.heap.size 9).rd rfl (hinputs.grown gr8) rfl H) ?_
              rintro _ w9 ⟨hg9, t840, v_t841, t841, rfl, ht841, H⟩
              have gr9 := gr_trans gr8 hg9
              have k13 := k10.grown hg9
              have k14 := k11.grown hg9
              have k15 := k12.grown hg9
              have k16 := ht791.grown hg9
              refine WL.y rfl (Yld.pure tab_ok rfl) ?_
              refine WL.y rfl (Yld.pure tab_ok rfl) ?_
              refine WL.y rfl (Yld.pure tab_ok rfl) ?_
              refine WL.y rfl (Yld.pure tab_ok rfl) ?_
              refine WL.y rfl (Yld.pure tab_ok rfl) ?_
              refine WL.nil (WX.then_normal ?_)
              refine WC.seq ?_
              refine WC.region ?_
              refine WL.y rfl (Yld.pure tab_ok rfl) ?_
              refine WL.y rfl (Yld.pure tab_ok rfl) ?_
              refine WL.lit tab_ok rfl rfl rfl (all1c rfl (all1c rfl all1n)) rfl (by omega) (fun g4 w10 hB4 hg10 hl4 => ?_)
              have hO4 : Own vs w10 w.heap.size 9 (some ⟨g4, 0, none⟩) 2 ([t580, t580] : List (List UInt8)) := Own.ofBl hB4 (Nat.le_trans (size_le gr9) hl4) (by simp [maxLen]) rfl
              have gr10 := gr_trans gr9 hg10
              have k17 := k13.grown hg10
              have k18 := k14.grown hg10
              have k19 := k15.grown hg10
              have k20 := k16.grown hg10
              have k21 := ht841.grown hg10
              refine WL.call rfl rfl (W_tool_Do (hG.grown gr10) hS10 hS16 hS100 (Own.nil vs w10 w.heap.size 9).rd rfl hO4.rd rfl H) ?_
              rintro _ w11 ⟨hg11, t910, v_t911, t911, rfl, ht911, H⟩
              have gr11 := gr_trans gr10 hg11
              have k22 := k17.grown hg11
              have k23 := k18.grown hg11
              have k24 := k19.grown hg11
              have k25 := k20.grown hg11
              have k26 := k21.grown hg11
              refine WL.y rfl (Yld.pure tab_ok rfl) ?_
              refine WL.y rfl (Yld.pure tab_ok rfl) ?_
              refine WL.y rfl (Yld.pure tab_ok rfl) ?_
              refine WL.y rfl (Yld.pure tab_ok rfl) ?_
              refine WL.y rfl (Yld.pure tab_ok rfl) ?_
              refine WL.nil (WX.then_normal ?_)
              refine WC.seq ?_
              refine WC.seq ?_
              refine WC.region ?_
              refine WL.y rfl (Yld.pure tab_ok rfl) ?_
              refine WL.y rfl (Yld.errneq Tryd.underlying28 k22 rfl) ?_
              refine WL.y rfl (Yld.pure tab_ok rfl) ?_
              refine WL.midF 3 (fun L' w' => ∃ q4 : Bool, L' = [(99, .bool q4), (0, .slice A_inputs inputs.length c_inputs), (1, vs by_), (6, .int .i64 n), (8, vs t580), (10, vs t650), (12, vs t740), (13, v_t741), (14, vs t790), (15, v_t791), (16, vs t840), (17, v_t841), (18, vs t910), (19, v_t911)] ∧ q4 = ((!decide (t581 = Er.ok)) || (!decide (t651 = Er.ok))) ∧ w11 = w') ?_ (fun hQ => ?_)
              · rintro _ _ ⟨q4, rfl, rfl, rfl⟩
                refine WL.y rfl (Yld.pure tab_ok rfl) ?_
                refine WL.midF 3 (fun L' w' => ∃ q5 : Bool, L' = [(103, .bool q5), (0, .slice A_inputs inputs.length c_inputs), (1, vs by_), (6, .int .i64 n), (8, vs t580), (10, vs t650), (12, vs t740), (14, vs t790), (15, v_t791), (16, vs t840), (17, v_t841), (18, vs t910), (19, v_t911)] ∧ q5 = (((!decide (t581 = Er.ok)) || (!decide (t651 = Er.ok))) || (!decide (t741 = Er.ok))) ∧ w11 = w') ?_ (fun hQ => ?_)
                · rintro _ _ ⟨q5, rfl, rfl, rfl⟩
                  refine WL.y rfl (Yld.pure tab_ok rfl) ?_
                  refine WL.midF 3 (fun L' w' => ∃ q6 : Bool, L' = [(107, .bool q6), (0, .slice A_inputs inputs.length c_inputs), (1, vs by_), (6, .int .i64 n), (8, vs t580), (10, vs t650), (12, vs t740), (14, vs t790), (16, vs t840), (17, v_t841), (18, vs t910), (19, v_t911)] ∧ q6 = ((((!decide (t581 = Er.ok)) || (!decide (t651 = Er.ok))) || (!decide (t741 = Er.ok))) || (!decide (t791 = Er.ok))) ∧ w11 = w') ?_ (fun hQ => ?_)
                  · rintro _ _ ⟨q6, rfl, rfl, rfl⟩
                    refine WL.y rfl (Yld.pure tab_ok rfl) ?_
                    refine WL.midF 3 (fun L' w' => ∃ q7 : Bool, L' = [(111, .bool q7), (0, .slice A_inputs inputs.length c_inputs), (1, vs by_), (6, .int .i64 n), (8, vs t580), (10, vs t650), (12, vs t740), (14, vs t790), (16, vs t840), (18, vs t910), (19, v_t911)] ∧ q7 = (((((!decide (t581 = Er.ok)) || (!decide (t651 = Er.ok))) || (!decide (t741 = Er.ok))) || (!decide (t791 = Er.ok))) || (!decide (t841 = Er.ok))) ∧ w11 = w') ?_ (fun hQ => ?_)
                    · rintro _ _ ⟨q7, rfl, rfl, rfl⟩
                      refine WL.y rfl (Yld.pure tab_ok rfl) ?_
                      refine WL.midF 3 (fun L' w' => ∃ q8 : Bool, L' = [(115, .bool q8), (0, .slice A_inputs inputs.length c_inputs), (1, vs by_), (6, .int .i64 n), (8, vs t580), (10, vs t650), (12, vs t740), (14, vs t790), (16, vs t840), (18, vs t910)] ∧ q8 = ((((((!decide (t581 = Er.ok)) || (!decide (t651 = Er.ok))) || (!decide (t741 = Er.ok))) || (!decide (t791 = Er.ok))) || (!decide (t841 = Er.ok))) || (!decide (t911 = Er.ok))) ∧ w11 = w') ?_ (fun hQ => ?_)
                      · rintro _ _ ⟨q8, rfl, rfl, rfl⟩
                        refine WL.nil (WX.then_normal ?_)
                        refine WC.cond rfl (fun b4 => ?_) (fun b4 => ?_)
                        · replace H := H.1 (b4)
                          refine WC.seq ?_
                          refine WC.region ?_
                          refine WL.y rfl (Yld.pure tab_ok rfl) ?_
                          refine WL.nil (WX.then_normal ?_)
                          refine WC.ret (WX.then_ret ?_)
                          exact WX.ret1 rfl rfl ⟨gr11, false, rfl, H⟩
                        · replace H := H.2 (b4)
                          refine WC.skip (WX.then_normal ?_)
                          refine WC.seq ?_
                          refine WC.region ?_
                          refine WL.y rfl (Yld.pure tab_ok rfl) ?_
                          refine WL.y rfl (Yld.pure tab_ok rfl) ?_
                          obtain ⟨h4, H⟩ := H
                          refine WL.y rfl (Yld.sub rfl rfl h4) ?_
                          refine WL.y rfl (Yld.max2 rfl rfl) ?_
                          refine WL.y rfl (Yld.pure tab_ok rfl) ?_
                          refine WL.y rfl (Yld.pure tab_ok rfl) ?_
                          obtain ⟨h5, H⟩ := H
                          refine WL.y rfl (Yld.mul rfl rfl h5) ?_
                          refine WL.y rfl (Yld.pure tab_ok rfl) ?_
                          refine WL.nil (WX.then_normal ?_)
                          refine WC.seq ?_
                          refine WC.region ?_
                          refine WL.y rfl (Yld.pure tab_ok rfl) ?_
                          refine WL.call rfl rfl (W_tool_Lines (hG.grown gr11) hS100 H) ?_
                          rintro _ w12 ⟨hg12, l, A_l, c_l, rfl, hl, H⟩
                          have hb1 := hl.ge'
                          have k27 := hl.base (fun g hg => Nat.le_trans (size_le gr11) (hb1 g hg))
                          have gr12 := gr_trans gr11 hg12
                          refine WL.y rfl (Yld.pure tab_ok rfl) ?_
                          refine WL.nil (WX.then_normal ?_)
                          refine WC.seq ?_
                          refine WC.chainF (fun k => !(Nat.beq k 24)) (LD [38, 41, 47] (fun w' => Rd vs w' A_l c_l l)) mixed (by kernel_rfl) (fun k w' h _ => (rd_eqv h k27.rd)) ?_
                          refine WJ.y rfl rfl (fun w' hw' => Yld.pure tab_ok rfl) ?_
                          refine WJ.y rfl rfl (fun w' hw' => Yld.pure tab_ok rfl) ?_
                          refine WJ.y rfl rfl (fun w' hw' => Yld.pure tab_ok rfl) ?_
                          refine WJ.y rfl rfl (fun w' hw' => Yld.pure tab_ok rfl) ?_
                          refine WJ.y rfl rfl (fun w' hw' => Yld.pure tab_ok rfl) ?_
                          obtain ⟨h6, H⟩ := H
                          refine WJ.midF 7 (fun L' w' => ∃ q9 : Bool, L' = [(136, .bool q9), (0, .slice A_inputs inputs.length c_inputs), (8, vs t580), (10, vs t650), (12, vs t740), (14, vs t790), (16, vs t840), (21, .slice A_l l.length c_l)] ∧ q9 = ((decide ((t580.length : Int) = n)) && (decide ((t650.length : Int) = (n + ((if ((inputs.length : Int) - (1 : Int)) < (0 : Int) then (0 : Int) else (inputs.length : Int) - (1 : Int)) * (by_.length : Int)))))) ∧ w12 = w') ?_ (fun hQ => ?_)
                          · rintro _ _ ⟨q9, rfl, rfl, rfl⟩
                            refine WJ.y rfl rfl (fun w' hw' => Yld.pure tab_ok rfl) ?_
                            refine WJ.midF 4 (fun L' w' => ∃ q10 : Bool, L' = [(141, .bool q10), (0, .slice A_inputs inputs.length c_inputs), (8, vs t580), (14, vs t790), (16, vs t840), (21, .slice A_l l.length c_l)] ∧ q10 = (((decide ((t580.length : Int) = n)) && (decide ((t650.length : Int) = (n + ((if ((inputs.length : Int) - (1 : Int)) < (0 : Int) then (0 : Int) else (inputs.length : Int) - (1 : Int)) * (by_.length : Int)))))) && (decide (t740 = t650))) ∧ w12 = w') ?_ (fun hQ => ?_)
                            · rintro _ _ ⟨q10, rfl, rfl, rfl⟩
                              refine WJ.y rfl rfl (fun w' hw' => Yld.pure tab_ok rfl) ?_
                              refine WJ.midF 4 (fun L' w' => ∃ q11 : Bool, L' = [(146, .bool q11), (0, .slice A_inputs inputs.length c_inputs), (16, vs t840), (21, .slice A_l l.length c_l)] ∧ q11 = ((((decide ((t580.length : Int) = n)) && (decide ((t650.length : Int) = (n + ((if ((inputs.length : Int) - (1 : Int)) < (0 : Int) then (0 : Int) else (inputs.length : Int) - (1 : Int)) * (by_.length : Int)))))) && (decide (t740 = t650))) && (decide (t790 = t580))) ∧ w12 = w') ?_ (fun hQ => ?_)
                              · rintro _ _ ⟨q11, rfl, rfl, rfl⟩
                                refine WJ.y rfl rfl (fun w' hw' => Yld.pure tab_ok rfl) ?_
                                obtain ⟨J1, H, hJ1⟩ := H
                                refine WJ.midF 7 (fun L' w' => ∃ q12 : Bool, L' = [(154, .bool q12), (21, .slice A_l l.length c_l)] ∧ J1 q12 ∧ w.grownBy w' none ∧ Own vs w' w.heap.size 9 A_l c_l l) ?_ (fun hQ => ?_)
                                · clear H
                                  rintro _ w13 ⟨q12, rfl, H, gr13, k28⟩
                                  replace H := hJ1 q12 H
                                  refine WJ.y rfl rfl (fun w' hw' => Yld.pure tab_ok rfl) ?_
                                  refine WJ.midF 4 (fun L' w' => ∃ q13 : Bool, L' = [(159, .bool q13), (21, .slice A_l l.length c_l)] ∧ q13 = (q12 && (decide ((l.length : Int) = (2 : Int)))) ∧ w13 = w') ?_ (fun hQ => ?_)
                                  · rintro _ _ ⟨q13, rfl, rfl, rfl⟩
                                    refine WJ.y rfl rfl (fun w' hw' => Yld.pure tab_ok rfl) ?_
                                    obtain ⟨h7, H⟩ := H
                                    obtain ⟨h8, H⟩ := H
                                    refine WJ.midF 8 (fun L' w' => ∃ q14 : Bool, L' = [(168, .bool q14), (21, .slice A_l l.length c_l)] ∧ q14 = ((q12 && (decide ((l.length : Int) = (2 : Int)))) && (decide ((l.getD 0 []) = (l.getD 1 [])))) ∧ w13 = w') ?_ (fun hQ => ?_)
                                    · rintro _ _ ⟨q14, rfl, rfl, rfl⟩
                                      refine WJ.y rfl rfl (fun w' hw' => Yld.pure tab_ok rfl) ?_
                                      obtain ⟨h9, H⟩ := H
                                      refine WJ.midF 6 (fun L' w' => ∃ q15 : Bool, L' = [(175, .bool q15)] ∧ q15 = (((q12 && (decide ((l.length : Int) = (2 : Int)))) && (decide ((l.getD 0 []) = (l.getD 1 [])))) && (decide (((l.getD 0 []).length : Int) = (64 : Int)))) ∧ w13 = w') ?_ (fun hQ => ?_)
                                      · rintro _ _ ⟨q15, rfl, rfl, rfl⟩
                                        refine WJ.y rfl rfl (fun w' hw' => Yld.pure tab_ok rfl) ?_
                                        refine WJ.nil (WX.then_normal ?_)
                                        refine WC.ret ?_
                                        exact WX.ret1 rfl rfl ⟨gr13, ((q12 && (decide ((l.length : Int) = (2 : Int)))) && (decide ((l.getD 0 []) = (l.getD 1 [])))) && (decide (((l.getD 0 []).length : Int) = (64 : Int))), rfl, H⟩
                                      · clear H
                                        rcases Bool.eq_false_or_eq_true ((q12 && (decide ((l.length : Int) = (2 : Int)))) && (decide ((l.getD 0 []) = (l.getD 1 [])))) with b5 | b5
                                        · refine WJ.yw rfl (wants_some rfl rfl (okb b5)) rfl (fun w' hw' => Yld.pure tab_ok rfl) ?_
                                          refine WJ.yw rfl (wants_some rfl rfl (okb b5)) rfl (fun w' hw' => Yld.iaddrW tab_ok k28.rd rfl rfl rfl rfl (h9 b5).1 (h9 b5).2) ?_
                                          refine WJ.yw rfl (wants_some rfl rfl (okb b5)) rfl (fun w' hw' => Yld.iload [] tab_ok (hw' rfl) rfl rfl (iltN (h9 b5) rfl)) ?_
                                          refine WJ.yw rfl (wants_some rfl rfl (okb b5)) rfl (fun w' hw' => Yld.pure tab_ok rfl) ?_
                                          refine WJ.yw rfl (wants_some rfl rfl (okb b5)) rfl (fun w' hw' => Yld.pure tab_ok rfl) ?_
                                          refine WJ.y rfl rfl (fun w' hw' => Yld.pickT (okb b5) rfl) ?_
                                          exact WJ.weaken (by repeat (first | exact Sub.nil | refine Sub.cons rfl ?_)) (hQ _ _ ⟨decide (((l.getD 0 []).length : Int) = (64 : Int)), rfl, by rw [b5] <;> rfl, rfl⟩)
                                        · refine WJ.no rfl rfl (okb b5) rfl ?_
                                          refine WJ.no rfl rfl (okb b5) rfl ?_
                                          refine WJ.no rfl rfl (okb b5) rfl ?_
                                          refine WJ.no rfl rfl (okb b5) rfl ?_
                                          refine WJ.no rfl rfl (okb b5) rfl ?_
                                          refine WJ.y rfl rfl (fun w' hw' => Yld.pickF (okb b5) rfl) ?_
                                          exact WJ.weaken (by repeat (first | exact Sub.nil | refine Sub.cons rfl ?_)) (hQ _ _ ⟨false, rfl, by rw [b5] <;> rfl, rfl⟩)
                                    · clear H
                                      rcases Bool.eq_false_or_eq_true (q12 && (decide ((l.length : Int) = (2 : Int)))) with b6 | b6
                                      · refine WJ.yw rfl (wants_some rfl rfl (okb b6)) rfl (fun w' hw' => Yld.pure tab_ok rfl) ?_
                                        refine WJ.yw rfl (wants_some rfl rfl (okb b6)) rfl (fun w' hw' => Yld.iaddrW tab_ok k28.rd rfl rfl rfl rfl (h7 b6).1 (h7 b6).2) ?_
                                        refine WJ.yw rfl (wants_some rfl rfl (okb b6)) rfl (fun w' hw' => Yld.iload [] tab_ok (hw' rfl) rfl rfl (iltN (h7 b6) rfl)) ?_
                                        refine WJ.yw rfl (wants_some rfl rfl (okb b6)) rfl (fun w' hw' => Yld.pure tab_ok rfl) ?_
                                        refine WJ.yw rfl (wants_some rfl rfl (okb b6)) rfl (fun w' hw' => Yld.iaddrW tab_ok k28.rd rfl rfl rfl rfl (h8 b6).1 (h8 b6).2) ?_
                                        refine WJ.yw rfl (wants_some rfl rfl (okb b6)) rfl (fun w' hw' => Yld.iload [] tab_ok (hw' rfl) rfl rfl (iltN (h8 b6) rfl)) ?_
                                        refine WJ.yw rfl (wants_some rfl rfl (okb b6)) rfl (fun w' hw' => Yld.pure tab_ok rfl) ?_
                                        refine WJ.y rfl rfl (fun w' hw' => Yld.pickT (okb b6) rfl) ?_
                                        exact WJ.weaken (by repeat (first | exact Sub.nil | refine Sub.cons rfl ?_)) (hQ _ _ ⟨decide ((l.getD 0 []) = (l.getD 1 [])), rfl, by rw [b6] <;> rfl, rfl⟩)
                                      · refine WJ.no rfl rfl (okb b6) rfl ?_
                                        refine WJ.no rfl rfl (okb b6) rfl ?_
                                        refine WJ.no rfl rfl (okb b6) rfl ?_
                                        refine WJ.no rfl rfl (okb b6) rfl ?_
                                        refine WJ.no rfl rfl (okb b6) rfl ?_
                                        refine WJ.no rfl rfl (okb b6) rfl ?_
                                        refine WJ.no rfl rfl (okb b6) rfl ?_
                                        refine WJ.y rfl rfl (fun w' hw' => Yld.pickF (okb b6) rfl) ?_
                                        exact WJ.weaken (by repeat (first | exact Sub.nil | refine Sub.cons rfl ?_)) (hQ _ _ ⟨false, rfl, by rw [b6] <;> rfl, rfl⟩)
                                  · clear H
                                    rcases Bool.eq_false_or_eq_true (q12) with b7 | b7
                                    · refine WJ.yw rfl (wants_some rfl rfl (okb b7)) rfl (fun w' hw' => Yld.pure tab_ok rfl) ?_
                                      refine WJ.yw rfl (wants_some rfl rfl (okb b7)) rfl (fun w' hw' => Yld.pure tab_ok rfl) ?_
                                      refine WJ.yw rfl (wants_some rfl rfl (okb b7)) rfl (fun w' hw' => Yld.pure tab_ok rfl) ?_
                                      refine WJ.y rfl rfl (fun w' hw' => Yld.pickT (okb b7) rfl) ?_
                                      exact WJ.weaken (by repeat (first | exact Sub.nil | refine Sub.cons rfl ?_)) (hQ _ _ ⟨decide ((l.length : Int) = (2 : Int)), rfl, by rw [b7] <;> rfl, rfl⟩)
                                    · refine WJ.no rfl rfl (okb b7) rfl ?_
                                      refine WJ.no rfl rfl (okb b7) rfl ?_
                                      refine WJ.no rfl rfl (okb b7) rfl ?_
                                      refine WJ.y rfl rfl (fun w' hw' => Yld.pickF (okb b7) rfl) ?_
                                      exact WJ.weaken (by repeat (first | exact Sub.nil | refine Sub.cons rfl ?_)) (hQ _ _ ⟨false, rfl, by rw [b7] <;> rfl, rfl⟩)
                                · clear hJ1
                                  rcases Bool.eq_false_or_eq_true ((((decide ((t580.length : Int) = n)) && (decide ((t650.length : Int) = (n + ((if ((inputs.length : Int) - (1 : Int)) < (0 : Int) then (0 : Int) else (inputs.length : Int) - (1 : Int)) * (by_.length : Int)))))) && (decide (t740 = t650))) && (decide (t790 = t580))) with b8 | b8
                                  · replace H := H.1 b8
                                    refine WJ.yw rfl (wants_some rfl rfl (okb b8)) rfl (fun w' hw' => Yld.pure tab_ok rfl) ?_
                                    refine WJ.call rfl (wants_some rfl rfl (okb b8)) rfl rfl (W_tool_Lines (hG.grown gr12) hS100 H) (fun v w' h w2 e => DD.keep (Rd.grown k27.rd (gr_eqv h.1 e))) ?_
                                    rintro _ w14 ⟨hg13, t149, A_t149, c_t149, rfl, ht149, H⟩
                                    have hb2 := ht149.ge'
                                    have k29 := ht149.base (fun g hg => Nat.le_trans (size_le gr12) (hb2 g hg))
                                    have gr14 := gr_trans gr12 hg13
                                    have k30 := k27.grown hg13
                                    refine WJ.yw rfl (wants_some rfl rfl (okb b8)) rfl (fun w' hw' => Yld.pure tab_ok rfl) ?_
                                    refine WJ.yw rfl (wants_some rfl rfl (okb b8)) rfl (fun w' hw' => Yld.pure tab_ok rfl) ?_
                                    refine WJ.yw rfl (wants_some rfl rfl (okb b8)) rfl (fun w' hw' => Yld.pure tab_ok rfl) ?_
                                    refine WJ.yw rfl (wants_some rfl rfl (okb b8)) rfl (fun w' hw' => Yld.pure tab_ok rfl) ?_
                                    refine WJ.y rfl rfl (fun w' hw' => Yld.pickT (okb b8) rfl) ?_
                                    exact WJ.weaken (by repeat (first | exact Sub.nil | refine Sub.cons rfl ?_)) (hQ _ _ ⟨decide ((t149.length : Int) = (inputs.length : Int)), rfl, H, gr14, k30⟩)
                                  · replace H := H.2 b8
                                    refine WJ.no rfl rfl (okb b8) rfl ?_
                                    refine WJ.no rfl rfl (okb b8) rfl ?_
                                    refine WJ.no rfl rfl (okb b8) rfl ?_
                                    refine WJ.no rfl rfl (okb b8) rfl ?_
                                    refine WJ.no rfl rfl (okb b8) rfl ?_
                                    refine WJ.no rfl rfl (okb b8) rfl ?_
                                    refine WJ.y rfl rfl (fun w' hw' => Yld.pickF (okb b8) rfl) ?_
                                    exact WJ.weaken (by repeat (first | exact Sub.nil | refine Sub.cons rfl ?_)) (hQ _ _ ⟨false, rfl, H, gr12, k27⟩)
                              · clear H
                                rcases Bool.eq_false_or_eq_true (((decide ((t580.length : Int) = n)) && (decide ((t650.length : Int) = (n + ((if ((inputs.length : Int) - (1 : Int)) < (0 : Int) then (0 : Int) else (inputs.length : Int) - (1 : Int)) * (by_.length : Int)))))) && (decide (t740 = t650))) with b9 | b9
                                · refine WJ.yw rfl (wants_some rfl rfl (okb b9)) rfl (fun w' hw' => Yld.pure tab_ok rfl) ?_
                                  refine WJ.yw rfl (wants_some rfl rfl (okb b9)) rfl (fun w' hw' => Yld.pure tab_ok rfl) ?_
                                  refine WJ.yw rfl (wants_some rfl rfl (okb b9)) rfl (fun w' hw' => Yld.pure tab_ok rfl) ?_
                                  refine WJ.y rfl rfl (fun w' hw' => Yld.pickT (okb b9) rfl) ?_
                                  exact WJ.weaken (by repeat (first | exact Sub.nil | refine Sub.cons rfl ?_)) (hQ _ _ ⟨decide (t790 = t580), rfl, by rw [b9] <;> rfl, rfl⟩)
                                · refine WJ.no rfl rfl (okb b9) rfl ?_
                                  refine WJ.no rfl rfl (okb b9) rfl ?_
                                  refine WJ.no rfl rfl (okb b9) rfl ?_
                                  refine WJ.y rfl rfl (fun w' hw' => Yld.pickF (okb b9) rfl) ?_
                                  exact WJ.weaken (by repeat (first | exact Sub.nil | refine Sub.cons rfl ?_)) (hQ _ _ ⟨false, rfl, by rw [b9] <;> rfl, rfl⟩)
                            · clear H
                              rcases Bool.eq_false_or_eq_true ((decide ((t580.length : Int) = n)) && (decide ((t650.length : Int) = (n + ((if ((inputs.length : Int) - (1 : Int)) < (0 : Int) then (0 : Int) else (inputs.length : Int) - (1 : Int)) * (by_.length : Int)))))) with b10 | b10
                              · refine WJ.yw rfl (wants_some rfl rfl (okb b10)) rfl (fun w' hw' => Yld.pure tab_ok rfl) ?_
                                refine WJ.yw rfl (wants_some rfl rfl (okb b10)) rfl (fun w' hw' => Yld.pure tab_ok rfl) ?_
                                refine WJ.yw rfl (wants_some rfl rfl (okb b10)) rfl (fun w' hw' => Yld.pure tab_ok rfl) ?_
                                refine WJ.y rfl rfl (fun w' hw' => Yld.pickT (okb b10) rfl) ?_
                                exact WJ.weaken (by repeat (first | exact Sub.nil | refine Sub.cons rfl ?_)) (hQ _ _ ⟨decide (t740 = t650), rfl, by rw [b10] <;> rfl, rfl⟩)
                              · refine WJ.no rfl rfl (okb b10) rfl ?_
                                refine WJ.no rfl rfl (okb b10) rfl ?_
                                refine WJ.no rfl rfl (okb b10) rfl ?_
                                refine WJ.y rfl rfl (fun w' hw' => Yld.pickF (okb b10) rfl) ?_
                                exact WJ.weaken (by repeat (first | exact Sub.nil | refine Sub.cons rfl ?_)) (hQ _ _ ⟨false, rfl, by rw [b10] <;> rfl, rfl⟩)
                          · clear H
                            rcases Bool.eq_false_or_eq_true (decide ((t580.length : Int) = n)) with b11 | b11
                            · refine WJ.yw rfl (wants_some rfl rfl (okb b11)) rfl (fun w' hw' => Yld.pure tab_ok rfl) ?_
                              refine WJ.yw rfl (wants_some rfl rfl (okb b11)) rfl (fun w' hw' => Yld.pure tab_ok rfl) ?_
                              refine WJ.yw rfl (wants_some rfl rfl (okb b11)) rfl (fun w' hw' => Yld.pure tab_ok rfl) ?_
                              refine WJ.yw rfl (wants_some rfl rfl (okb b11)) rfl (fun w' hw' => Yld.pure tab_ok rfl) ?_
                              refine WJ.yw rfl (wants_some rfl rfl (okb b11)) rfl (fun w' hw' => Yld.add rfl rfl (h6 b11)) ?_
                              refine WJ.yw rfl (wants_some rfl rfl (okb b11)) rfl (fun w' hw' => Yld.pure tab_ok rfl) ?_
                              refine WJ.y rfl rfl (fun w' hw' => Yld.pickT (okb b11) rfl) ?_
                              exact WJ.weaken (by repeat (first | exact Sub.nil | refine Sub.cons rfl ?_)) (hQ _ _ ⟨decide ((t650.length : Int) = (n + ((if ((inputs.length : Int) - (1 : Int)) < (0 : Int) then (0 : Int) else (inputs.length : Int) - (1 : Int)) * (by_.length : Int)))), rfl, by rw [b11] <;> rfl, rfl⟩)
                            · refine WJ.no rfl rfl (okb b11) rfl ?_
                              refine WJ.no rfl rfl (okb b11) rfl ?_
                              refine WJ.no rfl rfl (okb b11) rfl ?_
                              refine WJ.no rfl rfl (okb b11) rfl ?_
                              refine WJ.no rfl rfl (okb b11) rfl ?_
                              refine WJ.no rfl rfl (okb b11) rfl ?_
                              refine WJ.y rfl rfl (fun w' hw' => Yld.pickF (okb b11) rfl) ?_
                              exact WJ.weaken (by repeat (first | exact Sub.nil | refine Sub.cons rfl ?_)) (hQ _ _ ⟨false, rfl, by rw [b11] <;> rfl, rfl⟩)
                      · clear H
                        rcases Bool.eq_false_or_eq_true (((((!decide (t581 = Er.ok)) || (!decide (t651 = Er.ok))) || (!decide (t741 = Er.ok))) || (!decide (t791 = Er.ok))) || (!decide (t841 = Er.ok))) with b12 | b12
                        · refine WL.gno rfl rfl (okb b12) rfl ?_
                          refine WL.gno rfl rfl (okb b12) rfl ?_
                          refine WL.y rfl (Yld.pickT (okb b12) rfl) ?_
                          exact WL.weaken (by repeat (first | exact Sub.nil | refine Sub.cons rfl ?_)) (hQ _ _ ⟨true, rfl, by rw [b12] <;> rfl, rfl⟩)
                        · refine WL.gyes rfl rfl (okb b12) rfl (Yld.pure tab_ok rfl) ?_
                          refine WL.gyes rfl rfl (okb b12) rfl (Yld.errneq Tryd.underlying28 ht911 rfl) ?_
                          refine WL.y rfl (Yld.pickF (okb b12) rfl) ?_
                          exact WL.weaken (by repeat (first | exact Sub.nil | refine Sub.cons rfl ?_)) (hQ _ _ ⟨!decide (t911 = Er.ok), rfl, by rw [b12] <;> rfl, rfl⟩)
                    · clear H
                      rcases Bool.eq_false_or_eq_true ((((!decide (t581 = Er.ok)) || (!decide (t651 = Er.ok))) || (!decide (t741 = Er.ok))) || (!decide (t791 = Er.ok))) with b13 | b13
                      · refine WL.gno rfl rfl (okb b13) rfl ?_
                        refine WL.gno rfl rfl (okb b13) rfl ?_
                        refine WL.y rfl (Yld.pickT (okb b13) rfl) ?_
                        exact WL.weaken (by repeat (first | exact Sub.nil | refine Sub.cons rfl ?_)) (hQ _ _ ⟨true, rfl, by rw [b13] <;> rfl, rfl⟩)
                      · refine WL.gyes rfl rfl (okb b13) rfl (Yld.pure tab_ok rfl) ?_
                        refine WL.gyes rfl rfl (okb b13) rfl (Yld.errneq Tryd.underlying28 k26 rfl) ?_
                        refine WL.y rfl (Yld.pickF (okb b13) rfl) ?_
                        exact WL.weaken (by repeat (first | exact Sub.nil | refine Sub.cons rfl ?_)) (hQ _ _ ⟨!decide (t841 = Er.ok), rfl, by rw [b13] <;> rfl, rfl⟩)
                  · clear H
                    rcases Bool.eq_false_or_eq_true (((!decide (t581 = Er.ok)) || (!decide (t651 = Er.ok))) || (!decide (t741 = Er.ok))) with b14 | b14
                    · refine WL.gno rfl rfl (okb b14) rfl ?_
                      refine WL.gno rfl rfl (okb b14) rfl ?_
                      refine WL.y rfl (Yld.pickT (okb b14) rfl) ?_
                      exact WL.weaken (by repeat (first | exact Sub.nil | refine Sub.cons rfl ?_)) (hQ _ _ ⟨true, rfl, by rw [b14] <;> rfl, rfl⟩)
                    · refine WL.gyes rfl rfl (okb b14) rfl (Yld.pure tab_ok rfl) ?_
                      refine WL.gyes rfl rfl (okb b14) rfl (Yld.errneq Tryd.underlying28 k25 rfl) ?_
                      refine WL.y rfl (Yld.pickF (okb b14) rfl) ?_
                      exact WL.weaken (by repeat (first | exact Sub.nil | refine Sub.cons rfl ?_)) (hQ _ _ ⟨!decide (t791 = Er.ok), rfl, by rw [b14] <;> rfl, rfl⟩)
                · clear H
                  rcases Bool.eq_false_or_eq_true ((!decide (t581 = Er.ok)) || (!decide (t651 = Er.ok))) with b15 | b15
                  · refine WL.gno rfl rfl (okb b15) rfl ?_
                    refine WL.gno rfl rfl (okb b15) rfl ?_
                    refine WL.y rfl (Yld.pickT (okb b15) rfl) ?_
                    exact WL.weaken (by repeat (first | exact Sub.nil | refine Sub.cons rfl ?_)) (hQ _ _ ⟨true, rfl, by rw [b15] <;> rfl, rfl⟩)
                  · refine WL.gyes rfl rfl (okb b15) rfl (Yld.pure tab_ok rfl) ?_
                    refine WL.gyes rfl rfl (okb b15) rfl (Yld.errneq Tryd.underlying28 k24 rfl) ?_
                    refine WL.y rfl (Yld.pickF (okb b15) rfl) ?_
                    exact WL.weaken (by repeat (first | exact Sub.nil | refine Sub.cons rfl ?_)) (hQ _ _ ⟨!decide (t741 = Er.ok), rfl, by rw [b15] <;> rfl, rfl⟩)
              · clear H
                rcases Bool.eq_false_or_eq_true (!decide (t581 = Er.ok)) with b16 | b16
                · refine WL.gno rfl rfl (okb b16) rfl ?_
                  refine WL.gno rfl rfl (okb b16) rfl ?_
                  refine WL.y rfl (Yld.pickT (okb b16) rfl) ?_
                  exact WL.weaken (by repeat (first | exact Sub.nil | refine Sub.cons rfl ?_)) (hQ _ _ ⟨true, rfl, by rw [b16] <;> rfl, rfl⟩)
                · refine WL.gyes rfl rfl (okb b16) rfl (Yld.pure tab_ok rfl) ?_
                  refine WL.gyes rfl rfl (okb b16) rfl (Yld.errneq Tryd.underlying28 k23 rfl) ?_
                  refine WL.y rfl (Yld.pickF (okb b16) rfl) ?_
                  exact WL.weaken (by repeat (first | exact Sub.nil | refine Sub.cons rfl ?_)) (hQ _ _ ⟨!decide (t651 = Er.ok), rfl, by rw [b16] <;> rfl, rfl⟩)
        · clear H
          rcases Bool.eq_false_or_eq_true (((!t26) || (decide ((by_.length : Int) = (0 : Int)))) || (decide ((20 : Int) < (by_.length : Int)))) with b17 | b17
          · refine WL.gno rfl rfl (okb b17) rfl ?_
            refine WL.gno rfl rfl (okb b17) rfl ?_
            refine WL.y rfl (Yld.pickT (okb b17) rfl) ?_
            exact WL.weaken (by repeat (first | exact Sub.nil | refine Sub.cons rfl ?_)) (hQ _ _ ⟨true, rfl, by rw [b17] <;> rfl, rfl⟩)
          · refine WL.gyes rfl rfl (okb b17) rfl (Yld.pure tab_ok rfl) ?_
            refine WL.gyes rfl rfl (okb b17) rfl (Yld.pure tab_ok rfl) ?_
            refine WL.y rfl (Yld.pickF (okb b17) rfl) ?_
            exact WL.weaken (by repeat (first | exact Sub.nil | refine Sub.cons rfl ?_)) (hQ _ _ ⟨!ok, rfl, by rw [b17] <;> rfl, rfl⟩)
      · clear H
        rcases Bool.eq_false_or_eq_true ((!t26) || (decide ((by_.length : Int) = (0 : Int)))) with b18 | b18
        · refine WL.gno rfl rfl (okb b18) rfl ?_
          refine WL.gno rfl rfl (okb b18) rfl ?_
          refine WL.gno rfl rfl (okb b18) rfl ?_
          refine WL.y rfl (Yld.pickT (okb b18) rfl) ?_
          exact WL.weaken (by repeat (first | exact Sub.nil | refine Sub.cons rfl ?_)) (hQ _ _ ⟨true, rfl, by rw [b18] <;> rfl, rfl⟩)
        · refine WL.gyes rfl rfl (okb b18) rfl (Yld.pure tab_ok rfl) ?_
          refine WL.gyes rfl rfl (okb b18) rfl (Yld.pure tab_ok rfl) ?_
          refine WL.gyes rfl rfl (okb b18) rfl (Yld.pure tab_ok rfl) ?_
          refine WL.y rfl (Yld.pickF (okb b18) rfl) ?_
          exact WL.weaken (by repeat (first | exact Sub.nil | refine Sub.cons rfl ?_)) (hQ _ _ ⟨decide ((20 : Int) < (by_.length : Int)), rfl, by rw [b18] <;> rfl, rfl⟩)
    · clear H
      rcases Bool.eq_false_or_eq_true (!t26) with b19 | b19
      · refine WL.gno rfl rfl (okb b19) rfl ?_
        refine WL.gno rfl rfl (okb b19) rfl ?_
        refine WL.gno rfl rfl (okb b19) rfl ?_
        refine WL.y rfl (Yld.pickT (okb b19) rfl) ?_
        exact WL.weaken (by repeat (first | exact Sub.nil | refine Sub.cons rfl ?_)) (hQ _ _ ⟨true, rfl, by rw [b19] <;> rfl, rfl⟩)
      · refine WL.gyes rfl rfl (okb b19) rfl (Yld.pure tab_ok rfl) ?_
        refine WL.gyes rfl rfl (okb b19) rfl (Yld.pure tab_ok rfl) ?_
        refine WL.gyes rfl rfl (okb b19) rfl (Yld.pure tab_ok rfl) ?_
        refine WL.y rfl (Yld.pickF (okb b19) rfl) ?_
        exact WL.weaken (by repeat (first | exact Sub.nil | refine Sub.cons rfl ?_)) (hQ _ _ ⟨decide ((by_.length : Int) = (0 : Int)), rfl, by rw [b19] <;> rfl, rfl⟩)

end Go.Proofs.YtilphcippnfklaaDoor
 /- smithysee.Is, plainly. -/
namespace Go.Proofs.YtilphcippnfklaaDoor
open Go Go.RowKit
def isB : Er → Int → Bool
  | .ok, c => decide (0 = c)
  | .e n, c => decide (101 + (n : Int) = c)
  | .at_ _ _, _ => false
theorem is_M {e : Er} {code : Int} {K : Bool → Prop} (h : K (isB e code)) : M_smithysee_Is e code K := by
  unfold M_smithysee_Is M_smithyref_Bare M_smithysee_Same M_smithysee_Fault M_smithyref_None M_smithyref_SameFault M_smithysee_placed M_smithysee_sentinel M_smithyref_Bare M_smithyref_Placed M_smithyref_None
  cases e with
  | ok => refine ⟨fun _ => ?_, fun h2 => absurd rfl h2⟩; exact (congrArg K (show isB .ok code = _ by simp [isB])).mp h
  | e n => refine ⟨fun h2 => (by cases h2), fun _ => ⟨fun p m h2 => (by cases h2), fun _ => ?_⟩⟩; exact (congrArg K (show isB (.e n) code = _ by rw [Bool.eq_iff_iff]; simp [isB, sentV]; exact decide_eq_true_iff.symm)).mp h
  | at_ p n =>
    refine ⟨fun h2 => (by cases h2), fun _ => ⟨fun p' m h2 => ?_, fun h2 => absurd rfl (h2 p n)⟩⟩
    cases h2
    refine ⟨fun h2 => (by simp at h2), fun _ => ⟨fun h2 => (by simp only [sentV] at h2; omega), fun _ => ?_⟩⟩
    exact (congrArg K (show isB (.at_ p n) code = _ by simp [isB])).mp h
end Go.Proofs.YtilphcippnfklaaDoor

 /- ToolFails, plainly. -/
namespace Go.Proofs.YtilphcippnfklaaDoor
open Go Go.RowKit
theorem vtexts_B {l : List (List UInt8)} {most long : Int} {K : Bool → Prop} (hl : most ≤ 1000000) (h : ∀ t : Bool, (t = true → (l.length : Int) ≤ most ∧ ∀ x ∈ l, (x.length : Int) ≤ long) → K t) : M_smithyworld_Texts l most long K := by
  intro _
  refine ⟨fun _ => h false (fun e => by cases e), fun hm => ⟨fun i => 0 ≤ i ∧ i ≤ l.length ∧ ∀ j, j < i.toNat → ((l.getD j []).length : Int) ≤ long, fun i => l.length - i.toNat, ⟨by omega, by omega, by intro j hj; simp at hj⟩, fun i ⟨a0, a1, a2⟩ => ⟨fun hlt => ⟨by omega, fun _ => h false (fun e => by cases e), fun hle => ⟨by simp only [In]; omega, ⟨by omega, by omega, fun j hj => ?_⟩, by dsimp only; omega⟩⟩, fun hge => h true fun _ => ⟨by omega, fun x hx => ?_⟩⟩⟩⟩
  · by_cases e : j = i.toNat
    · rw [e]; omega
    · exact a2 j (by omega)
  · obtain ⟨j, hj, rfl⟩ := List.getElem_of_mem hx
    have := a2 j (by omega)
    simpa [List.getD, hj] using this
theorem tfirst_M {K : Bool → Prop} (h : K true) : M_smithylaw23_first K := by
  have e1 : doP 4 [] [([98, 10, 97, 10] : List UInt8)] = ([97, 10, 98, 10], .ok) := by
    have hs : sortB ([[98], [97]] : List (List UInt8)) = [[97], [98]] := (sortB_of (by simp; decide) (List.Perm.swap _ _ _)).symm
    have hl : linesA [([98, 10, 97, 10] : List UInt8)] = [[98], [97]] := by decide
    have hp : listP 4 [] [([98, 10, 97, 10] : List UInt8)] = ([[97], [98]], true) := by
      unfold listP sortR sortOk
      rw [hl, hs]
      rfl
    unfold doP
    rw [hp]
    rfl
  have e2 : doP 3 [[97], [98]] [([97, 97] : List UInt8)] = ([98, 98], .ok) := by decide +kernel
  refine do_M (by simp) (by simp) (by simp) (do_M (by simp) (by simp) (by simp) ?_)
  rw [e1, e2]
  simpa using h
theorem bytesLess_lt (a b : Bs) : Op.bytesLess a b = decide (a < b) := bytesLess_eq a b
theorem sortedTexts_M {l : List (List UInt8)} {K : List (List UInt8) → Prop} (hl : l.length ≤ 1000000) (h : K (sortU l)) : M_smithyref_SortedTexts l K := by
  intro _
  refine ⟨fun out i => 0 ≤ i ∧ i ≤ l.length ∧ Strict out ∧ (∀ x, x ∈ out ↔ x ∈ l.take i.toNat) ∧ out.length ≤ i.toNat, fun _ i => l.length - i.toNat, ⟨by omega, by omega, List.Pairwise.nil, by simp, by simp⟩, fun out i ⟨a0, a1, a2, a3, a4⟩ => ⟨fun hlt => ?_, fun hge => ?_⟩⟩
  · generalize hx : l.getD i.toNat [] = x
    have htk : ∀ y, y ∈ l.take (i + 1).toNat ↔ y ∈ l.take i.toNat ∨ y = x := fun y => by
      rw [show (i + 1).toNat = i.toNat + 1 by omega, List.take_succ_eq_append_getElem (by omega), List.mem_append, List.mem_singleton, ← hx]
      simp [List.getD, show i.toNat < l.length by omega]
    refine ⟨fun o => Strict o ∧ (∀ y, y ∈ o ↔ y ∈ l.take (i + 1).toNat) ∧ o.length ≤ i.toNat + 1, ?_, fun o ⟨h1, h2, h3⟩ => ⟨by simp only [In]; omega, ⟨by omega, by omega, h1, h2, by omega⟩, by (try dsimp only); omega⟩⟩
    refine ⟨fun k => 0 ≤ k ∧ k ≤ out.length ∧ ∀ j, j < k.toNat → out.getD j [] < x, fun k => out.length - k.toNat, ⟨by omega, by omega, by intro j hj; simp at hj⟩, fun k ⟨b0, b1, b2⟩ => ⟨fun hd => ?_, fun hd => ?_, fun hc => ?_, fun hc => ⟨fun hd => ?_, fun hd => ?_, fun he => ?_, fun he => ?_⟩⟩⟩
    · simp only [decide_eq_true_eq] at hd; omega
    · omega
    · rw [Bool.and_eq_true, bytesLess_lt, decide_eq_true_eq, decide_eq_true_eq] at hc
      refine ⟨by simp only [In]; omega, ⟨by omega, by omega, fun j hj => ?_⟩, by (try dsimp only); omega⟩
      by_cases e : j = k.toNat
      · rw [e]; exact hc.2
      · exact b2 j (by omega)
    · simp only [decide_eq_true_eq] at hd; omega
    · omega
    · rw [Bool.and_eq_true, decide_eq_true_eq, decide_eq_true_eq] at he
      refine ⟨a2, fun y => ?_, by omega⟩
      rw [htk, a3]
      refine ⟨.inl, fun h => h.elim id fun h => ?_⟩
      rw [h, ← a3, ← he.2]
      exact getD_mem (by omega)
    · have hlen : (out.take k.toNat).length = k.toNat := by simp; omega
      refine ⟨by simp only [In]; omega, by omega, by omega, ?_, by omega, ?_, by omega, ?_, ?_⟩
      · simp only [List.length_nil, hlen]; omega
      · simp only [List.nil_append, List.length_cons, List.length_nil, hlen]; omega
      · simp only [List.nil_append, List.length_append, List.length_cons, List.length_nil, List.length_drop, hlen]; omega
      · rw [List.nil_append, List.append_assoc]
        refine ⟨strict_insert a2 (by omega) b2 fun hk => ?_, fun y => ?_, ?_⟩
        · have hk' : k < out.length := by omega
          rw [bytesLess_lt, decide_eq_true hk', Bool.true_and, decide_eq_false_iff_not] at hc
          rw [decide_eq_true hk', Bool.true_and, decide_eq_false_iff_not] at he
          rcases bs_lt_or (out.getD k.toNat []) x with h1 | h1 | h1
          · exact absurd h1 hc
          · exact absurd h1 he
          · exact h1
        · rw [htk, ← a3, List.mem_append, List.mem_append, List.mem_singleton]
          conv => rhs; lhs; rw [← List.take_append_drop k.toNat out, List.mem_append]
          constructor
          · rintro (h | h | h)
            · exact .inl (.inl h)
            · exact .inr h
            · exact .inl (.inr h)
          · rintro ((h | h) | h)
            · exact .inl h
            · exact .inr (.inr h)
            · exact .inr (.inl h)
        · simp only [List.length_append, List.length_cons, List.length_nil, List.length_drop, hlen]; omega
  · have e : i.toNat = l.length := by omega
    rw [e, List.take_length] at a3
    rw [sortU_of a2 a3]
    exact h
def evB : List (List UInt8) → Bool
  | a :: _ :: r => !decide (a = []) && evB r
  | [a] => !decide (a = [])
  | [] => true
theorem evB_drop {l : List (List UInt8)} {i : Nat} (h : i < l.length) : evB (l.drop i) = (!decide (l.getD i [] = []) && evB (l.drop (i + 2))) := by
  have e : l.getD i [] = l[i] := by simp [List.getD, h]
  rw [List.drop_eq_getElem_cons h, e]
  rcases Nat.lt_or_ge (i + 1) l.length with h2 | h2
  · rw [List.drop_eq_getElem_cons h2]; rfl
  · rw [List.drop_eq_nil_of_le (by omega), List.drop_eq_nil_of_le (by omega)]
    show _ = (_ && true)
    rw [Bool.and_true]; rfl
def allB (l : List (List UInt8)) : Bool := l.all fun x => decide (x = wRev) || decide (x = wUni)
theorem allB_drop {l : List (List UInt8)} {i : Nat} (h : i < l.length) : allB (l.drop i) = ((decide (l.getD i [] = wRev) || decide (l.getD i [] = wUni)) && allB (l.drop (i + 1))) := by
  have e : l.getD i [] = l[i] := by simp [List.getD, h]
  rw [List.drop_eq_getElem_cons h, e]
  rfl
theorem filt_is (args : List (List UInt8)) : (decide ((args.length : Int) = 1) || (decide ((args.length : Int) = 2) && decide (args.getD 1 [] = wNot))) = filtOk args := by
  unfold filtOk
  by_cases l1 : (args.length : Int) = 1
  · rw [decide_eq_true l1, decide_eq_false (show ¬ (args.length : Int) < 1 by omega), decide_eq_false (show ¬ (2 : Int) < args.length by omega), decide_eq_false (show ¬ (args.length : Int) = 2 by omega)]; rfl
  · rw [decide_eq_false l1]
    by_cases l2 : (args.length : Int) = 2
    · rw [decide_eq_true l2, decide_eq_false (show ¬ (args.length : Int) < 1 by omega), decide_eq_false (show ¬ (2 : Int) < args.length by omega)]; simp
    · rw [decide_eq_false l2]
      by_cases l3 : (args.length : Int) < 1
      · rw [decide_eq_true l3]; rfl
      · rw [decide_eq_true (show (2 : Int) < args.length by omega)]; simp
theorem sort_is (args : List (List UInt8)) : ((decide ((args.length : Int) ≤ 2) && decide (((sortU args).length : Int) = (args.length : Int))) && allB args) = sortOk args := by
  have hne : wRev ≠ wUni := by decide
  have hc : ∀ x : List UInt8, x = wRev ∨ x = wUni ∨ (x ≠ wRev ∧ x ≠ wUni ∧ wRev ≠ x ∧ wUni ≠ x) := fun x => by
    by_cases h1 : x = wRev
    · exact .inl h1
    · by_cases h2 : x = wUni
      · exact .inr (.inl h2)
      · exact .inr (.inr ⟨h1, h2, Ne.symm h1, Ne.symm h2⟩)
  match args with
  | [] =>
    have hs : ([] : List (List UInt8)) = sortU [] := sortU_of List.Pairwise.nil (fun _ => Iff.rfl)
    rw [← hs]
    decide
  | [x] =>
    have hs : (sortU [x]).length = 1 := by
      have : [x] = sortU [x] := sortU_of (List.pairwise_singleton _ _) (fun _ => Iff.rfl)
      rw [← this]; rfl
    rcases hc x with rfl | rfl | ⟨h1, h2, _, _⟩
    · unfold sortOk allB; rw [hs]; decide
    · unfold sortOk allB; rw [hs]; decide
    · unfold sortOk allB; rw [hs]; simp [h1, h2, Ne.symm h1, Ne.symm h2]
  | [x, y] =>
    have hs : ((sortU [x, y]).length : Int) = 2 ↔ x ≠ y := by
      constructor
      · rintro h rfl
        have : [x] = sortU [x, x] := sortU_of (List.pairwise_singleton _ _) (fun z => by simp)
        rw [← this] at h
        simp at h
      · intro h
        rcases bs_lt_or x y with h1 | h1 | h1
        · have : [x, y] = sortU [x, y] := sortU_of (by simp [Strict, h1]) (fun _ => Iff.rfl)
          rw [← this]; rfl
        · exact absurd h1 h
        · have : [y, x] = sortU [x, y] := sortU_of (by simp [Strict, h1]) (fun z => by simp [or_comm])
          rw [← this]; rfl
    have hd : decide (((sortU [x, y]).length : Int) = (([x, y] : List (List UInt8)).length : Int)) = !decide (x = y) := by
      rw [Bool.eq_iff_iff, decide_eq_true_eq]
      simpa using hs
    rw [hd]
    unfold sortOk allB
    rcases hc x with rfl | rfl | ⟨h1, h2, h1', h2'⟩ <;> rcases hc y with rfl | rfl | ⟨h3, h4, h3', h4'⟩
    all_goals first | decide | simp [*, Ne.symm hne]
  | x :: y :: z :: l =>
    have h1 : decide ((((x :: y :: z :: l).length : Nat) : Int) ≤ 2) = false := decide_eq_false (by simp only [List.length_cons]; omega)
    rw [h1, Bool.false_and, Bool.false_and]
    unfold sortOk
    refine (decide_eq_false ?_).symm
    simp only [List.length_cons]
    split <;> split <;> omega
theorem subP_spec : ∀ (k : Nat) (args : List (List UInt8)) (s : List UInt8), args.length = 2 * k → (∀ x ∈ args, x.length ≤ 20) → s.length * 20 ^ k ≤ 65536 → (subP args s).2 = if evB args = true then .ok else .e 16 := by
  intro k
  induction k with
  | zero =>
    intro args s hl _ _
    obtain rfl : args = [] := List.eq_nil_of_length_eq_zero (by omega)
    rfl
  | succ k ih =>
    intro args s hl hx hs
    match args, hl, hx with
    | a :: b :: r, hl, hx =>
      have hb := hx b (by simp)
      rw [subP_cons]
      by_cases ha : a = []
      · rw [if_pos ha, show evB (a :: b :: r) = (!decide (a = []) && evB r) from rfl, decide_eq_true ha]; rfl
      · have hal : 1 ≤ a.length := List.length_pos_iff.2 ha
        have hc : Lib.count s a * a.length ≤ s.length := Lib.countB_mul_le ⟨⟨a⟩⟩ hal s.length ⟨⟨s⟩⟩ (Nat.le_refl _)
        have hc1 : Lib.count s a * 1 ≤ Lib.count s a * a.length := Nat.mul_le_mul_left _ hal
        have hp : s.length * 20 ^ (k + 1) = (s.length * 20) * 20 ^ k := by rw [Nat.pow_succ]; grind
        have h20 : s.length * 20 * 1 ≤ (s.length * 20) * 20 ^ k := Nat.mul_le_mul_left _ (Nat.one_le_pow _ _ (by omega))
        have hlen := replAll_len s a b ha
        have hcb : Lib.count s a * b.length ≤ Lib.count s a * 20 := Nat.mul_le_mul_left _ hb
        have hno : ¬ ((0 : Int) < (b.length : Int) - (a.length : Int) ∧ (65536 - (s.length : Int)) / ((b.length : Int) - (a.length : Int)) < (Lib.count s a : Int)) := by
          rintro ⟨q1, q2⟩
          have h5 := Int.lt_mul_of_ediv_lt q1 q2
          have h6 : ((Lib.count s a * b.length : Nat) : Int) = (Lib.count s a : Int) * (b.length : Int) := Int.natCast_mul _ _
          have h7 : ((Lib.count s a * a.length : Nat) : Int) = (Lib.count s a : Int) * (a.length : Int) := Int.natCast_mul _ _
          rw [Int.mul_sub] at h5
          omega
        rw [if_neg ha, if_neg hno, show evB (a :: b :: r) = (!decide (a = []) && evB r) from rfl, decide_eq_false ha]
        refine ih r _ (by simp at hl; omega) (fun x h => hx x (by simp [h])) ?_
        have : (Lib.replaceAll s a b).length * 20 ^ k ≤ (s.length * 20) * 20 ^ k := Nat.mul_le_mul_right _ (by omega)
        omega
def goodP (t : Int) (args : List (List UInt8)) : Bool :=
  if t = 1 then decide ((args.length : Int) ≤ 1) else if t = 2 then filtOk args else if t = 3 then decide ((args.length : Int) % 2 = 0) && evB args else if t = 4 then sortOk args else decide ((args.length : Int) = 0)
theorem fit_small {l : List UInt8} (h : l.length ≤ 65536) : (fitP l).2 = .ok := by unfold fitP; rw [if_pos h]
theorem fail_spec {t : Int} {args : List (List UInt8)} (ht : t = 1 ∨ t = 2 ∨ t = 3 ∨ t = 4 ∨ t = 5) (hl : args.length ≤ 6) (hx : ∀ x ∈ args, x.length ≤ 20) : (doP t args [([97, 10] : List UInt8)]).2 = if goodP t args = true then .ok else .e 16 := by
  have hlin : linesA [([97, 10] : List UInt8)] = [[97]] := by decide
  rcases ht with rfl | rfl | rfl | rfl | rfl
  · show (if 1 < args.length then (([] : List UInt8), Er.e 16) else _).2 = if decide ((args.length : Int) ≤ 1) = true then _ else _
    by_cases h : 1 < args.length
    · rw [if_pos h, if_neg (by rw [decide_eq_true_eq]; omega)]
    · have hd : decide ((args.length : Int) ≤ 1) = true := decide_eq_true (by omega)
      rw [if_neg h, hd]
      exact fit_small (by simp [joinE, jnE])
  · show (if (listP 2 args [([97, 10] : List UInt8)]).2 = true then _ else (([] : List UInt8), Er.e 16)).2 = if filtOk args = true then _ else _
    have e : listP 2 args [([97, 10] : List UInt8)] = if filtOk args then ((linesA [([97, 10] : List UInt8)]).filter (filtB args), true) else ([], false) := rfl
    rw [e]
    cases filtOk args with
    | false => rfl
    | true =>
      rw [if_pos rfl, if_pos rfl, if_pos rfl]
      refine fit_small ?_
      rw [hlin]
      cases h : filtB args [97] <;> simp [joinE, jnE, List.filter, h]
  · show (substP args [([97, 10] : List UInt8)]).2 = if (decide ((args.length : Int) % 2 = 0) && evB args) = true then _ else _
    have hj : joinE [([97, 10] : List UInt8)] [] [] = [97, 10] := by simp [joinE, jnE]
    unfold substP
    rw [hj]
    by_cases h : (args.length : Int) % 2 = 0
    · rw [if_pos h, if_neg (by simp), decide_eq_true h, Bool.true_and]
      obtain ⟨k, hk⟩ : ∃ k, args.length = 2 * k := ⟨args.length / 2, by omega⟩
      refine subP_spec k args _ hk hx ?_
      have : k ≤ 3 := by omega
      have h3 : (20 : Nat) ^ k ≤ 20 ^ 3 := Nat.pow_le_pow_right (by omega) this
      show 2 * 20 ^ k ≤ 65536
      omega
    · rw [if_neg h, decide_eq_false h, Bool.false_and]; rfl
  · show (if (listP 4 args [([97, 10] : List UInt8)]).2 = true then _ else (([] : List UInt8), Er.e 16)).2 = if sortOk args = true then _ else _
    have e : listP 4 args [([97, 10] : List UInt8)] = if sortOk args then (sortR args (linesA [([97, 10] : List UInt8)]), true) else ([], false) := rfl
    rw [e]
    cases sortOk args with
    | false => rfl
    | true =>
      rw [if_pos rfl, if_pos rfl, if_pos rfl]
      refine fit_small ?_
      have h1 : sortB [([97] : List UInt8)] = [[97]] := (sortB_of (List.pairwise_singleton _ _) (List.Perm.refl _)).symm
      have h2 : sortU [([97] : List UInt8)] = [[97]] := (sortU_of (List.pairwise_singleton _ _) (fun _ => Iff.rfl)).symm
      rw [hlin]
      unfold sortR
      rw [h1, h2]
      cases args.contains wRev <;> cases args.contains wUni <;> simp [joinE, jnE]
  · show (if (listP 5 args [([97, 10] : List UInt8)]).2 = true then _ else (([] : List UInt8), Er.e 16)).2 = if decide ((args.length : Int) = 0) = true then _ else _
    have e : listP 5 args [([97, 10] : List UInt8)] = (digestsP [([97, 10] : List UInt8)], decide ((args.length : Int) = 0)) := rfl
    rw [e]
    by_cases h : (args.length : Int) = 0
    · rw [decide_eq_true h, if_pos rfl, if_pos rfl]
      refine fit_small ?_
      simp [joinE, jnE, digestsP, hexS_len, shaS_len]
    · rw [decide_eq_false h]; rfl
theorem fail_else {t : Int} {args inputs : List (List UInt8)} (ht : ¬ (t = 1 ∨ t = 2 ∨ t = 3 ∨ t = 4 ∨ t = 5)) : doP t args inputs = ([], .e 10) := by
  unfold doP
  rw [if_neg (by omega), if_neg (by omega), if_neg (by omega)]
end Go.Proofs.YtilphcippnfklaaDoor

 /- ToolSorts and ToolJoins, plainly. -/
namespace Go.Proofs.YtilphcippnfklaaDoor
open Go Go.RowKit
theorem getD_getJ {α : Type} {l : List α} {k : Nat} {d : α} (h : k < l.length) : l.getD k d = l[k] := by simp [List.getD, h]
theorem digs_ne (i : Nat) : digs.getD i 0 ≠ 10 := by
  by_cases h : i < 16
  · have : ∀ i : Fin 16, digs.getD i.val 0 ≠ 10 := by decide
    exact this ⟨i, h⟩
  · have e : digs.getD i 0 = 0 := by
      have : digs[i]? = none := List.getElem?_eq_none (by show 16 ≤ i; omega)
      simp [List.getD, this]
    rw [e]; decide
theorem hexS_free (s : List UInt8) : (10 : UInt8) ∉ hexS s := by
  intro h
  unfold hexS at h
  obtain ⟨b, _, hb⟩ := List.mem_flatMap.1 h
  unfold hexB at hb
  simp only [List.mem_cons, List.not_mem_nil, or_false] at hb
  rcases hb with h | h
  · exact digs_ne _ h.symm
  · exact digs_ne _ h.symm
theorem jnE_jn : ∀ (l : List (List UInt8)) (b : Bool), jnE [] [10] b l = jn l
  | [], _ => rfl
  | x :: l, b => by
    have ih := jnE_jn l false
    unfold jnE
    rw [ih]
    cases b <;> simp [jn]
theorem joinE_jn (l : List (List UInt8)) : joinE l [] [10] = jn l := jnE_jn l true
theorem wtL_linesA {l : List (List UInt8)} {n : Nat} (h : ∀ x ∈ l, x.length ≤ n) : wtL (linesA l) ≤ (n + 1) * l.length := by
  induction l with
  | nil => simp [linesA, wtL]
  | cons x l ih =>
    have h1 := lineR_wt x
    have h2 := h x (by simp)
    have h3 := ih fun y hy => h y (by simp [hy])
    have e : linesA (x :: l) = lineR x ++ linesA l := rfl
    rw [e, wtL_app, List.length_cons, Nat.mul_succ]
    omega
theorem linesA_free {l : List (List UInt8)} {x : List UInt8} (h : x ∈ linesA l) : (10 : UInt8) ∉ x := by
  unfold linesA at h
  obtain ⟨y, _, hxy⟩ := List.mem_flatMap.1 h
  exact lineR_free y x hxy
theorem do_sort {args inputs L : List (List UInt8)} (ho : sortOk args = true) (hL : linesA inputs = L) (hw : wtL (sortR args L) ≤ 65536) : doP 4 args inputs = (jn (sortR args L), .ok) := by
  have e : listP 4 args inputs = (sortR args L, true) := by
    show (if sortOk args = true then (sortR args (linesA inputs), true) else ([], false)) = _
    rw [if_pos ho, hL]
  show (if (listP 4 args inputs).2 = true then fitP (joinE (listP 4 args inputs).1 [] [10]) else ([], Er.e 16)) = _
  rw [e]
  show fitP (joinE (sortR args L) [] [10]) = _
  rw [joinE_jn]
  unfold fitP
  rw [if_pos (by rw [jn_length]; exact hw)]
theorem do_filter {args inputs L : List (List UInt8)} (ho : filtOk args = true) (hL : linesA inputs = L) (hw : wtL (L.filter (filtB args)) ≤ 65536) : doP 2 args inputs = (jn (L.filter (filtB args)), .ok) := by
  have e : listP 2 args inputs = (L.filter (filtB args), true) := by
    show (if filtOk args = true then ((linesA inputs).filter (filtB args), true) else ([], false)) = _
    rw [if_pos ho, hL]
  show (if (listP 2 args inputs).2 = true then fitP (joinE (listP 2 args inputs).1 [] [10]) else ([], Er.e 16)) = _
  rw [e]
  show fitP (joinE (L.filter (filtB args)) [] [10]) = _
  rw [joinE_jn]
  unfold fitP
  rw [if_pos (by rw [jn_length]; exact hw)]
theorem linesA_jn {l : List (List UInt8)} (h : ∀ x ∈ l, (10 : UInt8) ∉ x) : linesA [jn l] = l := by
  have e : linesA [jn l] = lineR (jn l) ++ [] := rfl
  rw [e, List.append_nil, lineR_jn l h]
theorem linesA_jn2 {l m : List (List UInt8)} (h : ∀ x ∈ l, (10 : UInt8) ∉ x) (k : ∀ x ∈ m, (10 : UInt8) ∉ x) : linesA [jn l, jn m] = l ++ m := by
  have e : linesA [jn l, jn m] = lineR (jn l) ++ (lineR (jn m) ++ []) := rfl
  rw [e, List.append_nil, lineR_jn l h, lineR_jn m k]
theorem wtL_sub {l m : List (List UInt8)} (h : l.Sublist m) : wtL l ≤ wtL m := by
  induction h with
  | slnil => exact Nat.le_refl _
  | cons a _ ih => simp only [wtL, List.map_cons, List.sum_cons] at ih ⊢; omega
  | cons_cons a _ ih => simp only [wtL, List.map_cons, List.sum_cons] at ih ⊢; omega
theorem wtL_nodup : ∀ {a b : List (List UInt8)}, a.Nodup → (∀ x ∈ a, x ∈ b) → wtL a ≤ wtL b
  | [], _, _, _ => by simp [wtL]
  | x :: a, b, hn, h => by
    have hn' := List.nodup_cons.1 hn
    have hp := List.perm_cons_erase (h x (by simp))
    have ih := wtL_nodup (b := b.erase x) hn'.2 fun y hy => (List.mem_erase_of_ne (fun e => by subst e; exact hn'.1 hy)).2 (h y (by simp [hy]))
    rw [wtL_perm hp]
    simp only [wtL, List.map_cons, List.sum_cons] at ih ⊢; omega
theorem sortU_sub (l : List (List UInt8)) : wtL (sortU l) ≤ wtL l := wtL_nodup (sortU_strict l).nodup fun x hx => (sortU_mem l x).1 hx
theorem tsorts_ok {inputs : List (List UInt8)} {word : List UInt8} {K : Bool → Prop} (_ : ∀ x ∈ inputs, x.length ≤ maxLen) (_ : word.length ≤ maxLen) (H : K true) : M_smithylaw23_ToolSorts inputs word K := by
  intro _
  refine tfirst_M ⟨fun h => (by cases h), fun _ => vtexts_B (by decide) fun b hb => ⟨fun _ => H, fun e => ?_⟩⟩
  rw [Bool.or_eq_false_iff, Bool.or_eq_false_iff, decide_eq_false_iff_not] at e
  have hbt : b = true := by simpa using e.1.1
  obtain ⟨a1, a2⟩ := hb hbt
  have hw : word.length ≤ 20 := by omega
  have hx : ∀ x ∈ inputs, x.length ≤ 300 := fun x hx => by have := a2 x hx; omega
  have hl : inputs.length ≤ 8 := by omega
  have hL1 := wtL_linesA hx
  have hL2 : ∀ x ∈ linesA inputs, (10 : UInt8) ∉ x := fun x hx => linesA_free hx
  have hxb : ∀ x ∈ inputs, x.length ≤ 100000 := fun x hx' => by have := hx x hx'; omega
  refine ⟨fun n i => 0 ≤ i ∧ i ≤ inputs.length ∧ n = ((linesA (inputs.take i.toNat)).length : Int), fun _ i => inputs.length - i.toNat, ⟨by omega, by omega, rfl⟩, fun n i ⟨b0, b1, b2⟩ => ⟨fun hlt => ⟨by omega, ?_⟩, fun hge => ?_⟩⟩
  · have h1 := hx _ (getD_mem (l := inputs) (k := i.toNat) (d := []) (by omega))
    have h2 := lineR_len (inputs.getD i.toNat [])
    have h3 := linesA_len (l := inputs.take i.toNat) fun x hx' => hxb x (List.mem_of_mem_take hx')
    rw [List.length_take] at h3
    refine lineRs_M (by omega) ⟨by simp only [In]; omega, by simp only [In]; omega, ⟨by omega, by omega, ?_⟩, by dsimp only; omega⟩
    rw [show (i + 1).toNat = i.toNat + 1 by omega, linesA_take (by omega), List.length_append, b2]
    omega
  rw [List.take_of_length_le (by omega)] at b2
  generalize hLd : linesA inputs = L at *
  have hLw : wtL L ≤ 2408 := by
    have : 301 * inputs.length ≤ 301 * 8 := Nat.mul_le_mul_left _ hl
    omega
  have hsw : wtL (sortB L) ≤ 2408 := by rw [wtL_perm (sortB_perm L)]; exact hLw
  have hsf : ∀ x ∈ sortB L, (10 : UInt8) ∉ x := fun x hx' => hL2 x ((sortB_mem L x).1 hx')
  have hrw : wtL (sortB L).reverse ≤ 2408 := by rw [wtL_perm (List.reverse_perm _)]; exact hsw
  have hrf : ∀ x ∈ (sortB L).reverse, (10 : UInt8) ∉ x := fun x hx' => hsf x (List.mem_reverse.1 hx')
  have huw : wtL (sortU L) ≤ 2408 := Nat.le_trans (sortU_sub L) hLw
  have huf : ∀ x ∈ sortU L, (10 : UInt8) ∉ x := fun x hx' => hL2 x ((sortU_mem L x).1 hx')
  have r0 : ∀ l : List (List UInt8), sortR [] l = sortB l := fun _ => rfl
  have r1 : ∀ l : List (List UInt8), sortR [wRev] l = (sortB l).reverse := fun _ => rfl
  have r2 : ∀ l : List (List UInt8), sortR [wUni] l = sortU l := fun _ => rfl
  have o0 : sortOk [] = true := by decide
  have o1 : sortOk [wRev] = true := by decide
  have o2 : sortOk [wUni] = true := by decide
  have d1 : doP 4 [] inputs = (jn (sortB L), .ok) := by rw [do_sort o0 hLd (by rw [r0]; omega), r0]
  have d2 : doP 4 [] [jn (sortB L)] = (jn (sortB L), .ok) := by rw [do_sort o0 (linesA_jn hsf) (by rw [r0, sortB_sortB]; omega), r0, sortB_sortB]
  have d3 : doP 4 [([114, 101, 118, 101, 114, 115, 101] : List UInt8)] inputs = (jn (sortB L).reverse, .ok) := by
    show doP 4 [wRev] inputs = _
    rw [do_sort o1 hLd (by rw [r1]; omega), r1]
  have d4 : doP 4 [] [jn (sortB L).reverse] = (jn (sortB L), .ok) := by
    have e1 : sortB (sortB L).reverse = sortB L := (sortB_congr (List.reverse_perm _)).trans (sortB_sortB L)
    rw [do_sort o0 (linesA_jn hrf) (by rw [r0, e1]; omega), r0, e1]
  have d5 : doP 4 [([117, 110, 105, 113, 117, 101] : List UInt8)] inputs = (jn (sortU L), .ok) := by
    show doP 4 [wUni] inputs = _
    rw [do_sort o2 hLd (by rw [r2]; omega), r2]
  have f1 : filtOk [word] = true := rfl
  have f2 : filtOk [word, wNot] = true := rfl
  have hfw : ∀ p : Bs → Bool, wtL (L.filter p) ≤ 2408 := fun p => Nat.le_trans (wtL_sub List.filter_sublist) hLw
  have hff : ∀ (p : Bs → Bool), ∀ x ∈ L.filter p, (10 : UInt8) ∉ x := fun p x hx' => hL2 x (List.mem_filter.1 hx').1
  have d6 : doP 2 [word] inputs = (jn (L.filter (filtB [word])), .ok) := do_filter f1 hLd (by have := hfw (filtB [word]); omega)
  have d7 : doP 2 [word, ([110, 111, 116] : List UInt8)] inputs = (jn (L.filter (filtB [word, wNot])), .ok) := by
    show doP 2 [word, wNot] inputs = _
    exact do_filter f2 hLd (by have := hfw (filtB [word, wNot]); omega)
  have hneg : filtB [word, wNot] = fun x => !filtB [word] x := by
    funext x
    unfold filtB
    have e1 : decide ((([word, wNot] : List (List UInt8)).length : Int) = 1) = false := by simp
    have e2 : decide ((([word] : List (List UInt8)).length : Int) = 1) = true := by simp
    rw [e1, e2]
    show (Lib.contains x word == false) = !(Lib.contains x word == true)
    cases Lib.contains x word <;> rfl
  have hpm : sortB (L.filter (filtB [word]) ++ L.filter (filtB [word, wNot])) = sortB L := by
    rw [hneg]
    exact sortB_congr (filter_perm _ L)
  have d8 : doP 4 [] [jn (L.filter (filtB [word])), jn (L.filter (filtB [word, wNot]))] = (jn (sortB L), .ok) := by
    rw [do_sort o0 (linesA_jn2 (hff _) (hff _)) (by rw [r0, hpm]; omega), r0, hpm]
  have hjl : ∀ l : List Bs, wtL l ≤ 2408 → ∀ x ∈ [jn l], x.length ≤ 100000 := fun l h x hx' => by
    rw [List.mem_singleton] at hx'
    subst hx'
    rw [jn_length]; omega
  have ar : ∀ (s : List UInt8), s.length ≤ 1000000 → ∀ x ∈ [s], x.length ≤ 1000000 := fun s h x hx' => by
    rw [List.mem_singleton] at hx'
    subst hx'
    exact h
  refine do_M (by simp) (by omega) hxb ?_
  rw [d1]
  refine do_M (by simp) (by simp) (hjl _ hsw) ?_
  rw [d2]
  refine do_M (ar _ (by simp)) (by omega) hxb ?_
  rw [d3]
  refine do_M (by simp) (by simp) (hjl _ hrw) ?_
  rw [d4]
  refine do_M (ar _ (by simp)) (by omega) hxb ?_
  rw [d5]
  have la : (jn (sortB L)).length ≤ 4000000000 := by rw [jn_length]; omega
  have lu : (jn (sortU L)).length ≤ 4000000000 := by rw [jn_length]; omega
  have hlb : (sortB L).length = L.length := (sortB_perm L).length_eq
  refine ⟨fun q => q = false, ⟨fun h => ?_, fun _ => lineRs_M la ?_⟩, ?_⟩
  · simp at h
  · rw [lineR_jn _ hsf]
    simp [hlb, b2]
  rintro _ rfl
  have hlw := wtL_len (sortB L)
  refine ⟨fun q => q = false, ⟨fun h => (by cases h), fun _ => lineRs_M lu (lineRs_M la (sortedTexts_M (by rw [lineR_jn _ hsf]; omega) ?_))⟩, ?_⟩
  · rw [lineR_jn _ hsf, lineR_jn _ huf, sortU_sortB]
    simp
  rintro _ rfl
  refine ⟨fun h => (by cases h), fun _ => lineRs_M la ?_⟩
  rw [lineR_jn _ hsf]
  refine ⟨fun k => 1 ≤ k, fun k => (sortB L).length - k.toNat, by omega, fun k c0 => ⟨fun hlt => ⟨by omega, by simp only [In]; omega, by omega, fun h => ?_, fun _ => ⟨by simp only [In]; omega, by omega, by dsimp only; omega⟩⟩, fun _ => ?_⟩⟩
  · exfalso
    rw [bytesLess_lt, decide_eq_true_eq] at h
    have hle := sortB_le L
    have := List.pairwise_iff_getElem.1 hle (k - 1).toNat k.toNat (by omega) (by omega) (by omega)
    rw [getD_getJ (show k.toNat < (sortB L).length by omega), getD_getJ (show (k - 1).toNat < (sortB L).length by omega)] at h
    exact absurd h (List.not_lt.2 this)
  · refine do_M (ar _ (by omega)) (by omega) hxb ?_
    rw [d6]
    refine do_M (fun x hx' => ?_) (by omega) hxb ?_
    · simp only [List.mem_cons, List.not_mem_nil, or_false] at hx'
      rcases hx' with rfl | rfl
      · omega
      · simp
    rw [d7]
    refine do_M (by simp) (by simp) (fun x hx' => ?_) ?_
    · simp only [List.mem_cons, List.not_mem_nil, or_false] at hx'
      rcases hx' with rfl | rfl
      · have := hfw (filtB [word]); rw [jn_length]; omega
      · have := hfw (filtB [word, wNot]); rw [jn_length]; omega
    rw [d8]
    simpa using H
/-! joining -/
def tot (l : List (List UInt8)) : Nat := (l.map List.length).sum
theorem jnE_len (b : List UInt8) : ∀ l : List (List UInt8), (jnE b [] false l).length = tot l + l.length * b.length
  | [] => by simp [jnE, tot]
  | x :: l => by
    have ih := jnE_len b l
    simp only [jnE, List.length_append, tot, List.map_cons, List.sum_cons, List.length_cons, Bool.false_eq_true, if_false, List.length_nil] at ih ⊢
    rw [ih, Nat.succ_mul]
    omega
theorem joinE_len (b : List UInt8) (l : List (List UInt8)) : (joinE l b []).length = tot l + (l.length - 1) * b.length := by
  match l with
  | [] => simp [joinE, jnE, tot]
  | x :: l =>
    have ih := jnE_len b l
    simp only [joinE, jnE, List.length_append, tot, List.map_cons, List.sum_cons, List.length_cons, if_true, List.length_nil, Nat.add_sub_cancel] at ih ⊢
    rw [ih]
    omega
theorem tot_le {l : List (List UInt8)} {n : Nat} (h : ∀ x ∈ l, x.length ≤ n) : tot l ≤ n * l.length := by
  induction l with
  | nil => simp [tot]
  | cons x l ih =>
    have h2 := h x (by simp)
    have h3 := ih fun y hy => h y (by simp [hy])
    simp only [tot, List.map_cons, List.sum_cons, List.length_cons, Nat.mul_succ] at h3 ⊢
    omega
theorem tot_take {l : List (List UInt8)} {i : Nat} (h : i < l.length) : tot (l.take (i + 1)) = tot (l.take i) + (l.getD i []).length := by
  unfold tot
  rw [List.take_succ_eq_append_getElem h, List.map_append, List.sum_append]
  simp [List.getD, h]
theorem tjoins_ok {inputs : List (List UInt8)} {by_ : List UInt8} {K : Bool → Prop} (_ : ∀ x ∈ inputs, x.length ≤ maxLen) (_ : by_.length ≤ maxLen) (H : K true) : M_smithylaw23_ToolJoins inputs by_ K := by
  intro _
  refine tfirst_M ⟨fun h => (by cases h), fun _ => vtexts_B (by decide) fun b hb => ⟨fun _ => H, fun e => ?_⟩⟩
  rw [Bool.or_eq_false_iff, Bool.or_eq_false_iff, Bool.or_eq_false_iff, decide_eq_false_iff_not, decide_eq_false_iff_not] at e
  have hbt : b = true := by simpa using e.1.1.1
  obtain ⟨a1, a2⟩ := hb hbt
  have hw : by_.length ≤ 20 := by omega
  have hne : by_ ≠ [] := fun h => by rw [h] at e; simp at e
  have hx : ∀ x ∈ inputs, x.length ≤ 200 := fun x hx => by have := a2 x hx; omega
  have hl : inputs.length ≤ 8 := by omega
  have hxb : ∀ x ∈ inputs, x.length ≤ 100000 := fun x hx' => by have := hx x hx'; omega
  refine ⟨fun n i => 0 ≤ i ∧ i ≤ inputs.length ∧ n = (tot (inputs.take i.toNat) : Int), fun _ i => inputs.length - i.toNat, ⟨by omega, by omega, rfl⟩, fun n i ⟨b0, b1, b2⟩ => ⟨fun hlt => ⟨by omega, ?_⟩, fun hge => ?_⟩⟩
  · have h1 := hx _ (getD_mem (l := inputs) (k := i.toNat) (d := []) (by omega))
    have h3 := tot_le (l := inputs.take i.toNat) (n := 200) fun x hx' => hx x (List.mem_of_mem_take hx')
    rw [List.length_take] at h3
    refine ⟨by simp only [In]; omega, by simp only [In]; omega, ⟨by omega, by omega, ?_⟩, by dsimp only; omega⟩
    rw [show (i + 1).toNat = i.toNat + 1 by omega, tot_take (by omega), b2]
    omega
  rw [List.take_of_length_le (by omega)] at b2
  have ht := tot_le hx
  have l1 := joinE_len [] inputs
  have l2 := joinE_len by_ inputs
  have hk : (inputs.length - 1) * by_.length ≤ 7 * 20 := Nat.mul_le_mul (by omega) hw
  have hk0 : (inputs.length - 1) * ([] : List UInt8).length = 0 := by simp
  have j1 : ∀ s : List UInt8, joinE [s] [] [] = s := fun s => by simp [joinE, jnE]
  generalize hA : joinE inputs [] [] = A at *
  generalize hB : joinE inputs by_ [] = B at *
  have d1 : doP 1 [] inputs = (A, .ok) := by
    show fitP (joinE inputs [] []) = _
    rw [hA]; unfold fitP; rw [if_pos (by omega)]
  have d2 : doP 1 [by_] inputs = (B, .ok) := by
    show fitP (joinE inputs by_ []) = _
    rw [hB]; unfold fitP; rw [if_pos (by omega)]
  have hrep : Lib.replaceAll B by_ by_ = B := by
    unfold Lib.replaceAll Lib.replace
    simp
  have d3 : doP 3 [by_, by_] [B] = (B, .ok) := by
    show (if (([by_, by_] : List (List UInt8)).length : Int) % 2 = 0 then (if 65536 < (joinE [B] [] []).length then ([], .e 16) else subP [by_, by_] (joinE [B] [] [])) else ([], .e 16)) = _
    rw [j1, if_pos (by simp), if_neg (by omega), subP_cons, if_neg hne, if_neg (by omega), hrep]
    rfl
  have d4 : doP 3 [] inputs = (A, .ok) := by
    show (if (([] : List (List UInt8)).length : Int) % 2 = 0 then (if 65536 < (joinE inputs [] []).length then ([], .e 16) else subP [] (joinE inputs [] [])) else ([], .e 16)) = _
    rw [hA, if_pos (by simp), if_neg (by omega)]
    rfl
  have dg : ∀ l : List (List UInt8), l.length ≤ 8 → doP 5 [] l = (jn (digestsP l), .ok) ∧ (∀ x ∈ digestsP l, (10 : UInt8) ∉ x) ∧ (jn (digestsP l)).length ≤ 1000 := fun l h => by
    have hw : ∀ m : List (List UInt8), wtL (digestsP m) = 65 * m.length := fun m => by
      induction m with
      | nil => rfl
      | cons x m ih =>
        have e : digestsP (x :: m) = hexS (shaS x) :: digestsP m := rfl
        have e3 : wtL (hexS (shaS x) :: digestsP m) = (hexS (shaS x)).length + 1 + wtL (digestsP m) := by simp [wtL]
        rw [e, e3, hexS_len, shaS_len, ih, List.length_cons]
        omega
    refine ⟨?_, fun x hx' => ?_, ?_⟩
    · show fitP (joinE (digestsP l) [] [10]) = _
      rw [joinE_jn]; unfold fitP; rw [if_pos (by rw [jn_length, hw]; omega)]
    · unfold digestsP at hx'
      obtain ⟨y, _, rfl⟩ := List.mem_map.1 hx'
      exact hexS_free (shaS y)
    · rw [jn_length, hw]; omega
  obtain ⟨d5, f5, n5⟩ := dg inputs hl
  obtain ⟨d6, f6, n6⟩ := dg [A, A] (by simp)
  refine do_M (by simp) (by omega) hxb ?_
  rw [d1]
  refine do_M (fun x hx' => ?_) (by omega) hxb ?_
  · rw [List.mem_singleton] at hx'
    subst hx'; omega
  rw [d2]
  refine do_M (fun x hx' => ?_) (by simp) (fun x hx' => ?_) ?_
  · simp only [List.mem_cons, List.not_mem_nil, or_false, or_self] at hx'
    subst hx'; omega
  · rw [List.mem_singleton] at hx'
    subst hx'; omega
  rw [d3]
  refine do_M (by simp) (by omega) hxb ?_
  rw [d4]
  refine do_M (by simp) (by omega) hxb ?_
  rw [d5]
  refine do_M (by simp) (by simp) (fun x hx' => ?_) ?_
  · simp only [List.mem_cons, List.not_mem_nil, or_false, or_self] at hx'
    subst hx'; omega
  rw [d6]
  dsimp only
  have hkI : (if ((inputs.length : Int) - 1) < 0 then (0 : Int) else (inputs.length : Int) - 1) = ((inputs.length - 1 : Nat) : Int) := by split <;> omega
  have hkm : ((inputs.length - 1 : Nat) : Int) * (by_.length : Int) = (((inputs.length - 1) * by_.length : Nat) : Int) := by rw [Int.natCast_mul]
  refine ⟨fun h => (by simp at h), fun _ => ⟨by simp only [In]; omega, by rw [hkI, hkm]; simp only [In]; omega, lineRs_M (by omega) ⟨fun _ => by rw [hkI, hkm]; simp only [In]; omega, ?_⟩⟩⟩
  rw [hkI, hkm, lineR_jn _ f6]
  have hq : decide ((A.length : Int) = n) = true := decide_eq_true (by omega)
  have hq2 : decide ((B.length : Int) = n + (((inputs.length - 1) * by_.length : Nat) : Int)) = true := decide_eq_true (by omega)
  rw [hq, hq2]
  refine ⟨fun q => q = true, ⟨fun _ => lineRs_M (by omega) ?_, fun h => by simp at h⟩, ?_⟩
  · rw [lineR_jn _ f5]
    simp [digestsP]
  · rintro _ rfl
    have e1 : (digestsP [A, A]).length = 2 := by unfold digestsP; simp
    have e2 : (digestsP [A, A]).getD 0 [] = hexS (shaS A) := by unfold digestsP; simp only [List.map_cons, List.getD_cons_zero]
    have e3 : (digestsP [A, A]).getD 1 [] = hexS (shaS A) := by unfold digestsP; simp only [List.map_cons, List.getD_cons_succ, List.getD_cons_zero]
    have hz : (hexS (shaS A)).length = 64 := by rw [hexS_len, shaS_len]
    rw [e1, e2, e3]
    generalize hexS (shaS A) = z at *
    refine ⟨fun _ => (by omega), fun _ => (by omega), fun _ => (by omega), ?_⟩
    have e4 : decide (((2 : Nat) : Int) = 2) = true := by decide
    have e5 : decide (z = z) = true := decide_eq_true rfl
    have e6 : decide ((z.length : Int) = 64) = true := decide_eq_true (by omega)
    rw [e4, e5, e6]
    exact H
end Go.Proofs.YtilphcippnfklaaDoor

 