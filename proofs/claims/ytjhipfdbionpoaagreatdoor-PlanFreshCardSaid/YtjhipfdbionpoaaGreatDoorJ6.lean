/- Texts of this claim, joined by a program: ToolR, KeyD, PlM, GPf, PlF. -/
import Derived.Test.YtjhipfdbionpoaaGreatDoorJ5
import Derived.Lib.Replace
import Derived.Lib.CountLaws
import Derived.Lib.IndexMore
import Derived.Lib.ItoaLen
/- What the tools write: replacing; all of Do: the plain side of the program. -/
namespace Go.Proofs.YtjhipfdbionpoaaGreatDoor
open Go Go.RowKit
theorem replK_len (old new : List UInt8) (ho : old ≠ []) : ∀ (k : Nat) (s : List UInt8), Lib.count s old = k → (Lib.replaceK old new k s).length + k * old.length = s.length + k * new.length := by
  intro k
  induction k with
  | zero => intro s _; simp [Lib.replaceK]
  | succ k ih =>
    intro s hc
    obtain ⟨i, hi⟩ := Lib.index_of_count (s := s) (old := old) (by omega)
    have h1 := Lib.count_hit ho hi
    have h2 := Lib.index_room s old (by omega)
    have h3 := ih (s.drop (i + old.length)) (by omega)
    rw [Lib.replaceK_hit old new k s i hi, List.length_append, List.length_append, List.length_take]
    rw [List.length_drop] at h3
    rw [Nat.succ_mul, Nat.succ_mul]
    omega
theorem replAll_len (s old new : List UInt8) (ho : old ≠ []) : (Lib.replaceAll s old new).length + Lib.count s old * old.length = s.length + Lib.count s old * new.length := by
  by_cases he : old = new
  · have : Lib.replaceAll s old new = s := by
      unfold Lib.replaceAll Lib.replace
      simp [he]
    rw [this, he]
  · have : Lib.replaceAll s old new = Lib.replaceK old new (Lib.count s old) s := by
      unfold Lib.replaceAll Lib.replace Lib.replaceNum
      simp [he]
    rw [this]
    exact replK_len old new ho _ s rfl
def subP : List (List UInt8) → List UInt8 → List UInt8 × Er
  | a :: b :: r, s => if a = [] then ([], .e 16) else if (0 : Int) < (b.length : Int) - (a.length : Int) ∧ (65536 - (s.length : Int)) / ((b.length : Int) - (a.length : Int)) < (Lib.count s a : Int) then ([], .e 16) else subP r (Lib.replaceAll s a b)
  | _, s => (s, .ok)
theorem subP_cons (a b : List UInt8) (r : List (List UInt8)) (s : List UInt8) : subP (a :: b :: r) s = if a = [] then ([], .e 16) else if (0 : Int) < (b.length : Int) - (a.length : Int) ∧ (65536 - (s.length : Int)) / ((b.length : Int) - (a.length : Int)) < (Lib.count s a : Int) then ([], .e 16) else subP r (Lib.replaceAll s a b) := rfl
def substP (args inputs : List (List UInt8)) : List UInt8 × Er :=
  if (args.length : Int) % 2 = 0 then (if 65536 < (joinE inputs [] []).length then ([], .e 16) else subP args (joinE inputs [] [])) else ([], .e 16)
theorem substitute_M {args inputs : List (List UInt8)} {K : List UInt8 → Er → Prop} (ha : ∀ x ∈ args, x.length ≤ 1000000) (hx : ∀ x ∈ inputs, x.length ≤ 1000000000) (h : K (substP args inputs).1 (substP args inputs).2) : M_tool_substitute args inputs K := by
  intro hm _
  simp only [maxLen] at hm
  unfold substP at h
  refine ⟨by omega, fun e => by rw [if_neg e] at h; exact h, fun e => ?_⟩
  rw [if_pos e] at h
  refine joined_M hx (by simp) (by simp) (fun hj => ⟨fun e2 => absurd rfl e2, fun _ => ?_⟩) (fun hj => ⟨fun _ => ?_, fun e2 => by cases e2⟩)
  · rw [if_neg (by omega)] at h
    generalize joinE inputs [] [] = s0 at *
    refine ⟨fun s i => 0 ≤ i ∧ i ≤ args.length ∧ i % 2 = 0 ∧ s.length ≤ 65536 ∧ subP args s0 = subP (args.drop i.toNat) s, fun _ i => args.length - i.toNat, ⟨by omega, by omega, by omega, hj, by simp⟩, fun s i ⟨a0, a1, a2, a3, a4⟩ => ⟨fun hlt => ⟨by omega, ?_⟩, fun hge => ?_⟩⟩
    · have hd : args.drop i.toNat = args.getD i.toNat [] :: args.getD (i.toNat + 1) [] :: args.drop (i.toNat + 2) := by
        rw [List.drop_eq_getElem_cons (show i.toNat < args.length by omega), List.drop_eq_getElem_cons (show i.toNat + 1 < args.length by omega)]
        simp [List.getD, show i.toNat < args.length by omega, show i.toNat + 1 < args.length by omega]
      rw [hd] at a4
      have l1 := ha _ (getD_mem (l := args) (k := i.toNat) (d := []) (by omega))
      have l2 := ha _ (getD_mem (l := args) (k := i.toNat + 1) (d := []) (by omega))
      have ei : (i + 1).toNat = i.toNat + 1 := by omega
      rw [ei]
      generalize args.getD i.toNat [] = a at *
      generalize args.getD (i.toNat + 1) [] = b at *
      rw [subP_cons] at a4
      refine ⟨fun hn => ?_, fun hn => ?_⟩
      · rw [if_pos hn] at a4
        rw [a4] at h; exact h
      · rw [if_neg hn] at a4
        have hal : 1 ≤ a.length := List.length_pos_iff.2 hn
        have hcnt : (Lib.countB ⟨⟨s⟩⟩ ⟨⟨a⟩⟩ : Nat) = Lib.count s a := rfl
        have hlen := replAll_len s a b hn
        have hcl := Lib.count_le s a
        have hmulle : Lib.count s a * b.length ≤ 65537 * 1000000 := Nat.mul_le_mul (by omega) l2
        refine ⟨by omega, by omega, hal, ?_⟩
        rw [hcnt]
        refine ⟨by simp only [In]; omega, by omega, by omega, by simp only [In]; omega, fun _ => by simp only [In]; omega, fun hp => ?_, fun hp => ?_, fun hp => ?_⟩
        · rw [decide_eq_true_eq] at hp
          exact ⟨by omega, by omega, by simp only [In]; omega⟩
        · rw [Bool.and_eq_true, decide_eq_true_eq, decide_eq_true_eq] at hp
          rw [if_pos hp] at a4
          rw [a4] at h; exact h
        · rw [Bool.and_eq_false_iff, decide_eq_false_iff_not, decide_eq_false_iff_not] at hp
          rw [if_neg (by rintro ⟨q1, q2⟩; rcases hp with hp | hp <;> contradiction)] at a4
          refine ⟨by omega, by simp only [In]; omega, by omega, by omega, hal, by rw [hcnt]; omega, by simp only [In]; omega, ⟨by omega, by omega, by omega, ?_, ?_⟩, by dsimp only; omega⟩
          · rcases hp with hp | hp
            · have : Lib.count s a * b.length ≤ Lib.count s a * a.length := Nat.mul_le_mul_left _ (by omega)
              omega
            · by_cases hd0 : (0 : Int) < (b.length : Int) - (a.length : Int)
              · have h5 : (Lib.count s a : Int) * ((b.length : Int) - (a.length : Int)) ≤ 65536 - (s.length : Int) := (Int.le_ediv_iff_mul_le hd0).1 (by omega)
                rw [Int.mul_sub] at h5
                have h6 : ((Lib.count s a * b.length : Nat) : Int) = (Lib.count s a : Int) * (b.length : Int) := Int.natCast_mul _ _
                have h7 : ((Lib.count s a * a.length : Nat) : Int) = (Lib.count s a : Int) * (a.length : Int) := Int.natCast_mul _ _
                omega
              · have : Lib.count s a * b.length ≤ Lib.count s a * a.length := Nat.mul_le_mul_left _ (by omega)
                omega
          · rw [show (i + 2).toNat = i.toNat + 2 by omega]
            exact a4
    · rw [List.drop_eq_nil_of_le (by omega)] at a4
      rw [a4] at h
      exact h
  · rw [if_pos hj] at h
    exact h
/-- what Do answers -/
def fitP (t : List UInt8) : List UInt8 × Er := if t.length ≤ 65536 then (t, .ok) else ([], .e 16)
def doP (tool : Int) (args inputs : List (List UInt8)) : List UInt8 × Er :=
  if tool = 3 then substP args inputs
  else if tool = 1 then (if 1 < args.length then ([], .e 16) else fitP (joinE inputs (if args.length = 1 then args.getD 0 [] else []) []))
  else if tool = 2 ∨ tool = 4 ∨ tool = 5 then (if (listP tool args inputs).2 = true then fitP (joinE (listP tool args inputs).1 [] [10]) else ([], .e 16))
  else ([], .e 10)
theorem sortU_le {l : List (List UInt8)} {x : List UInt8} (h : x ∈ sortU l) : x ∈ l := (sortU_mem l x).1 h
theorem listP_le {tool : Int} {args inputs : List (List UInt8)} (hx : ∀ x ∈ inputs, x.length ≤ 100000) : ∀ x ∈ (listP tool args inputs).1, x.length ≤ 100000 := by
  intro x h
  unfold listP at h
  split at h
  · split at h
    · exact linesA_le (List.mem_filter.1 h).1 hx
    · cases h
  · split at h
    · split at h
      · refine linesA_le (l := inputs) ?_ hx
        unfold sortR at h
        split at h
        · rw [List.mem_reverse] at h
          split at h
          · exact sortU_le h
          · exact (sortB_mem _ _).1 h
        · split at h
          · exact sortU_le h
          · exact (sortB_mem _ _).1 h
      · cases h
    · unfold digestsP at h
      obtain ⟨y, _, rfl⟩ := List.mem_map.1 h
      rw [hexS_len, shaS_len]; omega
theorem do_M {tool : Int} {args inputs : List (List UInt8)} {K : List UInt8 → Er → Prop} (ha : ∀ x ∈ args, x.length ≤ 1000000) (hl : inputs.length ≤ 1000) (hx : ∀ x ∈ inputs, x.length ≤ 100000) (h : K (doP tool args inputs).1 (doP tool args inputs).2) : M_tool_Do tool args inputs K := by
  intro _ _
  have fit : ∀ (l : List (List UInt8)) (b e : List UInt8), (∀ x ∈ l, x.length ≤ 1000000) → b.length ≤ 1000000 → e.length ≤ 1000000 → K (fitP (joinE l b e)).1 (fitP (joinE l b e)).2 → M_tool_joined l b e K := fun l b e q1 q2 q3 q4 => by
    unfold fitP at q4
    refine joined_M (fun x hx' => by have := q1 x hx'; omega) (by omega) (by omega) (fun q5 => ?_) (fun q5 => ?_)
    · rw [if_pos q5] at q4; exact q4
    · rw [if_neg (by omega)] at q4; exact q4
  unfold doP at h
  refine ⟨fun a2 i2 e is => (tool = 1 ∧ a2 = args ∧ i2 = inputs ∧ e = [] ∧ is = true) ∨ ((tool = 2 ∨ tool = 4 ∨ tool = 5) ∧ a2 = [] ∧ i2 = (listP tool args inputs).1 ∧ e = [10] ∧ is = (listP tool args inputs).2), ⟨fun e => substitute_M ha (fun x hx' => by have := hx x hx'; omega) (by rw [if_pos e] at h; exact h), fun e => ?_⟩, ?_⟩
  · rw [if_neg e] at h
    refine ⟨fun b => b = decide (tool = 2 ∨ tool = 4 ∨ tool = 5), ⟨fun e2 => by simp [e2], fun e2 => ⟨fun e3 => by simp [e3], fun e3 => by simp [e2, e3]⟩⟩, ?_⟩
    rintro b rfl
    refine ⟨fun hb => listed_M hl hx (.inr ⟨of_decide_eq_true hb, rfl, rfl, rfl, rfl⟩), fun hb => ⟨fun e1 => .inl ⟨e1, rfl, rfl, rfl, rfl⟩, fun e1 => ?_⟩⟩
    rw [if_neg e1, if_neg (of_decide_eq_false hb)] at h
    exact h
  · rintro a2 i2 e is (⟨rfl, rfl, rfl, rfl, rfl⟩ | ⟨ht, rfl, rfl, rfl, rfl⟩)
    · rw [if_neg (by decide), if_pos rfl] at h
      refine ⟨fun h1 => ?_, fun h1 => ?_⟩
      · have : 1 < a2.length := by simp at h1; omega
        rw [if_pos this] at h
        exact h
      · have hle : ¬ 1 < a2.length := by simp at h1; omega
        rw [if_neg hle] at h
        refine ⟨fun b => b = (if a2.length = 1 then a2.getD 0 [] else []), ⟨fun e1 => ⟨by omega, by rw [if_pos (by omega)]⟩, fun e1 => by rw [if_neg (by omega)]⟩, ?_⟩
        rintro b rfl
        refine fit _ _ _ (fun x hx' => by have := hx x hx'; omega) ?_ (by simp) h
        split
        · exact ha _ (getD_mem (by omega))
        · simp
    · have hn3 : ¬ tool = 3 := by omega
      have hn1 : ¬ tool = 1 := by omega
      rw [if_neg hn3, if_neg hn1, if_pos ht] at h
      refine ⟨fun h1 => ?_, fun h1 => ?_⟩
      · have : ¬ (listP tool args inputs).2 = true := by simpa using h1
        rw [if_neg this] at h
        exact h
      · have : (listP tool args inputs).2 = true := by simpa using h1
        rw [if_pos this] at h
        refine ⟨fun b => b = [], ⟨fun e1 => by simp at e1, fun _ => rfl⟩, ?_⟩
        rintro b rfl
        exact fit _ _ _ (fun x hx' => by have := listP_le hx x hx'; omega) (by simp) (by simp) h
end Go.Proofs.YtjhipfdbionpoaaGreatDoor


 /- Keys: the program's side alone. -/
namespace Go.Proofs.YtjhipfdbionpoaaGreatDoor
open Go Go.RowKit
theorem text_M {s : List UInt8} {K : List UInt8 → Prop} (hl : s.length = 32) (h : K (hexS s)) : M_sha_Text s K := by
  intro t ht he
  have : t = s := List.ext_getElem (by omega) fun i h1 h2 => by
    have := he i (by omega)
    simpa [List.getD, h1, h2] using this
  rw [this]; exact h
def smithyT : List UInt8 := [115, 109, 105, 116, 104, 121]
def partsP (tool : Int) (args inputs : List (List UInt8)) : List (List UInt8) := [smithyT, Lib.itoa tool, Lib.itoa (args.length : Int)] ++ args ++ inputs.map hexS
theorem map_take_succ {α β : Type} (f : α → β) (l : List α) (d : α) (i : Nat) (h : i < l.length) : (l.take (i + 1)).map f = (l.take i).map f ++ [f (l.getD i d)] := by
  rw [List.take_succ_eq_append_getElem h, List.map_append]
  simp [List.getD, h]
theorem parts_loop {inputs pre : List (List UInt8)} {K : List (List UInt8) → Prop} {T : List UInt8 → (List UInt8 → Prop) → Prop} (hT : ∀ s (K : List UInt8 → Prop), s.length = 32 → K (hexS s) → T s K) (hp : pre.length ≤ 1000) (hi : inputs.length ≤ 1000) (hx : ∀ x ∈ inputs, x.length = 32) (h : K (pre ++ inputs.map hexS)) :
    Lp2 (fun (l : List (List UInt8)) (i : Int) k_1 => ((i < (inputs.length : Int) → (0 ≤ i ∧ i < (inputs.length : Nat)) ∧ T (inputs.getD i.toNat []) (fun (t27 : List UInt8) => ((l.length + (([t27] : List (List UInt8))).length) * 16 ≤ 140737488355328) ∧ (In .i64 (i + (1 : Int))) ∧ k_1 (l ++ ([t27] : List (List UInt8))) (i + (1 : Int)))) ∧ (¬ (i < (inputs.length : Int)) → K l))) pre (0 : Int) := by
  refine ⟨fun l i => 0 ≤ i ∧ i ≤ inputs.length ∧ l = pre ++ (inputs.take i.toNat).map hexS, fun _ i => inputs.length - i.toNat, ⟨by omega, by omega, by simp⟩, fun l i ⟨a0, a1, a2⟩ => ⟨fun hlt => ⟨by omega, ?_⟩, fun hge => ?_⟩⟩
  · have hl : l.length ≤ 2000 := by rw [a2, List.length_append, List.length_map, List.length_take]; omega
    refine hT _ _ (hx _ (getD_mem (by omega))) ⟨by simp only [List.length_singleton]; omega, by simp only [In]; omega, ⟨by omega, by omega, ?_⟩, by dsimp only; omega⟩
    rw [show (i + 1).toNat = i.toNat + 1 by omega, map_take_succ hexS inputs [] i.toNat (by omega), a2, List.append_assoc]
  · rw [a2, List.take_of_length_le (by omega)]
    exact h
theorem kparts_M {tool : Int} {args inputs : List (List UInt8)} {K : List (List UInt8) → Prop} (ht : In .i64 tool) (ha : args.length ≤ 100) (hi : inputs.length ≤ 100) (hx : ∀ x ∈ inputs, x.length = 32) (h : K (partsP tool args inputs)) : M_key_Parts tool args inputs K := by
  intro _ _
  refine ⟨ht, by simp only [In]; omega, by simp only [List.length_cons, List.length_nil]; omega, parts_loop (fun s K h1 h2 => text_M h1 h2) (by simp only [List.length_append, List.length_cons, List.length_nil]; omega) (by omega) hx h⟩
theorem itoa_le {n : Int} (h : In .i64 n) : (Lib.itoa n).length ≤ 21 := by
  simp only [In] at h
  exact Lib.itoa_length_le n (by omega) (by omega)
theorem partsP_le {tool : Int} {args inputs : List (List UInt8)} (ht : In .i64 tool) (ha : args.length ≤ 100) (hax : ∀ x ∈ args, x.length ≤ 1000) (hx : ∀ x ∈ inputs, x.length = 32) : ∀ x ∈ partsP tool args inputs, x.length ≤ 1000 := by
  intro x h
  unfold partsP at h
  rcases List.mem_append.1 h with h | h
  · rcases List.mem_append.1 h with h | h
    · have h1 := itoa_le ht
      have h2 := itoa_le (n := (args.length : Int)) (by simp only [In]; omega)
      simp only [List.mem_cons, List.not_mem_nil, or_false] at h
      rcases h with rfl | rfl | rfl
      · decide
      · omega
      · omega
    · exact hax x h
  · obtain ⟨y, hy, rfl⟩ := List.mem_map.1 h
    rw [hexS_len, hx y hy]; omega
theorem partsP_len (tool : Int) (args inputs : List (List UInt8)) : (partsP tool args inputs).length = 3 + args.length + inputs.length := by simp [partsP]; omega
theorem kof_M {tool : Int} {args inputs : List (List UInt8)} {K : List UInt8 → Prop} (ht : In .i64 tool) (ha : args.length ≤ 40) (hi : inputs.length ≤ 40) (hax : ∀ x ∈ args, x.length ≤ 1000) (hx : ∀ x ∈ inputs, x.length = 32) (h : K (manyS (partsP tool args inputs))) : M_key_Of tool args inputs K := by
  intro _ _
  refine kparts_M ht (by omega) (by omega) hx ⟨by rw [partsP_len]; omega, fun x hx' => ?_, h⟩
  have := partsP_le ht (by omega) hax hx x hx'
  omega
theorem map_sha (l : List (List UInt8)) : ∀ x ∈ l.map shaS, x.length = 32 := fun x h => by
  obtain ⟨y, _, rfl⟩ := List.mem_map.1 h
  exact shaS_len y
end Go.Proofs.YtjhipfdbionpoaaGreatDoor


 /- What actions come to: the program's side. -/
namespace Go.Proofs.YtjhipfdbionpoaaGreatDoor
open Go Go.RowKit
def okN : Er → Int
  | .ok => 1
  | _ => 2
theorem okN_ok {e : Er} (h : e = .ok) : okN e = 1 := by rw [h]; rfl
theorem okN_ne {e : Er} (h : ¬ e = .ok) : okN e = 2 := by
  cases e with
  | ok => exact absurd rfl h
  | e n => rfl
  | at_ p n => rfl
/-- what an action comes to whose inputs are all there -/
def FQ1 (a : GAct) (ts : TL) : FT := (okN (doP a.1 a.2.1 ts).2, (doP a.1 a.2.1 ts).1, manyS (partsP a.1 a.2.1 (ts.map shaS)))
theorem subP_le : ∀ (n : Nat) (args : TL) (s : List UInt8), args.length ≤ n → s.length ≤ 65536 → (subP args s).1.length ≤ 65536
  | _, [], _, _, hs => hs
  | _, [_], _, _, hs => hs
  | 0, _ :: _ :: _, _, h, _ => by simp at h
  | n + 1, a :: b :: r, s, h, hs => by
    rw [subP_cons]
    split
    · simp
    rename_i ha
    split
    · simp
    rename_i hp
    refine subP_le n r _ (by simp at h; omega) ?_
    have hlen := replAll_len s a b ha
    by_cases hd0 : (0 : Int) < (b.length : Int) - (a.length : Int)
    · have h4 : ¬ (65536 - (s.length : Int)) / ((b.length : Int) - (a.length : Int)) < (Lib.count s a : Int) := fun h => hp ⟨hd0, h⟩
      have h5 : (Lib.count s a : Int) * ((b.length : Int) - (a.length : Int)) ≤ 65536 - (s.length : Int) := (Int.le_ediv_iff_mul_le hd0).1 (by omega)
      rw [Int.mul_sub] at h5
      have h6 : ((Lib.count s a * b.length : Nat) : Int) = (Lib.count s a : Int) * (b.length : Int) := Int.natCast_mul _ _
      have h7 : ((Lib.count s a * a.length : Nat) : Int) = (Lib.count s a : Int) * (a.length : Int) := Int.natCast_mul _ _
      omega
    · have : Lib.count s a * b.length ≤ Lib.count s a * a.length := Nat.mul_le_mul_left _ (by omega)
      omega
theorem fitP_le (t : List UInt8) : (fitP t).1.length ≤ 65536 := by unfold fitP; split <;> simp_all
theorem doP_le (t : Int) (args inputs : TL) : (doP t args inputs).1.length ≤ 65536 := by
  unfold doP
  split
  · unfold substP
    split
    · split
      · simp
      · exact subP_le _ _ _ (Nat.le_refl _) (by omega)
    · simp
  · split
    · split
      · simp
      · exact fitP_le _
    · split
      · split
        · exact fitP_le _
        · simp
      · simp
section
variable {tx : TX}
theorem allT_snoc {s t : List UInt8} (h2 : mget tx s = some t) : ∀ {xs ts : TL}, allT tx xs = some ts → allT tx (xs ++ [s]) = some (ts ++ [t])
  | [], ts, h => by
    cases h
    show allT tx [s] = _
    unfold allT
    rw [h2]; rfl
  | x :: xs, ts, h => by
    rw [List.cons_append]
    unfold allT at h ⊢
    cases hx : mget tx x with
    | none => rw [hx] at h; cases h
    | some u =>
      rw [hx] at h
      cases ha : allT tx xs with
      | none => rw [ha] at h; cases h
      | some ts' => rw [ha] at h; cases h; dsimp only; rw [allT_snoc h2 ha]; rfl
theorem allT_none {s : List UInt8} (h2 : mget tx s = none) : ∀ {xs : TL}, s ∈ xs → allT tx xs = none
  | x :: xs, h => by
    unfold allT
    rcases List.mem_cons.1 h with rfl | h
    · rw [h2]
    · rw [allT_none h2 h]; cases mget tx x <;> rfl
theorem allT_mem {P : List UInt8 → Prop} (hp : ∀ s v, mget tx s = some v → P v) : ∀ {xs ts : TL}, allT tx xs = some ts → ts.length = xs.length ∧ ∀ t ∈ ts, P t
  | [], ts, h => by cases h; exact ⟨rfl, fun t ht => by cases ht⟩
  | x :: xs, ts, h => by
    unfold allT at h
    cases hx : mget tx x with
    | none => rw [hx] at h; cases h
    | some u =>
      rw [hx] at h
      cases ha : allT tx xs with
      | none => rw [ha] at h; cases h
      | some ts' =>
        rw [ha] at h; cases h
        obtain ⟨h1, h3⟩ := allT_mem hp ha
        exact ⟨by simp only [List.length_cons, h1], fun t ht => by
          rcases List.mem_cons.1 ht with rfl | ht
          · exact hp _ _ hx
          · exact h3 t ht⟩
end
section
variable {l : List GAct}
theorem fate1_le (i : Nat) (known : List FT) (tx : TX) : (fate1 FQ1 l i known tx).2.1.length ≤ 65536 := by
  unfold fate1
  split
  · simp [fskip]
  · split
    · simp [flack]
    · exact doP_le _ _ _
theorem fate_M {i : Nat} {known : List FT} {tx : TX} {aft : List (List Int)} {K : Int → List UInt8 → List UInt8 → Prop} (hs : GSmall l) (hi : i < l.length) (hk : known.length = l.length) (ht : ∀ s v, mget tx s = some v → v.length ≤ 100000) (hty : 1 ≤ (l.getD i az).1 ∧ (l.getD i az).1 ≤ 5) (h : K (fate1 FQ1 l i known tx).1 (fate1 FQ1 l i known tx).2.1 (fate1 FQ1 l i known tx).2.2) : M_plan_fate l (mkP l l.length) (befL l l.length) aft (i : Int) known tx K := by
  intro _ _ _ _
  have hir : inR l (i : Int) := by unfold inR; omega
  refine pbefore_R hs (fun hn => absurd hir hn) fun _ => ?_
  rw [Int.toNat_natCast]
  unfold fate1 at h
  have hbl : (bsP l i).length ≤ 10 := Nat.le_trans (bsP_len l i) (hs.at i).2
  refine ⟨fun k _ _ _ => 0 ≤ k ∧ k ≤ (bsP l i).length ∧ ∀ j, j < k.toNat → (known.getD ((bsP l i).getD j 0).toNat fz).1 = 1, fun k _ _ _ => (bsP l i).length - k.toNat, ⟨by omega, by omega, fun j hj => by simp at hj⟩, fun k c1 c2 c3 ⟨a0, a1, a2⟩ => ⟨fun hlt => ?_, fun hge => ?_⟩⟩
  · have hkl : k.toNat < (bsP l i).length := by omega
    have hb := bsP_in (getD_mem2 (d := 0) hkl)
    refine ⟨⟨a0, hlt⟩, ⟨hb.1, by omega⟩, fun hne => ?_, fun he => ⟨by simp only [In]; omega, ⟨by omega, by omega, fun j hj => ?_⟩, by (try dsimp only); omega⟩⟩
    · rw [if_pos (List.any_eq_true.2 ⟨_, getD_mem2 (d := 0) hkl, by have hne' : ¬ (known.getD ((bsP l i).getD k.toNat 0).toNat fz).1 = 1 := hne; rw [decide_eq_false hne']; rfl⟩)] at h
      exact h
    · by_cases e : j = k.toNat
      · rw [e]; exact he
      · exact a2 j (by omega)
  · have hfalse : ¬ ((bsP l i).any fun k => !decide ((known.getD k.toNat fz).1 = 1)) = true := by
      rw [List.any_eq_true]
      rintro ⟨x, hx, hb⟩
      obtain ⟨j, hj, rfl⟩ := List.getElem_of_mem hx
      have := a2 j (by omega)
      rw [show (bsP l i).getD j 0 = (bsP l i)[j] by simp [List.getD, hj]] at this
      rw [decide_eq_true this] at hb
      cases hb
    rw [if_neg hfalse] at h
    refine action_R hs fun a b hab hal => ?_
    obtain rfl : a = l.getD (i : Int).toNat az := hab.elim (fun h => h.2.2) fun h => absurd hir h.2.1
    rw [Int.toNat_natCast] at hal ⊢
    have hin := hs.inp _ (getD_mem2 (d := az) hi)
    have harg := hs.arg _ (getD_mem2 (d := az) hi)
    generalize l.getD i az = a at *
    refine ⟨fun ins sums k _ _ _ => 0 ≤ k ∧ k ≤ a.2.2.1.length ∧ allT tx (a.2.2.1.take k.toNat) = some ins ∧ sums = ins.map shaS, fun _ _ k _ _ _ => a.2.2.1.length - k.toNat, ⟨by omega, by omega, rfl, rfl⟩, fun ins sums k d1 d2 d3 ⟨b0, b1, b2, b3⟩ => ⟨fun hlt => ?_, fun hge2 => ?_⟩⟩
    · have hkk : k.toNat < a.2.2.1.length := by omega
      obtain ⟨n1, n2⟩ := allT_mem ht b2
      rw [List.length_take] at n1
      have hpl := hin.2 _ (getD_mem2 (d := []) hkk)
      refine ⟨⟨b0, hlt⟩, by unfold maxLen; omega, fun hno => ?_, fun his => ?_⟩
      · have hn : mget tx (a.2.2.1.getD k.toNat []) = none := by simpa using hno
        rw [allT_none hn (getD_mem2 hkk)] at h
        exact h
      · obtain ⟨v, hv⟩ := Option.isSome_iff_exists.1 (show (mget tx (a.2.2.1.getD k.toNat [])).isSome = true by simpa using his)
        have hvl := ht _ _ hv
        rw [hv, Option.getD_some]
        refine ⟨by simp only [List.length_singleton]; omega, ⟨by unfold maxLen; omega, by omega, ?_⟩⟩
        refine ⟨by rw [b3]; simp only [List.length_map, List.length_singleton]; omega, by simp only [In]; omega, ⟨by omega, by omega, ?_, ?_⟩, by (try dsimp only); omega⟩
        · rw [show (k + 1).toNat = k.toNat + 1 by omega, take_succ_getD [] hkk]
          exact allT_snoc hv b2
        · rw [b3, List.map_append]; rfl
    · have hkk : k.toNat = a.2.2.1.length := by omega
      rw [hkk, List.take_length] at b2
      rw [b2] at h
      obtain ⟨n1, n2⟩ := allT_mem ht b2
      rw [b3]
      refine kof_M (by simp only [In]; omega) (by omega) (by rw [List.length_map]; omega) (fun x hx => by have := harg.2 x hx; omega) (map_sha ins) ?_
      refine ⟨fun f0 f1 => f0 = okN (doP a.1 a.2.1 ins).2 ∧ f1 = (doP a.1 a.2.1 ins).1, do_M (fun x hx => by have := harg.2 x hx; omega) (by omega) (fun x hx => n2 x hx) ⟨fun hne => ⟨(okN_ne hne).symm, rfl⟩, fun he => ⟨(okN_ok he).symm, rfl⟩⟩, fun f0 f1 hf => ?_⟩
      rw [hf.1, hf.2]
      dsimp only [FQ1] at h
      exact h
theorem ord_mem (g : GOk l) {j : Nat} (hj : j < l.length) : (j : Int) ∈ ordR (befL l l.length) l.length l.length := by
  obtain ⟨o1, o2, o3⟩ := ordR_props g.acy l.length (Nat.le_refl _)
  refine Classical.byContradiction fun hx => ?_
  have := List.Nodup.length_le_of_subset (l₁ := (j : Int) :: ordR (befL l l.length) l.length l.length) (l₂ := (List.range l.length).map fun (k : Nat) => (k : Int)) (List.nodup_cons.2 ⟨hx, o2⟩) fun x hm => by
    rcases List.mem_cons.1 hm with rfl | hm
    · exact List.mem_map.2 ⟨j, List.mem_range.2 hj, rfl⟩
    · have := o3 x hm
      exact List.mem_map.2 ⟨x.toNat, List.mem_range.2 (by omega), by omega⟩
  rw [List.length_cons, List.length_map, List.length_range] at this
  omega
theorem mput_leT (m : TX) (k v : List UInt8) : (mput m k v).length ≤ m.length + 1 := by rw [mput_len]; split <;> omega
theorem mput_all {m : TX} {k v : List UInt8} {n : Nat} (hm : ∀ s w, mget m s = some w → w.length ≤ n) (hv : v.length ≤ n) : ∀ s w, mget (mput m k v) s = some w → w.length ≤ n := fun s w h => by
  rw [mget_mput] at h
  split at h
  · cases h; exact hv
  · exact hm s w h
theorem fates_M {files : TX} {K : List FT → Prop} (hs : GSmall l) (g : GOk l) (hty : ∀ j, j < l.length → 1 ≤ (l.getD j az).1 ∧ (l.getD j az).1 ≤ 5) (hf : files.length ≤ 100) (hfp : ∀ f ∈ files, f.1.length ≤ 1000 ∧ f.2.length ≤ 100000) (h : K (fatesP FQ1 l files)) : M_plan_Fates l (mkP l l.length) (befL l l.length) (aftL l l.length) files K := by
  intro _ _ _ _
  have hl := hs.len
  refine ⟨fun k tx => 0 ≤ k ∧ k ≤ files.length ∧ tx = text0 l (files.take k.toNat) ∧ tx.length ≤ k.toNat ∧ ∀ s v, mget tx s = some v → v.length ≤ 100000, fun k _ => files.length - k.toNat, ⟨by omega, by omega, rfl, by simp, fun s v hv => by cases hv⟩, fun k tx ⟨a0, a1, a2, a3, a4⟩ => ⟨fun hlt => ?_, fun hge => ?_⟩⟩
  · have hkk : k.toNat < files.length := by omega
    have hfk := hfp _ (getD_mem2 (d := ([], [])) hkk)
    have hst : text0 l (files.take (k + 1).toNat) = if mkI l (files.getD k.toNat ([], [])).1 < 0 then mput tx (files.getD k.toNat ([], [])).1 (files.getD k.toNat ([], [])).2 else tx := by
      rw [show (k + 1).toNat = k.toNat + 1 by omega, take_succ_getD ([], []) hkk, text0_snoc, a2]
    refine ⟨fun m => m = text0 l (files.take (k + 1).toNat) ∧ m.length ≤ k.toNat + 1 ∧ ∀ s v, mget m s = some v → v.length ≤ 100000, ⟨⟨a0, hlt⟩, pmaker_R (by omega) ⟨fun hn => ⟨⟨by unfold maxLen; omega, by unfold maxLen; omega⟩, ?_, ?_, ?_⟩, fun hn => ⟨?_, by omega, a4⟩⟩⟩, fun m ⟨m1, m2, m3⟩ => ⟨by simp only [In]; omega, ⟨by omega, by omega, m1, by omega, m3⟩, by (try dsimp only); omega⟩⟩
    · rw [hst, if_pos hn]
    · have := mput_leT tx (files.getD k.toNat ([], [])).1 (files.getD k.toNat ([], [])).2; omega
    · exact mput_all a4 hfk.2
    · rw [hst, if_neg hn]
  · have hkk : k.toNat = files.length := by omega
    rw [hkk, List.take_length] at a2
    rw [hkk] at a3
    intro _ _ _
    refine ⟨by omega, order_M (by omega) (fun j => by have := bsP_len l j; have := (hs.at j).2; omega) g.acy ?_⟩
    obtain ⟨o1, o2, o3⟩ := ordR_props g.acy l.length (Nat.le_refl _)
    rw [Int.toNat_natCast]
    refine ⟨fun k2 tx2 out => 0 ≤ k2 ∧ k2 ≤ l.length ∧ (out, tx2) = runP FQ1 l files k2.toNat ∧ tx2.length ≤ 100 + k2.toNat ∧ ∀ s v, mget tx2 s = some v → v.length ≤ 100000, fun k2 _ _ => l.length - k2.toNat, ⟨by omega, by omega, by rw [a2]; rfl, by omega, a4⟩, fun k2 tx2 out ⟨b0, b1, b2, b3, b4⟩ _ => ⟨fun hlt => ?_, fun hge2 => ?_⟩⟩
    · have hk2 : k2.toNat < l.length := by omega
      obtain ⟨i, i1, i2, _, _, e1⟩ := runP_succ (F := FQ1) files g hk2
      have hol := runP_len (F := FQ1) files g k2.toNat (by omega)
      rw [← b2] at e1 hol
      dsimp only at hol
      rw [i2]
      have hin : 0 ≤ (i : Int) ∧ (i : Int) < (l.length : Nat) := by omega
      refine ⟨fun m xs => (xs, m) = step1 FQ1 l (out, tx2) (i : Int) ∧ m.length ≤ tx2.length + 1 ∧ ∀ s v, mget m s = some v → v.length ≤ 100000, ⟨⟨b0, hlt⟩, fate_M hs i1 hol b4 (hty i i1) ⟨hin, hin, ?_⟩⟩, fun m xs ⟨m1, m2, m3⟩ _ => ⟨by simp only [In]; omega, ⟨by omega, by omega, ?_, by omega, m3⟩, by (try dsimp only); omega⟩⟩
      · have hle := fate1_le (l := l) i out tx2
        unfold step1
        rw [Int.toNat_natCast]
        dsimp only
        generalize fate1 FQ1 l i out tx2 = fv at hle ⊢
        rw [getD_setG (by omega), if_pos rfl]
        refine ⟨fun hc => action_R hs fun a b hab hal => ?_, fun hc => ⟨by rw [if_neg hc], by omega, b4⟩⟩
        obtain rfl : a = l.getD (i : Int).toNat az := hab.elim (fun h => h.2.2) fun h => absurd hin h.2.1
        rw [Int.toNat_natCast, if_pos hc]
        have ho := hs.out _ (getD_mem2 (d := az) i1)
        exact ⟨hin, ⟨by unfold maxLen; omega, by unfold maxLen; omega⟩, rfl, mput_leT _ _ _, mput_all b4 (Nat.le_trans hle (by omega))⟩
      · rw [m1, show (k2 + 1).toNat = k2.toNat + 1 by omega, e1]
    · have : k2.toNat = l.length := by omega
      rw [this] at b2
      unfold fatesP at h
      rw [← b2] at h
      exact h
end
end Go.Proofs.YtjhipfdbionpoaaGreatDoor


 /- Printed by a program (wip/vg): what the functions mean, plainly, and their walks. -/
namespace Go.Proofs.YtjhipfdbionpoaaGreatDoor
open Go Go.RowKit
attribute [local irreducible] WL WC WX WQ WK WJ Yld Eff Ef0 Fn
def M_smithylaw26_first (K : Bool → Prop) : Prop :=
 M_graph_New ([((1 : Int), ([([97] : List UInt8), ([98] : List UInt8)] : List (List UInt8)), [], ([120] : List UInt8)), ((1 : Int), [], ([([120] : List UInt8)] : List (List UInt8)), ([121] : List UInt8))] : List (Int × List (List UInt8) × List (List UInt8) × List UInt8)) (fun (t101 : Er) =>
 K false) (fun (t100_l : List (Int × List (List UInt8) × List (List UInt8) × List UInt8)) (t100_makers : List (List UInt8 × Int)) (t100_before : List (List Int)) (t100_after : List (List Int)) (t1012 : Er) =>
 ((¬ (t1012 = Er.ok) → K false) ∧
 (t1012 = Er.ok → M_plan_Fates t100_l t100_makers t100_before t100_after [] (fun (f : List (Int × List UInt8 × List UInt8)) =>
 ((decide ((f.length : Int) = (2 : Int))) = true → (0 ≤ (0 : Int) ∧ (0 : Int) < (f.length : Nat))) ∧
 (((decide ((f.length : Int) = (2 : Int))) && (decide (((f.getD 0 (0, [], [])).1) = (2 : Int)))) = true → (0 ≤ (1 : Int) ∧ (1 : Int) < (f.length : Nat))) ∧
 K (((decide ((f.length : Int) = (2 : Int))) && (decide (((f.getD 0 (0, [], [])).1) = (2 : Int)))) && (decide (((f.getD 1 (0, [], [])).1) = (3 : Int))))))))

def M_smithylaw26_PlanFresh (l : List (Int × List (List UInt8) × List (List UInt8) × List UInt8)) (files : List (List UInt8 × List UInt8)) (p : List UInt8) (text : List UInt8) (K : Bool → Prop) : Prop :=
 (l.length ≤ maxLen →
 (files.length ≤ maxLen →
 M_smithylaw26_first (fun (ok : Bool) =>
 (((!ok) = true → K false) ∧
 ((!ok) = false → M_smithyworld_Actions l (fun (t25 : Bool) =>
 ∃ J1 : Bool → Prop, (((((!t25) || (decide ((20 : Int) < (files.length : Int)))) = true → J1 true) ∧
 (((!t25) || (decide ((20 : Int) < (files.length : Int)))) = false → M_smithyworld_Files files (fun (t34 : Bool) =>
 J1 (!t34))))) ∧
 (∀ q2 : Bool, J1 q2 → (((((q2 || (decide ((100 : Int) < (p.length : Int)))) || (decide ((500 : Int) < (text.length : Int)))) || (!ok)) = true → K ok) ∧
 ((((q2 || (decide ((100 : Int) < (p.length : Int)))) || (decide ((500 : Int) < (text.length : Int)))) || (!ok)) = false → M_graph_New l (fun (t541 : Er) =>
 K true) (fun (t540_l : List (Int × List (List UInt8) × List (List UInt8) × List UInt8)) (t540_makers : List (List UInt8 × Int)) (t540_before : List (List Int)) (t540_after : List (List Int)) (t5412 : Er) =>
 ((¬ (t5412 = Er.ok) → K false) ∧
 (t5412 = Er.ok → M_plan_Fates t540_l t540_makers t540_before t540_after files (fun (a : List (Int × List UInt8 × List UInt8)) =>
 (0 ≤ (30 : Int) ∧ (30 : Int) * 32 ≤ 140737488355328 ∧ (30 : Int) ≤ 140737488355328) ∧
 (((([] : List (List UInt8 × List UInt8))).length + files.length) * 32 ≤ 140737488355328) ∧
 (((([] : List (List UInt8 × List UInt8)) ++ files).length + (([(p, text)] : List (List UInt8 × List UInt8))).length) * 32 ≤ 140737488355328) ∧
 M_plan_Fates t540_l t540_makers t540_before t540_after ((([] : List (List UInt8 × List UInt8)) ++ files) ++ ([(p, text)] : List (List UInt8 × List UInt8))) (fun (b : List (Int × List UInt8 × List UInt8)) =>
 ∃ J2 : Bool → Prop, ((((!decide ((a.length : Int) = (b.length : Int))) = true → J2 true) ∧
 ((!decide ((a.length : Int) = (b.length : Int))) = false → M_pgraph_Graph_Len t540_l t540_makers t540_before t540_after (fun (t87 : Int) =>
 J2 (!decide ((a.length : Int) = t87)))))) ∧
 (∀ q8 : Bool, J2 q8 → ((q8 = true → K false) ∧
 (q8 = false → (0 ≤ (l.length : Int) ∧ (l.length : Int) * 1 ≤ 140737488355328 ∧ (l.length : Int) ≤ 140737488355328) ∧
 M_pgraph_Graph_Order t540_l t540_makers t540_before t540_after (fun (o : List Int) =>
 Lp2 (fun (i : Int) (hangs : List Bool) kont1 => (l.length : Int).toNat = hangs.length → ((i < (o.length : Int) → (0 ≤ i ∧ i < (o.length : Nat)) ∧
 (0 ≤ o.getD i.toNat 0 ∧ o.getD i.toNat 0 < (l.length : Nat)) ∧
 M_smithyref_AmongTexts ((l.getD ((o.getD i.toNat 0).toNat) (0, [], [], [])).2.2.1) p (fun (t113 : Int) =>
 ∃ J3 : Bool → Prop, ((((decide ((0 : Int) ≤ t113)) = true → M_pgraph_Graph_Maker t540_l t540_makers t540_before t540_after p (fun (t118 : Int) =>
 J3 (decide (t118 < (0 : Int))))) ∧
 ((decide ((0 : Int) ≤ t113)) = false → J3 false))) ∧
 (∀ q9 : Bool, J3 q9 → (0 ≤ o.getD i.toNat 0 ∧ o.getD i.toNat 0 < ((l.length : Int).toNat : Nat)) ∧
 M_pgraph_Graph_Before t540_l t540_makers t540_before t540_after (o.getD i.toNat 0) (fun (before : List Int) =>
 Lp2 (fun (j : Int) (hangs2 : List Bool) kont2 => (l.length : Int).toNat = hangs2.length → ((j < (before.length : Int) → (0 ≤ o.getD i.toNat 0 ∧ o.getD i.toNat 0 < ((l.length : Int).toNat : Nat)) ∧
 ((hangs2.getD ((o.getD i.toNat 0).toNat) false) = false → (0 ≤ j ∧ j < (before.length : Nat))) ∧
 ((hangs2.getD ((o.getD i.toNat 0).toNat) false) = false → (0 ≤ before.getD j.toNat 0 ∧ before.getD j.toNat 0 < ((l.length : Int).toNat : Nat))) ∧
 (0 ≤ o.getD i.toNat 0 ∧ o.getD i.toNat 0 < ((l.length : Int).toNat : Nat)) ∧
 (In .i64 (j + (1 : Int))) ∧
 kont2 (j + (1 : Int)) (hangs2.set ((o.getD i.toNat 0).toNat) ((hangs2.getD ((o.getD i.toNat 0).toNat) false) || (hangs2.getD ((before.getD j.toNat 0).toNat) false)))) ∧
 (¬ (j < (before.length : Int)) → (In .i64 (i + (1 : Int))) ∧
 kont1 (i + (1 : Int)) hangs2))) (0 : Int) (hangs.set ((o.getD i.toNat 0).toNat) q9))))) ∧
 (¬ (i < (o.length : Int)) → Lp1 (fun (i2 : Int) kont3 => ((i2 < (l.length : Int) → (0 ≤ i2 ∧ i2 < ((l.length : Int).toNat : Nat)) ∧
 ((!(hangs.getD i2.toNat false)) = true → (0 ≤ i2 ∧ i2 < (a.length : Nat))) ∧
 ((!(hangs.getD i2.toNat false)) = true → (0 ≤ i2 ∧ i2 < (b.length : Nat))) ∧
 ((!(hangs.getD i2.toNat false)) = true → (!decide (((a.getD i2.toNat (0, [], [])).1) = ((b.getD i2.toNat (0, [], [])).1))) = false → (0 ≤ i2 ∧ i2 < (a.length : Nat))) ∧
 ((!(hangs.getD i2.toNat false)) = true → (!decide (((a.getD i2.toNat (0, [], [])).1) = ((b.getD i2.toNat (0, [], [])).1))) = false → (0 ≤ i2 ∧ i2 < (b.length : Nat))) ∧
 ((((!(hangs.getD i2.toNat false)) && ((!decide (((a.getD i2.toNat (0, [], [])).1) = ((b.getD i2.toNat (0, [], [])).1))) || (!decide (((a.getD i2.toNat (0, [], [])).2.1) = ((b.getD i2.toNat (0, [], [])).2.1))))) = true → K false) ∧
 (((!(hangs.getD i2.toNat false)) && ((!decide (((a.getD i2.toNat (0, [], [])).1) = ((b.getD i2.toNat (0, [], [])).1))) || (!decide (((a.getD i2.toNat (0, [], [])).2.1) = ((b.getD i2.toNat (0, [], [])).2.1))))) = false → (In .i64 (i2 + (1 : Int))) ∧
 kont3 (i2 + (1 : Int))))) ∧
 (¬ (i2 < (l.length : Int)) → K true))) (0 : Int)))) (0 : Int) (List.replicate (l.length : Int).toNat false)))))))))))))))))))

set_option maxHeartbeats 8000000 in
theorem W_smithylaw26_first {S : List Nat} {w : World} {K : Bool → Prop} (hG : GOK S w) (hS4 : 4 ∈ S) (hS6 : 6 ∈ S) (hS9 : 9 ∈ S) (hS10 : 10 ∈ S) (hS11 : 11 ∈ S) (hS16 : 16 ∈ S) (hS100 : 100 ∈ S) (hS101 : 101 ∈ S) (H : M_smithylaw26_first  K) : Fn Tryz.prog 6 ⟨[]⟩ w (fun v w' => w.grownBy w' none ∧ ∃ (r : Bool), v = .bool r ∧ K r) := by
  unfold M_smithylaw26_first at H
  refine Fn.enter (by kernel_rfl) Tryz.func6 rfl Tryz.ntmps6 rfl ?_
  refine WC.seq ?_
  refine WC.region ?_
  refine WL.y rfl (Yld.pure tab_ok rfl) ?_
  refine WL.nil (WX.then_normal ?_)
  refine WC.seq ?_
  refine WC.region ?_
  refine WL.lit tab_ok rfl rfl rfl (all1c rfl (all1c rfl all1n)) rfl (by omega) (fun g1 w1 hB1 hg1 hl1 => ?_)
  have hO1 : Own vs w1 w.heap.size 9 (some ⟨g1, 0, none⟩) 2 ([([97] : List UInt8), ([98] : List UInt8)] : List (List UInt8)) := Own.ofBl hB1 (Nat.le_trans (Nat.le_refl _) hl1) (by simp [maxLen]) rfl
  have gr1 := hg1
  refine WL.y rfl (Yld.struct (us := [.int .i64 (1 : Int), .slice (some ⟨g1, 0, none⟩) 2 2, .slice none 0 0, vs ([120] : List UInt8)]) zero43 places43 rfl rfl) ?_
  refine WL.lit tab_ok rfl rfl rfl (all1c rfl all1n) rfl (by omega) (fun g2 w2 hB2 hg2 hl2 => ?_)
  have hO2 : Own vs w2 w.heap.size 9 (some ⟨g2, 0, none⟩) 1 ([([120] : List UInt8)] : List (List UInt8)) := Own.ofBl hB2 (Nat.le_trans (size_le gr1) hl2) (by simp [maxLen]) rfl
  have gr2 := gr_trans gr1 hg2
  have k1 := hO1.grown hg2
  refine WL.y rfl (Yld.struct (us := [.int .i64 (1 : Int), .slice none 0 0, .slice (some ⟨g2, 0, none⟩) 1 1, vs ([121] : List UInt8)]) zero43 places43 rfl rfl) ?_
  refine WL.litK (f := encH43) ([((1 : Int), ⟨(some ⟨g1, 0, none⟩), 2, 2⟩, ⟨none, 0, 0⟩, ([120] : List UInt8)), ((1 : Int), ⟨none, 0, 0⟩, ⟨(some ⟨g2, 0, none⟩), 1, 1⟩, ([121] : List UInt8))] : List (Int × Hdr × Hdr × List UInt8)) encH43_ok rfl ow22 rfl rfl rfl (fun g4 w4 hB4 hg4 hl4 => ?_)
  have hO4 : OwnK 4 encH43 w4 w.heap.size 43 (some ⟨g4, 0, none⟩) 2 ([((1 : Int), ⟨(some ⟨g1, 0, none⟩), 2, 2⟩, ⟨none, 0, 0⟩, ([120] : List UInt8)), ((1 : Int), ⟨none, 0, 0⟩, ⟨(some ⟨g2, 0, none⟩), 1, 1⟩, ([121] : List UInt8))] : List (Int × Hdr × Hdr × List UInt8)) := OwnK.ofBl encH43_ok hB4 (Nat.le_trans (size_le gr2) hl4) (by simp [maxLen]) rfl
  have gr3 := gr_trans gr2 hg4
  have k2 := k1.grown hg4
  have k3 := hO2.grown hg4
  have hr1 : RelD de43 w4 ([((1 : Int), ⟨(some ⟨g1, 0, none⟩), 2, 2⟩, ⟨none, 0, 0⟩, ([120] : List UInt8)), ((1 : Int), ⟨none, 0, 0⟩, ⟨(some ⟨g2, 0, none⟩), 1, 1⟩, ([121] : List UInt8))] : List (Int × Hdr × Hdr × List UInt8)) ([((1 : Int), ([([97] : List UInt8), ([98] : List UInt8)] : List (List UInt8)), [], ([120] : List UInt8)), ((1 : Int), [], ([([120] : List UInt8)] : List (List UInt8)), ([121] : List UInt8))] : List (Int × List (List UInt8) × List (List UInt8) × List UInt8)) := (RelD.cons ⟨rfl, ⟨rfl, k2.rd⟩, ⟨rfl, (Own.nil vs w4 w.heap.size 9).rd⟩, rfl⟩ (RelD.cons ⟨rfl, ⟨rfl, (Own.nil vs w4 w.heap.size 9).rd⟩, ⟨rfl, k3.rd⟩, rfl⟩ RelD.nil))
  have nd1 : NewD de43 ([((1 : Int), ⟨(some ⟨g1, 0, none⟩), 2, 2⟩, ⟨none, 0, 0⟩, ([120] : List UInt8)), ((1 : Int), ⟨none, 0, 0⟩, ⟨(some ⟨g2, 0, none⟩), 1, 1⟩, ([121] : List UInt8))] : List (Int × Hdr × Hdr × List UInt8)) ([((1 : Int), ([([97] : List UInt8), ([98] : List UInt8)] : List (List UInt8)), [], ([120] : List UInt8)), ((1 : Int), [], ([([120] : List UInt8)] : List (List UInt8)), ([121] : List UInt8))] : List (Int × List (List UInt8) × List (List UInt8) × List UInt8)) w.heap.size := (NewD.cons (d := de43) (fun p_ hp_ => ⟨trivial, (Dn.of (Dj.new hp_ k2.ge').symm), (fun h => absurd rfl h), trivial⟩) (NewD.cons (d := de43) (fun p_ hp_ => ⟨trivial, (fun h => absurd rfl h), (Dn.of (Dj.new hp_ k3.ge').symm), trivial⟩) NewD.nil))
  have dj1 : DnD de43 ([((1 : Int), ⟨(some ⟨g1, 0, none⟩), 2, 2⟩, ⟨none, 0, 0⟩, ([120] : List UInt8)), ((1 : Int), ⟨none, 0, 0⟩, ⟨(some ⟨g2, 0, none⟩), 1, 1⟩, ([121] : List UInt8))] : List (Int × Hdr × Hdr × List UInt8)) ([((1 : Int), ([([97] : List UInt8), ([98] : List UInt8)] : List (List UInt8)), [], ([120] : List UInt8)), ((1 : Int), [], ([([120] : List UInt8)] : List (List UInt8)), ([121] : List UInt8))] : List (Int × List (List UInt8) × List (List UInt8) × List UInt8)) (blk (some ⟨g4, 0, none⟩)) := (DnD.cons (d := de43) ⟨trivial, (Dn.of (Dj.new k1.lt' (Ge.box hl4))), (Dn.of Dj.nl), trivial⟩ (DnD.cons (d := de43) ⟨trivial, (Dn.of Dj.nl), (Dn.of (Dj.new hO2.lt' (Ge.box hl4))), trivial⟩ DnD.nil))
  refine WL.call rfl rfl (W_graph_New (hG.grown gr3) hS4 hS6 hS9 hS10 hS11 hS100 hO4.rd (rfl.trans hr1.1) hr1 H) ?_
  rintro v_ w5 ⟨hg_, hc_ | hc_⟩
  · obtain ⟨v_t101, t101, rfl, ht101, H⟩ := hc_
    have hg5 := hg_
    have gr4 := gr_trans gr3 hg5
    refine WL.y rfl (Yld.pure tab_ok rfl) ?_
    refine WL.y rfl (Yld.pure tab_ok rfl) ?_
    refine WL.y rfl (Yld.pure tab_ok rfl) ?_
    refine WL.y rfl (Yld.pure tab_ok rfl) ?_
    refine WL.y rfl (Yld.pure tab_ok rfl) ?_
    refine WL.nil (WX.then_normal ?_)
    refine WC.seq ?_
    refine WC.seq ?_
    refine WC.region ?_
    refine WL.y rfl (Yld.pure tab_ok rfl) ?_
    refine WL.y rfl (Yld.peqnil Tryz.underlying27 rfl rfl) ?_
    refine WL.y rfl (Yld.pure tab_ok rfl) ?_
    refine WL.midF 3 (fun L' w' => ∃ q1 : Bool, L' = [(18, .bool q1), (1, .pointer none)] ∧ true = q1 ∧ w5 = w') ?_ (fun hQ => ?_)
    · rintro _ _ ⟨q1, rfl, rfl, rfl⟩
      refine WL.nil (WX.then_normal ?_)
      refine WC.cond rfl (fun _ => ?_) (fun h => by cases h)
      refine WC.seq ?_
      refine WC.region ?_
      refine WL.y rfl (Yld.pure tab_ok rfl) ?_
      refine WL.nil (WX.then_normal ?_)
      refine WC.ret (WX.then_ret ?_)
      exact WX.ret1 rfl rfl ⟨gr4, false, rfl, H⟩
    · clear H
      refine WL.gno rfl rfl (rfl) rfl ?_
      refine WL.gno rfl rfl (rfl) rfl ?_
      refine WL.y rfl (Yld.pickT (rfl) rfl) ?_
      exact WL.weaken (by repeat (first | exact Sub.nil | refine Sub.cons rfl ?_)) (hQ _ _ ⟨true, rfl, rfl, rfl⟩)
  · obtain ⟨g_t100, t100_l, A_t100_l, c_t100_l, hs_t100_l, g_t100_makers, t100_makers, t100_before, A_t100_before, c_t100_before, hs_t100_before, t100_after, A_t100_after, c_t100_after, hs_t100_after, v_t1012, t1012, rfl, ht100_l, hr_t100_l, nd2, dj2, ht100_before, hr_t100_before, nd3, dj3, ht100_after, hr_t100_after, nd4, dj4, ht1012, ht100_makers, hge1, ht100, hge2, dj5, dj6, dj7, dj8, dj9, dj10, dj11, dj12, dj13, dj14, dj15, dj16, dj17, dj18, dj19, dj20, dj21, dj22, dj23, dj24, dj25, dj26, dj27, dj28, dj29, H⟩ := hc_
    have hg6 := hg_
    have hb1 := ht100_l.ge'
    have k4 := ht100_l.base (fun g hg => Nat.le_trans (size_le gr3) (hb1 g hg))
    have hb2 := ht100_before.ge'
    have k5 := ht100_before.base (fun g hg => Nat.le_trans (size_le gr3) (hb2 g hg))
    have hb3 := ht100_after.ge'
    have k6 := ht100_after.base (fun g hg => Nat.le_trans (size_le gr3) (hb3 g hg))
    have gr5 := gr_trans gr3 hg6
    refine WL.y rfl (Yld.pure tab_ok rfl) ?_
    refine WL.y rfl (Yld.pure tab_ok rfl) ?_
    refine WL.y rfl (Yld.pure tab_ok rfl) ?_
    refine WL.y rfl (Yld.pure tab_ok rfl) ?_
    refine WL.y rfl (Yld.pure tab_ok rfl) ?_
    refine WL.nil (WX.then_normal ?_)
    refine WC.seq ?_
    refine WC.seq ?_
    refine WC.region ?_
    refine WL.y rfl (Yld.pure tab_ok rfl) ?_
    refine WL.y rfl (Yld.peqnil Tryz.underlying27 rfl rfl) ?_
    refine WL.y rfl (Yld.pure tab_ok rfl) ?_
    refine WL.midF 3 (fun L' w' => ∃ q2 : Bool, L' = [(18, .bool q2), (1, .pointer (some ⟨g_t100, 0, none⟩))] ∧ (!decide (t1012 = Er.ok)) = q2 ∧ w5 = w') ?_ (fun hQ => ?_)
    · rintro _ _ ⟨q2, rfl, rfl, rfl⟩
      refine WL.nil (WX.then_normal ?_)
      refine WC.cond rfl (fun b1 => ?_) (fun b1 => ?_)
      · replace H := H.1 (nd_true b1)
        refine WC.seq ?_
        refine WC.region ?_
        refine WL.y rfl (Yld.pure tab_ok rfl) ?_
        refine WL.nil (WX.then_normal ?_)
        refine WC.ret (WX.then_ret ?_)
        exact WX.ret1 rfl rfl ⟨gr5, false, rfl, H⟩
      · replace H := H.2 (nd_false b1)
        refine WC.skip (WX.then_normal ?_)
        refine WC.seq ?_
        refine WC.region ?_
        refine WL.y rfl (Yld.pure tab_ok rfl) ?_
        refine WL.call rfl rfl (W_plan_Fates (hG.grown gr5) hS10 hS16 hS100 hS101 k4.rd rfl hr_t100_l ht100_makers k5.rd rfl hr_t100_before k6.rd rfl hr_t100_after ht100 (OwnK.nil enc35_ok w5 w.heap.size 35).rd rfl H) ?_
        rintro _ w8 ⟨hg7, f, A_f, c_f, rfl, hf, H⟩
        have hb4 := hf.ge'
        have k7 := hf.base (fun g hg => Nat.le_trans (size_le gr5) (hb4 g hg))
        have gr6 := gr_trans gr5 hg7
        refine WL.y rfl (Yld.pure tab_ok rfl) ?_
        refine WL.nil (WX.then_normal ?_)
        refine WC.seq ?_
        refine WC.region ?_
        refine WL.y rfl (Yld.pure tab_ok rfl) ?_
        refine WL.y rfl (Yld.pure tab_ok rfl) ?_
        refine WL.y rfl (Yld.pure tab_ok rfl) ?_
        refine WL.y rfl (Yld.pure tab_ok rfl) ?_
        obtain ⟨h1, H⟩ := H
        refine WL.midF 6 (fun L' w' => ∃ q3 : Bool, L' = [(30, .bool q3), (3, .slice A_f f.length c_f)] ∧ ((decide ((f.length : Int) = (2 : Int))) && (decide (((f.getD 0 (0, [], [])).1) = (2 : Int)))) = q3 ∧ w8 = w') ?_ (fun hQ => ?_)
        · rintro _ _ ⟨q3, rfl, rfl, rfl⟩
          refine WL.y rfl (Yld.pure tab_ok rfl) ?_
          obtain ⟨h2, H⟩ := H
          refine WL.midF 6 (fun L' w' => ∃ q4 : Bool, L' = [(37, .bool q4)] ∧ (((decide ((f.length : Int) = (2 : Int))) && (decide (((f.getD 0 (0, [], [])).1) = (2 : Int)))) && (decide (((f.getD 1 (0, [], [])).1) = (3 : Int)))) = q4 ∧ w8 = w') ?_ (fun hQ => ?_)
          · rintro _ _ ⟨q4, rfl, rfl, rfl⟩
            refine WL.y rfl (Yld.pure tab_ok rfl) ?_
            refine WL.nil (WX.then_normal ?_)
            refine WC.ret ?_
            exact WX.ret1 rfl rfl ⟨gr6, ((decide ((f.length : Int) = (2 : Int))) && (decide (((f.getD 0 (0, [], [])).1) = (2 : Int)))) && (decide (((f.getD 1 (0, [], [])).1) = (3 : Int))), rfl, H⟩
          · clear H
            rcases Bool.eq_false_or_eq_true ((decide ((f.length : Int) = (2 : Int))) && (decide (((f.getD 0 (0, [], [])).1) = (2 : Int)))) with b2 | b2
            · refine WL.gyes rfl rfl (okb b2) rfl (Yld.pure tab_ok rfl) ?_
              refine WL.gyes rfl rfl (okb b2) rfl (Yld.iaddrK tab_ok k7.rd rfl rfl rfl rfl (h2 b2).1 (h2 b2).2) ?_
              refine WL.gyes rfl rfl (okb b2) rfl (Yld.faddrK tab_ok k7.rd (iltN (h2 b2) rfl) rfl rfl rfl) ?_
              refine WL.gyes rfl rfl (okb b2) rfl (Yld.iloadF (0, [], []) tab_ok k7.rd rfl rfl (iltN (h2 b2) rfl) rfl) ?_
              refine WL.gyes rfl rfl (okb b2) rfl (Yld.pure tab_ok rfl) ?_
              refine WL.y rfl (Yld.pickT (okb b2) rfl) ?_
              exact WL.weaken (by repeat (first | exact Sub.nil | refine Sub.cons rfl ?_)) (hQ _ _ ⟨decide (((f.getD 1 (0, [], [])).1) = (3 : Int)), rfl, by rw [b2] <;> rfl, rfl⟩)
            · refine WL.gno rfl rfl (okb b2) rfl ?_
              refine WL.gno rfl rfl (okb b2) rfl ?_
              refine WL.gno rfl rfl (okb b2) rfl ?_
              refine WL.gno rfl rfl (okb b2) rfl ?_
              refine WL.gno rfl rfl (okb b2) rfl ?_
              refine WL.y rfl (Yld.pickF (okb b2) rfl) ?_
              exact WL.weaken (by repeat (first | exact Sub.nil | refine Sub.cons rfl ?_)) (hQ _ _ ⟨false, rfl, by rw [b2] <;> rfl, rfl⟩)
        · clear H
          rcases Bool.eq_false_or_eq_true (decide ((f.length : Int) = (2 : Int))) with b3 | b3
          · refine WL.gyes rfl rfl (okb b3) rfl (Yld.pure tab_ok rfl) ?_
            refine WL.gyes rfl rfl (okb b3) rfl (Yld.iaddrK tab_ok k7.rd rfl rfl rfl rfl (h1 b3).1 (h1 b3).2) ?_
            refine WL.gyes rfl rfl (okb b3) rfl (Yld.faddrK tab_ok k7.rd (iltN (h1 b3) rfl) rfl rfl rfl) ?_
            refine WL.gyes rfl rfl (okb b3) rfl (Yld.iloadF (0, [], []) tab_ok k7.rd rfl rfl (iltN (h1 b3) rfl) rfl) ?_
            refine WL.gyes rfl rfl (okb b3) rfl (Yld.pure tab_ok rfl) ?_
            refine WL.y rfl (Yld.pickT (okb b3) rfl) ?_
            exact WL.weaken (by repeat (first | exact Sub.nil | refine Sub.cons rfl ?_)) (hQ _ _ ⟨decide (((f.getD 0 (0, [], [])).1) = (2 : Int)), rfl, by rw [b3] <;> rfl, rfl⟩)
          · refine WL.gno rfl rfl (okb b3) rfl ?_
            refine WL.gno rfl rfl (okb b3) rfl ?_
            refine WL.gno rfl rfl (okb b3) rfl ?_
            refine WL.gno rfl rfl (okb b3) rfl ?_
            refine WL.gno rfl rfl (okb b3) rfl ?_
            refine WL.y rfl (Yld.pickF (okb b3) rfl) ?_
            exact WL.weaken (by repeat (first | exact Sub.nil | refine Sub.cons rfl ?_)) (hQ _ _ ⟨false, rfl, by rw [b3] <;> rfl, rfl⟩)
    · clear H
      refine WL.gyes rfl rfl (rfl) rfl (Yld.pure tab_ok rfl) ?_
      refine WL.gyes rfl rfl (rfl) rfl (Yld.errneq Tryz.underlying29 ht1012 rfl) ?_
      refine WL.y rfl (Yld.pickF (rfl) rfl) ?_
      exact WL.weaken (by repeat (first | exact Sub.nil | refine Sub.cons rfl ?_)) (hQ _ _ ⟨!decide (t1012 = Er.ok), rfl, rfl, rfl⟩)

set_option maxHeartbeats 8000000 in
theorem W_smithylaw26_PlanFresh {S : List Nat} {w : World} {l : List (Int × List (List UInt8) × List (List UInt8) × List UInt8)} {A_l : Option Addr} {c_l : Nat} {hs_l : List (Int × Hdr × Hdr × List UInt8)} {files : List (List UInt8 × List UInt8)} {A_files : Option Addr} {c_files : Nat} {p : List UInt8} {text : List UInt8} {n_l : Nat} {n_files : Nat} {K : Bool → Prop} (hG : GOK S w) (hS4 : 4 ∈ S) (hS6 : 6 ∈ S) (hS9 : 9 ∈ S) (hS10 : 10 ∈ S) (hS11 : 11 ∈ S) (hS16 : 16 ∈ S) (hS100 : 100 ∈ S) (hS101 : 101 ∈ S) (hl : RdK 4 encH43 w A_l c_l hs_l) (hn_l : n_l = l.length) (hr_l : RelD de43 w hs_l l) (hfiles : RdK 2 enc35 w A_files c_files files) (hn_files : n_files = files.length) (H : M_smithylaw26_PlanFresh l files p text K) : Fn Tryz.prog 3 ⟨[.slice A_l n_l c_l, .slice A_files n_files c_files, vs p, vs text]⟩ w (fun v w' => w.grownBy w' none ∧ ∃ (r : Bool), v = .bool r ∧ K r) := by
  subst hn_l
  subst hn_files
  unfold M_smithylaw26_PlanFresh at H
  refine Fn.enter (by kernel_rfl) Tryz.func3 rfl Tryz.ntmps3 rfl ?_
  replace H := H (by rw [← hr_l.1]; exact Nat.le_trans hl.cap hl.max)
  replace H := H (Nat.le_trans hfiles.cap hfiles.max)
  refine WC.seq ?_
  refine WC.region ?_
  refine WL.y rfl (Yld.pure tab_ok rfl) ?_
  refine WL.nil (WX.then_normal ?_)
  refine WC.seq ?_
  refine WC.region ?_
  refine WL.call rfl rfl (W_smithylaw26_first hG hS4 hS6 hS9 hS10 hS11 hS16 hS100 hS101 H) ?_
  rintro _ w1 ⟨hg1, ok, rfl, H⟩
  have gr1 := hg1
  refine WL.y rfl (Yld.pure tab_ok rfl) ?_
  refine WL.nil (WX.then_normal ?_)
  refine WC.seq ?_
  refine WC.seq ?_
  refine WC.region ?_
  refine WL.y rfl (Yld.pure tab_ok rfl) ?_
  refine WL.y rfl (Yld.pure tab_ok rfl) ?_
  refine WL.nil (WX.then_normal ?_)
  refine WC.cond rfl (fun b1 => ?_) (fun b1 => ?_)
  · replace H := H.1 (b1)
    refine WC.seq ?_
    refine WC.region ?_
    refine WL.y rfl (Yld.pure tab_ok rfl) ?_
    refine WL.nil (WX.then_normal ?_)
    refine WC.ret (WX.then_ret ?_)
    exact WX.ret1 rfl rfl ⟨gr1, false, rfl, H⟩
  · replace H := H.2 (b1)
    refine WC.skip (WX.then_normal ?_)
    refine WC.seq ?_
    refine WC.seq ?_
    refine WC.region ?_
    refine WL.y rfl (Yld.pure tab_ok rfl) ?_
    refine WL.call rfl rfl (W_smithyworld_Actions (hl.grown gr1) rfl (hr_l.grown gr1) H) ?_
    rintro _ _ ⟨rfl, t25, rfl, H⟩
    refine WL.y rfl (Yld.pure tab_ok rfl) ?_
    refine WL.y rfl (Yld.pure tab_ok rfl) ?_
    refine WL.midF 4 (fun L' w' => ∃ q1 : Bool, L' = [(31, .bool q1), (0, .slice A_l l.length c_l), (1, .slice A_files files.length c_files), (2, vs p), (3, vs text), (9, .bool ok)] ∧ ((!t25) || (decide ((20 : Int) < (files.length : Int)))) = q1 ∧ w1 = w') ?_ (fun hQ => ?_)
    · rintro _ _ ⟨q1, rfl, rfl, rfl⟩
      refine WL.y rfl (Yld.pure tab_ok rfl) ?_
      obtain ⟨J1, H, hJ1⟩ := H
      refine WL.midF 4 (fun L' w' => ∃ q2 : Bool, L' = [(36, .bool q2), (0, .slice A_l l.length c_l), (1, .slice A_files files.length c_files), (2, vs p), (3, vs text), (9, .bool ok)] ∧ J1 q2 ∧ w1 = w') ?_ (fun hQ => ?_)
      · clear H
        rintro _ _ ⟨q2, rfl, H, rfl⟩
        replace H := hJ1 q2 H
        refine WL.y rfl (Yld.pure tab_ok rfl) ?_
        refine WL.midF 4 (fun L' w' => ∃ q3 : Bool, L' = [(41, .bool q3), (0, .slice A_l l.length c_l), (1, .slice A_files files.length c_files), (2, vs p), (3, vs text), (9, .bool ok)] ∧ (q2 || (decide ((100 : Int) < (p.length : Int)))) = q3 ∧ w1 = w') ?_ (fun hQ => ?_)
        · rintro _ _ ⟨q3, rfl, rfl, rfl⟩
          refine WL.y rfl (Yld.pure tab_ok rfl) ?_
          refine WL.midF 4 (fun L' w' => ∃ q4 : Bool, L' = [(46, .bool q4), (0, .slice A_l l.length c_l), (1, .slice A_files files.length c_files), (2, vs p), (3, vs text), (9, .bool ok)] ∧ ((q2 || (decide ((100 : Int) < (p.length : Int)))) || (decide ((500 : Int) < (text.length : Int)))) = q4 ∧ w1 = w') ?_ (fun hQ => ?_)
          · rintro _ _ ⟨q4, rfl, rfl, rfl⟩
            refine WL.y rfl (Yld.pure tab_ok rfl) ?_
            refine WL.midF 3 (fun L' w' => ∃ q5 : Bool, L' = [(50, .bool q5), (0, .slice A_l l.length c_l), (1, .slice A_files files.length c_files), (2, vs p), (3, vs text), (9, .bool ok)] ∧ (((q2 || (decide ((100 : Int) < (p.length : Int)))) || (decide ((500 : Int) < (text.length : Int)))) || (!ok)) = q5 ∧ w1 = w') ?_ (fun hQ => ?_)
            · rintro _ _ ⟨q5, rfl, rfl, rfl⟩
              refine WL.nil (WX.then_normal ?_)
              refine WC.cond rfl (fun b2 => ?_) (fun b2 => ?_)
              · replace H := H.1 (b2)
                refine WC.seq ?_
                refine WC.region ?_
                refine WL.y rfl (Yld.pure tab_ok rfl) ?_
                refine WL.y rfl (Yld.pure tab_ok rfl) ?_
                refine WL.nil (WX.then_normal ?_)
                refine WC.ret (WX.then_ret ?_)
                exact WX.ret1 rfl rfl ⟨gr1, ok, rfl, H⟩
              · replace H := H.2 (b2)
                refine WC.skip (WX.then_normal ?_)
                refine WC.seq ?_
                refine WC.region ?_
                refine WL.y rfl (Yld.pure tab_ok rfl) ?_
                refine WL.call rfl rfl (W_graph_New (hG.grown gr1) hS4 hS6 hS9 hS10 hS11 hS100 (hl.grown gr1) rfl (hr_l.grown gr1) H) ?_
                rintro v_ w2 ⟨hg_, hc_ | hc_⟩
                · obtain ⟨v_t541, t541, rfl, ht541, H⟩ := hc_
                  have hg2 := hg_
                  have gr2 := gr_trans gr1 hg2
                  refine WL.y rfl (Yld.pure tab_ok rfl) ?_
                  refine WL.y rfl (Yld.pure tab_ok rfl) ?_
                  refine WL.y rfl (Yld.pure tab_ok rfl) ?_
                  refine WL.y rfl (Yld.pure tab_ok rfl) ?_
                  refine WL.y rfl (Yld.pure tab_ok rfl) ?_
                  refine WL.nil (WX.then_normal ?_)
                  refine WC.seq ?_
                  refine WC.seq ?_
                  refine WC.region ?_
                  refine WL.y rfl (Yld.pure tab_ok rfl) ?_
                  refine WL.y rfl (Yld.peqnil Tryz.underlying27 rfl rfl) ?_
                  refine WL.y rfl (Yld.pure tab_ok rfl) ?_
                  refine WL.midF 3 (fun L' w' => ∃ q6 : Bool, L' = [(62, .bool q6), (0, .slice A_l l.length c_l), (1, .slice A_files files.length c_files), (2, vs p), (3, vs text), (10, .pointer none)] ∧ true = q6 ∧ w2 = w') ?_ (fun hQ => ?_)
                  · rintro _ _ ⟨q6, rfl, rfl, rfl⟩
                    refine WL.nil (WX.then_normal ?_)
                    refine WC.cond rfl (fun _ => ?_) (fun h => by cases h)
                    refine WC.seq ?_
                    refine WC.region ?_
                    refine WL.y rfl (Yld.pure tab_ok rfl) ?_
                    refine WL.y rfl (Yld.peqnil Tryz.underlying27 rfl rfl) ?_
                    refine WL.y rfl (Yld.pure tab_ok rfl) ?_
                    refine WL.nil (WX.then_normal ?_)
                    refine WC.ret (WX.then_ret ?_)
                    exact WX.ret1 rfl rfl ⟨gr2, true, rfl, H⟩
                  · clear H
                    refine WL.gno rfl rfl (rfl) rfl ?_
                    refine WL.gno rfl rfl (rfl) rfl ?_
                    refine WL.y rfl (Yld.pickT (rfl) rfl) ?_
                    exact WL.weaken (by repeat (first | exact Sub.nil | refine Sub.cons rfl ?_)) (hQ _ _ ⟨true, rfl, rfl, rfl⟩)
                · obtain ⟨g_t540, t540_l, A_t540_l, c_t540_l, hs_t540_l, g_t540_makers, t540_makers, t540_before, A_t540_before, c_t540_before, hs_t540_before, t540_after, A_t540_after, c_t540_after, hs_t540_after, v_t5412, t5412, rfl, ht540_l, hr_t540_l, nd1, dj1, ht540_before, hr_t540_before, nd2, dj2, ht540_after, hr_t540_after, nd3, dj3, ht5412, ht540_makers, hge1, ht540, hge2, dj4, dj5, dj6, dj7, dj8, dj9, dj10, dj11, dj12, dj13, dj14, dj15, dj16, dj17, dj18, dj19, dj20, dj21, dj22, dj23, dj24, dj25, dj26, dj27, dj28, H⟩ := hc_
                  have hg3 := hg_
                  have hb1 := ht540_l.ge'
                  have k1 := ht540_l.base (fun g hg => Nat.le_trans (size_le gr1) (hb1 g hg))
                  have hb2 := ht540_before.ge'
                  have k2 := ht540_before.base (fun g hg => Nat.le_trans (size_le gr1) (hb2 g hg))
                  have hb3 := ht540_after.ge'
                  have k3 := ht540_after.base (fun g hg => Nat.le_trans (size_le gr1) (hb3 g hg))
                  have gr3 := gr_trans gr1 hg3
                  refine WL.y rfl (Yld.pure tab_ok rfl) ?_
                  refine WL.y rfl (Yld.pure tab_ok rfl) ?_
                  refine WL.y rfl (Yld.pure tab_ok rfl) ?_
                  refine WL.y rfl (Yld.pure tab_ok rfl) ?_
                  refine WL.y rfl (Yld.pure tab_ok rfl) ?_
                  refine WL.nil (WX.then_normal ?_)
                  refine WC.seq ?_
                  refine WC.seq ?_
                  refine WC.region ?_
                  refine WL.y rfl (Yld.pure tab_ok rfl) ?_
                  refine WL.y rfl (Yld.peqnil Tryz.underlying27 rfl rfl) ?_
                  refine WL.y rfl (Yld.pure tab_ok rfl) ?_
                  refine WL.midF 3 (fun L' w' => ∃ q7 : Bool, L' = [(62, .bool q7), (0, .slice A_l l.length c_l), (1, .slice A_files files.length c_files), (2, vs p), (3, vs text), (10, .pointer (some ⟨g_t540, 0, none⟩))] ∧ (!decide (t5412 = Er.ok)) = q7 ∧ w2 = w') ?_ (fun hQ => ?_)
                  · rintro _ _ ⟨q7, rfl, rfl, rfl⟩
                    refine WL.nil (WX.then_normal ?_)
                    refine WC.cond rfl (fun b3 => ?_) (fun b3 => ?_)
                    · replace H := H.1 (nd_true b3)
                      refine WC.seq ?_
                      refine WC.region ?_
                      refine WL.y rfl (Yld.pure tab_ok rfl) ?_
                      refine WL.y rfl (Yld.peqnil Tryz.underlying27 rfl rfl) ?_
                      refine WL.y rfl (Yld.pure tab_ok rfl) ?_
                      refine WL.nil (WX.then_normal ?_)
                      refine WC.ret (WX.then_ret ?_)
                      exact WX.ret1 rfl rfl ⟨gr3, false, rfl, H⟩
                    · replace H := H.2 (nd_false b3)
                      refine WC.skip (WX.then_normal ?_)
                      refine WC.seq ?_
                      refine WC.region ?_
                      refine WL.y rfl (Yld.pure tab_ok rfl) ?_
                      refine WL.y rfl (Yld.pure tab_ok rfl) ?_
                      refine WL.call rfl rfl (W_plan_Fates (hG.grown gr3) hS10 hS16 hS100 hS101 k1.rd rfl hr_t540_l ht540_makers k2.rd rfl hr_t540_before k3.rd rfl hr_t540_after ht540 (hfiles.grown gr3) rfl H) ?_
                      rintro _ w5 ⟨hg4, a, A_a, c_a, rfl, ha, H⟩
                      have hb4 := ha.ge'
                      have k4 := ha.base (fun g hg => Nat.le_trans (size_le gr3) (hb4 g hg))
                      have gr4 := gr_trans gr3 hg4
                      have k5 := k1.grown hg4
                      have k6 := hr_t540_l.grown hg4
                      have k7 := k2.grown hg4
                      have k8 := hr_t540_before.grown hg4
                      have k9 := k3.grown hg4
                      have k10 := hr_t540_after.grown hg4
                      have k11 := ht540_makers.g0 hg4
                      have k12 := ht540.g0 hg4
                      refine WL.y rfl (Yld.pure tab_ok rfl) ?_
                      refine WL.nil (WX.then_normal ?_)
                      refine WC.seq ?_
                      refine WC.region ?_
                      refine WL.y rfl (Yld.pure tab_ok rfl) ?_
                      obtain ⟨h1, H⟩ := H
                      refine WL.makeCK (f := enc35) (B := w.heap.size) enc35_ok rfl ow23 rfl rfl h1.1 h1.2.1 h1.2.2 (size_le gr4) (fun g1 w6 hO1 hg5 hl1 => ?_)
                      have gr5 := gr_trans gr4 hg5
                      have k13 := k5.grown hg5
                      have k14 := k6.grown hg5
                      have k15 := k7.grown hg5
                      have k16 := k8.grown hg5
                      have k17 := k9.grown hg5
                      have k18 := k10.grown hg5
                      have k19 := k11.g0 hg5
                      have k20 := k12.g0 hg5
                      have k21 := k4.grown hg5
                      refine WL.y rfl (Yld.pure tab_ok rfl) ?_
                      obtain ⟨h2, H⟩ := H
                      refine WL.appendK rfl ow23 hO1 rfl rfl (hfiles.grown gr5) rfl rfl h2 (applen h2) (size_le gr5) (fun A_t71 c_t71 w7 hO2 hg6 hk1 => ?_)
                      have gr6 := gr_mod gr5 hg6 hO1.ge'
                      have k22 := k13.go hg6 (Dj.new k5.lt' (Ge.box hl1))
                      have k23 := k14.go hg6 (k6.new (Ge.box hl1))
                      have k24 := k15.go hg6 (Dj.new k7.lt' (Ge.box hl1))
                      have k25 := k16.go hg6 (k8.new (Ge.box hl1))
                      have k26 := k17.go hg6 (Dj.new k9.lt' (Ge.box hl1))
                      have k27 := k18.go hg6 (k10.new (Ge.box hl1))
                      have k28 := k19.go hg6 (Dj.new k11.lt' (Ge.box hl1))
                      have k29 := k20.go hg6 (Dj.new k12.lt' (Ge.box hl1))
                      have k30 := k21.go hg6 (Dj.new k4.lt' (Ge.box hl1))
                      refine WL.y rfl (Yld.pure tab_ok rfl) ?_
                      refine WL.y rfl (Yld.pure tab_ok rfl) ?_
                      refine WL.y rfl (Yld.struct (us := [vs p, vs text]) zero35 places35 rfl rfl) ?_
                      refine WL.litK (f := enc35) ([(p, text)] : List (List UInt8 × List UInt8)) enc35_ok rfl ow23 rfl rfl rfl (fun g2 w8 hB1 hg7 hl2 => ?_)
                      have hO3 : OwnK 2 enc35 w8 w.heap.size 35 (some ⟨g2, 0, none⟩) 1 ([(p, text)] : List (List UInt8 × List UInt8)) := OwnK.ofBl enc35_ok hB1 (Nat.le_trans (size_le gr6) hl2) (by simp [maxLen]) rfl
                      have gr7 := gr_trans gr6 hg7
                      have k31 := k22.grown hg7
                      have k32 := k23.grown hg7
                      have k33 := k24.grown hg7
                      have k34 := k25.grown hg7
                      have k35 := k26.grown hg7
                      have k36 := k27.grown hg7
                      have k37 := k28.g0 hg7
                      have k38 := k29.g0 hg7
                      have k39 := k30.grown hg7
                      have k40 := hO2.grown hg7
                      obtain ⟨h3, H⟩ := H
                      refine WL.appendK rfl ow23 k40 rfl rfl hO3.rd rfl rfl h3 (applen h3) (size_le gr7) (fun A_t76 c_t76 w9 hO4 hg8 hk2 => ?_)
                      have gr8 := gr_mod gr7 hg8 k40.ge'
                      have k41 := k31.go hg8 ((Dj.app (Dj.new k5.lt' (Ge.box hl1)).symm k13.lt' hk1).symm)
                      have k42 := k32.go hg8 (RelD.app k14 (k6.new (Ge.box hl1)) hk1)
                      have k43 := k33.go hg8 ((Dj.app (Dj.new k7.lt' (Ge.box hl1)).symm k15.lt' hk1).symm)
                      have k44 := k34.go hg8 (RelD.app k16 (k8.new (Ge.box hl1)) hk1)
                      have k45 := k35.go hg8 ((Dj.app (Dj.new k9.lt' (Ge.box hl1)).symm k17.lt' hk1).symm)
                      have k46 := k36.go hg8 (RelD.app k18 (k10.new (Ge.box hl1)) hk1)
                      have k47 := k37.go hg8 ((Dj.app (Dj.new k11.lt' (Ge.box hl1)).symm k19.lt' hk1).symm)
                      have k48 := k38.go hg8 ((Dj.app (Dj.new k12.lt' (Ge.box hl1)).symm k20.lt' hk1).symm)
                      have k49 := k39.go hg8 ((Dj.app (Dj.new k4.lt' (Ge.box hl1)).symm k21.lt' hk1).symm)
                      refine WL.call rfl rfl (W_plan_Fates (hG.grown gr8) hS10 hS16 hS100 hS101 k41.rd rfl k42 k47 k43.rd rfl k44 k45.rd rfl k46 k48 hO4.rd rfl H) ?_
                      rintro _ w10 ⟨hg9, b, A_b, c_b, rfl, hb, H⟩
                      have hb5 := hb.ge'
                      have k50 := hb.base (fun g hg => Nat.le_trans (size_le gr8) (hb5 g hg))
                      have gr9 := gr_trans gr8 hg9
                      have k51 := k41.grown hg9
                      have k52 := k42.grown hg9
                      have k53 := k43.grown hg9
                      have k54 := k44.grown hg9
                      have k55 := k45.grown hg9
                      have k56 := k46.grown hg9
                      have k57 := k47.g0 hg9
                      have k58 := k48.g0 hg9
                      have k59 := k49.grown hg9
                      refine WL.y rfl (Yld.pure tab_ok rfl) ?_
                      refine WL.nil (WX.then_normal ?_)
                      refine WC.seq ?_
                      refine WC.seq ?_
                      refine WC.region ?_
                      refine WL.y rfl (Yld.pure tab_ok rfl) ?_
                      refine WL.y rfl (Yld.pure tab_ok rfl) ?_
                      refine WL.y rfl (Yld.pure tab_ok rfl) ?_
                      refine WL.y rfl (Yld.pure tab_ok rfl) ?_
                      refine WL.y rfl (Yld.pure tab_ok rfl) ?_
                      refine WL.y rfl (Yld.pure tab_ok rfl) ?_
                      obtain ⟨J2, H, hJ2⟩ := H
                      refine WL.midF 6 (fun L' w' => ∃ q8 : Bool, L' = [(89, .bool q8), (0, .slice A_l l.length c_l), (2, vs p), (10, .pointer (some ⟨g_t540, 0, none⟩)), (12, .slice A_a a.length c_a), (13, .slice A_b b.length c_b)] ∧ J2 q8 ∧ w10 = w') ?_ (fun hQ => ?_)
                      · clear H
                        rintro _ _ ⟨q8, rfl, H, rfl⟩
                        replace H := hJ2 q8 H
                        refine WL.nil (WX.then_normal ?_)
                        refine WC.cond rfl (fun b4 => ?_) (fun b4 => ?_)
                        · replace H := H.1 (b4)
                          refine WC.seq ?_
                          refine WC.region ?_
                          refine WL.y rfl (Yld.pure tab_ok rfl) ?_
                          refine WL.nil (WX.then_normal ?_)
                          refine WC.ret (WX.then_ret ?_)
                          exact WX.ret1 rfl rfl ⟨gr9, false, rfl, H⟩
                        · replace H := H.2 (b4)
                          refine WC.skip (WX.then_normal ?_)
                          refine WC.seq ?_
                          refine WC.region ?_
                          refine WL.y rfl (Yld.pure tab_ok rfl) ?_
                          refine WL.y rfl (Yld.pure tab_ok rfl) ?_
                          obtain ⟨h4, H⟩ := H
                          refine WL.makeZI (f := vB) (z := false) (B := w.heap.size) tab_ok rfl rfl zero4 rfl rfl h4.1 h4.2.1 h4.2.2 (size_le gr9) (fun g3 w11 hO5 hg10 hl3 => ?_)
                          have gr10 := gr_trans gr9 hg10
                          have k60 := k51.grown hg10
                          have k61 := k52.grown hg10
                          have k62 := k53.grown hg10
                          have k63 := k54.grown hg10
                          have k64 := k55.grown hg10
                          have k65 := k56.grown hg10
                          have k66 := k57.g0 hg10
                          have k67 := k58.g0 hg10
                          have k68 := k59.grown hg10
                          have k69 := k50.grown hg10
                          refine WL.y rfl (Yld.pure tab_ok rfl) ?_
                          refine WL.nil (WX.then_normal ?_)
                          refine WC.seq ?_
                          refine WC.region ?_
                          refine WL.y rfl (Yld.pure tab_ok rfl) ?_
                          refine WL.call rfl rfl (W_pgraph_Graph_Order k60.rd rfl k61 k66 k62.rd rfl k63 k64.rd rfl k65 k67 H) ?_
                          rintro _ w12 ⟨hg11, o, A_o, c_o, rfl, ho, H⟩
                          have hb6 := ho.ge'
                          have k70 := ho.base (fun g hg => Nat.le_trans (size_le gr10) (hb6 g hg))
                          have gr11 := gr_trans gr10 hg11
                          have k71 := k60.grown hg11
                          have k72 := k61.grown hg11
                          have k73 := k62.grown hg11
                          have k74 := k63.grown hg11
                          have k75 := k64.grown hg11
                          have k76 := k65.grown hg11
                          have k77 := k66.g0 hg11
                          have k78 := k67.g0 hg11
                          have k79 := k68.grown hg11
                          have k80 := k69.grown hg11
                          have k81 := hO5.grown hg11
                          refine WL.y rfl (Yld.pure tab_ok rfl) ?_
                          refine WL.nil (WX.then_normal ?_)
                          refine WC.seq ?_
                          refine WC.seq ?_
                          refine WC.region ?_
                          refine WL.y rfl (Yld.pure tab_ok rfl) ?_
                          refine WL.nil (WX.then_normal ?_)
                          refine WC.block ?_
                          obtain ⟨I1, mu1, h0_1, HR1⟩ := H
                          refine WC.loopF (fun n' L' w' => ∃ (i : Int), ∃ (hangs : List Bool), n' = mu1 i hangs ∧ L' = [(0, .slice A_l l.length c_l), (2, vs p), (10, .pointer (some ⟨g_t540, 0, none⟩)), (12, .slice A_a a.length c_a), (13, .slice A_b b.length c_b), (14, .slice (some ⟨g3, 0, none⟩) ((l.length : Int).toNat) ((l.length : Int).toNat)), (15, .slice A_o o.length c_o), (16, .int .i64 i)] ∧ I1 i hangs ∧ (l.length : Int).toNat = hangs.length ∧ w.grownBy w' none ∧ OwnK 4 encH43 w' w.heap.size 43 A_t540_l c_t540_l hs_t540_l ∧ RelD de43 w' hs_t540_l t540_l ∧ Own vh w' w.heap.size 38 A_t540_before c_t540_before hs_t540_before ∧ RelD de38 w' hs_t540_before t540_before ∧ Own vh w' w.heap.size 38 A_t540_after c_t540_after hs_t540_after ∧ RelD de38 w' hs_t540_after t540_after ∧ MapB vs okS vi w' g_t540_makers t540_makers ∧ Bl w' g_t540 79 [.slice A_t540_l t540_l.length c_t540_l, .map (some g_t540_makers), .slice A_t540_before t540_before.length c_t540_before, .slice A_t540_after t540_after.length c_t540_after] ∧ OwnK 34 enc49 w' w.heap.size 49 A_a c_a a ∧ OwnK 34 enc49 w' w.heap.size 49 A_b c_b b ∧ Own vB w' w.heap.size 4 (some ⟨g3, 0, none⟩) ((l.length : Int).toNat) hangs ∧ Own vi w' w.heap.size 3 A_o c_o o ∧ Dj (blk A_t540_l) (blk A_t540_before) ∧ Dj (blk A_t540_l) (blk A_t540_after) ∧ Dj (blk A_t540_l) (some g_t540_makers) ∧ Dj (blk A_t540_l) (some g_t540) ∧ Dj (blk A_t540_l) (blk A_a) ∧ Dj (blk A_t540_l) (blk A_b) ∧ Dj (blk A_t540_l) (blk (some ⟨g3, 0, none⟩)) ∧ Dj (blk A_t540_l) (blk A_o) ∧ DnD de43 hs_t540_l t540_l (blk A_t540_l) ∧ DnD de43 hs_t540_l t540_l (blk A_t540_before) ∧ DnD de43 hs_t540_l t540_l (blk A_t540_after) ∧ DnD de43 hs_t540_l t540_l (some g_t540_makers) ∧ DnD de43 hs_t540_l t540_l (some g_t540) ∧ DnD de43 hs_t540_l t540_l (blk A_a) ∧ DnD de43 hs_t540_l t540_l (blk A_b) ∧ DnD de43 hs_t540_l t540_l (blk (some ⟨g3, 0, none⟩)) ∧ DnD de43 hs_t540_l t540_l (blk A_o) ∧ Dj (blk A_t540_before) (blk A_t540_after) ∧ Dj (blk A_t540_before) (some g_t540) ∧ Dj (blk A_t540_before) (blk A_a) ∧ Dj (blk A_t540_before) (blk A_b) ∧ Dj (blk A_t540_before) (blk (some ⟨g3, 0, none⟩)) ∧ Dj (blk A_t540_before) (blk A_o) ∧ DnD de38 hs_t540_before t540_before (blk A_t540_l) ∧ DnD de38 hs_t540_before t540_before (blk A_t540_before) ∧ DnD de38 hs_t540_before t540_before (blk A_t540_after) ∧ DnD de38 hs_t540_before t540_before (some g_t540_makers) ∧ DnD de38 hs_t540_before t540_before (some g_t540) ∧ DnD de38 hs_t540_before t540_before (blk A_a) ∧ DnD de38 hs_t540_before t540_before (blk A_b) ∧ DnD de38 hs_t540_before t540_before (blk (some ⟨g3, 0, none⟩)) ∧ DnD de38 hs_t540_before t540_before (blk A_o) ∧ Dj (blk A_t540_after) (some g_t540) ∧ Dj (blk A_t540_after) (blk A_a) ∧ Dj (blk A_t540_after) (blk A_b) ∧ Dj (blk A_t540_after) (blk (some ⟨g3, 0, none⟩)) ∧ Dj (blk A_t540_after) (blk A_o) ∧ DnD de38 hs_t540_after t540_after (blk A_t540_l) ∧ DnD de38 hs_t540_after t540_after (blk A_t540_before) ∧ DnD de38 hs_t540_after t540_after (blk A_t540_after) ∧ DnD de38 hs_t540_after t540_after (some g_t540_makers) ∧ DnD de38 hs_t540_after t540_after (some g_t540) ∧ DnD de38 hs_t540_after t540_after (blk A_a) ∧ DnD de38 hs_t540_after t540_after (blk A_b) ∧ DnD de38 hs_t540_after t540_after (blk (some ⟨g3, 0, none⟩)) ∧ DnD de38 hs_t540_after t540_after (blk A_o) ∧ Dj (some g_t540_makers) (blk A_t540_before) ∧ Dj (some g_t540_makers) (blk A_t540_after) ∧ Dj (some g_t540_makers) (some g_t540) ∧ Dj (some g_t540_makers) (blk A_a) ∧ Dj (some g_t540_makers) (blk A_b) ∧ Dj (some g_t540_makers) (blk (some ⟨g3, 0, none⟩)) ∧ Dj (some g_t540_makers) (blk A_o) ∧ Dj (some g_t540) (blk A_a) ∧ Dj (some g_t540) (blk A_b) ∧ Dj (some g_t540) (blk (some ⟨g3, 0, none⟩)) ∧ Dj (some g_t540) (blk A_o) ∧ Dj (blk A_a) (blk A_b) ∧ Dj (blk A_a) (blk (some ⟨g3, 0, none⟩)) ∧ Dj (blk A_a) (blk A_o) ∧ Dj (blk A_b) (blk (some ⟨g3, 0, none⟩)) ∧ Dj (blk A_b) (blk A_o) ∧ Dj (blk (some ⟨g3, 0, none⟩)) (blk A_o)) _ _ ⟨(0 : Int), (List.replicate (l.length : Int).toNat false), rfl, rfl, h0_1, (List.length_replicate).symm, gr11, k71, k72, k73, k74, k75, k76, k77, k78, k79, k80, k81, k70, dj19, dj20, dj21, dj22, (Dj.new k1.lt' hb4), (Dj.new k41.lt' hb5), (Dj.new k51.lt' (Ge.box hl3)), (Dj.new k60.lt' hb6), dj1, dj5, dj6, dj7, dj8, (hr_t540_l.new hb4), (k42.new hb5), (k52.new (Ge.box hl3)), (k61.new hb6), dj23, dj25, (Dj.new k2.lt' hb4), (Dj.new k43.lt' hb5), (Dj.new k53.lt' (Ge.box hl3)), (Dj.new k62.lt' hb6), dj9, dj2, dj11, dj12, dj13, (hr_t540_before.new hb4), (k44.new hb5), (k54.new (Ge.box hl3)), (k63.new hb6), dj27, (Dj.new k3.lt' hb4), (Dj.new k45.lt' hb5), (Dj.new k55.lt' (Ge.box hl3)), (Dj.new k64.lt' hb6), dj14, dj15, dj3, dj17, dj18, (hr_t540_after.new hb4), (k46.new hb5), (k56.new (Ge.box hl3)), (k65.new hb6), dj24.symm, dj26.symm, dj28, (Dj.new ht540_makers.lt' hb4), (Dj.new k47.lt' hb5), (Dj.new k57.lt' (Ge.box hl3)), (Dj.new k66.lt' hb6), (Dj.new ht540.lt' hb4), (Dj.new k48.lt' hb5), (Dj.new k58.lt' (Ge.box hl3)), (Dj.new k67.lt' hb6), (Dj.new k49.lt' hb5), (Dj.new k59.lt' (Ge.box hl3)), (Dj.new k68.lt' hb6), (Dj.new k50.lt' (Ge.box hl3)), (Dj.new k69.lt' hb6), (Dj.new hO5.lt' hb6)⟩ (by repeat (first | exact Sub.nil | refine Sub.cons rfl ?_)) ?_
                          clear h0_1
                          rintro _ _ w13 ⟨i, hangs, rfl, rfl, hI1, hn_hangs, gr12, k82, k83, k84, k85, k86, k87, k88, k89, k90, k91, k92, k93, dj29, dj30, dj31, dj32, dj33, dj34, dj35, dj36, dj37, dj38, dj39, dj40, dj41, dj42, dj43, dj44, dj45, dj46, dj47, dj48, dj49, dj50, dj51, dj52, dj53, dj54, dj55, dj56, dj57, dj58, dj59, dj60, dj61, dj62, dj63, dj64, dj65, dj66, dj67, dj68, dj69, dj70, dj71, dj72, dj73, dj74, dj75, dj76, dj77, dj78, dj79, dj80, dj81, dj82, dj83, dj84, dj85, dj86, dj87, dj88, dj89, dj90, dj91⟩
                          have H := HR1 i hangs hI1
                          replace H := H hn_hangs
                          refine WC.seq ?_
                          refine WC.seq ?_
                          refine WC.region ?_
                          refine WL.y rfl (Yld.pure tab_ok rfl) ?_
                          refine WL.y rfl (Yld.pure tab_ok rfl) ?_
                          refine WL.y rfl (Yld.pure tab_ok rfl) ?_
                          refine WL.y rfl (Yld.pure tab_ok rfl) ?_
                          refine WL.nil (WX.then_normal ?_)
                          refine WC.cond rfl (fun b5 => ?_) (fun b5 => ?_)
                          · replace H := H.1 (of_decide_eq_true b5)
                            refine WC.skip (WX.then_normal ?_)
                            refine WC.seq ?_
                            refine WC.block ?_
                            refine WC.seq ?_
                            refine WC.region ?_
                            refine WL.y rfl (Yld.pure tab_ok rfl) ?_
                            refine WL.y rfl (Yld.pure tab_ok rfl) ?_
                            obtain ⟨h5, H⟩ := H
                            refine WL.y rfl (Yld.iaddrW tab_ok k93.rd rfl rfl rfl rfl h5.1 h5.2) ?_
                            refine WL.y rfl (Yld.iload 0 tab_ok k93.rd rfl rfl (iltN h5 rfl)) ?_
                            refine WL.y rfl (Yld.pure tab_ok rfl) ?_
                            refine WL.nil (WX.then_normal ?_)
                            refine WC.seq ?_
                            refine WC.region ?_
                            refine WL.y rfl (Yld.pure tab_ok rfl) ?_
                            refine WL.y rfl (Yld.pure tab_ok rfl) ?_
                            refine WL.y rfl (Yld.pure tab_ok rfl) ?_
                            refine WL.y rfl (Yld.pure tab_ok rfl) ?_
                            obtain ⟨h6, H⟩ := H
                            refine WL.y rfl (Yld.iaddrK tab_ok (hl.grown gr12) rfl rfl hr_l.1.symm rfl h6.1 h6.2) ?_
                            refine WL.y rfl (Yld.faddrK tab_ok (hl.grown gr12) (iltN h6 hr_l.1.symm) rfl rfl rfl) ?_
                            obtain ⟨⟨f1, ⟨A_el, n1, c_el⟩, ⟨A_el2, n2, c_el2⟩, f2⟩, eh1, ⟨en1, ⟨en2, hR1⟩, ⟨en3, hR2⟩, en4⟩⟩ := RelD.at hr_l (0, hd0, hd0, []) (0, [], [], []) (j := (o.getD i.toNat 0).toNat) (Nat.lt_of_lt_of_eq (iltN h6 hr_l.1.symm) hr_l.1)
                            have en1 : f1 = (l.getD ((o.getD i.toNat 0).toNat) (0, [], [], [])).1 := en1
                            subst en1
                            have en2 : n1 = ((l.getD ((o.getD i.toNat 0).toNat) (0, [], [], [])).2.1).length := en2
                            subst en2
                            have en3 : n2 = ((l.getD ((o.getD i.toNat 0).toNat) (0, [], [], [])).2.2.1).length := en3
                            subst en3
                            have en4 : f2 = (l.getD ((o.getD i.toNat 0).toNat) (0, [], [], [])).2.2.2 := en4
                            subst en4
                            refine WL.y rfl (Yld.iloadF (v := .slice A_el2 (((l.getD ((o.getD i.toNat 0).toNat) (0, [], [], [])).2.2.1).length) c_el2) (0, hd0, hd0, []) tab_ok (hl.grown gr12) rfl rfl (iltN h6 hr_l.1.symm) (by rw [eh1]; rfl)) ?_
                            refine WL.y rfl (Yld.pure tab_ok rfl) ?_
                            refine WL.call rfl rfl (W_smithyref_AmongTexts (hR2.grown gr12) rfl H) ?_
                            rintro _ _ ⟨rfl, t113, rfl, H⟩
                            refine WL.y rfl (Yld.pure tab_ok rfl) ?_
                            refine WL.y rfl (Yld.pure tab_ok rfl) ?_
                            obtain ⟨J3, H, hJ3⟩ := H
                            refine WL.midF 5 (fun L' w' => ∃ q9 : Bool, L' = [(120, .bool q9), (0, .slice A_l l.length c_l), (2, vs p), (10, .pointer (some ⟨g_t540, 0, none⟩)), (12, .slice A_a a.length c_a), (13, .slice A_b b.length c_b), (14, .slice (some ⟨g3, 0, none⟩) ((l.length : Int).toNat) ((l.length : Int).toNat)), (15, .slice A_o o.length c_o), (16, .int .i64 i), (17, .int .i64 (o.getD i.toNat 0)), (105, .slice (some ⟨g3, 0, none⟩) ((l.length : Int).toNat) ((l.length : Int).toNat)), (106, .int .i64 (o.getD i.toNat 0))] ∧ J3 q9 ∧ w13 = w') ?_ (fun hQ => ?_)
                            · clear H
                              rintro _ _ ⟨q9, rfl, H, rfl⟩
                              replace H := hJ3 q9 H
                              obtain ⟨h7, H⟩ := H
                              refine WL.y rfl (Yld.iaddrW tab_ok k92.rd rfl rfl hn_hangs rfl h7.1 h7.2) ?_
                              refine WL.ostore (v := q9) one4 One.B k92 rfl rfl (iltN h7 hn_hangs) (fun w14 hO6 hg12 => ?_)
                              have gr13 := gr_mod gr12 hg12 k92.ge'
                              have k94 := k82.go hg12 dj35
                              have k95 := k83.go hg12 dj44
                              have k96 := k84.go hg12 dj50
                              have k97 := k85.go hg12 dj59
                              have k98 := k86.go hg12 dj64
                              have k99 := k87.go hg12 dj73
                              have k100 := k88.go hg12 dj80
                              have k101 := k89.go hg12 dj84
                              have k102 := k90.go hg12 dj87
                              have k103 := k91.go hg12 dj89
                              have k104 := k93.go hg12 dj91.symm
                              refine WL.nil (WX.then_normal ?_)
                              refine WC.seq ?_
                              refine WC.region ?_
                              refine WL.y rfl (Yld.pure tab_ok rfl) ?_
                              refine WL.y rfl (Yld.pure tab_ok rfl) ?_
                              refine WL.call rfl rfl (W_pgraph_Graph_Before k94.rd rfl k95 k100 k96.rd rfl k97 k98.rd rfl k99 k101 H) ?_
                              rintro _ w15 ⟨hg13, before, A_before, c_before, rfl, hbefore, H⟩
                              have hb7 := hbefore.ge'
                              have k105 := hbefore.base (fun g hg => Nat.le_trans (size_le gr13) (hb7 g hg))
                              have gr14 := gr_trans gr13 hg13
                              have k106 := k94.grown hg13
                              have k107 := k95.grown hg13
                              have k108 := k96.grown hg13
                              have k109 := k97.grown hg13
                              have k110 := k98.grown hg13
                              have k111 := k99.grown hg13
                              have k112 := k100.g0 hg13
                              have k113 := k101.g0 hg13
                              have k114 := k102.grown hg13
                              have k115 := k103.grown hg13
                              have k116 := hO6.grown hg13
                              have k117 := k104.grown hg13
                              refine WL.y rfl (Yld.pure tab_ok rfl) ?_
                              refine WL.nil (WX.then_normal ?_)
                              refine WC.seq ?_
                              refine WC.region ?_
                              refine WL.y rfl (Yld.pure tab_ok rfl) ?_
                              refine WL.nil (WX.then_normal ?_)
                              refine WC.block ?_
                              obtain ⟨I2, mu2, h0_2, HR2⟩ := H
                              refine WC.loopF (fun n' L' w' => ∃ (j : Int), ∃ (hangs2 : List Bool), n' = mu2 j hangs2 ∧ L' = [(0, .slice A_l l.length c_l), (2, vs p), (10, .pointer (some ⟨g_t540, 0, none⟩)), (12, .slice A_a a.length c_a), (13, .slice A_b b.length c_b), (14, .slice (some ⟨g3, 0, none⟩) ((l.length : Int).toNat) ((l.length : Int).toNat)), (15, .slice A_o o.length c_o), (16, .int .i64 i), (17, .int .i64 (o.getD i.toNat 0)), (18, .slice A_before before.length c_before), (19, .int .i64 j)] ∧ I2 j hangs2 ∧ (l.length : Int).toNat = hangs2.length ∧ w.grownBy w' none ∧ OwnK 4 encH43 w' w.heap.size 43 A_t540_l c_t540_l hs_t540_l ∧ RelD de43 w' hs_t540_l t540_l ∧ Own vh w' w.heap.size 38 A_t540_before c_t540_before hs_t540_before ∧ RelD de38 w' hs_t540_before t540_before ∧ Own vh w' w.heap.size 38 A_t540_after c_t540_after hs_t540_after ∧ RelD de38 w' hs_t540_after t540_after ∧ MapB vs okS vi w' g_t540_makers t540_makers ∧ Bl w' g_t540 79 [.slice A_t540_l t540_l.length c_t540_l, .map (some g_t540_makers), .slice A_t540_before t540_before.length c_t540_before, .slice A_t540_after t540_after.length c_t540_after] ∧ OwnK 34 enc49 w' w.heap.size 49 A_a c_a a ∧ OwnK 34 enc49 w' w.heap.size 49 A_b c_b b ∧ Own vB w' w.heap.size 4 (some ⟨g3, 0, none⟩) ((l.length : Int).toNat) hangs2 ∧ Own vi w' w.heap.size 3 A_o c_o o ∧ Own vi w' w.heap.size 3 A_before c_before before ∧ Dj (blk A_t540_l) (blk A_t540_before) ∧ Dj (blk A_t540_l) (blk A_t540_after) ∧ Dj (blk A_t540_l) (some g_t540_makers) ∧ Dj (blk A_t540_l) (some g_t540) ∧ Dj (blk A_t540_l) (blk A_a) ∧ Dj (blk A_t540_l) (blk A_b) ∧ Dj (blk A_t540_l) (blk (some ⟨g3, 0, none⟩)) ∧ Dj (blk A_t540_l) (blk A_o) ∧ Dj (blk A_t540_l) (blk A_before) ∧ DnD de43 hs_t540_l t540_l (blk A_t540_l) ∧ DnD de43 hs_t540_l t540_l (blk A_t540_before) ∧ DnD de43 hs_t540_l t540_l (blk A_t540_after) ∧ DnD de43 hs_t540_l t540_l (some g_t540_makers) ∧ DnD de43 hs_t540_l t540_l (some g_t540) ∧ DnD de43 hs_t540_l t540_l (blk A_a) ∧ DnD de43 hs_t540_l t540_l (blk A_b) ∧ DnD de43 hs_t540_l t540_l (blk (some ⟨g3, 0, none⟩)) ∧ DnD de43 hs_t540_l t540_l (blk A_o) ∧ DnD de43 hs_t540_l t540_l (blk A_before) ∧ Dj (blk A_t540_before) (blk A_t540_after) ∧ Dj (blk A_t540_before) (some g_t540) ∧ Dj (blk A_t540_before) (blk A_a) ∧ Dj (blk A_t540_before) (blk A_b) ∧ Dj (blk A_t540_before) (blk (some ⟨g3, 0, none⟩)) ∧ Dj (blk A_t540_before) (blk A_o) ∧ Dj (blk A_t540_before) (blk A_before) ∧ DnD de38 hs_t540_before t540_before (blk A_t540_l) ∧ DnD de38 hs_t540_before t540_before (blk A_t540_before) ∧ DnD de38 hs_t540_before t540_before (blk A_t540_after) ∧ DnD de38 hs_t540_before t540_before (some g_t540_makers) ∧ DnD de38 hs_t540_before t540_before (some g_t540) ∧ DnD de38 hs_t540_before t540_before (blk A_a) ∧ DnD de38 hs_t540_before t540_before (blk A_b) ∧ DnD de38 hs_t540_before t540_before (blk (some ⟨g3, 0, none⟩)) ∧ DnD de38 hs_t540_before t540_before (blk A_o) ∧ DnD de38 hs_t540_before t540_before (blk A_before) ∧ Dj (blk A_t540_after) (some g_t540) ∧ Dj (blk A_t540_after) (blk A_a) ∧ Dj (blk A_t540_after) (blk A_b) ∧ Dj (blk A_t540_after) (blk (some ⟨g3, 0, none⟩)) ∧ Dj (blk A_t540_after) (blk A_o) ∧ Dj (blk A_t540_after) (blk A_before) ∧ DnD de38 hs_t540_after t540_after (blk A_t540_l) ∧ DnD de38 hs_t540_after t540_after (blk A_t540_before) ∧ DnD de38 hs_t540_after t540_after (blk A_t540_after) ∧ DnD de38 hs_t540_after t540_after (some g_t540_makers) ∧ DnD de38 hs_t540_after t540_after (some g_t540) ∧ DnD de38 hs_t540_after t540_after (blk A_a) ∧ DnD de38 hs_t540_after t540_after (blk A_b) ∧ DnD de38 hs_t540_after t540_after (blk (some ⟨g3, 0, none⟩)) ∧ DnD de38 hs_t540_after t540_after (blk A_o) ∧ DnD de38 hs_t540_after t540_after (blk A_before) ∧ Dj (some g_t540_makers) (blk A_t540_before) ∧ Dj (some g_t540_makers) (blk A_t540_after) ∧ Dj (some g_t540_makers) (some g_t540) ∧ Dj (some g_t540_makers) (blk A_a) ∧ Dj (some g_t540_makers) (blk A_b) ∧ Dj (some g_t540_makers) (blk (some ⟨g3, 0, none⟩)) ∧ Dj (some g_t540_makers) (blk A_o) ∧ Dj (some g_t540_makers) (blk A_before) ∧ Dj (some g_t540) (blk A_a) ∧ Dj (some g_t540) (blk A_b) ∧ Dj (some g_t540) (blk (some ⟨g3, 0, none⟩)) ∧ Dj (some g_t540) (blk A_o) ∧ Dj (some g_t540) (blk A_before) ∧ Dj (blk A_a) (blk A_b) ∧ Dj (blk A_a) (blk (some ⟨g3, 0, none⟩)) ∧ Dj (blk A_a) (blk A_o) ∧ Dj (blk A_a) (blk A_before) ∧ Dj (blk A_b) (blk (some ⟨g3, 0, none⟩)) ∧ Dj (blk A_b) (blk A_o) ∧ Dj (blk A_b) (blk A_before) ∧ Dj (blk (some ⟨g3, 0, none⟩)) (blk A_o) ∧ Dj (blk (some ⟨g3, 0, none⟩)) (blk A_before) ∧ Dj (blk A_o) (blk A_before)) _ _ ⟨(0 : Int), hangs.set ((o.getD i.toNat 0).toNat) q9, rfl, rfl, h0_2, (hn_hangs.trans List.length_set.symm), gr14, k106, k107, k108, k109, k110, k111, k112, k113, k114, k115, k116, k117, k105, dj29, dj30, dj31, dj32, dj33, dj34, dj35, dj36, (Dj.new k94.lt' hb7), dj37, dj38, dj39, dj40, dj41, dj42, dj43, dj44, dj45, (k95.new hb7), dj46, dj47, dj48, dj49, dj50, dj51, (Dj.new k96.lt' hb7), dj52, dj53, dj54, dj55, dj56, dj57, dj58, dj59, dj60, (k97.new hb7), dj61, dj62, dj63, dj64, dj65, (Dj.new k98.lt' hb7), dj66, dj67, dj68, dj69, dj70, dj71, dj72, dj73, dj74, (k99.new hb7), dj75, dj76, dj77, dj78, dj79, dj80, dj81, (Dj.new k100.lt' hb7), dj82, dj83, dj84, dj85, (Dj.new k101.lt' hb7), dj86, dj87, dj88, (Dj.new k102.lt' hb7), dj89, dj90, (Dj.new k103.lt' hb7), dj91, (Dj.new hO6.lt' hb7), (Dj.new k104.lt' hb7)⟩ (by repeat (first | exact Sub.nil | refine Sub.cons rfl ?_)) ?_
                              clear h0_2
                              rintro _ _ w16 ⟨j, hangs2, rfl, rfl, hI2, hn_hangs2, gr15, k118, k119, k120, k121, k122, k123, k124, k125, k126, k127, k128, k129, k130, dj92, dj93, dj94, dj95, dj96, dj97, dj98, dj99, dj100, dj101, dj102, dj103, dj104, dj105, dj106, dj107, dj108, dj109, dj110, dj111, dj112, dj113, dj114, dj115, dj116, dj117, dj118, dj119, dj120, dj121, dj122, dj123, dj124, dj125, dj126, dj127, dj128, dj129, dj130, dj131, dj132, dj133, dj134, dj135, dj136, dj137, dj138, dj139, dj140, dj141, dj142, dj143, dj144, dj145, dj146, dj147, dj148, dj149, dj150, dj151, dj152, dj153, dj154, dj155, dj156, dj157, dj158, dj159, dj160, dj161, dj162, dj163, dj164, dj165, dj166⟩
                              have H := HR2 j hangs2 hI2
                              replace H := H hn_hangs2
                              refine WC.seq ?_
                              refine WC.seq ?_
                              refine WC.region ?_
                              refine WL.y rfl (Yld.pure tab_ok rfl) ?_
                              refine WL.y rfl (Yld.pure tab_ok rfl) ?_
                              refine WL.y rfl (Yld.pure tab_ok rfl) ?_
                              refine WL.y rfl (Yld.pure tab_ok rfl) ?_
                              refine WL.nil (WX.then_normal ?_)
                              refine WC.cond rfl (fun b6 => ?_) (fun b6 => ?_)
                              · replace H := H.1 (of_decide_eq_true b6)
                                refine WC.skip (WX.then_normal ?_)
                                refine WC.seq ?_
                                refine WC.block ?_
                                refine WC.region ?_
                                refine WL.y rfl (Yld.pure tab_ok rfl) ?_
                                refine WL.y rfl (Yld.pure tab_ok rfl) ?_
                                refine WL.y rfl (Yld.pure tab_ok rfl) ?_
                                refine WL.y rfl (Yld.pure tab_ok rfl) ?_
                                obtain ⟨h8, H⟩ := H
                                refine WL.y rfl (Yld.iaddrW tab_ok k128.rd rfl rfl hn_hangs2 rfl h8.1 h8.2) ?_
                                refine WL.y rfl (Yld.iload false tab_ok k128.rd rfl rfl (iltN h8 hn_hangs2)) ?_
                                refine WL.y rfl (Yld.pure tab_ok rfl) ?_
                                obtain ⟨h9, H⟩ := H
                                obtain ⟨h10, H⟩ := H
                                refine WL.midF 8 (fun L' w' => ∃ q10 : Bool, L' = [(145, .bool q10), (0, .slice A_l l.length c_l), (2, vs p), (10, .pointer (some ⟨g_t540, 0, none⟩)), (12, .slice A_a a.length c_a), (13, .slice A_b b.length c_b), (14, .slice (some ⟨g3, 0, none⟩) ((l.length : Int).toNat) ((l.length : Int).toNat)), (15, .slice A_o o.length c_o), (16, .int .i64 i), (17, .int .i64 (o.getD i.toNat 0)), (18, .slice A_before before.length c_before), (19, .int .i64 j), (131, .slice (some ⟨g3, 0, none⟩) ((l.length : Int).toNat) ((l.length : Int).toNat)), (132, .int .i64 (o.getD i.toNat 0))] ∧ ((hangs2.getD ((o.getD i.toNat 0).toNat) false) || (hangs2.getD ((before.getD j.toNat 0).toNat) false)) = q10 ∧ w16 = w') ?_ (fun hQ => ?_)
                                · rintro _ _ ⟨q10, rfl, rfl, rfl⟩
                                  obtain ⟨h11, H⟩ := H
                                  refine WL.y rfl (Yld.iaddrW tab_ok k128.rd rfl rfl hn_hangs2 rfl h11.1 h11.2) ?_
                                  refine WL.ostore (v := (hangs2.getD ((o.getD i.toNat 0).toNat) false) || (hangs2.getD ((before.getD j.toNat 0).toNat) false)) one4 One.B k128 rfl rfl (iltN h11 hn_hangs2) (fun w17 hO7 hg14 => ?_)
                                  have gr16 := gr_mod gr15 hg14 k128.ge'
                                  have k131 := k118.go hg14 dj98
                                  have k132 := k119.go hg14 dj108
                                  have k133 := k120.go hg14 dj115
                                  have k134 := k121.go hg14 dj125
                                  have k135 := k122.go hg14 dj131
                                  have k136 := k123.go hg14 dj141
                                  have k137 := k124.go hg14 dj149
                                  have k138 := k125.go hg14 dj154
                                  have k139 := k126.go hg14 dj158
                                  have k140 := k127.go hg14 dj161
                                  have k141 := k129.go hg14 dj164.symm
                                  have k142 := k130.go hg14 dj165.symm
                                  refine WL.nil (WX.block_normal (WX.then_normal ?_))
                                  refine WC.region ?_
                                  refine WL.y rfl (Yld.pure tab_ok rfl) ?_
                                  obtain ⟨h12, H⟩ := H
                                  refine WL.y rfl (Yld.add rfl rfl h12) ?_
                                  refine WL.y rfl (Yld.pure tab_ok rfl) ?_
                                  refine WL.nil ?_
                                  exact WX.roundF _ ⟨j + (1 : Int), hangs2.set ((o.getD i.toNat 0).toNat) ((hangs2.getD ((o.getD i.toNat 0).toNat) false) || (hangs2.getD ((before.getD j.toNat 0).toNat) false)), rfl, rfl, H.1, (hn_hangs2.trans List.length_set.symm), gr16, k131, k132, k133, k134, k135, k136, k137, k138, k139, k140, hO7, k141, k142, dj92, dj93, dj94, dj95, dj96, dj97, dj98, dj99, dj100, dj101, dj102, dj103, dj104, dj105, dj106, dj107, dj108, dj109, dj110, dj111, dj112, dj113, dj114, dj115, dj116, dj117, dj118, dj119, dj120, dj121, dj122, dj123, dj124, dj125, dj126, dj127, dj128, dj129, dj130, dj131, dj132, dj133, dj134, dj135, dj136, dj137, dj138, dj139, dj140, dj141, dj142, dj143, dj144, dj145, dj146, dj147, dj148, dj149, dj150, dj151, dj152, dj153, dj154, dj155, dj156, dj157, dj158, dj159, dj160, dj161, dj162, dj163, dj164, dj165, dj166⟩ (by repeat (first | exact Sub.nil | refine Sub.cons rfl ?_)) H.2
                                · clear H
                                  rcases Bool.eq_false_or_eq_true (hangs2.getD ((o.getD i.toNat 0).toNat) false) with b7 | b7
                                  · refine WL.gno rfl rfl (okb b7) rfl ?_
                                    refine WL.gno rfl rfl (okb b7) rfl ?_
                                    refine WL.gno rfl rfl (okb b7) rfl ?_
                                    refine WL.gno rfl rfl (okb b7) rfl ?_
                                    refine WL.gno rfl rfl (okb b7) rfl ?_
                                    refine WL.gno rfl rfl (okb b7) rfl ?_
                                    refine WL.gno rfl rfl (okb b7) rfl ?_
                                    refine WL.y rfl (Yld.pickT (okb b7) rfl) ?_
                                    exact WL.weaken (by repeat (first | exact Sub.nil | refine Sub.cons rfl ?_)) (hQ _ _ ⟨true, rfl, by rw [b7] <;> rfl, rfl⟩)
                                  · refine WL.gyes rfl rfl (okb b7) rfl (Yld.pure tab_ok rfl) ?_
                                    refine WL.gyes rfl rfl (okb b7) rfl (Yld.pure tab_ok rfl) ?_
                                    refine WL.gyes rfl rfl (okb b7) rfl (Yld.pure tab_ok rfl) ?_
                                    refine WL.gyes rfl rfl (okb b7) rfl (Yld.iaddrW tab_ok k130.rd rfl rfl rfl rfl (h9 b7).1 (h9 b7).2) ?_
                                    refine WL.gyes rfl rfl (okb b7) rfl (Yld.iload 0 tab_ok k130.rd rfl rfl (iltN (h9 b7) rfl)) ?_
                                    refine WL.gyes rfl rfl (okb b7) rfl (Yld.iaddrW tab_ok k128.rd rfl rfl hn_hangs2 rfl (h10 b7).1 (h10 b7).2) ?_
                                    refine WL.gyes rfl rfl (okb b7) rfl (Yld.iload false tab_ok k128.rd rfl rfl (iltN (h10 b7) hn_hangs2)) ?_
                                    refine WL.y rfl (Yld.pickF (okb b7) rfl) ?_
                                    exact WL.weaken (by repeat (first | exact Sub.nil | refine Sub.cons rfl ?_)) (hQ _ _ ⟨hangs2.getD ((before.getD j.toNat 0).toNat) false, rfl, by rw [b7] <;> rfl, rfl⟩)
                              · replace H := H.2 (of_decide_eq_false b6)
                                refine WC.exit (WX.then_exit (WX.then_exit (WX.block_same (WX.block_normal (WX.then_normal ?_)))))
                                refine WC.region ?_
                                refine WL.y rfl (Yld.pure tab_ok rfl) ?_
                                obtain ⟨h13, H⟩ := H
                                refine WL.y rfl (Yld.add rfl rfl h13) ?_
                                refine WL.y rfl (Yld.pure tab_ok rfl) ?_
                                refine WL.nil ?_
                                exact WX.roundF _ ⟨i + (1 : Int), hangs2, rfl, rfl, H.1, hn_hangs2, gr15, k118, k119, k120, k121, k122, k123, k124, k125, k126, k127, k128, k129, dj92, dj93, dj94, dj95, dj96, dj97, dj98, dj99, dj101, dj102, dj103, dj104, dj105, dj106, dj107, dj108, dj109, dj111, dj112, dj113, dj114, dj115, dj116, dj118, dj119, dj120, dj121, dj122, dj123, dj124, dj125, dj126, dj128, dj129, dj130, dj131, dj132, dj134, dj135, dj136, dj137, dj138, dj139, dj140, dj141, dj142, dj144, dj145, dj146, dj147, dj148, dj149, dj150, dj152, dj153, dj154, dj155, dj157, dj158, dj159, dj161, dj162, dj164⟩ (by repeat (first | exact Sub.nil | refine Sub.cons rfl ?_)) H.2
                            · clear hJ3
                              rcases Bool.eq_false_or_eq_true (decide ((0 : Int) ≤ t113)) with b8 | b8
                              · replace H := H.1 b8
                                refine WL.gyes rfl rfl (okb b8) rfl (Yld.pure tab_ok rfl) ?_
                                refine WL.gyes rfl rfl (okb b8) rfl (Yld.pure tab_ok rfl) ?_
                                refine WL.callw (wants_some rfl rfl (okb b8)) rfl rfl (W_pgraph_Graph_Maker k82.rd rfl k83 k88 k84.rd rfl k85 k86.rd rfl k87 k89 H) ?_
                                rintro _ _ ⟨rfl, t118, rfl, H⟩
                                refine WL.gyes rfl rfl (okb b8) rfl (Yld.pure tab_ok rfl) ?_
                                refine WL.y rfl (Yld.pickT (okb b8) rfl) ?_
                                exact WL.weaken (by repeat (first | exact Sub.nil | refine Sub.cons rfl ?_)) (hQ _ _ ⟨decide (t118 < (0 : Int)), rfl, H, rfl⟩)
                              · replace H := H.2 b8
                                refine WL.gno rfl rfl (okb b8) rfl ?_
                                refine WL.gno rfl rfl (okb b8) rfl ?_
                                refine WL.gno rfl rfl (okb b8) rfl ?_
                                refine WL.gno rfl rfl (okb b8) rfl ?_
                                refine WL.y rfl (Yld.pickF (okb b8) rfl) ?_
                                exact WL.weaken (by repeat (first | exact Sub.nil | refine Sub.cons rfl ?_)) (hQ _ _ ⟨false, rfl, H, rfl⟩)
                          · replace H := H.2 (of_decide_eq_false b5)
                            refine WC.exit (WX.then_exit (WX.then_exit (WX.block_same (WX.then_normal ?_))))
                            refine WC.seq ?_
                            refine WC.seq ?_
                            refine WC.region ?_
                            refine WL.y rfl (Yld.pure tab_ok rfl) ?_
                            refine WL.nil (WX.then_normal ?_)
                            refine WC.block ?_
                            obtain ⟨I3, mu3, h0_3, HR3⟩ := H
                            refine WC.loopF (fun n' L' w' => ∃ (i2 : Int), n' = mu3 i2 ∧ L' = [(0, .slice A_l l.length c_l), (12, .slice A_a a.length c_a), (13, .slice A_b b.length c_b), (14, .slice (some ⟨g3, 0, none⟩) ((l.length : Int).toNat) ((l.length : Int).toNat)), (20, .int .i64 i2)] ∧ I3 i2 ∧ w13 = w') _ _ ⟨(0 : Int), rfl, rfl, h0_3, rfl⟩ (by repeat (first | exact Sub.nil | refine Sub.cons rfl ?_)) ?_
                            clear h0_3
                            rintro _ _ _ ⟨i2, rfl, rfl, hI3, rfl⟩
                            have H := HR3 i2 hI3
                            refine WC.seq ?_
                            refine WC.seq ?_
                            refine WC.region ?_
                            refine WL.y rfl (Yld.pure tab_ok rfl) ?_
                            refine WL.y rfl (Yld.pure tab_ok rfl) ?_
                            refine WL.y rfl (Yld.pure tab_ok rfl) ?_
                            refine WL.y rfl (Yld.pure tab_ok rfl) ?_
                            refine WL.nil (WX.then_normal ?_)
                            refine WC.cond rfl (fun b9 => ?_) (fun b9 => ?_)
                            · replace H := H.1 (of_decide_eq_true b9)
                              refine WC.skip (WX.then_normal ?_)
                              refine WC.seq ?_
                              refine WC.block ?_
                              refine WC.seq ?_
                              refine WC.quiet mixed (by kernel_rfl) ?_
                              refine WQ.y rfl (Yld.pure tab_ok rfl) ?_
                              refine WQ.y rfl (Yld.pure tab_ok rfl) ?_
                              obtain ⟨h14, H⟩ := H
                              refine WQ.y rfl (Yld.iaddrW tab_ok k92.rd rfl rfl hn_hangs rfl h14.1 h14.2) ?_
                              refine WQ.y rfl (Yld.iload false tab_ok k92.rd rfl rfl (iltN h14 hn_hangs)) ?_
                              refine WQ.y rfl (Yld.pure tab_ok rfl) ?_
                              refine WQ.y rfl (Yld.pure tab_ok rfl) ?_
                              obtain ⟨h15, H⟩ := H
                              obtain ⟨h16, H⟩ := H
                              obtain ⟨h17, H⟩ := H
                              obtain ⟨h18, H⟩ := H
                              refine WQ.midF 25 (fun L' w' => ∃ q11 : Bool, L' = [(183, .bool q11), (0, .slice A_l l.length c_l), (12, .slice A_a a.length c_a), (13, .slice A_b b.length c_b), (14, .slice (some ⟨g3, 0, none⟩) ((l.length : Int).toNat) ((l.length : Int).toNat)), (20, .int .i64 i2)] ∧ ((!(hangs.getD i2.toNat false)) && ((!decide (((a.getD i2.toNat (0, [], [])).1) = ((b.getD i2.toNat (0, [], [])).1))) || (!decide (((a.getD i2.toNat (0, [], [])).2.1) = ((b.getD i2.toNat (0, [], [])).2.1))))) = q11 ∧ w13 = w') ?_ (fun hQ => ?_)
                              · rintro _ _ ⟨q11, rfl, rfl, rfl⟩
                                refine WQ.nil (WX.then_normal ?_)
                                refine WC.cond rfl (fun b10 => ?_) (fun b10 => ?_)
                                · replace H := H.1 (b10)
                                  refine WC.seq ?_
                                  refine WC.region ?_
                                  refine WL.y rfl (Yld.pure tab_ok rfl) ?_
                                  refine WL.nil (WX.then_normal ?_)
                                  refine WC.ret (WX.block_ret (WX.then_ret (WX.then_ret (WX.block_ret (WX.then_ret ?_)))))
                                  exact WX.ret1 rfl rfl ⟨gr12, false, rfl, H⟩
                                · replace H := H.2 (b10)
                                  refine WC.skip (WX.block_normal (WX.then_normal ?_))
                                  refine WC.region ?_
                                  refine WL.y rfl (Yld.pure tab_ok rfl) ?_
                                  obtain ⟨h19, H⟩ := H
                                  refine WL.y rfl (Yld.add rfl rfl h19) ?_
                                  refine WL.y rfl (Yld.pure tab_ok rfl) ?_
                                  refine WL.nil ?_
                                  exact WX.roundF _ ⟨i2 + (1 : Int), rfl, rfl, H.1, rfl⟩ (by repeat (first | exact Sub.nil | refine Sub.cons rfl ?_)) H.2
                              · clear H
                                rcases Bool.eq_false_or_eq_true (!(hangs.getD i2.toNat false)) with b11 | b11
                                · refine WQ.gyes rfl rfl (okb b11) rfl (Yld.pure tab_ok rfl) ?_
                                  refine WQ.gyes rfl rfl (okb b11) rfl (Yld.pure tab_ok rfl) ?_
                                  refine WQ.gyes rfl rfl (okb b11) rfl (Yld.iaddrK tab_ok k90.rd rfl rfl rfl rfl (h15 b11).1 (h15 b11).2) ?_
                                  refine WQ.gyes rfl rfl (okb b11) rfl (Yld.faddrK tab_ok k90.rd (iltN (h15 b11) rfl) rfl rfl rfl) ?_
                                  refine WQ.gyes rfl rfl (okb b11) rfl (Yld.iloadF (0, [], []) tab_ok k90.rd rfl rfl (iltN (h15 b11) rfl) rfl) ?_
                                  refine WQ.gyes rfl rfl (okb b11) rfl (Yld.pure tab_ok rfl) ?_
                                  refine WQ.gyes rfl rfl (okb b11) rfl (Yld.pure tab_ok rfl) ?_
                                  refine WQ.gyes rfl rfl (okb b11) rfl (Yld.iaddrK tab_ok k91.rd rfl rfl rfl rfl (h16 b11).1 (h16 b11).2) ?_
                                  refine WQ.gyes rfl rfl (okb b11) rfl (Yld.faddrK tab_ok k91.rd (iltN (h16 b11) rfl) rfl rfl rfl) ?_
                                  refine WQ.gyes rfl rfl (okb b11) rfl (Yld.iloadF (0, [], []) tab_ok k91.rd rfl rfl (iltN (h16 b11) rfl) rfl) ?_
                                  refine WQ.gyes rfl rfl (okb b11) rfl (Yld.pure tab_ok rfl) ?_
                                  refine WQ.gyes rfl rfl (okb b11) rfl (Yld.pure tab_ok rfl) ?_
                                  rcases Bool.eq_false_or_eq_true (!decide (((a.getD i2.toNat (0, [], [])).1) = ((b.getD i2.toNat (0, [], [])).1))) with b12 | b12
                                  · refine WQ.gno rfl rfl (okb b12) rfl ?_
                                    refine WQ.gno rfl rfl (okb b12) rfl ?_
                                    refine WQ.gno rfl rfl (okb b12) rfl ?_
                                    refine WQ.gno rfl rfl (okb b12) rfl ?_
                                    refine WQ.gno rfl rfl (okb b12) rfl ?_
                                    refine WQ.gno rfl rfl (okb b12) rfl ?_
                                    refine WQ.gno rfl rfl (okb b12) rfl ?_
                                    refine WQ.gno rfl rfl (okb b12) rfl ?_
                                    refine WQ.gno rfl rfl (okb b12) rfl ?_
                                    refine WQ.gno rfl rfl (okb b12) rfl ?_
                                    refine WQ.gno rfl rfl (okb b12) rfl ?_
                                    refine WQ.gyes rfl rfl (okb b11) rfl (Yld.pickT (okb b12) rfl) ?_
                                    refine WQ.y rfl (Yld.pickT (okb b11) rfl) ?_
                                    exact WQ.weaken (by repeat (first | exact Sub.nil | refine Sub.cons rfl ?_)) (hQ _ _ ⟨true, rfl, by rw [b11, b12] <;> rfl, rfl⟩)
                                  · refine WQ.gyes rfl rfl (okb b12) rfl (Yld.pure tab_ok rfl) ?_
                                    refine WQ.gyes rfl rfl (okb b12) rfl (Yld.pure tab_ok rfl) ?_
                                    refine WQ.gyes rfl rfl (okb b12) rfl (Yld.iaddrK tab_ok k90.rd rfl rfl rfl rfl (h17 b11 b12).1 (h17 b11 b12).2) ?_
                                    refine WQ.gyes rfl rfl (okb b12) rfl (Yld.faddrK tab_ok k90.rd (iltN (h17 b11 b12) rfl) rfl rfl rfl) ?_
                                    refine WQ.gyes rfl rfl (okb b12) rfl (Yld.iloadF (0, [], []) tab_ok k90.rd rfl rfl (iltN (h17 b11 b12) rfl) rfl) ?_
                                    refine WQ.gyes rfl rfl (okb b12) rfl (Yld.pure tab_ok rfl) ?_
                                    refine WQ.gyes rfl rfl (okb b12) rfl (Yld.pure tab_ok rfl) ?_
                                    refine WQ.gyes rfl rfl (okb b12) rfl (Yld.iaddrK tab_ok k91.rd rfl rfl rfl rfl (h18 b11 b12).1 (h18 b11 b12).2) ?_
                                    refine WQ.gyes rfl rfl (okb b12) rfl (Yld.faddrK tab_ok k91.rd (iltN (h18 b11 b12) rfl) rfl rfl rfl) ?_
                                    refine WQ.gyes rfl rfl (okb b12) rfl (Yld.iloadF (0, [], []) tab_ok k91.rd rfl rfl (iltN (h18 b11 b12) rfl) rfl) ?_
                                    refine WQ.gyes rfl rfl (okb b12) rfl (Yld.pure tab_ok rfl) ?_
                                    refine WQ.gyes rfl rfl (okb b11) rfl (Yld.pickF (okb b12) rfl) ?_
                                    refine WQ.y rfl (Yld.pickT (okb b11) rfl) ?_
                                    exact WQ.weaken (by repeat (first | exact Sub.nil | refine Sub.cons rfl ?_)) (hQ _ _ ⟨!decide (((a.getD i2.toNat (0, [], [])).2.1) = ((b.getD i2.toNat (0, [], [])).2.1)), rfl, by rw [b11, b12] <;> rfl, rfl⟩)
                                · refine WQ.gno rfl rfl (okb b11) rfl ?_
                                  refine WQ.gno rfl rfl (okb b11) rfl ?_
                                  refine WQ.gno rfl rfl (okb b11) rfl ?_
                                  refine WQ.gno rfl rfl (okb b11) rfl ?_
                                  refine WQ.gno rfl rfl (okb b11) rfl ?_
                                  refine WQ.gno rfl rfl (okb b11) rfl ?_
                                  refine WQ.gno rfl rfl (okb b11) rfl ?_
                                  refine WQ.gno rfl rfl (okb b11) rfl ?_
                                  refine WQ.gno rfl rfl (okb b11) rfl ?_
                                  refine WQ.gno rfl rfl (okb b11) rfl ?_
                                  refine WQ.gno rfl rfl (okb b11) rfl ?_
                                  refine WQ.gno rfl rfl (okb b11) rfl ?_
                                  refine WQ.gun rfl rfl rfl rfl ?_
                                  refine WQ.gun rfl rfl rfl rfl ?_
                                  refine WQ.gun rfl rfl rfl rfl ?_
                                  refine WQ.gun rfl rfl rfl rfl ?_
                                  refine WQ.gun rfl rfl rfl rfl ?_
                                  refine WQ.gun rfl rfl rfl rfl ?_
                                  refine WQ.gun rfl rfl rfl rfl ?_
                                  refine WQ.gun rfl rfl rfl rfl ?_
                                  refine WQ.gun rfl rfl rfl rfl ?_
                                  refine WQ.gun rfl rfl rfl rfl ?_
                                  refine WQ.gun rfl rfl rfl rfl ?_
                                  refine WQ.gno rfl rfl (okb b11) rfl ?_
                                  refine WQ.y rfl (Yld.pickF (okb b11) rfl) ?_
                                  exact WQ.weaken (by repeat (first | exact Sub.nil | refine Sub.cons rfl ?_)) (hQ _ _ ⟨false, rfl, by rw [b11] <;> rfl, rfl⟩)
                            · replace H := H.2 (of_decide_eq_false b9)
                              refine WC.exit (WX.then_exit (WX.then_exit (WX.block_same (WX.then_normal ?_))))
                              refine WC.seq ?_
                              refine WC.region ?_
                              refine WL.y rfl (Yld.pure tab_ok rfl) ?_
                              refine WL.nil (WX.then_normal ?_)
                              refine WC.ret ?_
                              exact WX.ret1 rfl rfl ⟨gr12, true, rfl, H⟩
                      · clear hJ2
                        rcases Bool.eq_false_or_eq_true (!decide ((a.length : Int) = (b.length : Int))) with b13 | b13
                        · replace H := H.1 b13
                          refine WL.gno rfl rfl (okb b13) rfl ?_
                          refine WL.gno rfl rfl (okb b13) rfl ?_
                          refine WL.gno rfl rfl (okb b13) rfl ?_
                          refine WL.gno rfl rfl (okb b13) rfl ?_
                          refine WL.gno rfl rfl (okb b13) rfl ?_
                          refine WL.y rfl (Yld.pickT (okb b13) rfl) ?_
                          exact WL.weaken (by repeat (first | exact Sub.nil | refine Sub.cons rfl ?_)) (hQ _ _ ⟨true, rfl, H, rfl⟩)
                        · replace H := H.2 b13
                          refine WL.gyes rfl rfl (okb b13) rfl (Yld.pure tab_ok rfl) ?_
                          refine WL.gyes rfl rfl (okb b13) rfl (Yld.pure tab_ok rfl) ?_
                          refine WL.gyes rfl rfl (okb b13) rfl (Yld.pure tab_ok rfl) ?_
                          refine WL.callw (wants_some rfl rfl (okb b13)) rfl rfl (W_pgraph_Graph_Len k51.rd rfl k52 k57 k53.rd rfl k54 k55.rd rfl k56 k58 H) ?_
                          rintro _ _ ⟨rfl, t87, rfl, H⟩
                          refine WL.gyes rfl rfl (okb b13) rfl (Yld.pure tab_ok rfl) ?_
                          refine WL.y rfl (Yld.pickF (okb b13) rfl) ?_
                          exact WL.weaken (by repeat (first | exact Sub.nil | refine Sub.cons rfl ?_)) (hQ _ _ ⟨!decide ((a.length : Int) = t87), rfl, H, rfl⟩)
                  · clear H
                    refine WL.gyes rfl rfl (rfl) rfl (Yld.pure tab_ok rfl) ?_
                    refine WL.gyes rfl rfl (rfl) rfl (Yld.errneq Tryz.underlying29 ht5412 rfl) ?_
                    refine WL.y rfl (Yld.pickF (rfl) rfl) ?_
                    exact WL.weaken (by repeat (first | exact Sub.nil | refine Sub.cons rfl ?_)) (hQ _ _ ⟨!decide (t5412 = Er.ok), rfl, rfl, rfl⟩)
            · clear H
              rcases Bool.eq_false_or_eq_true ((q2 || (decide ((100 : Int) < (p.length : Int)))) || (decide ((500 : Int) < (text.length : Int)))) with b14 | b14
              · refine WL.gno rfl rfl (okb b14) rfl ?_
                refine WL.gno rfl rfl (okb b14) rfl ?_
                refine WL.y rfl (Yld.pickT (okb b14) rfl) ?_
                exact WL.weaken (by repeat (first | exact Sub.nil | refine Sub.cons rfl ?_)) (hQ _ _ ⟨true, rfl, by rw [b14] <;> rfl, rfl⟩)
              · refine WL.gyes rfl rfl (okb b14) rfl (Yld.pure tab_ok rfl) ?_
                refine WL.gyes rfl rfl (okb b14) rfl (Yld.pure tab_ok rfl) ?_
                refine WL.y rfl (Yld.pickF (okb b14) rfl) ?_
                exact WL.weaken (by repeat (first | exact Sub.nil | refine Sub.cons rfl ?_)) (hQ _ _ ⟨!ok, rfl, by rw [b14] <;> rfl, rfl⟩)
          · clear H
            rcases Bool.eq_false_or_eq_true (q2 || (decide ((100 : Int) < (p.length : Int)))) with b15 | b15
            · refine WL.gno rfl rfl (okb b15) rfl ?_
              refine WL.gno rfl rfl (okb b15) rfl ?_
              refine WL.gno rfl rfl (okb b15) rfl ?_
              refine WL.y rfl (Yld.pickT (okb b15) rfl) ?_
              exact WL.weaken (by repeat (first | exact Sub.nil | refine Sub.cons rfl ?_)) (hQ _ _ ⟨true, rfl, by rw [b15] <;> rfl, rfl⟩)
            · refine WL.gyes rfl rfl (okb b15) rfl (Yld.pure tab_ok rfl) ?_
              refine WL.gyes rfl rfl (okb b15) rfl (Yld.pure tab_ok rfl) ?_
              refine WL.gyes rfl rfl (okb b15) rfl (Yld.pure tab_ok rfl) ?_
              refine WL.y rfl (Yld.pickF (okb b15) rfl) ?_
              exact WL.weaken (by repeat (first | exact Sub.nil | refine Sub.cons rfl ?_)) (hQ _ _ ⟨decide ((500 : Int) < (text.length : Int)), rfl, by rw [b15] <;> rfl, rfl⟩)
        · clear H
          rcases Bool.eq_false_or_eq_true (q2) with b16 | b16
          · refine WL.gno rfl rfl (okb b16) rfl ?_
            refine WL.gno rfl rfl (okb b16) rfl ?_
            refine WL.gno rfl rfl (okb b16) rfl ?_
            refine WL.y rfl (Yld.pickT (okb b16) rfl) ?_
            exact WL.weaken (by repeat (first | exact Sub.nil | refine Sub.cons rfl ?_)) (hQ _ _ ⟨true, rfl, by rw [b16] <;> rfl, rfl⟩)
          · refine WL.gyes rfl rfl (okb b16) rfl (Yld.pure tab_ok rfl) ?_
            refine WL.gyes rfl rfl (okb b16) rfl (Yld.pure tab_ok rfl) ?_
            refine WL.gyes rfl rfl (okb b16) rfl (Yld.pure tab_ok rfl) ?_
            refine WL.y rfl (Yld.pickF (okb b16) rfl) ?_
            exact WL.weaken (by repeat (first | exact Sub.nil | refine Sub.cons rfl ?_)) (hQ _ _ ⟨decide ((100 : Int) < (p.length : Int)), rfl, by rw [b16] <;> rfl, rfl⟩)
      · clear hJ1
        rcases Bool.eq_false_or_eq_true ((!t25) || (decide ((20 : Int) < (files.length : Int)))) with b17 | b17
        · replace H := H.1 b17
          refine WL.gno rfl rfl (okb b17) rfl ?_
          refine WL.gno rfl rfl (okb b17) rfl ?_
          refine WL.gno rfl rfl (okb b17) rfl ?_
          refine WL.y rfl (Yld.pickT (okb b17) rfl) ?_
          exact WL.weaken (by repeat (first | exact Sub.nil | refine Sub.cons rfl ?_)) (hQ _ _ ⟨true, rfl, H, rfl⟩)
        · replace H := H.2 b17
          refine WL.gyes rfl rfl (okb b17) rfl (Yld.pure tab_ok rfl) ?_
          refine WL.callw (wants_some rfl rfl (okb b17)) rfl rfl (W_smithyworld_Files (hfiles.grown gr1) rfl H) ?_
          rintro _ _ ⟨rfl, t34, rfl, H⟩
          refine WL.gyes rfl rfl (okb b17) rfl (Yld.pure tab_ok rfl) ?_
          refine WL.y rfl (Yld.pickF (okb b17) rfl) ?_
          exact WL.weaken (by repeat (first | exact Sub.nil | refine Sub.cons rfl ?_)) (hQ _ _ ⟨!t34, rfl, H, rfl⟩)
    · clear H
      rcases Bool.eq_false_or_eq_true (!t25) with b18 | b18
      · refine WL.gno rfl rfl (okb b18) rfl ?_
        refine WL.gno rfl rfl (okb b18) rfl ?_
        refine WL.gno rfl rfl (okb b18) rfl ?_
        refine WL.y rfl (Yld.pickT (okb b18) rfl) ?_
        exact WL.weaken (by repeat (first | exact Sub.nil | refine Sub.cons rfl ?_)) (hQ _ _ ⟨true, rfl, by rw [b18] <;> rfl, rfl⟩)
      · refine WL.gyes rfl rfl (okb b18) rfl (Yld.pure tab_ok rfl) ?_
        refine WL.gyes rfl rfl (okb b18) rfl (Yld.pure tab_ok rfl) ?_
        refine WL.gyes rfl rfl (okb b18) rfl (Yld.pure tab_ok rfl) ?_
        refine WL.y rfl (Yld.pickF (okb b18) rfl) ?_
        exact WL.weaken (by repeat (first | exact Sub.nil | refine Sub.cons rfl ?_)) (hQ _ _ ⟨decide ((20 : Int) < (files.length : Int)), rfl, by rw [b18] <;> rfl, rfl⟩)

end Go.Proofs.YtjhipfdbionpoaaGreatDoor

 /- PlanFresh, plainly. -/
namespace Go.Proofs.YtjhipfdbionpoaaGreatDoor
open Go Go.RowKit
theorem files_B {l : TX} {K : Bool → Prop} (h : ∀ t : Bool, (t = true → l.length ≤ 40 ∧ ∀ f ∈ l, f.1.length ≤ 250 ∧ f.2.length ≤ 3000) → K t) : M_smithyworld_Files l K := by
  intro _
  refine ⟨fun _ => h false fun h => (by cases h), fun hle => ?_⟩
  refine ⟨fun i => 0 ≤ i ∧ i ≤ l.length ∧ ∀ j, j < i.toNat → (l.getD j ([], [])).1.length ≤ 250 ∧ (l.getD j ([], [])).2.length ≤ 3000, fun i => l.length - i.toNat, ⟨by omega, by omega, fun j hj => by simp at hj⟩, fun i ⟨a0, a1, a2⟩ => ⟨fun hlt => ⟨⟨a0, hlt⟩, fun _ => ⟨a0, hlt⟩, fun _ => h false fun h => (by cases h), fun hc => ⟨by simp only [In]; omega, ⟨by omega, by omega, fun j hj => ?_⟩, by (try dsimp only); omega⟩⟩, fun hge => h true fun _ => ⟨by omega, fun f hf => ?_⟩⟩⟩
  · rw [Bool.or_eq_false_iff, decide_eq_false_iff_not, decide_eq_false_iff_not] at hc
    by_cases e : j = i.toNat
    · rw [e]; omega
    · exact a2 j (by omega)
  · obtain ⟨j, hj, rfl⟩ := List.getElem_of_mem hf
    have := a2 j (by omega)
    simpa [List.getD, hj] using this
theorem fits_ty {l : List GAct} {j : Nat} (h : fitsAt l j = .ok) : 1 ≤ (l.getD j az).1 ∧ (l.getD j az).1 ≤ 5 := by
  have h : fitsP (mkP l j) (l.getD j az) = .ok := h
  unfold fitsP at h
  split at h
  · cases h
  · omega
theorem GRes.ty {l : List GAct} (h : GRes l .ok) : ∀ j, j < l.length → 1 ≤ (l.getD j az).1 ∧ (l.getD j az).1 ≤ 5 := by
  rcases h with ⟨_, h⟩ | ⟨_, _, _, _, _, _, h⟩ | ⟨_, _, _, _, _, _, h⟩ | ⟨_, a1, _, _⟩
  · cases h
  · cases h
  · cases h
  · exact fun j hj => fits_ty (a1 j hj)
theorem amongB_M {l : TL} {s : List UInt8} {K : Int → Prop} (hl : l.length ≤ 1000000000) (h : ∀ t : Int, decide (0 ≤ t) = decide (s ∈ l) → K t) : M_smithyref_AmongTexts l s K :=
  amongTexts_M hl (fun hn => h _ (by rw [decide_eq_false hn]; rfl)) fun i h0 hm => h _ (by rw [decide_eq_true hm, decide_eq_true h0])
/-! the chapter's example -/
def P2 : List GAct := [(1, [[97], [98]], [], [120]), (1, [], [[120]], [121])]
theorem P2_bs : bsP P2 0 = [] ∧ bsP P2 1 = [0] := by
  constructor
  · exact List.length_eq_zero_iff.1 (Nat.le_zero.1 (bsP_len P2 0))
  · have h1 : (0 : Int) ∈ bsP P2 1 := bsP_mem.2 ⟨[120], by decide, by decide⟩
    have h2 : (bsP P2 1).length ≤ 1 := bsP_len P2 1
    match hb : bsP P2 1, h1, h2 with
    | [x], h1, _ => rw [List.mem_singleton.1 h1]
theorem P2_rch {k : Int} (h : Rch (befL P2 P2.length) [0] k) : k = 0 := by
  induction h with
  | base h => simpa using h
  | step _ h ih =>
    subst ih
    rw [befL_getD, if_pos (by decide), show (0 : Int).toNat = 0 from rfl, P2_bs.1] at h
    cases h
theorem P2_no {k : Int} (h : Rch (befL P2 P2.length) [] k) : False := by
  induction h with
  | base h => cases h
  | step _ _ ih => exact ih
theorem P2_res : GRes P2 .ok := by
  refine .inr (.inr (.inr ⟨fun h => h.elim (by decide) (by decide), fun j hj => ?_, fun j hj => ?_, rfl⟩))
  · match j, hj with
    | 0, _ => decide
    | 1, _ => decide
  · match j, hj with
    | 0, _ => intro h; unfold GCy at h; rw [P2_bs.1] at h; exact P2_no h
    | 1, _ => intro h; unfold GCy at h; rw [P2_bs.2] at h; exact absurd (P2_rch h) (by decide)
theorem P2_small : GSmall P2 := ⟨by decide, by decide, by decide, by decide⟩
theorem P2_fates : ((fatesP FQ1 P2 []).getD 0 fz).1 = 2 ∧ ((fatesP FQ1 P2 []).getD 1 fz).1 = 3 := by
  have g := P2_res.good
  obtain ⟨i, i1, i2, i3, i4, e1⟩ := runP_succ (F := FQ1) [] g (show 0 < P2.length by decide)
  obtain rfl : i = 0 := by
    match i, i1 with
    | 0, _ => rfl
    | 1, _ => have := i4 0 (by rw [P2_bs.2]; simp); simp at this
  obtain ⟨j, j1, j2, j3, j4, e2⟩ := runP_succ (F := FQ1) [] g (show 1 < P2.length by decide)
  obtain rfl : j = 1 := by
    match j, j1 with
    | 0, _ =>
      have ho := (ordR_props g.acy P2.length (Nat.le_refl _)).1
      rw [show (1 : Nat) = 0 + 1 from rfl, take_succ_getD 0 (by rw [ho]; decide), i2] at j3
      simp at j3
    | 1, _ => rfl
  have e : fatesP FQ1 P2 [] = (step1 FQ1 P2 (step1 FQ1 P2 (runP FQ1 P2 [] 0) ((0 : Nat) : Int)) ((1 : Nat) : Int)).1 := by
    rw [← e1, ← e2]; rfl
  have f0 : fate1 FQ1 P2 0 [fz, fz] [] = FQ1 (P2.getD 0 az) [] := by
    unfold fate1
    rw [P2_bs.1]; rfl
  have f1 : ∀ v : FT, v.1 = 2 → fate1 FQ1 P2 1 [v, fz] [] = fskip := fun v hv => by
    unfold fate1
    rw [P2_bs.2, if_pos]
    show (!decide (v.1 = 1) || _) = true
    rw [hv]; rfl
  have hv : (FQ1 (P2.getD 0 az) []).1 = 2 := by decide
  have s0 : step1 FQ1 P2 (runP FQ1 P2 [] 0) ((0 : Nat) : Int) = ([FQ1 (P2.getD 0 az) [], fz], []) := by
    show step1 FQ1 P2 ([fz, fz], []) _ = _
    unfold step1
    rw [Int.toNat_natCast]
    dsimp only
    rw [f0, if_neg (by rw [hv]; decide)]; rfl
  rw [e, s0]
  generalize FQ1 (P2.getD 0 az) [] = v at hv
  unfold step1
  rw [Int.toNat_natCast]
  dsimp only
  rw [f1 v hv]
  exact ⟨hv, rfl⟩
theorem pfirst_M {K : Bool → Prop} (h : K true) : M_smithylaw26_first K := by
  show M_graph_New P2 _ _
  have g := P2_res.good
  refine new_R (by decide) P2_small.sz (fun e he hne => absurd (GRes.uniq he P2_res) hne) fun _ => ⟨fun h => absurd rfl h, fun _ => fates_M P2_small g P2_res.ty (by simp) (by simp) ?_⟩
  have hl : (fatesP FQ1 P2 []).length = 2 := runP_len (F := FQ1) [] g P2.length (Nat.le_refl _)
  refine ⟨fun _ => by omega, fun _ => by omega, ?_⟩
  have e1 := P2_fates.1
  have e2 := P2_fates.2
  unfold fz at e1 e2
  rw [hl, decide_eq_true e1, decide_eq_true e2]
  exact h
theorem fresh_pl {l : List GAct} {files : TX} {p text : List UInt8} {K : Bool → Prop} (H : K true) : M_smithylaw26_PlanFresh l files p text K := by
  intro _ _
  refine pfirst_M ⟨fun h => by simp at h, fun _ => gacts_B fun t ht => ?_⟩
  refine ⟨fun q => q = false → GSmall l ∧ files.length ≤ 20 ∧ ∀ f ∈ files, f.1.length ≤ 250 ∧ f.2.length ≤ 3000, ⟨fun _ h => (by cases h), fun e => files_B fun t2 ht2 h2 => ?_⟩, fun q hq => ⟨fun _ => H, fun hc => ?_⟩⟩
  · rw [Bool.or_eq_false_iff, decide_eq_false_iff_not] at e
    have := ht2 (by simpa using h2)
    exact ⟨ht (by simpa using e.1), by omega, this.2⟩
  rw [Bool.or_eq_false_iff, Bool.or_eq_false_iff, Bool.or_eq_false_iff, decide_eq_false_iff_not, decide_eq_false_iff_not] at hc
  obtain ⟨hs, f1, f2⟩ := hq hc.1.1.1
  have hp : p.length ≤ 100 := by have := hc.1.1.2; omega
  have htx : text.length ≤ 500 := by have := hc.1.2; omega
  have hl := hs.len
  refine new_R (by omega) hs.sz (fun _ _ _ => H) fun hr => ⟨fun h => absurd rfl h, fun _ => ?_⟩
  have g := hr.good
  have hty := hr.ty
  refine fates_M hs g hty (by omega) (fun f hf => by have := f2 f hf; omega) ?_
  refine ⟨by omega, by simp only [List.length_nil]; omega, by simp only [List.length_append, List.length_nil, List.length_singleton]; omega, ?_⟩
  rw [List.nil_append]
  refine fates_M hs g hty (by rw [List.length_append, List.length_singleton]; omega) (fun f hf => ?_) ?_
  · rcases List.mem_append.1 hf with hf | hf
    · have := f2 f hf; omega
    · obtain rfl := List.mem_singleton.1 hf
      exact ⟨by show p.length ≤ _; omega, by show text.length ≤ _; omega⟩
  have la : (fatesP FQ1 l files).length = l.length := runP_len (F := FQ1) files g l.length (Nat.le_refl _)
  have lb : (fatesP FQ1 l (files ++ [(p, text)])).length = l.length := runP_len (F := FQ1) _ g l.length (Nat.le_refl _)
  refine ⟨fun b => b = false, ⟨fun h => ?_, fun _ _ _ _ => ?_⟩, fun q8 h8 => ⟨fun h => (by rw [h8] at h; cases h), fun _ => ⟨by omega, order_M (by omega) (fun j => by have := bsP_len l j; have := (hs.at j).2; omega) g.acy ?_⟩⟩⟩
  · rw [la, lb, decide_eq_true rfl] at h; cases h
  · rw [la]
    show (!decide ((l.length : Int) = (l.length : Int))) = false
    rw [decide_eq_true rfl]; rfl
  obtain ⟨o1, o2, o3⟩ := ordR_props g.acy l.length (Nat.le_refl _)
  rw [Int.toNat_natCast]
  refine ⟨fun i hg => 0 ≤ i ∧ i ≤ l.length ∧ ∀ j : Nat, j < l.length → (j : Int) ∈ (ordR (befL l l.length) l.length l.length).take i.toNat → hg.getD j false = ((decide (p ∈ (l.getD j az).2.2.1) && decide (mkI l p < 0)) || (bsP l j).any fun k => hg.getD k.toNat false), fun i _ => l.length - i.toNat, ⟨by omega, by omega, fun j _ hj => by simp at hj⟩, fun i hg ⟨a0, a1, a2⟩ hlen => ⟨fun hlt => ?_, fun hge => ?_⟩⟩
  · obtain ⟨k, k1, k2, k3, k4, _⟩ := runP_succ (F := FQ1) files g (show i.toNat < l.length by omega)
    have htk : (ordR (befL l l.length) l.length l.length).take (i + 1).toNat = (ordR (befL l l.length) l.length l.length).take i.toNat ++ [(k : Int)] := by
      rw [show (i + 1).toNat = i.toNat + 1 by omega, take_succ_getD 0 (by omega), k2]
    have hcl : ∀ j : Nat, j < l.length → (j : Int) ∈ (ordR (befL l l.length) l.length l.length).take i.toNat → ∀ b ∈ bsP l j, b ∈ (ordR (befL l l.length) l.length l.length).take i.toNat := fun j hj hm b hb => by
      have ht := ordR_take g.acy (l.length - i.toNat) i.toNat (by omega)
      rw [← ht] at hm ⊢
      refine ordR_closed g.acy i.toNat (by omega) _ hm b ?_
      rw [befL_getD, Int.toNat_natCast, if_pos hj]; exact hb
    rw [k2]
    have hin : inR l (k : Int) := by unfold inR; omega
    have hat := (hs.at k).2
    rw [Int.toNat_natCast]
    refine ⟨⟨a0, hlt⟩, ⟨by omega, by omega⟩, amongB_M (Nat.le_trans hat (by omega)) fun t3 ht3' => have ht3 : decide (0 ≤ t3) = decide (p ∈ (l.getD k az).2.2.1) := ht3'; ⟨fun b => b = (decide (p ∈ (l.getD k az).2.2.1) && decide (mkI l p < 0)), ⟨fun e => pmaker_R (by omega) (by rw [← ht3, e, Bool.true_and]), fun e => by rw [← ht3, e, Bool.false_and]⟩, fun q9 h9 => ⟨⟨by omega, by omega⟩, pbefore_R hs (fun hn => absurd hin hn) fun _ => ?_⟩⟩⟩
    rw [Int.toNat_natCast]
    have hbl := bsP_len l k
    refine ⟨fun j h2 => 0 ≤ j ∧ j ≤ (bsP l k).length ∧ h2 = hg.set k (q9 || ((bsP l k).take j.toNat).any fun x => hg.getD x.toNat false), fun j _ => (bsP l k).length - j.toNat, ⟨by omega, by omega, by simp⟩, fun j h2 ⟨b0, b1, b2⟩ hl2 => ⟨fun hlt2 => ?_, fun hge2 => ?_⟩⟩
    · have hjk : j.toNat < (bsP l k).length := by omega
      have hx := getD_mem2 (d := (0 : Int)) hjk
      have hxi := bsP_in hx
      have hxt := k4 _ hx
      have hne : ¬ k = ((bsP l k).getD j.toNat 0).toNat := fun e => k3 (by rw [e, show ((((bsP l k).getD j.toNat 0).toNat : Nat) : Int) = (bsP l k).getD j.toNat 0 by omega]; exact hxt)
      refine ⟨⟨by omega, by omega⟩, fun _ => ⟨b0, hlt2⟩, fun _ => ⟨hxi.1, by omega⟩, ⟨by omega, by omega⟩, by simp only [In]; omega, ⟨by omega, by omega, ?_⟩, by (try dsimp only); omega⟩
      rw [b2, List.set_set, getD_setG (by omega), if_pos rfl, getD_setG (by omega), if_neg hne, show (j + 1).toNat = j.toNat + 1 by omega, take_succ_getD 0 hjk, List.any_append, Bool.or_assoc]
      simp
    · rw [show j.toNat = (bsP l k).length by omega, List.take_length] at b2
      refine ⟨by simp only [In]; omega, ⟨by omega, by omega, fun j' hj' hm => ?_⟩, by (try dsimp only); omega⟩
      have hany : ∀ xs : List Int, (∀ x ∈ xs, 0 ≤ x ∧ x ∈ (ordR (befL l l.length) l.length l.length).take i.toNat) → (xs.any fun x => h2.getD x.toNat false) = xs.any fun x => hg.getD x.toNat false := fun xs hxs => by
        rw [Bool.eq_iff_iff, List.any_eq_true, List.any_eq_true]
        have one : ∀ x ∈ xs, h2.getD x.toNat false = hg.getD x.toNat false := fun x hx => by
          obtain ⟨x0, x1⟩ := hxs x hx
          rw [b2, getD_setG (by omega), if_neg fun e => k3 (by rw [e, show ((x.toNat : Nat) : Int) = x by omega]; exact x1)]
        exact ⟨fun ⟨x, hx, h⟩ => ⟨x, hx, by rwa [← one x hx]⟩, fun ⟨x, hx, h⟩ => ⟨x, hx, by rwa [one x hx]⟩⟩
      by_cases e : j' = k
      · subst e
        rw [hany _ fun x hx => ⟨(bsP_in hx).1, k4 x hx⟩, b2, getD_setG (by omega), if_pos rfl, h9]
      · rw [htk] at hm
        have hm' : (j' : Int) ∈ (ordR (befL l l.length) l.length l.length).take i.toNat := by
          rcases List.mem_append.1 hm with hm | hm
          · exact hm
          · have := List.mem_singleton.1 hm; omega
        rw [hany _ fun x hx => ⟨(bsP_in hx).1, hcl j' hj' hm' x hx⟩, ← a2 j' hj' hm', b2, getD_setG (by omega), if_neg fun h => e h.symm]
  · rw [List.take_of_length_le (by omega)] at a2
    have hH : Hangs l p fun j => hg.getD j false := fun j hj => a2 j hj (ord_mem g hj)
    refine ⟨fun i2 => 0 ≤ i2, fun i2 => l.length - i2.toNat, Int.le_refl 0, fun i2 (c0 : 0 ≤ i2) => ⟨fun hlt2 => ⟨⟨c0, by omega⟩, fun _ => ⟨c0, by omega⟩, fun _ => ⟨c0, by omega⟩, fun _ _ => ⟨c0, by omega⟩, fun _ _ => ⟨c0, by omega⟩, fun hbad => ?_, fun _ => ⟨by simp only [In]; omega, by omega, by (try dsimp only); omega⟩⟩, fun _ => H⟩⟩
    rw [Bool.and_eq_true, Bool.not_eq_true'] at hbad
    have e := fresh_ok (F := FQ1) (files := files) (t := text) g hH (j := i2.toNat) (by omega) hbad.1
    unfold fz at e
    rw [e, decide_eq_true rfl, decide_eq_true rfl] at hbad
    exact absurd hbad.2 (by decide)
theorem fresh_pl4 {P0 P1 P2 P3 : Prop} {l : List GAct} {files : TX} {p text : List UInt8} {K : Bool → Prop} (_ : P0) (_ : P1) (_ : P2) (_ : P3) (H : K true) : M_smithylaw26_PlanFresh l files p text K := fresh_pl H
end Go.Proofs.YtjhipfdbionpoaaGreatDoor


 