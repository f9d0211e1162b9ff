/- Texts of this claim, joined by a program: GrC, GrR, Ord, GGl, GrS. -/
import Derived.Test.YtlonpmajnglmoaaDoorJ3
/- A graph of actions, plainly: what is needed, the sources, what hangs on an action. -/
namespace Go.Proofs.YtlonpmajnglmoaaDoor
open Go Go.RowKit
theorem numG_M {n below : Int} {K : Int → Prop} (hn : In .i64 n) (hb : 0 < below) (hb2 : below ≤ 100000) (h : ∀ m, 0 ≤ m → m < below → K m) : M_smithyworld_Number n below K := by
  unfold M_smithyworld_Number
  have h1 := Int.tmod_lt_of_pos n hb
  have h2 := Int.lt_tmod_of_pos n hb
  simp only [In] at hn
  refine ⟨by omega, by simp only [In]; omega, by omega, ?_⟩
  have h3 : 0 ≤ n.tmod below + below := by omega
  rw [Int.tmod_eq_emod_of_nonneg h3]
  exact h _ (Int.emod_nonneg _ (by omega)) (Int.emod_lt_of_pos _ hb)
section
variable {gl : List GAct} {mk : MK} {bef aft : List (List Int)}
def onesN (met : List Bool) (n : Nat) : List Int := ((List.range n).filter fun k => met.getD k false).map fun (k : Nat) => (k : Int)
theorem onesN_succ (met : List Bool) (n : Nat) : onesN met (n + 1) = onesN met n ++ if met.getD n false = true then [(n : Int)] else [] := by
  unfold onesN
  rw [List.range_succ, List.filter_append, List.map_append]
  congr 1
  rw [List.filter_cons, List.filter_nil]
  split <;> rfl
theorem onesN_len (met : List Bool) (n : Nat) : (onesN met n).length ≤ n := by
  unfold onesN
  rw [List.length_map]
  exact Nat.le_trans (List.length_filter_le _ _) (by simp)
theorem needs_M {outs : TL} {K : List Int → Prop} (hn : gl.length ≤ 1000000) (hb : bef.length = gl.length) (hr : ∀ j, j < bef.length → ∀ k ∈ bef.getD j [], 0 ≤ k ∧ k < (gl.length : Int)) (ho : outs.length ≤ 1000000) (hol : ∀ s ∈ outs, s.length ≤ 4000000000) (hmk : ∀ s v, mget mk s = some v → 0 ≤ v ∧ v < (gl.length : Int)) (hs : tot bef gl.length ≤ 10000000)
    (h : ∀ met : List Bool, met.length = gl.length → (∀ k : Nat, k < gl.length → (met.getD k false = true ↔ Rch bef (outs.filterMap (mget mk)) k)) → K (onesN met gl.length)) : M_pgraph_Graph_Needs gl mk bef aft outs K := by
  intro _ _ _ _
  refine ⟨fun fr t => 0 ≤ t ∧ t ≤ outs.length ∧ fr = (outs.take t.toNat).filterMap (mget mk), fun _ t => outs.length - t.toNat, ⟨by omega, by omega, rfl⟩, fun fr t ⟨a0, a1, a2⟩ => ⟨fun hlt => ?_, fun hge => ?_⟩⟩
  · have ht : t.toNat < outs.length := by omega
    have hsl := hol _ (getD_mem2 (d := []) ht)
    have hfl : fr.length ≤ outs.length := by
      rw [a2]
      exact Nat.le_trans (List.length_filterMap_le _ _) (by rw [List.length_take]; omega)
    have htk : outs.take (t + 1).toNat = outs.take t.toNat ++ [outs.getD t.toNat []] := by
      rw [show (t + 1).toNat = t.toNat + 1 by omega]
      exact take_succ_getD [] ht
    refine ⟨fun fr2 => fr2 = (outs.take (t + 1).toNat).filterMap (mget mk), ⟨⟨a0, hlt⟩, by unfold maxLen; exact Nat.le_trans hsl (by omega), fun hs => ⟨by rw [List.length_singleton]; omega, ?_⟩, fun hs => ?_⟩, fun fr2 hb2 => ⟨by simp only [In]; omega, ⟨by omega, by omega, hb2⟩, by (try dsimp only); omega⟩⟩
    · obtain ⟨v, hv⟩ := Option.isSome_iff_exists.1 hs
      rw [htk, List.filterMap_append, ← a2, List.filterMap_cons, hv]
      rfl
    · have hn : mget mk (outs.getD t.toNat []) = none := by simpa using hs
      rw [htk, List.filterMap_append, ← a2, List.filterMap_cons, hn]
      simp
  · have ht : t.toNat = outs.length := by omega
    rw [ht, List.take_length] at a2
    subst a2
    have hfl : (outs.filterMap (mget mk)).length ≤ outs.length := List.length_filterMap_le _ _
    refine reach_M hn hb hr (fun k hk => ?_) (by omega) fun met m1 m2 => ?_
    · obtain ⟨s, _, hs⟩ := List.mem_filterMap.1 hk
      exact hmk s k hs
    · have hK := h met m1 m2
      refine ⟨fun out i => 0 ≤ i ∧ i ≤ met.length ∧ out = onesN met i.toNat, fun _ i => met.length - i.toNat, ⟨by omega, by omega, rfl⟩, fun out i ⟨b0, b1, b2⟩ => ⟨fun hlt => ?_, fun hge => ?_⟩⟩
      · have hii : (i.toNat : Int) = i := by omega
        have hol := onesN_len met i.toNat
        refine ⟨fun o2 => o2 = onesN met (i + 1).toNat, ⟨⟨b0, hlt⟩, fun hm => ⟨by rw [b2, List.length_singleton]; omega, ?_⟩, fun hm => ?_⟩, fun o2 hb2 => ⟨by simp only [In]; omega, ⟨by omega, by omega, hb2⟩, by (try dsimp only); omega⟩⟩
        · rw [show (i + 1).toNat = i.toNat + 1 by omega, onesN_succ, if_pos hm, b2, hii]
        · rw [show (i + 1).toNat = i.toNat + 1 by omega, onesN_succ, if_neg (by rw [hm]; simp), b2, List.append_nil]
      · have : i.toNat = met.length := by omega
        rw [this, m1] at b2
        rw [b2]; exact hK
theorem after_M {i : Int} {K : List Int → Prop} (hi : 0 ≤ i ∧ i < (gl.length : Int)) (ha : aft.length = gl.length) (hl : (aft.getD i.toNat []).length ≤ 1000000) (h : K (aft.getD i.toNat [])) : M_pgraph_Graph_After gl mk bef aft i K := by
  intro _ _ _
  refine ⟨fun hb => ?_, fun _ => ⟨by omega, cloneI_M (by omega) h⟩⟩
  exfalso
  rw [Bool.or_eq_true, decide_eq_true_eq, decide_eq_true_eq] at hb
  omega
def srcA (mk : MK) (inp : TL) : TL := inp.filter fun s => !(mget mk s).isSome
theorem srcA_len (mk : MK) (inp : TL) : (srcA mk inp).length ≤ inp.length := List.length_filter_le _ _
theorem sources_M {K : TL → Prop} (hn : gl.length ≤ 1000) (hi : ∀ a ∈ gl, a.2.2.1.length ≤ 1000 ∧ ∀ s ∈ a.2.2.1, s.length ≤ 4000000000) (h : K (sortU (gl.flatMap fun a => srcA mk a.2.2.1))) : M_pgraph_Graph_Sources gl mk bef aft K := by
  intro _ _ _
  refine ⟨fun l t => 0 ≤ t ∧ t ≤ gl.length ∧ l = (gl.take t.toNat).flatMap (fun a => srcA mk a.2.2.1) ∧ l.length ≤ 1000 * t.toNat, fun _ t => gl.length - t.toNat, ⟨by omega, by omega, rfl, by simp⟩, fun l t ⟨a0, a1, a2, a3⟩ => ⟨fun hlt => ⟨⟨a0, hlt⟩, ?_⟩, fun hge => ?_⟩⟩
  · have ht : t.toNat < gl.length := by omega
    obtain ⟨g1, g2⟩ := hi _ (getD_mem2 (d := az) ht)
    show Lp2 (fun l2 t22 kont2 => ((t22 < ((gl.getD t.toNat az).2.2.1.length : Int) → _) ∧ (¬ (t22 < ((gl.getD t.toNat az).2.2.1.length : Int)) → _))) _ _
    generalize hinp : (gl.getD t.toNat az).2.2.1 = inp at g1 g2 ⊢
    have hz : (gl.getD t.toNat (0, [], [], [])).2.2.1 = inp := hinp
    rw [hz]
    refine ⟨fun l2 j => 0 ≤ j ∧ j ≤ inp.length ∧ l2 = l ++ srcA mk (inp.take j.toNat), fun _ j => inp.length - j.toNat, ⟨by omega, by omega, by simp [srcA]⟩, fun l2 j ⟨b0, b1, b2⟩ => ⟨fun hlt2 => ?_, fun hge2 => ?_⟩⟩
    · have hj : j.toNat < inp.length := by omega
      have hsl := g2 _ (getD_mem2 (d := []) hj)
      have hl2 := srcA_len mk (inp.take j.toNat)
      rw [List.length_take] at hl2
      have htk : srcA mk (inp.take (j + 1).toNat) = srcA mk (inp.take j.toNat) ++ if (!(mget mk (inp.getD j.toNat [])).isSome) = true then [inp.getD j.toNat []] else [] := by
        unfold srcA
        rw [show (j + 1).toNat = j.toNat + 1 by omega, take_succ_getD [] hj, List.filter_append]
        congr 1
        rw [List.filter_cons, List.filter_nil]
      refine ⟨fun l3 => l3 = l ++ srcA mk (inp.take (j + 1).toNat), ⟨⟨b0, hlt2⟩, by unfold maxLen; exact Nat.le_trans hsl (by omega), fun hs => ⟨by rw [b2, List.length_append, List.length_singleton]; omega, ?_⟩, fun hs => ?_⟩, fun l3 hb3 => ⟨by simp only [In]; omega, ⟨by omega, by omega, hb3⟩, by (try dsimp only); omega⟩⟩
      · rw [htk, if_pos hs, b2, List.append_assoc]
      · rw [htk, if_neg (by rw [hs]; simp), b2, List.append_nil]
    · have hj : j.toNat = inp.length := by omega
      rw [hj, List.take_length] at b2
      have hl2 := srcA_len mk inp
      refine ⟨by simp only [In]; omega, ⟨by omega, by omega, ?_, ?_⟩, by (try dsimp only); omega⟩
      · rw [show (t + 1).toNat = t.toNat + 1 by omega, take_succ_getD az ht, List.flatMap_append, ← a2, b2, List.flatMap_cons, List.flatMap_nil, List.append_nil, hinp]
      · rw [b2, List.length_append]; omega
  · have ht : t.toNat = gl.length := by omega
    rw [ht, List.take_length] at a2
    refine ⟨by omega, ?_⟩
    show K (Lib.compact (sortB l))
    rw [a2]; exact h
theorem index_M {xs : List Int} {v : Int} {i : Nat} {K : Int → Prop} (hl : xs.length ≤ 1000000) (hi : i < xs.length) (h1 : xs.getD i 0 = v) (h0 : ∀ j, j < i → xs.getD j 0 ≠ v) (h : K (i : Int)) : M_slices_Index_int_int xs v K := by
  intro _
  refine ⟨fun t => 0 ≤ t ∧ t ≤ i, fun t => i - t.toNat, ⟨by omega, by omega⟩, fun t ⟨a0, a1⟩ => ⟨fun hlt => ⟨⟨a0, hlt⟩, fun he => ?_, fun hne => ⟨by simp only [In]; omega, ⟨by omega, ?_⟩, ?_⟩⟩, fun hge => by omega⟩⟩
  · have : t.toNat = i := by
      rcases Nat.lt_or_ge t.toNat i with hlt2 | hge2
      · exact absurd he.symm (h0 _ hlt2)
      · omega
    have e : t = (i : Int) := by omega
    rw [e]; exact h
  · have : t.toNat ≠ i := fun e => hne (by rw [e]; exact h1.symm)
    omega
  · have : t.toNat ≠ i := fun e => hne (by rw [e]; exact h1.symm)
    (try dsimp only); omega
end
theorem sameAt_M {p : Int} {n : Nat} {c : Int} {K : Bool → Prop} (hc : c = 101 + (n : Int)) (h : K true) : M_smithyref_Placed c p (fun a b d e f => M_smithysee_Same (.at_ p n) a b d e f K) := by
  refine ⟨fun e => by omega, fun _ => ?_⟩
  refine ⟨fun h2 => (by cases h2), fun _ => ⟨fun p' m h2 => ?_, fun h2 => absurd rfl (h2 p n)⟩⟩
  cases h2
  refine ⟨fun h2 => (by cases h2), fun _ => ?_⟩
  unfold M_smithysee_sentinel
  refine ⟨fun h2 => (by simp only [sentV] at h2; omega), fun _ => ?_⟩
  refine Eq.mpr (congrArg K ?_) h
  simp [sentV, hc]
end Go.Proofs.YtlonpmajnglmoaaDoor


 /- Actions in a row, and in a ring, plainly. -/
namespace Go.Proofs.YtlonpmajnglmoaaDoor
open Go Go.RowKit
structure NOk (nm : Nat → List UInt8) (ex : TL) (N : Nat) : Prop where
  inj : ∀ i, i < N → ∀ j, j < N → nm i = nm j → i = j
  val : ∀ i, i < N → validB (nm i) = true
  len : ∀ i, i < N → (nm i).length ≤ 10
  exv : ∀ s ∈ ex, validB s = true
  exs : ∀ s ∈ ex, s.length ≤ 10
  exn : ∀ s ∈ ex, ∀ i, i < N → nm i ≠ s
  exl : ex.length ≤ 10
def ci (nm : Nat → List UInt8) (ex : TL) (i : Nat) : TL := if i = 0 then [] else nm (i - 1) :: ex
/-- so many actions in a row; the one at b hangs on the last one, too -/
def rg (nm : Nat → List UInt8) (ex : TL) (n : Nat) (b : Option Nat) : List GAct := (List.range n).map fun i => (1, [], ci nm ex i ++ (if some i = b then [nm (n - 1)] else []), nm i)
section
variable {nm : Nat → List UInt8} {ex : TL} {N n : Nat} {b : Option Nat}
theorem rg_len : (rg nm ex n b).length = n := by unfold rg; rw [List.length_map, List.length_range]
theorem rg_at {i : Nat} (h : i < n) : (rg nm ex n b).getD i az = (1, [], ci nm ex i ++ (if some i = b then [nm (n - 1)] else []), nm i) := by
  unfold rg; rw [rng_getD h]
theorem rg_inp {i : Nat} {s : List UInt8} (hi : i < n) (h : s ∈ ci nm ex i ++ (if some i = b then [nm (n - 1)] else [])) : (∃ j, j < n ∧ s = nm j) ∨ s ∈ ex := by
  rcases List.mem_append.1 h with h | h
  · unfold ci at h
    split at h
    · simp at h
    · rcases List.mem_cons.1 h with h | h
      · exact .inl ⟨i - 1, by omega, h⟩
      · exact .inr h
  · split at h
    · exact .inl ⟨n - 1, by omega, List.mem_singleton.1 h⟩
    · simp at h
theorem rg_inl {i : Nat} (ok : NOk nm ex N) : (ci nm ex i ++ (if some i = b then [nm (n - 1)] else [])).length ≤ 12 := by
  have := ok.exl
  rw [List.length_append]
  unfold ci
  split <;> split <;> simp <;> omega
theorem rg_mget (ok : NOk nm ex N) (hn : n ≤ N) {i : Nat} (hi : i ≤ n) {s : List UInt8} {v : Int} (h : mget (mkP (rg nm ex n b) i) s = some v) : ∃ j, j < i ∧ v = (j : Int) ∧ nm j = s := by
  obtain ⟨j, h1, h2, h3⟩ := mkP_val h
  rw [rg_at (by omega)] at h3
  exact ⟨j, h1, h2, h3⟩
theorem rg_get (ok : NOk nm ex N) (hn : n ≤ N) : ∀ {i : Nat}, i ≤ n → ∀ j, j < i → mget (mkP (rg nm ex n b) i) (nm j) = some (j : Int)
  | 0, _, j, hj => by omega
  | i + 1, hi, j, hj => by
    rw [mkP_succ, mget_mput, rg_at (by omega)]
    by_cases e : i = j
    · subst e; rw [if_pos rfl]
    · rw [if_neg (fun h => e (ok.inj _ (by omega) _ (by omega) h))]
      exact rg_get ok hn (by omega) j (by omega)
theorem rg_fits (ok : NOk nm ex N) (hn : n ≤ N) {i : Nat} (hi : i < n) : fitsAt (rg nm ex n b) i = .ok := by
  unfold fitsAt fitsP
  rw [rg_at hi]
  have h1 : inval (ci nm ex i ++ (if some i = b then [nm (n - 1)] else [])) = false := by
    unfold inval
    rw [List.any_eq_false]
    intro s hs
    rcases rg_inp hi hs with ⟨j, hj, rfl⟩ | hs
    · simp [ok.val j (by omega)]
    · simp [ok.exv s hs]
  have h2 : mget (mkP (rg nm ex n b) i) (nm i) = none := by
    cases h : mget (mkP (rg nm ex n b) i) (nm i) with
    | none => rfl
    | some v =>
      obtain ⟨j, g1, _, g3⟩ := rg_mget ok hn (by omega) h
      have := ok.inj _ (by omega) _ (by omega) g3
      omega
  rw [if_neg (by dsimp only; omega), if_neg (by
    dsimp only
    rw [ok.val i (by omega), h1]; simp), if_neg (by
    dsimp only
    rw [h2]; simp)]
theorem rg_many (ok : NOk nm ex N) : (rg nm ex n b).any manyA = false := by
  rw [List.any_eq_false]
  intro a ha
  obtain ⟨i, _, rfl⟩ := List.mem_map.1 ha
  have := rg_inl (i := i) (b := b) (n := n) ok
  unfold manyA
  dsimp only
  rw [decide_eq_false (by omega), decide_eq_false (by simp)]
  simp
theorem rg_bs (ok : NOk nm ex N) (hn : n ≤ N) {i : Nat} (hi : i < n) {k : Int} : k ∈ bsP (rg nm ex n b) i ↔ (0 < i ∧ k = (i : Int) - 1) ∨ (some i = b ∧ k = (n : Int) - 1) := by
  rw [bsP_mem, rg_at hi, rg_len]
  dsimp only
  constructor
  · rintro ⟨s, hs, hk⟩
    obtain ⟨j, g1, g2, g3⟩ := rg_mget ok hn (Nat.le_refl _) hk
    rcases List.mem_append.1 hs with hs | hs
    · unfold ci at hs
      split at hs
      · simp at hs
      · rcases List.mem_cons.1 hs with hs | hs
        · left
          rw [hs] at g3
          have := ok.inj _ (by omega) _ (by omega) g3
          omega
        · exact absurd g3 (ok.exn s hs _ (by omega))
    · split at hs
      · right
        rw [List.mem_singleton.1 hs] at g3
        have := ok.inj _ (by omega) _ (by omega) g3
        exact ⟨by assumption, by omega⟩
      · simp at hs
  · rintro (⟨h0, rfl⟩ | ⟨hb, rfl⟩)
    · refine ⟨nm (i - 1), List.mem_append_left _ ?_, ?_⟩
      · unfold ci; rw [if_neg (by omega)]; exact List.mem_cons_self
      · rw [rg_get ok hn (Nat.le_refl _) (i - 1) (by omega)]
        congr 1; omega
    · refine ⟨nm (n - 1), List.mem_append_right _ (by rw [if_pos hb]; simp), ?_⟩
      rw [rg_get ok hn (Nat.le_refl _) (n - 1) (by omega)]
      congr 1; omega
theorem rg_bef (ok : NOk nm ex N) (hn : n ≤ N) {i : Nat} {k : Int} (h : k ∈ (befL (rg nm ex n b) n).getD i []) : i < n ∧ ((0 < i ∧ k = (i : Int) - 1) ∨ (some i = b ∧ k = (n : Int) - 1)) := by
  rw [befL_getD] at h
  split at h
  · rename_i hi; exact ⟨hi, (rg_bs ok hn hi).1 h⟩
  · simp at h
/-- ahead of b all that is reached lies ahead -/
theorem rg_low (ok : NOk nm ex N) (hn : n ≤ N) {m : Nat} (hm : ∀ i, i < m → some i ≠ b) {fr : List Int} (hf : ∀ f ∈ fr, 0 ≤ f ∧ f < (m : Int)) {x : Int} (h : Rch (befL (rg nm ex n b) n) fr x) : 0 ≤ x ∧ x < (m : Int) := by
  induction h with
  | base h => exact hf _ h
  | step _ hk ih =>
    obtain ⟨_, h1 | h1⟩ := rg_bef ok hn hk
    · omega
    · exact absurd h1.1 (hm _ (by omega))
theorem rg_down (ok : NOk nm ex N) (hn : n ≤ N) {fr : List Int} : ∀ (d y : Nat), y + d < n → Rch (befL (rg nm ex n b) n) fr ((y + d : Nat) : Int) → Rch (befL (rg nm ex n b) n) fr (y : Int)
  | 0, _, _, h => h
  | d + 1, y, hd, h => rg_down ok hn d y (by omega) (.step h (by
      rw [Int.toNat_natCast, befL_getD, if_pos hd, rg_bs ok hn hd]
      exact .inl ⟨by omega, by omega⟩))
theorem rg_acyc (ok : NOk nm ex N) (hn : n ≤ N) {j : Nat} (hj : j < n) (hm : ∀ i, i ≤ j → some i ≠ b) : ¬ Rch (befL (rg nm ex n b) n) (bsP (rg nm ex n b) j) (j : Int) := fun h => by
  have := rg_low ok hn (m := j) (fun i hi => hm i (by omega)) (fun f hf => by
    rcases (rg_bs ok hn hj).1 hf with h1 | h1
    · omega
    · exact absurd h1.1 (hm j (Nat.le_refl _))) h
  omega
theorem rg_cyc (ok : NOk nm ex N) (hn : n ≤ N) {c : Nat} (hc : c < n) : Rch (befL (rg nm ex n (some c)) n) (bsP (rg nm ex n (some c)) c) (c : Int) := by
  refine rg_down ok hn (n - 1 - c) c (by omega) (.base ?_)
  rw [rg_bs ok hn hc]
  exact .inr ⟨rfl, by omega⟩
theorem rg_sz (ok : NOk nm ex N) (hn : n ≤ N) : ∀ a ∈ rg nm ex n b, (∀ s ∈ a.2.2.1, s.length ≤ 4000000000) ∧ a.2.2.2.length ≤ 4000000000 := fun a ha => by
  obtain ⟨i, hi, rfl⟩ := List.mem_map.1 ha
  have hi := List.mem_range.1 hi
  have h1 := ok.len i (by omega)
  refine ⟨fun s hs => ?_, by dsimp only; omega⟩
  rcases rg_inp hi hs with ⟨j, hj, rfl⟩ | hs
  · have := ok.len j (by omega); omega
  · have := ok.exs s hs; omega
/-- a row is a graph -/
theorem row_M (ok : NOk nm ex N) (hn : n ≤ N) (hN : N ≤ 100) {K0 : Er → Prop} {K : List GAct → MK → List (List Int) → List (List Int) → Er → Prop} (h : K (rg nm ex n none) (mkP (rg nm ex n none) n) (befL (rg nm ex n none) n) (aftL (rg nm ex n none) n) .ok) : M_graph_New (rg nm ex n none) K0 K := by
  have hl := rg_len (nm := nm) (ex := ex) (n := n) (b := none)
  refine new_M (by omega) (rg_sz ok hn) (fun hm => ?_) (fun _ _ i m hi _ hf => ?_) (fun _ _ _ i hi _ hc => ?_) (fun _ _ _ _ => ?_)
  · rcases hm with hm | hm
    · omega
    · rw [rg_many ok] at hm; cases hm
  · rw [rg_fits ok hn (by omega)] at hf; cases hf
  · rw [hl] at hc
    exact absurd hc (rg_acyc ok hn (by omega) (fun i _ => by simp))
  · rw [hl]; exact h
/-- a ring is none, told at the first of it -/
theorem ring_M (ok : NOk nm ex N) (hn : n ≤ N) (hN : N ≤ 100) {c : Nat} (hc : c < n) {K0 : Er → Prop} {K : List GAct → MK → List (List Int) → List (List Int) → Er → Prop} (h : K0 (.at_ c 4)) : M_graph_New (rg nm ex n (some c)) K0 K := by
  have hl := rg_len (nm := nm) (ex := ex) (n := n) (b := some c)
  refine new_M (by omega) (rg_sz ok hn) (fun hm => ?_) (fun _ _ i m hi _ hf => ?_) (fun _ _ _ i hi hb hcy => ?_) (fun _ _ _ hno => ?_)
  · rcases hm with hm | hm
    · omega
    · rw [rg_many ok] at hm; cases hm
  · rw [rg_fits ok hn (by omega)] at hf; cases hf
  · rw [hl] at hcy hi
    have : i = c := by
      rcases Nat.lt_trichotomy i c with hlt | he | hgt
      · exact absurd hcy (rg_acyc ok hn hi (fun j hj e => by simp only [Option.some.injEq] at e; omega))
      · exact he
      · have := hb c hgt
        rw [hl] at this
        exact absurd (rg_cyc ok hn hc) this
    rw [this]; exact h
  · have := hno c (by omega)
    rw [hl] at this
    exact absurd (rg_cyc ok hn hc) this
/-! ### what a row answers -/
theorem row_bs (ok : NOk nm ex N) (hn : n ≤ N) {i : Nat} (hi : i < n) : bsP (rg nm ex n none) i = if i = 0 then [] else [(i : Int) - 1] := by
  refine strictG_uniq ltI_T (uniqG_strict ltI_T _) ?_ fun x => ?_
  · split
    · exact List.Pairwise.nil
    · exact List.pairwise_singleton _ _
  · show x ∈ bsP (rg nm ex n none) i ↔ _
    rw [rg_bs ok hn hi]
    split
    · rename_i h; simp; omega
    · rename_i h
      simp
      omega
theorem row_aft (ok : NOk nm ex N) (hn : n ≤ N) {k : Nat} : ∀ i, i ≤ n → aftK (rg nm ex n none) i k = if k + 1 < i then [(k : Int) + 1] else []
  | 0, _ => by rw [if_neg (by omega)]; rfl
  | i + 1, hi => by
    rw [aftK_succ, row_aft ok hn i (by omega), row_bs ok hn (by omega)]
    by_cases e : k + 1 = i
    · have h1 : ¬ k + 1 < i := by omega
      have h2 : k + 1 < i + 1 := by omega
      have h3 : (k : Int) ∈ (if i = 0 then [] else [(i : Int) - 1]) := by
        rw [if_neg (by omega)]; simp; omega
      rw [if_neg h1, if_pos h2, if_pos h3, List.nil_append]
      congr 1; omega
    · have h3 : ¬ (k : Int) ∈ (if i = 0 then [] else [(i : Int) - 1]) := by
        split
        · simp
        · simp; omega
      rw [if_neg h3, List.append_nil]
      by_cases h1 : k + 1 < i
      · have h2 : k + 1 < i + 1 := by omega
        rw [if_pos h1, if_pos h2]
      · have h2 : ¬ k + 1 < i + 1 := by omega
        rw [if_neg h1, if_neg h2]
theorem row_tot (ok : NOk nm ex N) (hn : n ≤ N) : tot (befL (rg nm ex n none) n) n ≤ 1 * n := tot_le (fun j => by
  rw [befL_getD]
  split
  · rw [row_bs ok hn (by assumption)]; split <;> simp
  · simp) _
theorem onesN_upto {met : List Bool} {m : Nat} : ∀ {n : Nat}, (∀ k, k < n → (met.getD k false = true ↔ k < m)) → onesN met n = (List.range (min m n)).map fun (k : Nat) => (k : Int)
  | 0, _ => by simp [onesN]
  | n + 1, h => by
    rw [onesN_succ, onesN_upto fun k hk => h k (by omega)]
    have hk := h n (by omega)
    by_cases hm : n < m
    · rw [if_pos (hk.2 hm), show min m n = n by omega, show min m (n + 1) = n + 1 by omega, List.range_succ, List.map_append]; rfl
    · rw [if_neg (fun e => hm (hk.1 e)), List.append_nil, show min m n = m by omega, show min m (n + 1) = m by omega]
theorem row_needs (ok : NOk nm ex N) (hn : n ≤ N) (hN : N ≤ 100) {k : Nat} (hk : k < n) {aft : List (List Int)} {K : List Int → Prop} (h : K ((List.range (k + 1)).map fun (j : Nat) => (j : Int))) : M_pgraph_Graph_Needs (rg nm ex n none) (mkP (rg nm ex n none) n) (befL (rg nm ex n none) n) aft [nm k] K := by
  have hl := rg_len (nm := nm) (ex := ex) (n := n) (b := none)
  have ht := row_tot (nm := nm) (ex := ex) ok hn
  have hfm : [nm k].filterMap (mget (mkP (rg nm ex n none) n)) = [(k : Int)] := by
    rw [List.filterMap_cons, rg_get ok hn (Nat.le_refl _) k hk]; rfl
  have hkl := ok.len k (by omega)
  refine needs_M (by omega) (by unfold befL; rw [List.length_map, List.length_range, hl]) (fun j _ x hx => ?_) (by simp) (fun s hs => ?_) (fun s v hv => ?_) (by rw [hl]; omega) fun met m1 m2 => ?_
  · obtain ⟨h1, h2 | h2⟩ := rg_bef ok hn hx
    · omega
    · cases h2.1
  · rw [List.mem_singleton.1 hs]; omega
  · obtain ⟨j, h1, h2, _⟩ := rg_mget ok hn (Nat.le_refl _) hv
    omega
  · rw [hl, hfm] at m2
    rw [hl]
    rw [onesN_upto (m := k + 1) fun j hj => ?_, show min (k + 1) n = k + 1 by omega]
    · exact h
    · rw [m2 j hj]
      constructor
      · intro hR
        have := rg_low ok hn (m := k + 1) (fun i _ => by simp) (fun f hf => by rw [List.mem_singleton.1 hf]; omega) hR
        omega
      · intro hj2
        refine rg_down ok hn (k - j) j (by omega) (.base ?_)
        rw [show j + (k - j) = k by omega]
        exact List.mem_singleton.2 rfl
theorem row_order (ok : NOk nm ex N) (hn : n ≤ N) (hN : N ≤ 100) {mk : MK} {K : List Int → Prop} (h : K ((List.range n).map fun (j : Nat) => (j : Int))) : M_pgraph_Graph_Order (rg nm ex n none) mk (befL (rg nm ex n none) n) (aftL (rg nm ex n none) n) K := by
  have hl := rg_len (nm := nm) (ex := ex) (n := n) (b := none)
  have hbl : (befL (rg nm ex n none) n).length = n := by unfold befL; rw [List.length_map, List.length_range]
  have hal : (aftL (rg nm ex n none) n).length = n := by unfold aftL; rw [List.length_map, List.length_range, hl]
  have hnn : ((n : Nat) : Int).toNat = n := by omega
  intro _ _ _
  rw [hl, hnn]
  refine ⟨⟨by omega, by omega, by omega⟩, fun t left => 0 ≤ t ∧ t ≤ n ∧ left = (List.range n).map fun j => if j < t.toNat then (if j = 0 then (0 : Int) else 1) else 0, fun t _ => n - t.toNat, ⟨by omega, by omega, ?_⟩, fun t left ⟨a0, a1, a2⟩ _ => ⟨fun hlt => ?_, fun hge => ?_⟩⟩
  · refine List.ext_getElem (by simp) fun k h1 h2 => ?_
    simp
  · have ht : t.toNat < n := by omega
    refine ⟨⟨a0, by omega⟩, ⟨a0, by omega⟩, by simp only [In]; omega, ⟨by omega, by omega, ?_⟩, by (try dsimp only); omega⟩
    rw [befL_getD, if_pos ht, row_bs ok hn ht, a2, rng_set]
    refine List.map_congr_left fun k _ => ?_
    by_cases e : t.toNat = k
    · subst e
      have h2 : t.toNat < (t + 1).toNat := by omega
      rw [if_pos rfl, if_pos h2]
      by_cases h0 : t.toNat = 0
      · rw [if_pos h0, if_pos h0]; rfl
      · rw [if_neg h0, if_neg h0]; rfl
    · rw [if_neg e]
      by_cases h1 : k < t.toNat
      · have h2 : k < (t + 1).toNat := by omega
        rw [if_pos h1, if_pos h2]
      · have h2 : ¬ k < (t + 1).toNat := by omega
        rw [if_neg h1, if_neg h2]
  · have ht : t.toNat = n := by omega
    refine ⟨fun out t left => 0 ≤ t ∧ t ≤ n ∧ out = (List.range t.toNat).map (fun (j : Nat) => (j : Int)) ∧ left = (List.range n).map fun j => if j < t.toNat then (-1 : Int) else if j = t.toNat then 0 else 1, fun _ t _ => n - t.toNat, ⟨by omega, by omega, rfl, ?_⟩, fun out t left ⟨b0, b1, b2, b3⟩ _ => ⟨fun hlt => ?_, fun hge2 => ?_⟩⟩
    · rw [a2, ht]
      refine List.map_congr_left fun k hk => ?_
      have := List.mem_range.1 hk
      rw [if_pos this]
      simp
    · have ht2 : t.toNat < n := by omega
      have htt : (t.toNat : Int) = t := by omega
      have hll : left.length = n := by rw [b3, List.length_map, List.length_range]
      have hA : (aftL (rg nm ex n none) n).getD t.toNat [] = if t.toNat + 1 < n then [(t.toNat : Int) + 1] else [] := by
        unfold aftL
        rw [hl, rng_getD ht2, row_aft ok hn n (Nat.le_refl _)]
      refine index_M (i := t.toNat) (by omega) (by omega) (by rw [b3, rng_getD ht2, if_neg (by omega), if_pos rfl]) (fun j hj => by rw [b3, rng_getD (by omega), if_pos hj]; decide) ?_
      rw [Int.toNat_natCast, hA]
      refine ⟨⟨by omega, by omega⟩, by rw [b2, List.length_map, List.length_range, List.length_singleton]; omega, ⟨by omega, by omega⟩, fun q left3 => 0 ≤ q ∧ q ≤ (if t.toNat + 1 < n then [(t.toNat : Int) + 1] else []).length ∧ left3 = (List.range n).map fun j => if j < t.toNat + 1 then (-1 : Int) else if j = t.toNat + 1 then (if q = 0 then 1 else 0) else 1, fun q _ => (if t.toNat + 1 < n then [(t.toNat : Int) + 1] else []).length - q.toNat, ⟨by omega, by omega, ?_⟩, fun q left3 ⟨c0, c1, c2⟩ _ => ⟨fun hlt3 => ?_, fun hge3 => ?_⟩⟩
      · rw [b3, rng_set]
        refine List.map_congr_left fun k _ => ?_
        by_cases e : t.toNat = k
        · subst e
          rw [if_pos rfl, if_pos (by omega)]
        · rw [if_neg e]
          by_cases h1 : k < t.toNat
          · have h2 : k < t.toNat + 1 := by omega
            rw [if_pos h1, if_pos h2]
          · have h2 : ¬ k < t.toNat + 1 := by omega
            have h3 : ¬ k = t.toNat := by omega
            rw [if_neg h1, if_neg h2, if_neg h3]
            simp
      · by_cases hh : t.toNat + 1 < n
        · rw [if_pos hh] at c1 hlt3 ⊢
          obtain rfl : q = 0 := by simp at hlt3; omega
          have hg : left3.getD (t.toNat + 1) 0 = 1 := by
            rw [c2, rng_getD hh, if_neg (by omega), if_pos rfl, if_pos rfl]
          have he : ([(t.toNat : Int) + 1] : List Int).getD (0 : Int).toNat 0 = (t.toNat : Int) + 1 := rfl
          have hx : ((t.toNat : Int) + 1).toNat = t.toNat + 1 := by omega
          rw [he, hx, hg]
          refine ⟨⟨by omega, hlt3⟩, ⟨by omega, by omega⟩, by simp only [In]; omega, ⟨by omega, by omega⟩, by simp only [In]; omega, ⟨by omega, by simp, ?_⟩, by simp⟩
          rw [c2, rng_set]
          refine List.map_congr_left fun k _ => ?_
          by_cases e : t.toNat + 1 = k
          · subst e
            rw [if_pos rfl, if_neg (by omega), if_pos rfl]; rfl
          · rw [if_neg e]
            by_cases h1 : k < t.toNat + 1
            · rw [if_pos h1, if_pos h1]
            · have h3 : ¬ k = t.toNat + 1 := fun e2 => e e2.symm
              rw [if_neg h1, if_neg h1, if_neg h3, if_neg h3]
        · rw [if_neg hh] at hlt3
          simp at hlt3
          omega
      · refine ⟨by simp only [In]; omega, ⟨by omega, by omega, ?_, ?_⟩, by (try dsimp only); omega⟩
        · rw [show (t + 1).toNat = t.toNat + 1 by omega, List.range_succ, List.map_append, b2]
          rfl
        · rw [c2]
          refine List.map_congr_left fun k hk => ?_
          have hkn := List.mem_range.1 hk
          have h1 : (k < (t + 1).toNat) = (k < t.toNat + 1) := by rw [show (t + 1).toNat = t.toNat + 1 by omega]
          have h2 : (k = (t + 1).toNat) = (k = t.toNat + 1) := by rw [show (t + 1).toNat = t.toNat + 1 by omega]
          simp only [h1, h2]
          by_cases e : k = t.toNat + 1
          · have hh : t.toNat + 1 < n := by omega
            rw [if_pos hh] at c1 hge3
            have hq : ¬ q = 0 := fun hq => by rw [hq] at hge3; simp at hge3
            rw [if_pos e, if_pos e, if_neg hq]
          · rw [if_neg e, if_neg e]
    · have ht2 : t.toNat = n := by omega
      rw [ht2] at b2
      rw [b2]; exact h
end
end Go.Proofs.YtlonpmajnglmoaaDoor


 /- Regions some of whose operations may come in several orders: the floats once, the others order by order, what stands behind once. -/
namespace Go.Proofs.YtlonpmajnglmoaaDoor
open Go Go.RowKit
section
variable {P : Program} {N : Nat} {ops : Array Oper} {fl : Nat → Bool} {D : World → Prop} {n g : Nat} {K : Act → World → Prop} {Q : Post} {L : Slots} {w : World} {f : Nat} {listed : Array Bool} {d : Nat} {op : Op} {ty : TypeId} {pos : String} {af : Array Edge} {gd : Option (Nat × Bool)}
structure HeadOk (ops : Array Oper) (n : Nat) : Prop where
  sel : Region.noSelect ops = true
  sink : Region.sinkB .any ops n = true
  chain : Region.chainB .any ops n = true
  lt : n < ops.size
def WA (P : Program) (N : Nat) (ops : Array Oper) (fl : Nat → Bool) (D : World → Prop) (n g : Nat) (K : Act → World → Prop) (f : Nat) (listed : Array Bool) (L : Slots) (w : World) : Prop :=
  HeadOk ops n → HeadInv .any ops n listed → ∀ a w1, Eqv w w1 → D w1 → Has N L a → anyT P .any ops fl D n (fun l' a' w' => Region.seqB .any ops g n l' = true ∧ K a' w') f listed a w1
def WI (P : Program) (N : Nat) (ops : Array Oper) (fl : Nat → Bool) (D : World → Prop) (n g : Nat) (K : Act → World → Prop) (f : Nat) (listed : Array Bool) (L : Slots) (w : World) (i : Nat) : Prop :=
  HeadOk ops n → HeadInv .any ops n (listed.setIfInBounds i true) → ∀ a w1, Eqv w w1 → D w1 → Has N L a → ∃ o, ops[i]? = some o ∧ fl i = false ∧ sRun P ops D o a w1 fun a' w' => anyT P .any ops fl D n (fun l' a' w' => Region.seqB .any ops g n l' = true ∧ K a' w') f (listed.setIfInBounds i true) a' w'
theorem WC.ordersK {i : Nat} {l : List Oper} (n : Nat) (fl : Nat → Bool) (D : World → Prop) (K : Act → World → Prop) (hm : P.follows .mixedOrders = true) (hB : (Region.noSelect l.toArray && (Region.sinkB .any l.toArray n && (Region.chainB .any l.toArray n && Nat.blt n l.length))) = true) (hE : ∀ w', Eqv w w' → D w')
    (h : WA P N l.toArray fl D n (l.length - n) K n (Array.replicate l.length false) L w)
    (ht : ∀ a w', K a w' → wpList P l.toArray Q (l.drop n) a w') : WC P N Q (.region i l.toArray true) L w := fun a wx e ha => by
  simp only [Bool.and_eq_true] at hB
  obtain ⟨hsel, hs, hc, hlt⟩ := hB
  have hn' : n < l.length := by simpa [Nat.blt_eq] using hlt
  refine wp_region_any hm ?_
  have inv0 : HeadInv .any l.toArray n (Array.replicate l.length false) :=
    ⟨by simp, fun j oj _ hl => (by rw [getD_replicate_false] at hl; cases hl), fun t _ ht => getD_in (by simpa using ht) (getD_replicate_false _ _)⟩
  have H := h ⟨hsel, hs, hc, by simpa using hn'⟩ inv0 a { wx with drawn := wx.drawn + 1 } (e.drawn _) (hE _ (e.drawn _)) ha
  have h2 := any_of_anyT (Q' := Q) (g := l.length - n) (fun listed a' w' _ hL => by
    obtain ⟨hq, hK⟩ := hL
    have := wpAny_of_seq (md := .any) (Q' := Q) (l.drop n) n listed a' w' (fun j => by simp [List.getElem?_drop]) (by rw [List.length_drop]; exact hq) (ht a' w' hK)
    rwa [List.length_drop] at this) _ _ _ _ (hE { wx with drawn := wx.drawn + 1 } (e.drawn _)) H
  rw [show n + (l.length - n) = l.length by omega] at h2
  simpa using h2
def EndsF (N : Nat) (F : Slots → World → Prop) (a : Act) (w : World) : Prop := ∃ L w0, F L w0 ∧ Eqv w0 w ∧ Has N L a
theorem WC.ordersF {i : Nat} {l : List Oper} (n : Nat) (fl : Nat → Bool) (D : World → Prop) (F : Slots → World → Prop) (hm : P.follows .mixedOrders = true) (hB : (Region.noSelect l.toArray && (Region.sinkB .any l.toArray n && (Region.chainB .any l.toArray n && Nat.blt n l.length))) = true) (hE : ∀ w', Eqv w w' → D w')
    (ht : ∀ L' w', F L' w' → WL P N l.toArray Q (l.drop n) L' w')
    (h : WA P N l.toArray fl D n (l.length - n) (EndsF N F) n (Array.replicate l.length false) L w) : WC P N Q (.region i l.toArray true) L w :=
  WC.ordersK n fl D _ hm hB hE h fun a w' ⟨L', w0, hI, he, hh⟩ => ht L' w0 hI a w' he hh
theorem WA.doneF {F : Slots → World → Prop} (L' : Slots) (hq : Region.seqB .any ops g n listed = true) (hI : F L' w) (hs : Sub L L') : WA P N ops fl D n g (EndsF N F) 0 listed L w := fun _ _ _ _ e _ ha => ⟨hq, L', w, hI, e, ha.sub hs⟩
theorem WA.y {v : Value} (k : Nat) (ho : ops[k]? = some ⟨some d, op, ty, pos, af, none⟩) (hf : (fl k && ((Region.ready .any ops listed).contains k && (Region.free .any ops listed k && Nat.blt k n))) = true) (hd : Nat.blt d N = true) (hy : ∀ w', D w' → Yld P N w' ⟨some d, op, ty, pos, af, none⟩ L v)
    (h : WA P N ops fl D n g K f (listed.setIfInBounds k true) ((d, v) :: L) w) : WA P N ops fl D n g K (f + 1) listed L w := fun ok inv a w1 e hw ha => by
  simp only [Bool.and_eq_true] at hf
  obtain ⟨hfl, hr, hfr, hkn⟩ := hf
  have hr' : k ∈ Region.ready .any ops listed := by simpa using hr
  have hkn' : k < n := by simpa [Nat.blt_eq] using hkn
  exact float_firstT ho hfl (Region.noSelect_spec ok.sel) ok.sink ok.chain ok.lt hkn' (fun _ _ _ hL => seqB_ready hL.1) f listed a w1 hw inv (Region.free_spec ho hfr) hr'
    (.inl ⟨by simp [Region.wanted], fun w' hw' => hy w' hw' a w' (Eqv.refl _) ha⟩) (h ok (inv.set hr' hkn') _ _ e hw (ha.put hd v))
def AllL {α : Type} (p : α → Prop) : List α → Prop
  | [] => True
  | [x] => p x
  | x :: y :: l => p x ∧ AllL p (y :: l)
theorem AllL.mem {α : Type} {p : α → Prop} : ∀ {l : List α}, AllL p l → ∀ x ∈ l, p x
  | [], _, x, h => by simp at h
  | [y], h, x, hx => by simp at hx; subst hx; exact h
  | y :: z :: l, h, x, hx => by
    rcases List.mem_cons.1 hx with rfl | hx
    · exact h.1
    · exact AllL.mem h.2 x hx
theorem WA.split (is : List Nat) (hr : Region.ready .any ops listed = is) (hc : (!is.isEmpty && is.all fun i => Nat.blt i n) = true) (h : AllL (WI P N ops fl D n g K f listed L w) is) : WA P N ops fl D n g K (f + 1) listed L w := fun ok inv a w1 e hw ha => by
  simp only [Bool.and_eq_true] at hc
  refine ⟨fun h0 => ?_, fun i hi => ?_⟩
  · rw [hr] at h0; subst h0; simp at hc
  · have hi' := hi
    rw [hr] at hi'
    have hin : i < n := by have := List.all_eq_true.1 hc.2 i hi'; simpa [Nat.blt_eq] using this
    obtain ⟨o, ho, hfl, hs⟩ := h.mem i hi' ok (inv.set hi hin) a w1 e hw ha
    exact ⟨hin, o, ho, .inr ⟨hfl, hs⟩⟩
theorem WI.put {i : Nat} {R : Value → World → Prop} (ho : ops[i]? = some ⟨some d, op, ty, pos, af, none⟩) (hf : fl i = false) (hd : Nat.blt d N = true) (hr : Eff P N w ⟨some d, op, ty, pos, af, none⟩ L R) (hD : ∀ v w', R v w' → D w')
    (hk : ∀ v w', R v w' → WA P N ops fl D n g K f (listed.setIfInBounds i true) ((d, v) :: L) w') : WI P N ops fl D n g K f listed L w i := fun ok inv a w1 e hw ha => by
  refine ⟨_, ho, hf, ?_⟩
  unfold sRun
  rw [if_pos (by simp [Region.wanted])]
  obtain ⟨v, w', h, hR⟩ := hr a w1 e ha
  rw [h]
  exact ⟨hD v w' hR, hk v w' hR ok inv _ w' (Eqv.refl _) (hD v w' hR) (ha.put hd v)⟩
theorem WI.eff {i : Nat} {R : World → Prop} (ho : ops[i]? = some ⟨none, op, ty, pos, af, none⟩) (hf : fl i = false) (hr : Ef0 P N w ⟨none, op, ty, pos, af, none⟩ L R) (hD : ∀ w', R w' → D w')
    (hk : ∀ w', R w' → WA P N ops fl D n g K f (listed.setIfInBounds i true) L w') : WI P N ops fl D n g K f listed L w i := fun ok inv a w1 e hw ha => by
  refine ⟨_, ho, hf, ?_⟩
  unfold sRun
  rw [if_pos (by simp [Region.wanted])]
  obtain ⟨w', h, hR⟩ := hr a w1 e ha
  rw [h]
  exact ⟨hD w' hR, hk w' hR ok inv _ w' (Eqv.refl _) (hD w' hR) ha⟩
theorem WI.call {i : Nat} {R : Value → World → Prop} {fn : FuncId} {as_ : List Operand} {ts : Array TypeId} {vs : List Value} (ho : ops[i]? = some ⟨some d, .call ⟨.value (.func fn), ⟨as_⟩, ts⟩, ty, pos, af, gd⟩) (hf : fl i = false) (hg : Wants N ops L gd) (hd : Nat.blt d N = true) (hv : opvs L as_ = some vs) (hc : Fn P fn ⟨vs⟩ w R) (hD : ∀ v w', R v w' → ∀ w2, Eqv w' w2 → D w2)
    (hk : ∀ v w', R v w' → WA P N ops fl D n g K f (listed.setIfInBounds i true) ((d, v) :: L) w') : WI P N ops fl D n g K f listed L w i := fun ok inv a w1 e hw ha => by
  refine ⟨_, ho, hf, ?_⟩
  unfold sRun
  rw [if_pos (Wants.wanted (o := ⟨some d, .call ⟨.value (.func fn), ⟨as_⟩, ts⟩, ty, pos, af, gd⟩) hg ha), run_enter ha hv hc.1]
  refine (hc.2 w1 e).mono ?_
  rintro en w' ⟨v, w0, rfl, h0, hR⟩
  exact ⟨v, rfl, hD v w0 hR w' h0, hk v w0 hR ok inv _ w' h0 (hD v w0 hR w' h0) (ha.put hd v)⟩
end
end Go.Proofs.YtlonpmajnglmoaaDoor

 /- Printed by a program (wip/vg): what the functions mean, plainly, and their walks. -/
namespace Go.Proofs.YtlonpmajnglmoaaDoor
open Go Go.RowKit
attribute [local irreducible] WL WC WX WQ WK WJ Yld Eff Ef0 Fn
def M_smithylaw22_first (K : Bool → Prop) : Prop :=
 M_smithylaw22_act ([97] : List UInt8) [] (fun (t4_Tool : Int) (t4_Args : List (List UInt8)) (t4_Inputs : List (List UInt8)) (t4_Output : List UInt8) =>
 M_smithylaw22_act ([98] : List UInt8) ([([97] : List UInt8)] : List (List UInt8)) (fun (t6_Tool : Int) (t6_Args : List (List UInt8)) (t6_Inputs : List (List UInt8)) (t6_Output : List UInt8) =>
 M_graph_New ([(t4_Tool, t4_Args, t4_Inputs, t4_Output), (t6_Tool, t6_Args, t6_Inputs, t6_Output)] : List (Int × List (List UInt8) × List (List UInt8) × List UInt8)) (fun (t81 : Er) =>
 K false) (fun (t80_l : List (Int × List (List UInt8) × List (List UInt8) × List UInt8)) (t80_makers : List (List UInt8 × Int)) (t80_before : List (List Int)) (t80_after : List (List Int)) (t812 : Er) =>
 ∃ J3 : Bool → Prop, ((((decide (t812 = Er.ok)) = true → M_pgraph_Graph_Order t80_l t80_makers t80_before t80_after (fun (t19 : List Int) =>
 M_smithyref_SameInts t19 ([(0 : Int), (1 : Int)] : List Int) (fun (t21 : Bool) =>
 J3 t21))) ∧
 ((decide (t812 = Er.ok)) = false → J3 false))) ∧
 (∀ q5 : Bool, J3 q5 → ∃ J4 : Bool → Prop, (((q5 = true → M_pgraph_Graph_Needs t80_l t80_makers t80_before t80_after ([([98] : List UInt8)] : List (List UInt8)) (fun (t26 : List Int) =>
 M_smithyref_SameInts t26 ([(0 : Int), (1 : Int)] : List Int) (fun (t28 : Bool) =>
 J4 t28))) ∧
 (q5 = false → J4 false))) ∧
 (∀ q6 : Bool, J4 q6 → K q6)))))

def M_smithylaw22_GraphRings (n : Int) (back : Int) (ring : Bool) (K : Bool → Prop) : Prop :=
 M_smithylaw22_first (fun (ok : Bool) =>
 (((!ok) = true → K false) ∧
 ((!ok) = false → M_smithyworld_Number n (20 : Int) (fun (t22 : Int) =>
 (In .i64 (t22 + (1 : Int))) ∧
 M_smithyworld_Number back (t22 + (1 : Int)) (fun (back2 : Int) =>
 Lp2 (fun (l : List (Int × List (List UInt8) × List (List UInt8) × List UInt8)) (i : Int) kont1 => ((i < (t22 + (1 : Int)) → (In .i64 (i + (1 : Int))) ∧
 (0 ≤ i ∧ i ≤ i + (1 : Int) ∧ i + (1 : Int) ≤ ([97, 98, 99, 100, 101, 102, 103, 104, 105, 106, 107, 108, 109, 110, 111, 112, 113, 114, 115, 116] : List UInt8).length) ∧
 (([111] : List UInt8).length + ((([97, 98, 99, 100, 101, 102, 103, 104, 105, 106, 107, 108, 109, 110, 111, 112, 113, 114, 115, 116] : List UInt8).drop i.toNat).take ((i + (1 : Int)).toNat - i.toNat)).length ≤ 9223372036854775807) ∧
 M_smithylaw22_act (([111] : List UInt8) ++ ((([97, 98, 99, 100, 101, 102, 103, 104, 105, 106, 107, 108, 109, 110, 111, 112, 113, 114, 115, 116] : List UInt8).drop i.toNat).take ((i + (1 : Int)).toNat - i.toNat))) [] (fun (t37_Tool : Int) (t37_Args : List (List UInt8)) (t37_Inputs : List (List UInt8)) (t37_Output : List UInt8) =>
 ∃ J1 : (List (List UInt8)) → Prop, ((((0 : Int) < i → (In .i64 (i - (1 : Int))) ∧
 (0 ≤ i - (1 : Int) ∧ i - (1 : Int) < (l.length : Nat)) ∧
 J1 ([(l.getD ((i - (1 : Int)).toNat) (0, [], [], [])).2.2.2, ([115, 114, 99] : List UInt8)] : List (List UInt8))) ∧
 (¬ ((0 : Int) < i) → J1 t37_Inputs))) ∧
 (∀ a2 : List (List UInt8), J1 a2 → ((l.length + (([(t37_Tool, t37_Args, a2, t37_Output)] : List (Int × List (List UInt8) × List (List UInt8) × List UInt8))).length) * 72 ≤ 140737488355328) ∧
 (In .i64 (i + (1 : Int))) ∧
 kont1 (l ++ ([(t37_Tool, t37_Args, a2, t37_Output)] : List (Int × List (List UInt8) × List (List UInt8) × List UInt8))) (i + (1 : Int))))) ∧
 (¬ (i < (t22 + (1 : Int))) → ((ring = true → ∃ J2 : (List (List UInt8)) → Prop, ((0 ≤ back2 ∧ back2 < (l.length : Nat)) ∧
 (In .i64 ((t22 + (1 : Int)) - (1 : Int))) ∧
 (0 ≤ (t22 + (1 : Int)) - (1 : Int) ∧ (t22 + (1 : Int)) - (1 : Int) < (l.length : Nat)) ∧
 M_smithyref_Texts ((l.getD back2.toNat (0, [], [], [])).2.2.1) (fun (t60 : List (List UInt8)) =>
 ((t60.length + (([(l.getD (((t22 + (1 : Int)) - (1 : Int)).toNat) (0, [], [], [])).2.2.2] : List (List UInt8))).length) * 16 ≤ 140737488355328) ∧
 J2 t60)) ∧
 (∀ t60 : List (List UInt8), J2 t60 → (0 ≤ back2 ∧ back2 < (l.length : Nat)) ∧
 M_graph_New (l.set back2.toNat (((l.getD back2.toNat (0, [], [], [])).1, (l.getD back2.toNat (0, [], [], [])).2.1, t60 ++ ([(l.getD (((t22 + (1 : Int)) - (1 : Int)).toNat) (0, [], [], [])).2.2.2] : List (List UInt8)), (l.getD back2.toNat (0, [], [], [])).2.2.2) : Int × List (List UInt8) × List (List UInt8) × List UInt8)) (fun (t731 : Er) =>
 ∃ J3 : Bool → Prop, (((ok = true → M_smithyref_Placed (105 : Int) back2 (fun (t80_Code : Int) (t80_Placed : Bool) (t80_Pos : Int) (t80_Filed : Bool) (t80_File : List UInt8) =>
 M_smithysee_Same t731 t80_Code t80_Placed t80_Pos t80_Filed t80_File (fun (t81 : Bool) =>
 J3 t81))) ∧
 (ok = false → J3 false))) ∧
 (∀ q1 : Bool, J3 q1 → K q1)) (fun (t730_l : List (Int × List (List UInt8) × List (List UInt8) × List UInt8)) (t730_makers : List (List UInt8 × Int)) (t730_before : List (List Int)) (t730_after : List (List Int)) (t7312 : Er) =>
 ∃ J4 : Bool → Prop, (((ok = true → M_smithyref_Placed (105 : Int) back2 (fun (t80_Code2 : Int) (t80_Placed2 : Bool) (t80_Pos2 : Int) (t80_Filed2 : Bool) (t80_File2 : List UInt8) =>
 M_smithysee_Same t7312 t80_Code2 t80_Placed2 t80_Pos2 t80_Filed2 t80_File2 (fun (t812 : Bool) =>
 J4 t812))) ∧
 (ok = false → J4 false))) ∧
 (∀ q2 : Bool, J4 q2 → K q2)))) ∧
 (ring = false → M_graph_New l (fun (t851 : Er) =>
 K false) (fun (t850_l : List (Int × List (List UInt8) × List (List UInt8) × List UInt8)) (t850_makers : List (List UInt8 × Int)) (t850_before : List (List Int)) (t850_after : List (List Int)) (t8512 : Er) =>
 ∃ J7 : Bool → Prop, ((((!decide (t8512 = Er.ok)) = true → J7 true) ∧
 ((!decide (t8512 = Er.ok)) = false → (In .i64 ((t22 + (1 : Int)) - (1 : Int))) ∧
 (0 ≤ (t22 + (1 : Int)) - (1 : Int) ∧ (t22 + (1 : Int)) - (1 : Int) < (l.length : Nat)) ∧
 M_pgraph_Graph_Needs t850_l t850_makers t850_before t850_after ([(l.getD (((t22 + (1 : Int)) - (1 : Int)).toNat) (0, [], [], [])).2.2.2] : List (List UInt8)) (fun (t103 : List Int) =>
 J7 (!decide ((t103.length : Int) = (t22 + (1 : Int)))))))) ∧
 (∀ q7 : Bool, J7 q7 → ∃ J8 : Bool → Prop, (((q7 = true → J8 true) ∧
 (q7 = false → (0 ≤ back2 ∧ back2 < (l.length : Nat)) ∧
 M_pgraph_Graph_Needs t850_l t850_makers t850_before t850_after ([(l.getD back2.toNat (0, [], [], [])).2.2.2] : List (List UInt8)) (fun (t116 : List Int) =>
 (In .i64 (back2 + (1 : Int))) ∧
 J8 (!decide ((t116.length : Int) = (back2 + (1 : Int)))))))) ∧
 (∀ q8 : Bool, J8 q8 → ((q8 = true → K false) ∧
 (q8 = false → M_pgraph_Graph_Order t850_l t850_makers t850_before t850_after (fun (o : List Int) =>
 Lp1 (fun (i2 : Int) kont2 => ((i2 < (t22 + (1 : Int)) → (0 ≤ i2 ∧ i2 < (o.length : Nat)) ∧
 ((¬ ((o.getD i2.toNat 0) = i2) → K false) ∧
 ((o.getD i2.toNat 0) = i2 → (In .i64 (i2 + (1 : Int))) ∧
 kont2 (i2 + (1 : Int))))) ∧
 (¬ (i2 < (t22 + (1 : Int))) → ∃ J9 : (List (List UInt8)) → Prop, ((((1 : Int) < (t22 + (1 : Int)) → J9 ([([115, 114, 99] : List UInt8)] : List (List UInt8))) ∧
 (¬ ((1 : Int) < (t22 + (1 : Int))) → J9 []))) ∧
 (∀ src : List (List UInt8), J9 src → ∃ J10 : Bool → Prop, (((ok = true → M_pgraph_Graph_Sources t850_l t850_makers t850_before t850_after (fun (t141 : List (List UInt8)) =>
 M_smithyref_SameTexts t141 src (fun (t143 : Bool) =>
 J10 t143))) ∧
 (ok = false → J10 false))) ∧
 (∀ q9 : Bool, J10 q9 → ∃ J11 : Bool → Prop, (((q9 = true → (In .i64 ((t22 + (1 : Int)) - (1 : Int))) ∧
 M_pgraph_Graph_After t850_l t850_makers t850_before t850_after ((t22 + (1 : Int)) - (1 : Int)) (fun (t149 : List Int) =>
 M_smithyref_SameInts t149 [] (fun (t150 : Bool) =>
 J11 t150))) ∧
 (q9 = false → J11 false))) ∧
 (∀ q10 : Bool, J11 q10 → K q10)))))) (0 : Int)))))))))))) [] (0 : Int))))))

set_option maxHeartbeats 8000000 in
theorem W_smithylaw22_first {S : List Nat} {w : World} {K : Bool → Prop} (hG : GOK S w) (hS4 : 4 ∈ S) (hS6 : 6 ∈ S) (hS9 : 9 ∈ S) (hS10 : 10 ∈ S) (hS11 : 11 ∈ S) (hS100 : 100 ∈ S) (H : M_smithylaw22_first  K) : Fn Tryd.prog 50 ⟨[]⟩ w (fun v w' => w.grownBy w' none ∧ ∃ (r : Bool), v = .bool r ∧ K r) := by
  unfold M_smithylaw22_first at H
  refine Fn.enter (by kernel_rfl) Tryd.func50 rfl Tryd.ntmps50 rfl ?_
  refine WC.seq ?_
  refine WC.region ?_
  refine WL.y rfl (Yld.pure tab_ok rfl) ?_
  refine WL.nil (WX.then_normal ?_)
  refine WC.seq ?_
  refine WC.region ?_
  refine WL.call rfl rfl (W_smithylaw22_act (Own.nil vs w w.heap.size 9).rd rfl H) ?_
  rintro _ w1 ⟨hg1, t4_Tool, t4_Args, A_t4_Args, c_t4_Args, t4_Inputs, A_t4_Inputs, c_t4_Inputs, t4_Output, rfl, ht4_Args, ho1, ht4_Inputs, ho2, H⟩
  have gr1 := hg1
  refine WL.lit tab_ok rfl rfl rfl (all1c rfl all1n) rfl (by omega) (fun g1 w2 hB1 hg2 hl1 => ?_)
  have hO1 : Own vs w2 w.heap.size 9 (some ⟨g1, 0, none⟩) 1 ([([97] : List UInt8)] : List (List UInt8)) := Own.ofBl hB1 (Nat.le_trans (size_le gr1) hl1) (by simp [maxLen]) rfl
  have gr2 := gr_trans gr1 hg2
  have k1 := ht4_Args.grown hg2
  have k2 := ht4_Inputs.grown hg2
  refine WL.call rfl rfl (W_smithylaw22_act hO1.rd rfl H) ?_
  rintro _ w3 ⟨hg3, t6_Tool, t6_Args, A_t6_Args, c_t6_Args, t6_Inputs, A_t6_Inputs, c_t6_Inputs, t6_Output, rfl, ht6_Args, ho3, ht6_Inputs, ho4, H⟩
  have gr3 := gr_trans gr2 hg3
  have k3 := k1.grown hg3
  have k4 := k2.grown hg3
  refine WL.litK (f := encH98) ([(t4_Tool, ⟨A_t4_Args, t4_Args.length, c_t4_Args⟩, ⟨A_t4_Inputs, t4_Inputs.length, c_t4_Inputs⟩, t4_Output), (t6_Tool, ⟨A_t6_Args, t6_Args.length, c_t6_Args⟩, ⟨A_t6_Inputs, t6_Inputs.length, c_t6_Inputs⟩, t6_Output)] : List (Int × Hdr × Hdr × List UInt8)) encH98_ok rfl ow96 rfl rfl rfl (fun g3 w5 hB3 hg5 hl3 => ?_)
  have hO3 : OwnK 4 encH98 w5 w.heap.size 98 (some ⟨g3, 0, none⟩) 2 ([(t4_Tool, ⟨A_t4_Args, t4_Args.length, c_t4_Args⟩, ⟨A_t4_Inputs, t4_Inputs.length, c_t4_Inputs⟩, t4_Output), (t6_Tool, ⟨A_t6_Args, t6_Args.length, c_t6_Args⟩, ⟨A_t6_Inputs, t6_Inputs.length, c_t6_Inputs⟩, t6_Output)] : List (Int × Hdr × Hdr × List UInt8)) := OwnK.ofBl encH98_ok hB3 (Nat.le_trans (size_le gr3) hl3) (by simp [maxLen]) rfl
  have gr4 := gr_trans gr3 hg5
  have k5 := k3.grown hg5
  have k6 := k4.grown hg5
  have k7 := ht6_Args.grown hg5
  have k8 := ht6_Inputs.grown hg5
  have hr1 : RelD de98 w5 ([(t4_Tool, ⟨A_t4_Args, t4_Args.length, c_t4_Args⟩, ⟨A_t4_Inputs, t4_Inputs.length, c_t4_Inputs⟩, t4_Output), (t6_Tool, ⟨A_t6_Args, t6_Args.length, c_t6_Args⟩, ⟨A_t6_Inputs, t6_Inputs.length, c_t6_Inputs⟩, t6_Output)] : List (Int × Hdr × Hdr × List UInt8)) ([(t4_Tool, t4_Args, t4_Inputs, t4_Output), (t6_Tool, t6_Args, t6_Inputs, t6_Output)] : List (Int × List (List UInt8) × List (List UInt8) × List UInt8)) := (RelD.cons ⟨rfl, ⟨rfl, k5⟩, ⟨rfl, k6⟩, rfl⟩ (RelD.cons ⟨rfl, ⟨rfl, k7⟩, ⟨rfl, k8⟩, rfl⟩ RelD.nil))
  have dj1 : DnD de98 ([(t4_Tool, ⟨A_t4_Args, t4_Args.length, c_t4_Args⟩, ⟨A_t4_Inputs, t4_Inputs.length, c_t4_Inputs⟩, t4_Output), (t6_Tool, ⟨A_t6_Args, t6_Args.length, c_t6_Args⟩, ⟨A_t6_Inputs, t6_Inputs.length, c_t6_Inputs⟩, t6_Output)] : List (Int × Hdr × Hdr × List UInt8)) ([(t4_Tool, t4_Args, t4_Inputs, t4_Output), (t6_Tool, t6_Args, t6_Inputs, t6_Output)] : List (Int × List (List UInt8) × List (List UInt8) × List UInt8)) (blk (some ⟨g3, 0, none⟩)) := (DnD.cons (d := de98) ⟨trivial, (Dn.new (fun hx => k3.lt' hx) (Ge.box hl3)), (Dn.new (fun hx => k4.lt' hx) (Ge.box hl3)), trivial⟩ (DnD.cons (d := de98) ⟨trivial, (Dn.new (fun hx => ht6_Args.lt' hx) (Ge.box hl3)), (Dn.new (fun hx => ht6_Inputs.lt' hx) (Ge.box hl3)), trivial⟩ DnD.nil))
  refine WL.call rfl rfl (W_graph_New (hG.grown gr4) hS4 hS6 hS9 hS10 hS11 hS100 hO3.rd (rfl.trans hr1.1) hr1 H) ?_
  rintro v_ w6 ⟨hg_, hc_ | hc_⟩
  · obtain ⟨v_t81, t81, rfl, ht81, H⟩ := hc_
    have hg6 := hg_
    have gr5 := gr_trans gr4 hg6
    refine WL.y rfl (Yld.pure tab_ok rfl) ?_
    refine WL.y rfl (Yld.pure tab_ok rfl) ?_
    refine WL.y rfl (Yld.pure tab_ok rfl) ?_
    refine WL.y rfl (Yld.pure tab_ok rfl) ?_
    refine WL.y rfl (Yld.pure tab_ok rfl) ?_
    refine WL.nil (WX.then_normal ?_)
    refine WC.seq ?_
    refine WC.region ?_
    refine WL.y rfl (Yld.pure tab_ok rfl) ?_
    refine WL.y rfl (Yld.pnenil Tryd.underlying100 rfl rfl) ?_
    refine WL.y rfl (Yld.pure tab_ok rfl) ?_
    refine WL.midF 3 (fun L' w' => ∃ q1 : Bool, L' = [(16, .bool q1), (1, .pointer none)] ∧ false = q1 ∧ w6 = w') ?_ (fun hQ => ?_)
    · rintro _ _ ⟨q1, rfl, rfl, rfl⟩
      refine WL.y rfl (Yld.pure tab_ok rfl) ?_
      refine WL.midF 5 (fun L' w' => L' = [(22, .bool false), (1, .pointer none)] ∧ w.grownBy w' none) ?_ (fun hQ => ?_)
      · rintro _ w8 ⟨rfl, gr6⟩
        refine WL.y rfl (Yld.pure tab_ok rfl) ?_
        refine WL.midF 6 (fun L' w' => L' = [(29, .bool false)] ∧ w.grownBy w' none) ?_ (fun hQ => ?_)
        · rintro _ w9 ⟨rfl, gr7⟩
          refine WL.y rfl (Yld.pure tab_ok rfl) ?_
          refine WL.nil (WX.then_normal ?_)
          refine WC.ret ?_
          exact WX.ret1 rfl rfl ⟨gr7, false, rfl, H⟩
        · clear H
          refine WL.gno rfl rfl (rfl) rfl ?_
          refine WL.gno rfl rfl (rfl) rfl ?_
          refine WL.gno rfl rfl (rfl) rfl ?_
          refine WL.gno rfl rfl (rfl) rfl ?_
          refine WL.gno rfl rfl (rfl) rfl ?_
          refine WL.y rfl (Yld.pickF (rfl) rfl) ?_
          exact WL.weaken (by repeat (first | exact Sub.nil | refine Sub.cons rfl ?_)) (hQ _ _ ⟨rfl, gr6⟩)
      · clear H
        refine WL.gno rfl rfl (rfl) rfl ?_
        refine WL.gno rfl rfl (rfl) rfl ?_
        refine WL.gno rfl rfl (rfl) rfl ?_
        refine WL.gno rfl rfl (rfl) rfl ?_
        refine WL.y rfl (Yld.pickF (rfl) rfl) ?_
        exact WL.weaken (by repeat (first | exact Sub.nil | refine Sub.cons rfl ?_)) (hQ _ _ ⟨rfl, gr5⟩)
    · clear H
      refine WL.gno rfl rfl (rfl) rfl ?_
      refine WL.gno rfl rfl (rfl) rfl ?_
      refine WL.y rfl (Yld.pickF (rfl) rfl) ?_
      exact WL.weaken (by repeat (first | exact Sub.nil | refine Sub.cons rfl ?_)) (hQ _ _ ⟨false, rfl, rfl, rfl⟩)
  · obtain ⟨g_t80, t80_l, A_t80_l, c_t80_l, hs_t80_l, g_t80_makers, t80_makers, t80_before, A_t80_before, c_t80_before, hs_t80_before, t80_after, A_t80_after, c_t80_after, hs_t80_after, v_t812, t812, rfl, ht80_l, hr_t80_l, ht80_before, hr_t80_before, ht80_after, hr_t80_after, ht812, ht80_makers, hge1, ht80, hge2, dj2, dj3, dj4, dj5, dj6, dj7, dj8, dj9, dj10, dj11, dj12, dj13, dj14, dj15, dj16, dj17, dj18, dj19, dj20, dj21, dj22, dj23, dj24, dj25, dj26, H⟩ := hc_
    have hg7 := hg_
    have hb1 := ht80_l.ge'
    have k9 := ht80_l.base (fun g hg => Nat.le_trans (size_le gr4) (hb1 g hg))
    have hb2 := ht80_before.ge'
    have k10 := ht80_before.base (fun g hg => Nat.le_trans (size_le gr4) (hb2 g hg))
    have hb3 := ht80_after.ge'
    have k11 := ht80_after.base (fun g hg => Nat.le_trans (size_le gr4) (hb3 g hg))
    have gr8 := gr_trans gr4 hg7
    refine WL.y rfl (Yld.pure tab_ok rfl) ?_
    refine WL.y rfl (Yld.pure tab_ok rfl) ?_
    refine WL.y rfl (Yld.pure tab_ok rfl) ?_
    refine WL.y rfl (Yld.pure tab_ok rfl) ?_
    refine WL.y rfl (Yld.pure tab_ok rfl) ?_
    refine WL.nil (WX.then_normal ?_)
    refine WC.seq ?_
    refine WC.region ?_
    refine WL.y rfl (Yld.pure tab_ok rfl) ?_
    refine WL.y rfl (Yld.pnenil Tryd.underlying100 rfl rfl) ?_
    refine WL.y rfl (Yld.pure tab_ok rfl) ?_
    refine WL.midF 3 (fun L' w' => ∃ q4 : Bool, L' = [(16, .bool q4), (1, .pointer (some ⟨g_t80, 0, none⟩))] ∧ (decide (t812 = Er.ok)) = q4 ∧ w6 = w') ?_ (fun hQ => ?_)
    · rintro _ _ ⟨q4, rfl, rfl, rfl⟩
      refine WL.y rfl (Yld.pure tab_ok rfl) ?_
      obtain ⟨J3, H, hJ3⟩ := H
      refine WL.midF 5 (fun L' w' => ∃ q5 : Bool, L' = [(22, .bool q5), (1, .pointer (some ⟨g_t80, 0, none⟩))] ∧ J3 q5 ∧ w.grownBy w' none ∧ OwnK 4 encH98 w' w.heap.size 98 A_t80_l c_t80_l hs_t80_l ∧ RelD de98 w' hs_t80_l t80_l ∧ Own vh w' w.heap.size 65 A_t80_before c_t80_before hs_t80_before ∧ RelD de65 w' hs_t80_before t80_before ∧ Own vh w' w.heap.size 65 A_t80_after c_t80_after hs_t80_after ∧ RelD de65 w' hs_t80_after t80_after ∧ MapB vs okS vi w' g_t80_makers t80_makers ∧ Bl w' g_t80 159 [.slice A_t80_l t80_l.length c_t80_l, .map (some g_t80_makers), .slice A_t80_before t80_before.length c_t80_before, .slice A_t80_after t80_after.length c_t80_after]) ?_ (fun hQ => ?_)
      · clear H
        rintro _ w11 ⟨q5, rfl, H, gr9, k12, k13, k14, k15, k16, k17, k18, k19⟩
        replace H := hJ3 q5 H
        refine WL.y rfl (Yld.pure tab_ok rfl) ?_
        obtain ⟨J4, H, hJ4⟩ := H
        refine WL.midF 6 (fun L' w' => ∃ q6 : Bool, L' = [(29, .bool q6)] ∧ J4 q6 ∧ w.grownBy w' none) ?_ (fun hQ => ?_)
        · clear H
          rintro _ w12 ⟨q6, rfl, H, gr10⟩
          replace H := hJ4 q6 H
          refine WL.y rfl (Yld.pure tab_ok rfl) ?_
          refine WL.nil (WX.then_normal ?_)
          refine WC.ret ?_
          exact WX.ret1 rfl rfl ⟨gr10, q6, rfl, H⟩
        · clear hJ4
          rcases Bool.eq_false_or_eq_true (q5) with b1 | b1
          · replace H := H.1 b1
            refine WL.gyes rfl rfl (okb b1) rfl (Yld.pure tab_ok rfl) ?_
            refine WL.putw (wants_some rfl rfl (okb b1)) rfl (Eff.lit tab_ok rfl rfl (all1c rfl all1n) rfl (by omega)) ?_
            rintro _ w13 ⟨rfl, hB4, hg8⟩
            obtain ⟨g_t25, hl4⟩ : ∃ g, g = w11.heap.size := ⟨_, rfl⟩
            rw [← hl4] at hB4
            rw [← hl4]
            have hO4 : Own vs w13 w.heap.size 9 (some ⟨g_t25, 0, none⟩) 1 ([([98] : List UInt8)] : List (List UInt8)) := Own.ofBl hB4 (Nat.le_trans (size_le gr9) (Nat.le_of_eq hl4.symm)) (by simp [maxLen]) rfl
            have gr11 := gr_trans gr9 hg8
            have k20 := k12.grown hg8
            have k21 := k13.grown hg8
            have k22 := k14.grown hg8
            have k23 := k15.grown hg8
            have k24 := k16.grown hg8
            have k25 := k17.grown hg8
            have k26 := k18.g0 hg8
            have k27 := k19.g0 hg8
            refine WL.callw (wants_some rfl rfl (okb b1)) rfl rfl (W_pgraph_Graph_Needs k20.rd rfl k21 k26 k22.rd rfl k23 k24.rd rfl k25 k27 hO4.rd rfl H) ?_
            rintro _ w14 ⟨hg9, t26, A_t26, c_t26, rfl, ht26, H⟩
            have hb4 := ht26.ge'
            have k28 := ht26.base (fun g hg => Nat.le_trans (size_le gr11) (hb4 g hg))
            have gr12 := gr_trans gr11 hg9
            have k29 := k20.grown hg9
            have k30 := k21.grown hg9
            have k31 := k22.grown hg9
            have k32 := k23.grown hg9
            have k33 := k24.grown hg9
            have k34 := k25.grown hg9
            have k35 := k26.g0 hg9
            have k36 := k27.g0 hg9
            have k37 := hO4.grown hg9
            refine WL.putw (wants_some rfl rfl (okb b1)) rfl (Eff.lit tab_ok rfl rfl (all1c rfl (all1c rfl all1n)) rfl (by omega)) ?_
            rintro _ w15 ⟨rfl, hB5, hg10⟩
            obtain ⟨g_t27, hl5⟩ : ∃ g, g = w14.heap.size := ⟨_, rfl⟩
            rw [← hl5] at hB5
            rw [← hl5]
            have hO5 : Own vi w15 w.heap.size 3 (some ⟨g_t27, 0, none⟩) 2 ([(0 : Int), (1 : Int)] : List Int) := Own.ofBl hB5 (Nat.le_trans (size_le gr12) (Nat.le_of_eq hl5.symm)) (by simp [maxLen]) rfl
            have gr13 := gr_trans gr12 hg10
            have k38 := k28.grown hg10
            refine WL.callw (wants_some rfl rfl (okb b1)) rfl rfl (W_smithyref_SameInts k38.rd rfl hO5.rd rfl H) ?_
            rintro _ _ ⟨rfl, t28, rfl, H⟩
            refine WL.y rfl (Yld.pickT (okb b1) rfl) ?_
            exact WL.weaken (by repeat (first | exact Sub.nil | refine Sub.cons rfl ?_)) (hQ _ _ ⟨t28, rfl, H, gr13⟩)
          · replace H := H.2 b1
            refine WL.gno rfl rfl (okb b1) rfl ?_
            refine WL.gno rfl rfl (okb b1) rfl ?_
            refine WL.gno rfl rfl (okb b1) rfl ?_
            refine WL.gno rfl rfl (okb b1) rfl ?_
            refine WL.gno rfl rfl (okb b1) rfl ?_
            refine WL.y rfl (Yld.pickF (okb b1) rfl) ?_
            exact WL.weaken (by repeat (first | exact Sub.nil | refine Sub.cons rfl ?_)) (hQ _ _ ⟨false, rfl, H, gr9⟩)
      · clear hJ3
        rcases Bool.eq_false_or_eq_true (decide (t812 = Er.ok)) with b2 | b2
        · replace H := H.1 b2
          refine WL.gyes rfl rfl (okb b2) rfl (Yld.pure tab_ok rfl) ?_
          refine WL.callw (wants_some rfl rfl (okb b2)) rfl rfl (W_pgraph_Graph_Order k9.rd rfl hr_t80_l ht80_makers k10.rd rfl hr_t80_before k11.rd rfl hr_t80_after ht80 H) ?_
          rintro _ w16 ⟨hg11, t19, A_t19, c_t19, rfl, ht19, H⟩
          have hb5 := ht19.ge'
          have k39 := ht19.base (fun g hg => Nat.le_trans (size_le gr8) (hb5 g hg))
          have gr14 := gr_trans gr8 hg11
          have k40 := k9.grown hg11
          have k41 := hr_t80_l.grown hg11
          have k42 := k10.grown hg11
          have k43 := hr_t80_before.grown hg11
          have k44 := k11.grown hg11
          have k45 := hr_t80_after.grown hg11
          have k46 := ht80_makers.g0 hg11
          have k47 := ht80.g0 hg11
          refine WL.putw (wants_some rfl rfl (okb b2)) rfl (Eff.lit tab_ok rfl rfl (all1c rfl (all1c rfl all1n)) rfl (by omega)) ?_
          rintro _ w17 ⟨rfl, hB6, hg12⟩
          obtain ⟨g_t20, hl6⟩ : ∃ g, g = w16.heap.size := ⟨_, rfl⟩
          rw [← hl6] at hB6
          rw [← hl6]
          have hO6 : Own vi w17 w.heap.size 3 (some ⟨g_t20, 0, none⟩) 2 ([(0 : Int), (1 : Int)] : List Int) := Own.ofBl hB6 (Nat.le_trans (size_le gr14) (Nat.le_of_eq hl6.symm)) (by simp [maxLen]) rfl
          have gr15 := gr_trans gr14 hg12
          have k48 := k40.grown hg12
          have k49 := k41.grown hg12
          have k50 := k42.grown hg12
          have k51 := k43.grown hg12
          have k52 := k44.grown hg12
          have k53 := k45.grown hg12
          have k54 := k46.g0 hg12
          have k55 := k47.g0 hg12
          have k56 := k39.grown hg12
          refine WL.callw (wants_some rfl rfl (okb b2)) rfl rfl (W_smithyref_SameInts k56.rd rfl hO6.rd rfl H) ?_
          rintro _ _ ⟨rfl, t21, rfl, H⟩
          refine WL.y rfl (Yld.pickT (okb b2) rfl) ?_
          exact WL.weaken (by repeat (first | exact Sub.nil | refine Sub.cons rfl ?_)) (hQ _ _ ⟨t21, rfl, H, gr15, k48, k49, k50, k51, k52, k53, k54, k55⟩)
        · replace H := H.2 b2
          refine WL.gno rfl rfl (okb b2) rfl ?_
          refine WL.gno rfl rfl (okb b2) rfl ?_
          refine WL.gno rfl rfl (okb b2) rfl ?_
          refine WL.gno rfl rfl (okb b2) rfl ?_
          refine WL.y rfl (Yld.pickF (okb b2) rfl) ?_
          exact WL.weaken (by repeat (first | exact Sub.nil | refine Sub.cons rfl ?_)) (hQ _ _ ⟨false, rfl, H, gr8, k9, hr_t80_l, k10, hr_t80_before, k11, hr_t80_after, ht80_makers, ht80⟩)
    · clear H
      refine WL.gyes rfl rfl (rfl) rfl (Yld.pure tab_ok rfl) ?_
      refine WL.gyes rfl rfl (rfl) rfl (Yld.erreql Tryd.underlying29 ht812 rfl) ?_
      refine WL.y rfl (Yld.pickT (rfl) rfl) ?_
      exact WL.weaken (by repeat (first | exact Sub.nil | refine Sub.cons rfl ?_)) (hQ _ _ ⟨decide (t812 = Er.ok), rfl, rfl, rfl⟩)

set_option maxHeartbeats 8000000 in
theorem W_smithylaw22_GraphRings {S : List Nat} {w : World} {n : Int} {back : Int} {ring : Bool} {K : Bool → Prop} (hG : GOK S w) (hS0 : 0 ∈ S) (hS1 : 1 ∈ S) (hS2 : 2 ∈ S) (hS3 : 3 ∈ S) (hS4 : 4 ∈ S) (hS5 : 5 ∈ S) (hS6 : 6 ∈ S) (hS7 : 7 ∈ S) (hS8 : 8 ∈ S) (hS9 : 9 ∈ S) (hS10 : 10 ∈ S) (hS11 : 11 ∈ S) (hS12 : 12 ∈ S) (hS13 : 13 ∈ S) (hS14 : 14 ∈ S) (hS15 : 15 ∈ S) (hS16 : 16 ∈ S) (hS100 : 100 ∈ S) (H : M_smithylaw22_GraphRings n back ring K) : Fn Tryd.prog 10 ⟨[.int .i64 n, .int .i64 back, .bool ring]⟩ w (fun v w' => w.grownBy w' none ∧ ∃ (r : Bool), v = .bool r ∧ K r) := by
  unfold M_smithylaw22_GraphRings at H
  refine Fn.enter (by kernel_rfl) Tryd.func10 rfl Tryd.ntmps10 rfl ?_
  refine WC.seq ?_
  refine WC.region ?_
  refine WL.y rfl (Yld.pure tab_ok rfl) ?_
  refine WL.nil (WX.then_normal ?_)
  refine WC.seq ?_
  refine WC.region ?_
  refine WL.call rfl rfl (W_smithylaw22_first hG hS4 hS6 hS9 hS10 hS11 hS100 H) ?_
  rintro _ w1 ⟨hg1, ok, rfl, H⟩
  have gr1 := hg1
  refine WL.y rfl (Yld.pure tab_ok rfl) ?_
  refine WL.nil (WX.then_normal ?_)
  refine WC.seq ?_
  refine WC.seq ?_
  refine WC.region ?_
  refine WL.y rfl (Yld.pure tab_ok rfl) ?_
  refine WL.y rfl (Yld.pure tab_ok rfl) ?_
  refine WL.nil (WX.then_normal ?_)
  refine WC.cond rfl (fun b1 => ?_) (fun b1 => ?_)
  · replace H := H.1 (b1)
    refine WC.seq ?_
    refine WC.region ?_
    refine WL.y rfl (Yld.pure tab_ok rfl) ?_
    refine WL.nil (WX.then_normal ?_)
    refine WC.ret (WX.then_ret ?_)
    exact WX.ret1 rfl rfl ⟨gr1, false, rfl, H⟩
  · replace H := H.2 (b1)
    refine WC.skip (WX.then_normal ?_)
    refine WC.seq ?_
    refine WC.region ?_
    refine WL.y rfl (Yld.pure tab_ok rfl) ?_
    refine WL.call rfl rfl (W_smithyworld_Number H) ?_
    rintro _ _ ⟨rfl, t22, rfl, H⟩
    obtain ⟨h1, H⟩ := H
    refine WL.y rfl (Yld.add rfl rfl h1) ?_
    refine WL.y rfl (Yld.pure tab_ok rfl) ?_
    refine WL.nil (WX.then_normal ?_)
    refine WC.seq ?_
    refine WC.region ?_
    refine WL.y rfl (Yld.pure tab_ok rfl) ?_
    refine WL.y rfl (Yld.pure tab_ok rfl) ?_
    refine WL.call rfl rfl (W_smithyworld_Number H) ?_
    rintro _ _ ⟨rfl, back2, rfl, H⟩
    refine WL.y rfl (Yld.pure tab_ok rfl) ?_
    refine WL.nil (WX.then_normal ?_)
    refine WC.seq ?_
    refine WC.region ?_
    refine WL.y rfl (Yld.pure tab_ok rfl) ?_
    refine WL.nil (WX.then_normal ?_)
    refine WC.seq ?_
    refine WC.seq ?_
    refine WC.region ?_
    refine WL.y rfl (Yld.pure tab_ok rfl) ?_
    refine WL.nil (WX.then_normal ?_)
    refine WC.block ?_
    obtain ⟨I1, mu1, h0_1, HR1⟩ := H
    refine WC.loopF (fun n' L' w' => ∃ (l : List (Int × List (List UInt8) × List (List UInt8) × List UInt8)), ∃ (A_l : Option Addr), ∃ (c_l : Nat), ∃ (n_l : Nat), ∃ (hs_l : List (Int × Hdr × Hdr × List UInt8)), ∃ (i : Int), n' = mu1 l i ∧ L' = [(0, .int .i64 (t22 + (1 : Int))), (1, .int .i64 back2), (2, .bool ring), (7, .bool ok), (8, .slice A_l n_l c_l), (9, .int .i64 i)] ∧ I1 l i ∧ n_l = l.length ∧ w.grownBy w' none ∧ OwnK 4 encH98 w' w.heap.size 98 A_l c_l hs_l ∧ RelD de98 w' hs_l l ∧ DnD de98 hs_l l (blk A_l)) _ _ ⟨[], none, 0, 0, [], (0 : Int), rfl, rfl, h0_1, rfl, gr1, (OwnK.nil encH98_ok w1 w.heap.size 98), (RelD.nil (d := de98) (w := w1)), DnD.nil⟩ (by repeat (first | exact Sub.nil | refine Sub.cons rfl ?_)) ?_
    clear h0_1
    rintro _ _ w2 ⟨l, A_l, c_l, n_l, hs_l, i, rfl, rfl, hI1, rfl, gr2, k1, k2, dj1⟩
    have H := HR1 l i hI1
    refine WC.seq ?_
    refine WC.seq ?_
    refine WC.region ?_
    refine WL.y rfl (Yld.pure tab_ok rfl) ?_
    refine WL.y rfl (Yld.pure tab_ok rfl) ?_
    refine WL.y rfl (Yld.pure tab_ok rfl) ?_
    refine WL.nil (WX.then_normal ?_)
    refine WC.cond rfl (fun b2 => ?_) (fun b2 => ?_)
    · replace H := H.1 (of_decide_eq_true b2)
      refine WC.skip (WX.then_normal ?_)
      refine WC.seq ?_
      refine WC.block ?_
      refine WC.seq ?_
      refine WC.region ?_
      refine WL.y rfl (Yld.pure tab_ok rfl) ?_
      refine WL.y rfl (Yld.pure tab_ok rfl) ?_
      obtain ⟨h2, H⟩ := H
      refine WL.y rfl (Yld.add rfl rfl h2) ?_
      obtain ⟨h3, H⟩ := H
      refine WL.y rfl (Yld.scut tab_ok rfl rfl rfl rfl h3.1 h3.2.1 h3.2.2) ?_
      obtain ⟨h4, H⟩ := H
      refine WL.y rfl (Yld.sadd rfl rfl h4) ?_
      refine WL.call rfl rfl (W_smithylaw22_act (Own.nil vs w2 w.heap.size 9).rd rfl H) ?_
      rintro _ w3 ⟨hg2, t37_Tool, t37_Args, A_t37_Args, c_t37_Args, t37_Inputs, A_t37_Inputs, c_t37_Inputs, t37_Output, rfl, ht37_Args, ho1, ht37_Inputs, ho2, H⟩
      have gr3 := gr_trans gr2 hg2
      have k3 := k1.grown hg2
      have k4 := k2.grown hg2
      refine WL.alloc rfl zero98 (fun g1 w4 hB1 hg3 hl1 => ?_)
      have gr4 := gr_trans gr3 hg3
      have k5 := k3.grown hg3
      have k6 := k4.grown hg3
      have k7 := ht37_Args.grown hg3
      have k8 := ht37_Inputs.grown hg3
      refine WL.storeW (vs := [.int .i64 t37_Tool, .slice A_t37_Args t37_Args.length c_t37_Args, .slice A_t37_Inputs t37_Inputs.length c_t37_Inputs, vs t37_Output]) tab_ok rfl rfl rfl (all1c rfl (all1c rfl (all1c rfl (all1c rfl all1n)))) hB1 rfl rfl (fun w5 hB2 hg4 => ?_)
      have gr5 := gr_mod gr4 hg4 (Ge.le (Ge.box hl1) (size_le gr3))
      have k9 := k5.go hg4 (Dj.new k3.lt' (Ge.box hl1))
      have k10 := k6.go hg4 (k4.new (Ge.box hl1))
      have k11 := k7.go hg4 (Dn.new (fun hx => ht37_Args.lt' hx) (Ge.box hl1))
      have k12 := k8.go hg4 (Dn.new (fun hx => ht37_Inputs.lt' hx) (Ge.box hl1))
      refine WL.nil (WX.then_normal ?_)
      refine WC.seq ?_
      obtain ⟨J1, H, hJ1⟩ := H
      refine WC.midF (fun L' w' => ∃ (a2 : List (List UInt8)), ∃ (A_a2 : Option Addr), ∃ (c_a2 : Nat), ∃ (n_a2 : Nat), L' = [(0, .int .i64 (t22 + (1 : Int))), (1, .int .i64 back2), (2, .bool ring), (7, .bool ok), (8, .slice A_l l.length c_l), (9, .int .i64 i), (10, .pointer (some ⟨g1, 0, none⟩))] ∧ J1 a2 ∧ n_a2 = a2.length ∧ w.grownBy w' none ∧ OwnK 4 encH98 w' w.heap.size 98 A_l c_l hs_l ∧ RelD de98 w' hs_l l ∧ Rd vs w' A_t37_Args c_t37_Args t37_Args ∧ Bl w' g1 98 [.int .i64 t37_Tool, .slice A_t37_Args t37_Args.length c_t37_Args, .slice A_a2 n_a2 c_a2, vs t37_Output] ∧ Rd vs w' A_a2 c_a2 a2 ∧ Dj (blk A_l) (some g1) ∧ DnD de98 hs_l l (blk A_l) ∧ DnD de98 hs_l l (some g1) ∧ Dn t37_Args (blk A_t37_Args) (blk A_l) ∧ Dn t37_Args (blk A_t37_Args) (some g1) ∧ Dn a2 (blk A_a2) (blk A_l) ∧ Dn a2 (blk A_a2) (some g1)) ?_ (fun hQ => ?_)
      · clear H
        rintro _ w6 ⟨a2, A_a2, c_a2, n_a2, rfl, H, rfl, gr6, k13, k14, k15, k16, k17, dj2, dj3, dj4, dj5, dj6, dj7, dj8⟩
        replace H := hJ1 a2 H
        refine WX.then_normal ?_
        refine WC.region ?_
        refine WL.y rfl (Yld.pure tab_ok rfl) ?_
        refine WL.y rfl (Yld.bagg (vs := [.int .i64 t37_Tool, .slice A_t37_Args t37_Args.length c_t37_Args, .slice A_a2 a2.length c_a2, vs t37_Output]) tab_ok k16 rfl rfl rfl rfl) ?_
        refine WL.litK (f := encH98) ([(t37_Tool, ⟨A_t37_Args, t37_Args.length, c_t37_Args⟩, ⟨A_a2, a2.length, c_a2⟩, t37_Output)] : List (Int × Hdr × Hdr × List UInt8)) encH98_ok rfl ow96 rfl rfl rfl (fun g3 w8 hB4 hg6 hl3 => ?_)
        have hO2 : OwnK 4 encH98 w8 w.heap.size 98 (some ⟨g3, 0, none⟩) 1 ([(t37_Tool, ⟨A_t37_Args, t37_Args.length, c_t37_Args⟩, ⟨A_a2, a2.length, c_a2⟩, t37_Output)] : List (Int × Hdr × Hdr × List UInt8)) := OwnK.ofBl encH98_ok hB4 (Nat.le_trans (size_le gr6) hl3) (by simp [maxLen]) rfl
        have gr7 := gr_trans gr6 hg6
        have k18 := k13.grown hg6
        have k19 := k14.grown hg6
        have k20 := k15.grown hg6
        have k21 := k17.grown hg6
        have hr1 : RelD de98 w8 ([(t37_Tool, ⟨A_t37_Args, t37_Args.length, c_t37_Args⟩, ⟨A_a2, a2.length, c_a2⟩, t37_Output)] : List (Int × Hdr × Hdr × List UInt8)) ([(t37_Tool, t37_Args, a2, t37_Output)] : List (Int × List (List UInt8) × List (List UInt8) × List UInt8)) := (RelD.cons ⟨rfl, ⟨rfl, k20⟩, ⟨rfl, k21⟩, rfl⟩ RelD.nil)
        have dj9 : DnD de98 ([(t37_Tool, ⟨A_t37_Args, t37_Args.length, c_t37_Args⟩, ⟨A_a2, a2.length, c_a2⟩, t37_Output)] : List (Int × Hdr × Hdr × List UInt8)) ([(t37_Tool, t37_Args, a2, t37_Output)] : List (Int × List (List UInt8) × List (List UInt8) × List UInt8)) (blk A_l) := (DnD.cons (d := de98) ⟨trivial, dj5, dj7, trivial⟩ DnD.nil)
        have dj10 : DnD de98 ([(t37_Tool, ⟨A_t37_Args, t37_Args.length, c_t37_Args⟩, ⟨A_a2, a2.length, c_a2⟩, t37_Output)] : List (Int × Hdr × Hdr × List UInt8)) ([(t37_Tool, t37_Args, a2, t37_Output)] : List (Int × List (List UInt8) × List (List UInt8) × List UInt8)) (blk (some ⟨g3, 0, none⟩)) := (DnD.cons (d := de98) ⟨trivial, (Dn.new (fun hx => k15.lt' hx) (Ge.box hl3)), (Dn.new (fun hx => k17.lt' hx) (Ge.box hl3)), trivial⟩ DnD.nil)
        obtain ⟨h5, H⟩ := H
        have h6 : ((hs_l : List (Int × Hdr × Hdr × List UInt8)).length + ([(t37_Tool, ⟨A_t37_Args, t37_Args.length, c_t37_Args⟩, ⟨A_a2, a2.length, c_a2⟩, t37_Output)] : List (Int × Hdr × Hdr × List UInt8)).length) * 72 ≤ 140737488355328 := by rw [k19.1, hr1.1]; exact h5
        refine WL.appendK rfl ow96 k18 rfl k2.1.symm hO2.rd rfl rfl h6 (applen h6) (size_le gr7) (fun A_l2 c_l2 w9 hO3 hg7 hk1 => ?_)
        have el1 : (hs_l ++ ([(t37_Tool, ⟨A_t37_Args, t37_Args.length, c_t37_Args⟩, ⟨A_a2, a2.length, c_a2⟩, t37_Output)] : List (Int × Hdr × Hdr × List UInt8))).length = (l ++ ([(t37_Tool, t37_Args, a2, t37_Output)] : List (Int × List (List UInt8) × List (List UInt8) × List UInt8))).length := by rw [List.length_append, List.length_append, k19.1, hr1.1]
        rw [el1]
        have gr8 := gr_mod gr7 hg7 k18.ge'
        have k22 := k19.go hg7 dj3
        have k23 := hr1.go hg7 dj9
        have hr2 : RelD de98 w9 (hs_l ++ ([(t37_Tool, ⟨A_t37_Args, t37_Args.length, c_t37_Args⟩, ⟨A_a2, a2.length, c_a2⟩, t37_Output)] : List (Int × Hdr × Hdr × List UInt8))) (l ++ ([(t37_Tool, t37_Args, a2, t37_Output)] : List (Int × List (List UInt8) × List (List UInt8) × List UInt8))) := RelD.append k22 k23
        have dj11 : DnD de98 (hs_l ++ ([(t37_Tool, ⟨A_t37_Args, t37_Args.length, c_t37_Args⟩, ⟨A_a2, a2.length, c_a2⟩, t37_Output)] : List (Int × Hdr × Hdr × List UInt8))) (l ++ ([(t37_Tool, t37_Args, a2, t37_Output)] : List (Int × List (List UInt8) × List (List UInt8) × List UInt8))) (blk (some ⟨g3, 0, none⟩)) := (DnD.append k19.1 (k14.new (Ge.box hl3)) dj10)
        have dj12 : DnD de98 (hs_l ++ ([(t37_Tool, ⟨A_t37_Args, t37_Args.length, c_t37_Args⟩, ⟨A_a2, a2.length, c_a2⟩, t37_Output)] : List (Int × Hdr × Hdr × List UInt8))) (l ++ ([(t37_Tool, t37_Args, a2, t37_Output)] : List (Int × List (List UInt8) × List (List UInt8) × List UInt8))) (blk A_l2) := (DnD.append k19.1 (RelD.app k19 dj3 hk1) (RelD.app hr1 dj9 hk1))
        refine WL.y rfl (Yld.pure tab_ok rfl) ?_
        refine WL.nil (WX.block_normal (WX.then_normal ?_))
        refine WC.region ?_
        refine WL.y rfl (Yld.pure tab_ok rfl) ?_
        obtain ⟨h7, H⟩ := H
        refine WL.y rfl (Yld.add rfl rfl h7) ?_
        refine WL.y rfl (Yld.pure tab_ok rfl) ?_
        refine WL.nil ?_
        exact WX.roundF _ ⟨l ++ ([(t37_Tool, t37_Args, a2, t37_Output)] : List (Int × List (List UInt8) × List (List UInt8) × List UInt8)), A_l2, c_l2, (l ++ ([(t37_Tool, t37_Args, a2, t37_Output)] : List (Int × List (List UInt8) × List (List UInt8) × List UInt8))).length, hs_l ++ ([(t37_Tool, ⟨A_t37_Args, t37_Args.length, c_t37_Args⟩, ⟨A_a2, a2.length, c_a2⟩, t37_Output)] : List (Int × Hdr × Hdr × List UInt8)), i + (1 : Int), rfl, rfl, H.1, rfl, gr8, hO3, hr2, dj12⟩ (by repeat (first | exact Sub.nil | refine Sub.cons rfl ?_)) H.2
      · clear hJ1
        refine WC.seq ?_
        refine WC.region ?_
        refine WL.y rfl (Yld.pure tab_ok rfl) ?_
        refine WL.y rfl (Yld.pure tab_ok rfl) ?_
        refine WL.nil (WX.then_normal ?_)
        refine WC.cond rfl (fun b3 => ?_) (fun b3 => ?_)
        · replace H := H.1 (of_decide_eq_true b3)
          refine WC.region ?_
          refine WL.y rfl (Yld.pure tab_ok rfl) ?_
          refine WL.y rfl (Yld.pure tab_ok rfl) ?_
          obtain ⟨h8, H⟩ := H
          refine WL.y rfl (Yld.sub rfl rfl h8) ?_
          obtain ⟨h9, H⟩ := H
          refine WL.y rfl (Yld.iaddrK tab_ok k9.rd rfl rfl k2.1.symm rfl h9.1 h9.2) ?_
          refine WL.y rfl (Yld.faddrK tab_ok k9.rd (iltN h9 k2.1.symm) rfl rfl rfl) ?_
          obtain ⟨⟨f1, ⟨A_el, n1, c_el⟩, ⟨A_el2, n2, c_el2⟩, f2⟩, eh1, ⟨en1, ⟨en2, hR1⟩, ⟨en3, hR2⟩, en4⟩⟩ := RelD.at k10 (0, hd0, hd0, []) (0, [], [], []) (j := (i - (1 : Int)).toNat) (Nat.lt_of_lt_of_eq (iltN h9 k2.1.symm) k10.1)
          have en1 : f1 = (l.getD ((i - (1 : Int)).toNat) (0, [], [], [])).1 := en1
          subst en1
          have en2 : n1 = ((l.getD ((i - (1 : Int)).toNat) (0, [], [], [])).2.1).length := en2
          subst en2
          have en3 : n2 = ((l.getD ((i - (1 : Int)).toNat) (0, [], [], [])).2.2.1).length := en3
          subst en3
          have en4 : f2 = (l.getD ((i - (1 : Int)).toNat) (0, [], [], [])).2.2.2 := en4
          subst en4
          refine WL.y rfl (Yld.iloadF (v := vs ((l.getD ((i - (1 : Int)).toNat) (0, [], [], [])).2.2.2)) (0, hd0, hd0, []) tab_ok k9.rd rfl rfl (iltN h9 k2.1.symm) (by rw [eh1]; rfl)) ?_
          refine WL.lit tab_ok rfl rfl rfl (all1c rfl (all1c rfl all1n)) rfl (by omega) (fun g4 w10 hB5 hg8 hl4 => ?_)
          have hO4 : Own vs w10 w.heap.size 9 (some ⟨g4, 0, none⟩) 2 ([(l.getD ((i - (1 : Int)).toNat) (0, [], [], [])).2.2.2, ([115, 114, 99] : List UInt8)] : List (List UInt8)) := Own.ofBl hB5 (Nat.le_trans (size_le gr5) hl4) (by simp [maxLen]) rfl
          have gr9 := gr_trans gr5 hg8
          have k24 := k9.grown hg8
          have k25 := k10.grown hg8
          have k26 := k11.grown hg8
          have k27 := k12.grown hg8
          have k28 := hB2.g0 hg8
          refine WL.y rfl (Yld.pure tab_ok rfl) ?_
          refine WL.store1 one22 rfl rfl rfl k28 (by simp) (fun w11 hB7 hg9 => ?_)
          have hB6 : Bl w11 g1 98 [.int .i64 t37_Tool, .slice A_t37_Args t37_Args.length c_t37_Args, .slice (some ⟨g4, 0, none⟩) 2 2, vs t37_Output] := hB7
          have gr10 := gr_mod gr9 hg9 (Ge.le (Ge.box hl1) (size_le gr3))
          have k29 := k24.go hg9 (Dj.new k3.lt' (Ge.box hl1))
          have k30 := k25.go hg9 (k4.new (Ge.box hl1))
          have k31 := k26.go hg9 (Dn.new (fun hx => ht37_Args.lt' hx) (Ge.box hl1))
          have k32 := hO4.go hg9 ((Dj.new hB2.lt' (Ge.box hl4)).symm)
          refine WL.nil ?_
          exact WX.weaken (by repeat (first | exact Sub.nil | refine Sub.cons rfl ?_)) (hQ _ _ ⟨([(l.getD ((i - (1 : Int)).toNat) (0, [], [], [])).2.2.2, ([115, 114, 99] : List UInt8)] : List (List UInt8)), (some ⟨g4, 0, none⟩), 2, 2, rfl, H, rfl, gr10, k29, k30, k31, hB6, k32.rd, (Dj.new k3.lt' (Ge.box hl1)), dj1, (k4.new (Ge.box hl1)), (Orig.apart ho1 k1.lt' (orC (fun h => absurd rfl h) orN)), (Dn.new (fun hx => ht37_Args.lt' hx) (Ge.box hl1)), (Dn.of (Dj.new k9.lt' (Ge.box hl4)).symm), (Dn.of (Dj.new hB2.lt' (Ge.box hl4)).symm)⟩)
        · replace H := H.2 (of_decide_eq_false b3)
          refine WC.skip ?_
          exact WX.weaken (by repeat (first | exact Sub.nil | refine Sub.cons rfl ?_)) (hQ _ _ ⟨t37_Inputs, A_t37_Inputs, c_t37_Inputs, t37_Inputs.length, rfl, H, rfl, gr5, k9, k10, k11, hB2, k12, (Dj.new k3.lt' (Ge.box hl1)), dj1, (k4.new (Ge.box hl1)), (Orig.apart ho1 k1.lt' (orC (fun h => absurd rfl h) orN)), (Dn.new (fun hx => ht37_Args.lt' hx) (Ge.box hl1)), (Orig.apart ho2 k1.lt' (orC (fun h => absurd rfl h) orN)), (Dn.new (fun hx => ht37_Inputs.lt' hx) (Ge.box hl1))⟩)
    · replace H := H.2 (of_decide_eq_false b2)
      refine WC.exit (WX.then_exit (WX.then_exit (WX.block_same (WX.then_normal ?_))))
      refine WC.seq ?_
      refine WC.seq ?_
      refine WC.region ?_
      refine WL.y rfl (Yld.pure tab_ok rfl) ?_
      refine WL.nil (WX.then_normal ?_)
      refine WC.cond rfl (fun b4 => ?_) (fun b4 => ?_)
      · replace H := H.1 (b4)
        refine WC.seq ?_
        obtain ⟨J2, H, hJ2⟩ := H
        refine WC.ordersF 16 (fun k => !(Nat.beq k 7 || Nat.beq k 14 || Nat.beq k 15)) (fun w' => w2.grownBy w' none) (fun L' w' => ∃ (t60 : List (List UInt8)), ∃ (A_t68 : Option Addr), ∃ (c_t68 : Nat), L' = [(1, .int .i64 back2), (7, .bool ok), (8, .slice A_l l.length c_l), (53, .slice A_l l.length c_l), (54, .int .i64 back2), (68, .slice A_t68 ((t60 ++ ([(l.getD (((t22 + (1 : Int)) - (1 : Int)).toNat) (0, [], [], [])).2.2.2] : List (List UInt8))).length) c_t68)] ∧ J2 t60 ∧ w.grownBy w' none ∧ OwnK 4 encH98 w' w.heap.size 98 A_l c_l hs_l ∧ RelD de98 w' hs_l l ∧ Own vs w' w.heap.size 9 A_t68 c_t68 (t60 ++ ([(l.getD (((t22 + (1 : Int)) - (1 : Int)).toNat) (0, [], [], [])).2.2.2] : List (List UInt8))) ∧ Dj (blk A_l) (blk A_t68)) mixed (by kernel_rfl) (fun w' h => gr_eqv (gr_refl _ _) h) ?_ ?_
        · clear H
          rintro _ w12 ⟨t60, A_t68, c_t68, rfl, H, gr11, k33, k34, k35, dj13⟩
          replace H := hJ2 t60 H
          obtain ⟨h10, H⟩ := H
          refine WL.y rfl (Yld.iaddrK tab_ok k33.rd rfl rfl k2.1.symm rfl h10.1 h10.2) ?_
          refine WL.y rfl (Yld.faddrK tab_ok k33.rd (iltN h10 k2.1.symm) rfl rfl rfl) ?_
          refine WL.ostoreF (v := (((hs_l.getD back2.toNat (0, hd0, hd0, [])).1, (hs_l.getD back2.toNat (0, hd0, hd0, [])).2.1, ⟨A_t68, (t60 ++ ([(l.getD (((t22 + (1 : Int)) - (1 : Int)).toNat) (0, [], [], [])).2.2.2] : List (List UInt8))).length, c_t68⟩, (hs_l.getD back2.toNat (0, hd0, hd0, [])).2.2.2) : Int × Hdr × Hdr × List UInt8)) (0, hd0, hd0, []) one22 rfl k33 rfl rfl (iltN h10 k2.1.symm) rfl rfl (fun w13 hO5 hg10 => ?_)
          have gr12 := gr_mod gr11 hg10 k33.ge'
          have k36 := k34.go hg10 dj1
          have k37 := k35.go hg10 dj13.symm
          obtain ⟨_, rfl, r1⟩ := RelD.at k36 (0, hd0, hd0, []) (0, [], [], []) (j := back2.toNat) (Nat.lt_of_lt_of_eq (iltN h10 k2.1.symm) k34.1)
          have hr3 : RelD de98 w13 (hs_l.set back2.toNat (((hs_l.getD back2.toNat (0, hd0, hd0, [])).1, (hs_l.getD back2.toNat (0, hd0, hd0, [])).2.1, ⟨A_t68, (t60 ++ ([(l.getD (((t22 + (1 : Int)) - (1 : Int)).toNat) (0, [], [], [])).2.2.2] : List (List UInt8))).length, c_t68⟩, (hs_l.getD back2.toNat (0, hd0, hd0, [])).2.2.2) : Int × Hdr × Hdr × List UInt8)) (l.set back2.toNat (((l.getD back2.toNat (0, [], [], [])).1, (l.getD back2.toNat (0, [], [], [])).2.1, t60 ++ ([(l.getD (((t22 + (1 : Int)) - (1 : Int)).toNat) (0, [], [], [])).2.2.2] : List (List UInt8)), (l.getD back2.toNat (0, [], [], [])).2.2.2) : Int × List (List UInt8) × List (List UInt8) × List UInt8)) := RelD.set (h := (((hs_l.getD back2.toNat (0, hd0, hd0, [])).1, (hs_l.getD back2.toNat (0, hd0, hd0, [])).2.1, ⟨A_t68, (t60 ++ ([(l.getD (((t22 + (1 : Int)) - (1 : Int)).toNat) (0, [], [], [])).2.2.2] : List (List UInt8))).length, c_t68⟩, (hs_l.getD back2.toNat (0, hd0, hd0, [])).2.2.2) : Int × Hdr × Hdr × List UInt8)) (x := (((l.getD back2.toNat (0, [], [], [])).1, (l.getD back2.toNat (0, [], [], [])).2.1, t60 ++ ([(l.getD (((t22 + (1 : Int)) - (1 : Int)).toNat) (0, [], [], [])).2.2.2] : List (List UInt8)), (l.getD back2.toNat (0, [], [], [])).2.2.2) : Int × List (List UInt8) × List (List UInt8) × List UInt8)) k36 ⟨r1.1, r1.2.1, ⟨rfl, k37.rd⟩, r1.2.2.2⟩ back2.toNat
          have dj14 : DnD de98 (hs_l.set back2.toNat (((hs_l.getD back2.toNat (0, hd0, hd0, [])).1, (hs_l.getD back2.toNat (0, hd0, hd0, [])).2.1, ⟨A_t68, (t60 ++ ([(l.getD (((t22 + (1 : Int)) - (1 : Int)).toNat) (0, [], [], [])).2.2.2] : List (List UInt8))).length, c_t68⟩, (hs_l.getD back2.toNat (0, hd0, hd0, [])).2.2.2) : Int × Hdr × Hdr × List UInt8)) (l.set back2.toNat (((l.getD back2.toNat (0, [], [], [])).1, (l.getD back2.toNat (0, [], [], [])).2.1, t60 ++ ([(l.getD (((t22 + (1 : Int)) - (1 : Int)).toNat) (0, [], [], [])).2.2.2] : List (List UInt8)), (l.getD back2.toNat (0, [], [], [])).2.2.2) : Int × List (List UInt8) × List (List UInt8) × List UInt8)) (blk A_l) := (DnD.set (h := (((hs_l.getD back2.toNat (0, hd0, hd0, [])).1, (hs_l.getD back2.toNat (0, hd0, hd0, [])).2.1, ⟨A_t68, (t60 ++ ([(l.getD (((t22 + (1 : Int)) - (1 : Int)).toNat) (0, [], [], [])).2.2.2] : List (List UInt8))).length, c_t68⟩, (hs_l.getD back2.toNat (0, hd0, hd0, [])).2.2.2) : Int × Hdr × Hdr × List UInt8)) (x := (((l.getD back2.toNat (0, [], [], [])).1, (l.getD back2.toNat (0, [], [], [])).2.1, t60 ++ ([(l.getD (((t22 + (1 : Int)) - (1 : Int)).toNat) (0, [], [], [])).2.2.2] : List (List UInt8)), (l.getD back2.toNat (0, [], [], [])).2.2.2) : Int × List (List UInt8) × List (List UInt8) × List UInt8)) dj1 ⟨(DnD.at dj1 k34.1 (Nat.lt_of_lt_of_eq (iltN h10 k2.1.symm) k34.1) rfl).1, (DnD.at dj1 k34.1 (Nat.lt_of_lt_of_eq (iltN h10 k2.1.symm) k34.1) rfl).2.1, (Dn.of dj13.symm), (DnD.at dj1 k34.1 (Nat.lt_of_lt_of_eq (iltN h10 k2.1.symm) k34.1) rfl).2.2.2⟩ back2.toNat)
          refine WL.nil (WX.then_normal ?_)
          refine WC.seq ?_
          refine WC.region ?_
          refine WL.y rfl (Yld.pure tab_ok rfl) ?_
          refine WL.call rfl rfl (W_graph_New (hG.grown gr12) hS4 hS6 hS9 hS10 hS11 hS100 hO5.rd ((k2.1.symm.trans List.length_set.symm).trans hr3.1) hr3 H) ?_
          rintro v_ w14 ⟨hg_, hc_ | hc_⟩
          · obtain ⟨v_t731, t731, rfl, ht731, H⟩ := hc_
            have hg11 := hg_
            have gr13 := gr_trans gr12 hg11
            refine WL.y rfl (Yld.pure tab_ok rfl) ?_
            refine WL.y rfl (Yld.pure tab_ok rfl) ?_
            refine WL.y rfl (Yld.pure tab_ok rfl) ?_
            refine WL.y rfl (Yld.pure tab_ok rfl) ?_
            refine WL.y rfl (Yld.pure tab_ok rfl) ?_
            refine WL.nil (WX.then_normal ?_)
            refine WC.seq ?_
            refine WC.region ?_
            refine WL.y rfl (Yld.pure tab_ok rfl) ?_
            refine WL.y rfl (Yld.pure tab_ok rfl) ?_
            obtain ⟨J3, H, hJ3⟩ := H
            refine WL.midF 5 (fun L' w' => ∃ q1 : Bool, L' = [(82, .bool q1)] ∧ J3 q1 ∧ w.grownBy w' none) ?_ (fun hQ => ?_)
            · clear H
              rintro _ w16 ⟨q1, rfl, H, gr14⟩
              replace H := hJ3 q1 H
              refine WL.y rfl (Yld.pure tab_ok rfl) ?_
              refine WL.nil (WX.then_normal ?_)
              refine WC.ret (WX.then_ret ?_)
              exact WX.ret1 rfl rfl ⟨gr14, q1, rfl, H⟩
            · clear hJ3
              rcases Bool.eq_false_or_eq_true (ok) with b5 | b5
              · replace H := H.1 b5
                refine WL.gyes rfl rfl (okb b5) rfl (Yld.pure tab_ok rfl) ?_
                refine WL.gyes rfl rfl (okb b5) rfl (Yld.pure tab_ok rfl) ?_
                refine WL.callw (wants_some rfl rfl (okb b5)) rfl rfl (W_smithyref_Placed H) ?_
                rintro _ w17 ⟨hg12, t80_Code, t80_Placed, t80_Pos, t80_Filed, t80_File, rfl, H⟩
                have gr15 := gr_trans gr13 hg12
                have k38 := ht731.grown hg12
                refine WL.callw (wants_some rfl rfl (okb b5)) rfl rfl (W_smithysee_Same (hG.grown gr15) hS0 hS1 hS2 hS3 hS4 hS5 hS6 hS7 hS8 hS9 hS10 hS11 hS12 hS13 hS14 hS15 hS16 k38 H) ?_
                rintro _ w18 ⟨hg13, t81, rfl, H⟩
                have gr16 := gr_trans gr15 hg13
                have k39 := k38.grown hg13
                refine WL.y rfl (Yld.pickT (okb b5) rfl) ?_
                exact WL.weaken (by repeat (first | exact Sub.nil | refine Sub.cons rfl ?_)) (hQ _ _ ⟨t81, rfl, H, gr16⟩)
              · replace H := H.2 b5
                refine WL.gno rfl rfl (okb b5) rfl ?_
                refine WL.gno rfl rfl (okb b5) rfl ?_
                refine WL.gno rfl rfl (okb b5) rfl ?_
                refine WL.gno rfl rfl (okb b5) rfl ?_
                refine WL.y rfl (Yld.pickF (okb b5) rfl) ?_
                exact WL.weaken (by repeat (first | exact Sub.nil | refine Sub.cons rfl ?_)) (hQ _ _ ⟨false, rfl, H, gr13⟩)
          · obtain ⟨g_t730, t730_l, A_t730_l, c_t730_l, hs_t730_l, g_t730_makers, t730_makers, t730_before, A_t730_before, c_t730_before, hs_t730_before, t730_after, A_t730_after, c_t730_after, hs_t730_after, v_t7312, t7312, rfl, ht730_l, hr_t730_l, ht730_before, hr_t730_before, ht730_after, hr_t730_after, ht7312, ht730_makers, hge1, ht730, hge2, dj15, dj16, dj17, dj18, dj19, dj20, dj21, dj22, dj23, dj24, dj25, dj26, dj27, dj28, dj29, dj30, dj31, dj32, dj33, dj34, dj35, dj36, dj37, dj38, dj39, H⟩ := hc_
            have hg14 := hg_
            have hb1 := ht730_l.ge'
            have k40 := ht730_l.base (fun g hg => Nat.le_trans (size_le gr12) (hb1 g hg))
            have hb2 := ht730_before.ge'
            have k41 := ht730_before.base (fun g hg => Nat.le_trans (size_le gr12) (hb2 g hg))
            have hb3 := ht730_after.ge'
            have k42 := ht730_after.base (fun g hg => Nat.le_trans (size_le gr12) (hb3 g hg))
            have gr17 := gr_trans gr12 hg14
            refine WL.y rfl (Yld.pure tab_ok rfl) ?_
            refine WL.y rfl (Yld.pure tab_ok rfl) ?_
            refine WL.y rfl (Yld.pure tab_ok rfl) ?_
            refine WL.y rfl (Yld.pure tab_ok rfl) ?_
            refine WL.y rfl (Yld.pure tab_ok rfl) ?_
            refine WL.nil (WX.then_normal ?_)
            refine WC.seq ?_
            refine WC.region ?_
            refine WL.y rfl (Yld.pure tab_ok rfl) ?_
            refine WL.y rfl (Yld.pure tab_ok rfl) ?_
            obtain ⟨J4, H, hJ4⟩ := H
            refine WL.midF 5 (fun L' w' => ∃ q2 : Bool, L' = [(82, .bool q2)] ∧ J4 q2 ∧ w.grownBy w' none) ?_ (fun hQ => ?_)
            · clear H
              rintro _ w20 ⟨q2, rfl, H, gr18⟩
              replace H := hJ4 q2 H
              refine WL.y rfl (Yld.pure tab_ok rfl) ?_
              refine WL.nil (WX.then_normal ?_)
              refine WC.ret (WX.then_ret ?_)
              exact WX.ret1 rfl rfl ⟨gr18, q2, rfl, H⟩
            · clear hJ4
              rcases Bool.eq_false_or_eq_true (ok) with b6 | b6
              · replace H := H.1 b6
                refine WL.gyes rfl rfl (okb b6) rfl (Yld.pure tab_ok rfl) ?_
                refine WL.gyes rfl rfl (okb b6) rfl (Yld.pure tab_ok rfl) ?_
                refine WL.callw (wants_some rfl rfl (okb b6)) rfl rfl (W_smithyref_Placed H) ?_
                rintro _ w21 ⟨hg15, t80_Code2, t80_Placed2, t80_Pos2, t80_Filed2, t80_File2, rfl, H⟩
                have gr19 := gr_trans gr17 hg15
                have k43 := ht7312.grown hg15
                refine WL.callw (wants_some rfl rfl (okb b6)) rfl rfl (W_smithysee_Same (hG.grown gr19) hS0 hS1 hS2 hS3 hS4 hS5 hS6 hS7 hS8 hS9 hS10 hS11 hS12 hS13 hS14 hS15 hS16 k43 H) ?_
                rintro _ w22 ⟨hg16, t812, rfl, H⟩
                have gr20 := gr_trans gr19 hg16
                have k44 := k43.grown hg16
                refine WL.y rfl (Yld.pickT (okb b6) rfl) ?_
                exact WL.weaken (by repeat (first | exact Sub.nil | refine Sub.cons rfl ?_)) (hQ _ _ ⟨t812, rfl, H, gr20⟩)
              · replace H := H.2 b6
                refine WL.gno rfl rfl (okb b6) rfl ?_
                refine WL.gno rfl rfl (okb b6) rfl ?_
                refine WL.gno rfl rfl (okb b6) rfl ?_
                refine WL.gno rfl rfl (okb b6) rfl ?_
                refine WL.y rfl (Yld.pickF (okb b6) rfl) ?_
                exact WL.weaken (by repeat (first | exact Sub.nil | refine Sub.cons rfl ?_)) (hQ _ _ ⟨false, rfl, H, gr17⟩)
        · clear hJ2
          refine WA.y 0 rfl (by kernel_rfl) rfl (fun w' hw' => Yld.pure tab_ok rfl) ?_
          refine WA.y 1 rfl (by kernel_rfl) rfl (fun w' hw' => Yld.pure tab_ok rfl) ?_
          refine WA.y 2 rfl (by kernel_rfl) rfl (fun w' hw' => Yld.pure tab_ok rfl) ?_
          refine WA.y 3 rfl (by kernel_rfl) rfl (fun w' hw' => Yld.pure tab_ok rfl) ?_
          obtain ⟨h11, H⟩ := H
          refine WA.y 4 rfl (by kernel_rfl) rfl (fun w' hw' => Yld.iaddrK tab_ok k1.rd rfl rfl k2.1.symm rfl h11.1 h11.2) ?_
          refine WA.y 5 rfl (by kernel_rfl) rfl (fun w' hw' => Yld.faddrK tab_ok k1.rd (iltN h11 k2.1.symm) rfl rfl rfl) ?_
          obtain ⟨⟨f3, ⟨A_el3, n3, c_el3⟩, ⟨A_el4, n4, c_el4⟩, f4⟩, eh2, ⟨en5, ⟨en6, hR3⟩, ⟨en7, hR4⟩, en8⟩⟩ := RelD.at k2 (0, hd0, hd0, []) (0, [], [], []) (j := back2.toNat) (Nat.lt_of_lt_of_eq (iltN h11 k2.1.symm) k2.1)
          have en5 : f3 = (l.getD back2.toNat (0, [], [], [])).1 := en5
          subst en5
          have en6 : n3 = ((l.getD back2.toNat (0, [], [], [])).2.1).length := en6
          subst en6
          have en7 : n4 = ((l.getD back2.toNat (0, [], [], [])).2.2.1).length := en7
          subst en7
          have en8 : f4 = (l.getD back2.toNat (0, [], [], [])).2.2.2 := en8
          subst en8
          refine WA.y 6 rfl (by kernel_rfl) rfl (fun w' hw' => Yld.iloadF (v := .slice A_el4 (((l.getD back2.toNat (0, [], [], [])).2.2.1).length) c_el4) (0, hd0, hd0, []) tab_ok (RdK.grown k1.rd hw') rfl rfl (iltN h11 k2.1.symm) (by rw [eh2]; rfl)) ?_
          refine WA.y 8 rfl (by kernel_rfl) rfl (fun w' hw' => Yld.pure tab_ok rfl) ?_
          refine WA.y 9 rfl (by kernel_rfl) rfl (fun w' hw' => Yld.pure tab_ok rfl) ?_
          obtain ⟨h12, H⟩ := H
          refine WA.y 10 rfl (by kernel_rfl) rfl (fun w' hw' => Yld.sub rfl rfl h12) ?_
          obtain ⟨h13, H⟩ := H
          refine WA.y 11 rfl (by kernel_rfl) rfl (fun w' hw' => Yld.iaddrK tab_ok k1.rd rfl rfl k2.1.symm rfl h13.1 h13.2) ?_
          refine WA.y 12 rfl (by kernel_rfl) rfl (fun w' hw' => Yld.faddrK tab_ok k1.rd (iltN h13 k2.1.symm) rfl rfl rfl) ?_
          obtain ⟨⟨f5, ⟨A_el5, n5, c_el5⟩, ⟨A_el6, n6, c_el6⟩, f6⟩, eh3, ⟨en9, ⟨en10, hR5⟩, ⟨en11, hR6⟩, en12⟩⟩ := RelD.at k2 (0, hd0, hd0, []) (0, [], [], []) (j := ((t22 + (1 : Int)) - (1 : Int)).toNat) (Nat.lt_of_lt_of_eq (iltN h13 k2.1.symm) k2.1)
          have en9 : f5 = (l.getD (((t22 + (1 : Int)) - (1 : Int)).toNat) (0, [], [], [])).1 := en9
          subst en9
          have en10 : n5 = ((l.getD (((t22 + (1 : Int)) - (1 : Int)).toNat) (0, [], [], [])).2.1).length := en10
          subst en10
          have en11 : n6 = ((l.getD (((t22 + (1 : Int)) - (1 : Int)).toNat) (0, [], [], [])).2.2.1).length := en11
          subst en11
          have en12 : f6 = (l.getD (((t22 + (1 : Int)) - (1 : Int)).toNat) (0, [], [], [])).2.2.2 := en12
          subst en12
          refine WA.y 13 rfl (by kernel_rfl) rfl (fun w' hw' => Yld.iloadF (v := vs ((l.getD (((t22 + (1 : Int)) - (1 : Int)).toNat) (0, [], [], [])).2.2.2)) (0, hd0, hd0, []) tab_ok (RdK.grown k1.rd hw') rfl rfl (iltN h13 k2.1.symm) (by rw [eh3]; rfl)) ?_
          refine WA.split [7, 14] (by kernel_rfl) (by kernel_rfl) ⟨?_, ?_⟩
          · refine WI.call rfl rfl wants_none rfl rfl (W_smithyref_Texts hR4 rfl H) (fun v w' h w2 e => gr_eqv (gr_trans (gr_refl _ none) h.1) e) ?_
            rintro _ w23 ⟨hg17, t602, A_t60, c_t60, rfl, ht602, H⟩
            have hb4 := ht602.ge'
            have k45 := ht602.base (fun g hg => Nat.le_trans (size_le gr2) (hb4 g hg))
            have gr21 := gr_trans gr2 hg17
            have k46 := k1.grown hg17
            have k47 := k2.grown hg17
            have k48 := hR3.grown hg17
            have k49 := hR4.grown hg17
            have k50 := hR5.grown hg17
            have k51 := hR6.grown hg17
            have gt1 := gr_trans (gr_refl _ none) hg17
            refine WA.split [14] (by kernel_rfl) (by kernel_rfl) ?_
            · refine WI.put rfl rfl rfl (Eff.lit tab_ok rfl rfl (all1c rfl all1n) rfl (by omega)) (fun v w' ⟨_, _, h⟩ => gr_trans gt1 h) ?_
              rintro _ w24 ⟨rfl, hB8, hg18⟩
              obtain ⟨g_t67, hl5⟩ : ∃ g, g = w23.heap.size := ⟨_, rfl⟩
              rw [← hl5] at hB8
              rw [← hl5]
              have hO6 : Own vs w24 w.heap.size 9 (some ⟨g_t67, 0, none⟩) 1 ([(l.getD (((t22 + (1 : Int)) - (1 : Int)).toNat) (0, [], [], [])).2.2.2] : List (List UInt8)) := Own.ofBl hB8 (Nat.le_trans (size_le gr21) (Nat.le_of_eq hl5.symm)) (by simp [maxLen]) rfl
              have gr22 := gr_trans gr21 hg18
              have k52 := k46.grown hg18
              have k53 := k47.grown hg18
              have k54 := k48.grown hg18
              have k55 := k49.grown hg18
              have k56 := k50.grown hg18
              have k57 := k51.grown hg18
              have k58 := k45.grown hg18
              have gt2 := gr_trans gt1 hg18
              refine WA.split [15] (by kernel_rfl) (by kernel_rfl) ?_
              · obtain ⟨h14, H⟩ := H
                refine WI.put rfl rfl rfl (Eff.append tab_ok rfl One.s k58 rfl rfl hO6.rd rfl rfl h14 (applen h14) (size_le gr22)) (fun v w' ⟨_, _, _, _, h, _⟩ => gr_mod gt2 h (Ge.le hb4 (size_le (gr_refl _ none)))) ?_
                rintro _ w25 ⟨A_t682, c_t682, rfl, hO7, hg19, hk2⟩
                have gr23 := gr_mod gr22 hg19 k58.ge'
                have k59 := k52.go hg19 (Dj.new k1.lt' hb4)
                have k60 := k53.go hg19 (k2.new hb4)
                have k61 := k54.go hg19 (Dn.new (fun hx => hR3.lt' hx) hb4)
                have k62 := k55.go hg19 (Dn.new (fun hx => hR4.lt' hx) hb4)
                have k63 := k56.go hg19 (Dn.new (fun hx => hR5.lt' hx) hb4)
                have k64 := k57.go hg19 (Dn.new (fun hx => hR6.lt' hx) hb4)
                have k65 := hO6.go hg19 ((Dj.new k45.lt' (Ge.box (Nat.le_of_eq hl5.symm))).symm)
                have gt3 := gr_mod gt2 hg19 (Ge.le hb4 (size_le (gr_refl _ none)))
                exact WA.doneF _ (by kernel_rfl) ⟨t602, A_t682, c_t682, rfl, H, gr23, k59, k60, hO7, (Dj.app (Dj.new k1.lt' hb4).symm k52.lt' hk2).symm⟩ (by repeat (first | exact Sub.nil | refine Sub.cons rfl ?_))
          · refine WI.put rfl rfl rfl (Eff.lit tab_ok rfl rfl (all1c rfl all1n) rfl (by omega)) (fun v w' ⟨_, _, h⟩ => gr_trans (gr_refl _ none) h) ?_
            rintro _ w26 ⟨rfl, hB9, hg20⟩
            obtain ⟨g_t672, hl6⟩ : ∃ g, g = w2.heap.size := ⟨_, rfl⟩
            rw [← hl6] at hB9
            rw [← hl6]
            have hO8 : Own vs w26 w.heap.size 9 (some ⟨g_t672, 0, none⟩) 1 ([(l.getD (((t22 + (1 : Int)) - (1 : Int)).toNat) (0, [], [], [])).2.2.2] : List (List UInt8)) := Own.ofBl hB9 (Nat.le_trans (size_le gr2) (Nat.le_of_eq hl6.symm)) (by simp [maxLen]) rfl
            have gr24 := gr_trans gr2 hg20
            have k66 := k1.grown hg20
            have k67 := k2.grown hg20
            have k68 := hR3.grown hg20
            have k69 := hR4.grown hg20
            have k70 := hR5.grown hg20
            have k71 := hR6.grown hg20
            have gt4 := gr_trans (gr_refl _ none) hg20
            refine WA.split [7] (by kernel_rfl) (by kernel_rfl) ?_
            · refine WI.call rfl rfl wants_none rfl rfl (W_smithyref_Texts k69 rfl H) (fun v w' h w2 e => gr_eqv (gr_trans gt4 h.1) e) ?_
              rintro _ w27 ⟨hg21, t603, A_t602, c_t602, rfl, ht603, H⟩
              have hb5 := ht603.ge'
              have k72 := ht603.base (fun g hg => Nat.le_trans (size_le gr24) (hb5 g hg))
              have gr25 := gr_trans gr24 hg21
              have k73 := k66.grown hg21
              have k74 := k67.grown hg21
              have k75 := k68.grown hg21
              have k76 := k69.grown hg21
              have k77 := k70.grown hg21
              have k78 := k71.grown hg21
              have k79 := hO8.grown hg21
              have gt5 := gr_trans gt4 hg21
              refine WA.split [15] (by kernel_rfl) (by kernel_rfl) ?_
              · obtain ⟨h15, H⟩ := H
                refine WI.put rfl rfl rfl (Eff.append tab_ok rfl One.s k72 rfl rfl k79.rd rfl rfl h15 (applen h15) (size_le gr25)) (fun v w' ⟨_, _, _, _, h, _⟩ => gr_mod gt5 h (Ge.le hb5 (size_le gt4))) ?_
                rintro _ w28 ⟨A_t683, c_t683, rfl, hO9, hg22, hk3⟩
                have gr26 := gr_mod gr25 hg22 k72.ge'
                have k80 := k73.go hg22 (Dj.new k66.lt' hb5)
                have k81 := k74.go hg22 (k67.new hb5)
                have k82 := k75.go hg22 (Dn.new (fun hx => k68.lt' hx) hb5)
                have k83 := k76.go hg22 (Dn.new (fun hx => k69.lt' hx) hb5)
                have k84 := k77.go hg22 (Dn.new (fun hx => k70.lt' hx) hb5)
                have k85 := k78.go hg22 (Dn.new (fun hx => k71.lt' hx) hb5)
                have k86 := k79.go hg22 (Dj.new hO8.lt' hb5)
                have gt6 := gr_mod gt5 hg22 (Ge.le hb5 (size_le gt4))
                exact WA.doneF _ (by kernel_rfl) ⟨t603, A_t683, c_t683, rfl, H, gr26, k80, k81, hO9, (Dj.app (Dj.new k66.lt' hb5).symm k73.lt' hk3).symm⟩ (by repeat (first | exact Sub.nil | refine Sub.cons rfl ?_))
      · replace H := H.2 (b4)
        refine WC.skip (WX.then_normal ?_)
        refine WC.seq ?_
        refine WC.region ?_
        refine WL.y rfl (Yld.pure tab_ok rfl) ?_
        refine WL.call rfl rfl (W_graph_New (hG.grown gr2) hS4 hS6 hS9 hS10 hS11 hS100 k1.rd rfl k2 H) ?_
        rintro v_ w29 ⟨hg_, hc_ | hc_⟩
        · obtain ⟨v_t851, t851, rfl, ht851, H⟩ := hc_
          have hg23 := hg_
          have gr27 := gr_trans gr2 hg23
          have k87 := k1.grown hg23
          have k88 := k2.grown hg23
          refine WL.y rfl (Yld.pure tab_ok rfl) ?_
          refine WL.y rfl (Yld.pure tab_ok rfl) ?_
          refine WL.y rfl (Yld.pure tab_ok rfl) ?_
          refine WL.y rfl (Yld.pure tab_ok rfl) ?_
          refine WL.y rfl (Yld.pure tab_ok rfl) ?_
          refine WL.nil (WX.then_normal ?_)
          refine WC.seq ?_
          refine WC.seq ?_
          refine WC.region ?_
          refine WL.y rfl (Yld.pure tab_ok rfl) ?_
          refine WL.y rfl (Yld.peqnil Tryd.underlying100 rfl rfl) ?_
          refine WL.y rfl (Yld.pure tab_ok rfl) ?_
          refine WL.midF 3 (fun L' w' => ∃ q3 : Bool, L' = [(93, .bool q3), (0, .int .i64 (t22 + (1 : Int))), (1, .int .i64 back2), (7, .bool ok), (8, .slice A_l l.length c_l), (13, .pointer none)] ∧ true = q3 ∧ w29 = w') ?_ (fun hQ => ?_)
          · rintro _ _ ⟨q3, rfl, rfl, rfl⟩
            refine WL.y rfl (Yld.pure tab_ok rfl) ?_
            refine WL.midF 13 (fun L' w' => L' = [(107, .bool true), (0, .int .i64 (t22 + (1 : Int))), (1, .int .i64 back2), (7, .bool ok), (8, .slice A_l l.length c_l), (13, .pointer none)] ∧ w.grownBy w' none ∧ OwnK 4 encH98 w' w.heap.size 98 A_l c_l hs_l ∧ RelD de98 w' hs_l l) ?_ (fun hQ => ?_)
            · rintro _ w31 ⟨rfl, gr28, k89, k90⟩
              refine WL.y rfl (Yld.pure tab_ok rfl) ?_
              refine WL.midF 13 (fun L' w' => L' = [(121, .bool true), (0, .int .i64 (t22 + (1 : Int))), (7, .bool ok), (13, .pointer none)] ∧ w.grownBy w' none) ?_ (fun hQ => ?_)
              · rintro _ w32 ⟨rfl, gr29⟩
                refine WL.nil (WX.then_normal ?_)
                refine WC.cond rfl (fun _ => ?_) (fun h => by cases h)
                refine WC.seq ?_
                refine WC.region ?_
                refine WL.y rfl (Yld.pure tab_ok rfl) ?_
                refine WL.nil (WX.then_normal ?_)
                refine WC.ret (WX.then_ret ?_)
                exact WX.ret1 rfl rfl ⟨gr29, false, rfl, H⟩
              · clear H
                refine WL.gno rfl rfl (rfl) rfl ?_
                refine WL.gno rfl rfl (rfl) rfl ?_
                refine WL.gno rfl rfl (rfl) rfl ?_
                refine WL.gno rfl rfl (rfl) rfl ?_
                refine WL.gno rfl rfl (rfl) rfl ?_
                refine WL.gno rfl rfl (rfl) rfl ?_
                refine WL.gno rfl rfl (rfl) rfl ?_
                refine WL.gno rfl rfl (rfl) rfl ?_
                refine WL.gno rfl rfl (rfl) rfl ?_
                refine WL.gno rfl rfl (rfl) rfl ?_
                refine WL.gno rfl rfl (rfl) rfl ?_
                refine WL.gno rfl rfl (rfl) rfl ?_
                refine WL.y rfl (Yld.pickT (rfl) rfl) ?_
                exact WL.weaken (by repeat (first | exact Sub.nil | refine Sub.cons rfl ?_)) (hQ _ _ ⟨rfl, gr28⟩)
            · clear H
              refine WL.gno rfl rfl (rfl) rfl ?_
              refine WL.gno rfl rfl (rfl) rfl ?_
              refine WL.gno rfl rfl (rfl) rfl ?_
              refine WL.gno rfl rfl (rfl) rfl ?_
              refine WL.gno rfl rfl (rfl) rfl ?_
              refine WL.gno rfl rfl (rfl) rfl ?_
              refine WL.gno rfl rfl (rfl) rfl ?_
              refine WL.gno rfl rfl (rfl) rfl ?_
              refine WL.gno rfl rfl (rfl) rfl ?_
              refine WL.gno rfl rfl (rfl) rfl ?_
              refine WL.gno rfl rfl (rfl) rfl ?_
              refine WL.gno rfl rfl (rfl) rfl ?_
              refine WL.y rfl (Yld.pickT (rfl) rfl) ?_
              exact WL.weaken (by repeat (first | exact Sub.nil | refine Sub.cons rfl ?_)) (hQ _ _ ⟨rfl, gr27, k87, k88⟩)
          · clear H
            refine WL.gno rfl rfl (rfl) rfl ?_
            refine WL.gno rfl rfl (rfl) rfl ?_
            refine WL.y rfl (Yld.pickT (rfl) rfl) ?_
            exact WL.weaken (by repeat (first | exact Sub.nil | refine Sub.cons rfl ?_)) (hQ _ _ ⟨true, rfl, rfl, rfl⟩)
        · obtain ⟨g_t850, t850_l, A_t850_l, c_t850_l, hs_t850_l, g_t850_makers, t850_makers, t850_before, A_t850_before, c_t850_before, hs_t850_before, t850_after, A_t850_after, c_t850_after, hs_t850_after, v_t8512, t8512, rfl, ht850_l, hr_t850_l, ht850_before, hr_t850_before, ht850_after, hr_t850_after, ht8512, ht850_makers, hge3, ht850, hge4, dj40, dj41, dj42, dj43, dj44, dj45, dj46, dj47, dj48, dj49, dj50, dj51, dj52, dj53, dj54, dj55, dj56, dj57, dj58, dj59, dj60, dj61, dj62, dj63, dj64, H⟩ := hc_
          have hg24 := hg_
          have hb6 := ht850_l.ge'
          have k91 := ht850_l.base (fun g hg => Nat.le_trans (size_le gr2) (hb6 g hg))
          have hb7 := ht850_before.ge'
          have k92 := ht850_before.base (fun g hg => Nat.le_trans (size_le gr2) (hb7 g hg))
          have hb8 := ht850_after.ge'
          have k93 := ht850_after.base (fun g hg => Nat.le_trans (size_le gr2) (hb8 g hg))
          have gr30 := gr_trans gr2 hg24
          have k94 := k1.grown hg24
          have k95 := k2.grown hg24
          refine WL.y rfl (Yld.pure tab_ok rfl) ?_
          refine WL.y rfl (Yld.pure tab_ok rfl) ?_
          refine WL.y rfl (Yld.pure tab_ok rfl) ?_
          refine WL.y rfl (Yld.pure tab_ok rfl) ?_
          refine WL.y rfl (Yld.pure tab_ok rfl) ?_
          refine WL.nil (WX.then_normal ?_)
          refine WC.seq ?_
          refine WC.seq ?_
          refine WC.region ?_
          refine WL.y rfl (Yld.pure tab_ok rfl) ?_
          refine WL.y rfl (Yld.peqnil Tryd.underlying100 rfl rfl) ?_
          refine WL.y rfl (Yld.pure tab_ok rfl) ?_
          refine WL.midF 3 (fun L' w' => ∃ q6 : Bool, L' = [(93, .bool q6), (0, .int .i64 (t22 + (1 : Int))), (1, .int .i64 back2), (7, .bool ok), (8, .slice A_l l.length c_l), (13, .pointer (some ⟨g_t850, 0, none⟩))] ∧ (!decide (t8512 = Er.ok)) = q6 ∧ w29 = w') ?_ (fun hQ => ?_)
          · rintro _ _ ⟨q6, rfl, rfl, rfl⟩
            refine WL.y rfl (Yld.pure tab_ok rfl) ?_
            obtain ⟨J7, H, hJ7⟩ := H
            refine WL.midF 13 (fun L' w' => ∃ q7 : Bool, L' = [(107, .bool q7), (0, .int .i64 (t22 + (1 : Int))), (1, .int .i64 back2), (7, .bool ok), (8, .slice A_l l.length c_l), (13, .pointer (some ⟨g_t850, 0, none⟩))] ∧ J7 q7 ∧ w.grownBy w' none ∧ OwnK 4 encH98 w' w.heap.size 98 A_l c_l hs_l ∧ RelD de98 w' hs_l l ∧ OwnK 4 encH98 w' w.heap.size 98 A_t850_l c_t850_l hs_t850_l ∧ RelD de98 w' hs_t850_l t850_l ∧ Own vh w' w.heap.size 65 A_t850_before c_t850_before hs_t850_before ∧ RelD de65 w' hs_t850_before t850_before ∧ Own vh w' w.heap.size 65 A_t850_after c_t850_after hs_t850_after ∧ RelD de65 w' hs_t850_after t850_after ∧ MapB vs okS vi w' g_t850_makers t850_makers ∧ Bl w' g_t850 159 [.slice A_t850_l t850_l.length c_t850_l, .map (some g_t850_makers), .slice A_t850_before t850_before.length c_t850_before, .slice A_t850_after t850_after.length c_t850_after]) ?_ (fun hQ => ?_)
            · clear H
              rintro _ w34 ⟨q7, rfl, H, gr31, k96, k97, k98, k99, k100, k101, k102, k103, k104, k105⟩
              replace H := hJ7 q7 H
              refine WL.y rfl (Yld.pure tab_ok rfl) ?_
              obtain ⟨J8, H, hJ8⟩ := H
              refine WL.midF 13 (fun L' w' => ∃ q8 : Bool, L' = [(121, .bool q8), (0, .int .i64 (t22 + (1 : Int))), (7, .bool ok), (13, .pointer (some ⟨g_t850, 0, none⟩))] ∧ J8 q8 ∧ w.grownBy w' none ∧ OwnK 4 encH98 w' w.heap.size 98 A_t850_l c_t850_l hs_t850_l ∧ RelD de98 w' hs_t850_l t850_l ∧ Own vh w' w.heap.size 65 A_t850_before c_t850_before hs_t850_before ∧ RelD de65 w' hs_t850_before t850_before ∧ Own vh w' w.heap.size 65 A_t850_after c_t850_after hs_t850_after ∧ RelD de65 w' hs_t850_after t850_after ∧ MapB vs okS vi w' g_t850_makers t850_makers ∧ Bl w' g_t850 159 [.slice A_t850_l t850_l.length c_t850_l, .map (some g_t850_makers), .slice A_t850_before t850_before.length c_t850_before, .slice A_t850_after t850_after.length c_t850_after]) ?_ (fun hQ => ?_)
              · clear H
                rintro _ w35 ⟨q8, rfl, H, gr32, k106, k107, k108, k109, k110, k111, k112, k113⟩
                replace H := hJ8 q8 H
                refine WL.nil (WX.then_normal ?_)
                refine WC.cond rfl (fun b7 => ?_) (fun b7 => ?_)
                · replace H := H.1 (b7)
                  refine WC.seq ?_
                  refine WC.region ?_
                  refine WL.y rfl (Yld.pure tab_ok rfl) ?_
                  refine WL.nil (WX.then_normal ?_)
                  refine WC.ret (WX.then_ret ?_)
                  exact WX.ret1 rfl rfl ⟨gr32, false, rfl, H⟩
                · replace H := H.2 (b7)
                  refine WC.skip (WX.then_normal ?_)
                  refine WC.seq ?_
                  refine WC.region ?_
                  refine WL.y rfl (Yld.pure tab_ok rfl) ?_
                  refine WL.call rfl rfl (W_pgraph_Graph_Order k106.rd rfl k107 k112 k108.rd rfl k109 k110.rd rfl k111 k113 H) ?_
                  rintro _ w36 ⟨hg25, o, A_o, c_o, rfl, ho, H⟩
                  have hb9 := ho.ge'
                  have k114 := ho.base (fun g hg => Nat.le_trans (size_le gr32) (hb9 g hg))
                  have gr33 := gr_trans gr32 hg25
                  have k115 := k106.grown hg25
                  have k116 := k107.grown hg25
                  have k117 := k108.grown hg25
                  have k118 := k109.grown hg25
                  have k119 := k110.grown hg25
                  have k120 := k111.grown hg25
                  have k121 := k112.g0 hg25
                  have k122 := k113.g0 hg25
                  refine WL.y rfl (Yld.pure tab_ok rfl) ?_
                  refine WL.nil (WX.then_normal ?_)
                  refine WC.seq ?_
                  refine WC.seq ?_
                  refine WC.region ?_
                  refine WL.y rfl (Yld.pure tab_ok rfl) ?_
                  refine WL.nil (WX.then_normal ?_)
                  refine WC.block ?_
                  obtain ⟨I2, mu2, h0_2, HR2⟩ := H
                  refine WC.loopF (fun n' L' w' => ∃ (i2 : Int), n' = mu2 i2 ∧ L' = [(0, .int .i64 (t22 + (1 : Int))), (7, .bool ok), (13, .pointer (some ⟨g_t850, 0, none⟩)), (15, .slice A_o o.length c_o), (16, .int .i64 i2)] ∧ I2 i2 ∧ w36 = w') _ _ ⟨(0 : Int), rfl, rfl, h0_2, rfl⟩ (by repeat (first | exact Sub.nil | refine Sub.cons rfl ?_)) ?_
                  clear h0_2
                  rintro _ _ _ ⟨i2, rfl, rfl, hI2, rfl⟩
                  have H := HR2 i2 hI2
                  refine WC.seq ?_
                  refine WC.seq ?_
                  refine WC.region ?_
                  refine WL.y rfl (Yld.pure tab_ok rfl) ?_
                  refine WL.y rfl (Yld.pure tab_ok rfl) ?_
                  refine WL.y rfl (Yld.pure tab_ok rfl) ?_
                  refine WL.nil (WX.then_normal ?_)
                  refine WC.cond rfl (fun b8 => ?_) (fun b8 => ?_)
                  · replace H := H.1 (of_decide_eq_true b8)
                    refine WC.skip (WX.then_normal ?_)
                    refine WC.seq ?_
                    refine WC.block ?_
                    refine WC.seq ?_
                    refine WC.region ?_
                    refine WL.y rfl (Yld.pure tab_ok rfl) ?_
                    refine WL.y rfl (Yld.pure tab_ok rfl) ?_
                    obtain ⟨h16, H⟩ := H
                    refine WL.y rfl (Yld.iaddrW tab_ok k114.rd rfl rfl rfl rfl h16.1 h16.2) ?_
                    refine WL.y rfl (Yld.iload 0 tab_ok k114.rd rfl rfl (iltN h16 rfl)) ?_
                    refine WL.y rfl (Yld.pure tab_ok rfl) ?_
                    refine WL.y rfl (Yld.pure tab_ok rfl) ?_
                    refine WL.nil (WX.then_normal ?_)
                    refine WC.cond rfl (fun b9 => ?_) (fun b9 => ?_)
                    · replace H := H.1 (nd_true b9)
                      refine WC.seq ?_
                      refine WC.region ?_
                      refine WL.y rfl (Yld.pure tab_ok rfl) ?_
                      refine WL.nil (WX.then_normal ?_)
                      refine WC.ret (WX.block_ret (WX.then_ret (WX.then_ret (WX.block_ret (WX.then_ret ?_)))))
                      exact WX.ret1 rfl rfl ⟨gr33, false, rfl, H⟩
                    · replace H := H.2 (nd_false b9)
                      refine WC.skip (WX.block_normal (WX.then_normal ?_))
                      refine WC.region ?_
                      refine WL.y rfl (Yld.pure tab_ok rfl) ?_
                      obtain ⟨h17, H⟩ := H
                      refine WL.y rfl (Yld.add rfl rfl h17) ?_
                      refine WL.y rfl (Yld.pure tab_ok rfl) ?_
                      refine WL.nil ?_
                      exact WX.roundF _ ⟨i2 + (1 : Int), rfl, rfl, H.1, rfl⟩ (by repeat (first | exact Sub.nil | refine Sub.cons rfl ?_)) H.2
                  · replace H := H.2 (of_decide_eq_false b8)
                    refine WC.exit (WX.then_exit (WX.then_exit (WX.block_same (WX.then_normal ?_))))
                    refine WC.seq ?_
                    refine WC.region ?_
                    refine WL.y rfl (Yld.pure tab_ok rfl) ?_
                    refine WL.nil (WX.then_normal ?_)
                    refine WC.seq ?_
                    obtain ⟨J9, H, hJ9⟩ := H
                    refine WC.midF (fun L' w' => ∃ (src : List (List UInt8)), ∃ (A_src : Option Addr), ∃ (c_src : Nat), ∃ (n_src : Nat), L' = [(0, .int .i64 (t22 + (1 : Int))), (7, .bool ok), (13, .pointer (some ⟨g_t850, 0, none⟩)), (17, .slice A_src n_src c_src)] ∧ J9 src ∧ n_src = src.length ∧ w.grownBy w' none ∧ OwnK 4 encH98 w' w.heap.size 98 A_t850_l c_t850_l hs_t850_l ∧ RelD de98 w' hs_t850_l t850_l ∧ Own vh w' w.heap.size 65 A_t850_before c_t850_before hs_t850_before ∧ RelD de65 w' hs_t850_before t850_before ∧ Own vh w' w.heap.size 65 A_t850_after c_t850_after hs_t850_after ∧ RelD de65 w' hs_t850_after t850_after ∧ MapB vs okS vi w' g_t850_makers t850_makers ∧ Bl w' g_t850 159 [.slice A_t850_l t850_l.length c_t850_l, .map (some g_t850_makers), .slice A_t850_before t850_before.length c_t850_before, .slice A_t850_after t850_after.length c_t850_after] ∧ Own vs w' w.heap.size 9 A_src c_src src ∧ Dj (blk A_t850_l) (blk A_t850_before) ∧ Dj (blk A_t850_l) (blk A_t850_after) ∧ Dj (blk A_t850_l) (some g_t850_makers) ∧ Dj (blk A_t850_l) (some g_t850) ∧ Dj (blk A_t850_l) (blk A_src) ∧ DnD de98 hs_t850_l t850_l (blk A_t850_l) ∧ DnD de98 hs_t850_l t850_l (blk A_t850_before) ∧ DnD de98 hs_t850_l t850_l (blk A_t850_after) ∧ DnD de98 hs_t850_l t850_l (some g_t850_makers) ∧ DnD de98 hs_t850_l t850_l (some g_t850) ∧ DnD de98 hs_t850_l t850_l (blk A_src) ∧ Dj (blk A_t850_before) (blk A_t850_after) ∧ Dj (blk A_t850_before) (some g_t850) ∧ Dj (blk A_t850_before) (blk A_src) ∧ DnD de65 hs_t850_before t850_before (blk A_t850_l) ∧ DnD de65 hs_t850_before t850_before (blk A_t850_before) ∧ DnD de65 hs_t850_before t850_before (blk A_t850_after) ∧ DnD de65 hs_t850_before t850_before (some g_t850_makers) ∧ DnD de65 hs_t850_before t850_before (some g_t850) ∧ DnD de65 hs_t850_before t850_before (blk A_src) ∧ Dj (blk A_t850_after) (some g_t850) ∧ Dj (blk A_t850_after) (blk A_src) ∧ DnD de65 hs_t850_after t850_after (blk A_t850_l) ∧ DnD de65 hs_t850_after t850_after (blk A_t850_before) ∧ DnD de65 hs_t850_after t850_after (blk A_t850_after) ∧ DnD de65 hs_t850_after t850_after (some g_t850_makers) ∧ DnD de65 hs_t850_after t850_after (some g_t850) ∧ DnD de65 hs_t850_after t850_after (blk A_src) ∧ Dj (some g_t850_makers) (blk A_t850_before) ∧ Dj (some g_t850_makers) (blk A_t850_after) ∧ Dj (some g_t850_makers) (some g_t850) ∧ Dj (some g_t850_makers) (blk A_src) ∧ Dj (some g_t850) (blk A_src)) ?_ (fun hQ => ?_)
                    · clear H
                      rintro _ w37 ⟨src, A_src, c_src, n_src, rfl, H, rfl, gr34, k123, k124, k125, k126, k127, k128, k129, k130, k131, dj65, dj66, dj67, dj68, dj69, dj70, dj71, dj72, dj73, dj74, dj75, dj76, dj77, dj78, dj79, dj80, dj81, dj82, dj83, dj84, dj85, dj86, dj87, dj88, dj89, dj90, dj91, dj92, dj93, dj94, dj95, dj96, dj97⟩
                      replace H := hJ9 src H
                      refine WX.then_normal ?_
                      refine WC.seq ?_
                      refine WC.region ?_
                      refine WL.y rfl (Yld.pure tab_ok rfl) ?_
                      refine WL.y rfl (Yld.pure tab_ok rfl) ?_
                      obtain ⟨J10, H, hJ10⟩ := H
                      refine WL.midF 5 (fun L' w' => ∃ q9 : Bool, L' = [(144, .bool q9), (0, .int .i64 (t22 + (1 : Int))), (13, .pointer (some ⟨g_t850, 0, none⟩))] ∧ J10 q9 ∧ w.grownBy w' none ∧ OwnK 4 encH98 w' w.heap.size 98 A_t850_l c_t850_l hs_t850_l ∧ RelD de98 w' hs_t850_l t850_l ∧ Own vh w' w.heap.size 65 A_t850_before c_t850_before hs_t850_before ∧ RelD de65 w' hs_t850_before t850_before ∧ Own vh w' w.heap.size 65 A_t850_after c_t850_after hs_t850_after ∧ RelD de65 w' hs_t850_after t850_after ∧ MapB vs okS vi w' g_t850_makers t850_makers ∧ Bl w' g_t850 159 [.slice A_t850_l t850_l.length c_t850_l, .map (some g_t850_makers), .slice A_t850_before t850_before.length c_t850_before, .slice A_t850_after t850_after.length c_t850_after]) ?_ (fun hQ => ?_)
                      · clear H
                        rintro _ w38 ⟨q9, rfl, H, gr35, k132, k133, k134, k135, k136, k137, k138, k139⟩
                        replace H := hJ10 q9 H
                        refine WL.y rfl (Yld.pure tab_ok rfl) ?_
                        obtain ⟨J11, H, hJ11⟩ := H
                        refine WL.midF 6 (fun L' w' => ∃ q10 : Bool, L' = [(151, .bool q10)] ∧ J11 q10 ∧ w.grownBy w' none) ?_ (fun hQ => ?_)
                        · clear H
                          rintro _ w39 ⟨q10, rfl, H, gr36⟩
                          replace H := hJ11 q10 H
                          refine WL.y rfl (Yld.pure tab_ok rfl) ?_
                          refine WL.nil (WX.then_normal ?_)
                          refine WC.ret ?_
                          exact WX.ret1 rfl rfl ⟨gr36, q10, rfl, H⟩
                        · clear hJ11
                          rcases Bool.eq_false_or_eq_true (q9) with b10 | b10
                          · replace H := H.1 b10
                            refine WL.gyes rfl rfl (okb b10) rfl (Yld.pure tab_ok rfl) ?_
                            refine WL.gyes rfl rfl (okb b10) rfl (Yld.pure tab_ok rfl) ?_
                            obtain ⟨h18, H⟩ := H
                            refine WL.gyes rfl rfl (okb b10) rfl (Yld.sub rfl rfl h18) ?_
                            refine WL.callw (wants_some rfl rfl (okb b10)) rfl rfl (W_pgraph_Graph_After k132.rd rfl k133 k138 k134.rd rfl k135 k136.rd rfl k137 k139 H) ?_
                            rintro _ w40 ⟨hg26, t149, A_t149, c_t149, rfl, ht149, H⟩
                            have hb10 := ht149.ge'
                            have k140 := ht149.base (fun g hg => Nat.le_trans (size_le gr35) (hb10 g hg))
                            have gr37 := gr_trans gr35 hg26
                            have k141 := k132.grown hg26
                            have k142 := k133.grown hg26
                            have k143 := k134.grown hg26
                            have k144 := k135.grown hg26
                            have k145 := k136.grown hg26
                            have k146 := k137.grown hg26
                            have k147 := k138.g0 hg26
                            have k148 := k139.g0 hg26
                            refine WL.callw (wants_some rfl rfl (okb b10)) rfl rfl (W_smithyref_SameInts k140.rd rfl (Own.nil vi w40 w.heap.size 3).rd rfl H) ?_
                            rintro _ _ ⟨rfl, t150, rfl, H⟩
                            refine WL.y rfl (Yld.pickT (okb b10) rfl) ?_
                            exact WL.weaken (by repeat (first | exact Sub.nil | refine Sub.cons rfl ?_)) (hQ _ _ ⟨t150, rfl, H, gr37⟩)
                          · replace H := H.2 b10
                            refine WL.gno rfl rfl (okb b10) rfl ?_
                            refine WL.gno rfl rfl (okb b10) rfl ?_
                            refine WL.gno rfl rfl (okb b10) rfl ?_
                            refine WL.gno rfl rfl (okb b10) rfl ?_
                            refine WL.gno rfl rfl (okb b10) rfl ?_
                            refine WL.y rfl (Yld.pickF (okb b10) rfl) ?_
                            exact WL.weaken (by repeat (first | exact Sub.nil | refine Sub.cons rfl ?_)) (hQ _ _ ⟨false, rfl, H, gr35⟩)
                      · clear hJ10
                        rcases Bool.eq_false_or_eq_true (ok) with b11 | b11
                        · replace H := H.1 b11
                          refine WL.gyes rfl rfl (okb b11) rfl (Yld.pure tab_ok rfl) ?_
                          refine WL.callw (wants_some rfl rfl (okb b11)) rfl rfl (W_pgraph_Graph_Sources k123.rd rfl k124 k129 k125.rd rfl k126 k127.rd rfl k128 k130 H) ?_
                          rintro _ w41 ⟨hg27, t141, A_t141, c_t141, rfl, ht141, H⟩
                          have hb11 := ht141.ge'
                          have k149 := ht141.base (fun g hg => Nat.le_trans (size_le gr34) (hb11 g hg))
                          have gr38 := gr_trans gr34 hg27
                          have k150 := k123.grown hg27
                          have k151 := k124.grown hg27
                          have k152 := k125.grown hg27
                          have k153 := k126.grown hg27
                          have k154 := k127.grown hg27
                          have k155 := k128.grown hg27
                          have k156 := k129.g0 hg27
                          have k157 := k130.g0 hg27
                          have k158 := k131.grown hg27
                          refine WL.gyes rfl rfl (okb b11) rfl (Yld.pure tab_ok rfl) ?_
                          refine WL.callw (wants_some rfl rfl (okb b11)) rfl rfl (W_smithyref_SameTexts k149.rd rfl k158.rd rfl H) ?_
                          rintro _ _ ⟨rfl, t143, rfl, H⟩
                          refine WL.y rfl (Yld.pickT (okb b11) rfl) ?_
                          exact WL.weaken (by repeat (first | exact Sub.nil | refine Sub.cons rfl ?_)) (hQ _ _ ⟨t143, rfl, H, gr38, k150, k151, k152, k153, k154, k155, k156, k157⟩)
                        · replace H := H.2 b11
                          refine WL.gno rfl rfl (okb b11) rfl ?_
                          refine WL.gno rfl rfl (okb b11) rfl ?_
                          refine WL.gno rfl rfl (okb b11) rfl ?_
                          refine WL.gno rfl rfl (okb b11) rfl ?_
                          refine WL.y rfl (Yld.pickF (okb b11) rfl) ?_
                          exact WL.weaken (by repeat (first | exact Sub.nil | refine Sub.cons rfl ?_)) (hQ _ _ ⟨false, rfl, H, gr34, k123, k124, k125, k126, k127, k128, k129, k130⟩)
                    · clear hJ9
                      refine WC.seq ?_
                      refine WC.region ?_
                      refine WL.y rfl (Yld.pure tab_ok rfl) ?_
                      refine WL.y rfl (Yld.pure tab_ok rfl) ?_
                      refine WL.nil (WX.then_normal ?_)
                      refine WC.cond rfl (fun b12 => ?_) (fun b12 => ?_)
                      · replace H := H.1 (of_decide_eq_true b12)
                        refine WC.region ?_
                        refine WL.lit tab_ok rfl rfl rfl (all1c rfl all1n) rfl (by omega) (fun g5 w42 hB10 hg28 hl7 => ?_)
                        have hO10 : Own vs w42 w.heap.size 9 (some ⟨g5, 0, none⟩) 1 ([([115, 114, 99] : List UInt8)] : List (List UInt8)) := Own.ofBl hB10 (Nat.le_trans (size_le gr33) hl7) (by simp [maxLen]) rfl
                        have gr39 := gr_trans gr33 hg28
                        have k159 := k115.grown hg28
                        have k160 := k116.grown hg28
                        have k161 := k117.grown hg28
                        have k162 := k118.grown hg28
                        have k163 := k119.grown hg28
                        have k164 := k120.grown hg28
                        have k165 := k121.g0 hg28
                        have k166 := k122.g0 hg28
                        refine WL.y rfl (Yld.pure tab_ok rfl) ?_
                        refine WL.nil ?_
                        exact WX.weaken (by repeat (first | exact Sub.nil | refine Sub.cons rfl ?_)) (hQ _ _ ⟨([([115, 114, 99] : List UInt8)] : List (List UInt8)), (some ⟨g5, 0, none⟩), 1, 1, rfl, H, rfl, gr39, k159, k160, k161, k162, k163, k164, k165, k166, hO10, dj55, dj56, dj57, dj58, (Dj.new k115.lt' (Ge.box hl7)), dj40, dj41, dj42, dj43, dj44, (k116.new (Ge.box hl7)), dj59, dj61, (Dj.new k117.lt' (Ge.box hl7)), dj45, dj46, dj47, dj48, dj49, (k118.new (Ge.box hl7)), dj63, (Dj.new k119.lt' (Ge.box hl7)), dj50, dj51, dj52, dj53, dj54, (k120.new (Ge.box hl7)), dj60.symm, dj62.symm, dj64, (Dj.new k121.lt' (Ge.box hl7)), (Dj.new k122.lt' (Ge.box hl7))⟩)
                      · replace H := H.2 (of_decide_eq_false b12)
                        refine WC.skip ?_
                        exact WX.weaken (by repeat (first | exact Sub.nil | refine Sub.cons rfl ?_)) (hQ _ _ ⟨[], none, 0, 0, rfl, H, rfl, gr33, k115, k116, k117, k118, k119, k120, k121, k122, (Own.nil vs w36 w.heap.size 9), dj55, dj56, dj57, dj58, Dj.nr, dj40, dj41, dj42, dj43, dj44, (DnD.none k116), dj59, dj61, Dj.nr, dj45, dj46, dj47, dj48, dj49, (DnD.none k118), dj63, Dj.nr, dj50, dj51, dj52, dj53, dj54, (DnD.none k120), dj60.symm, dj62.symm, dj64, Dj.nr, Dj.nr⟩)
              · clear hJ8
                rcases Bool.eq_false_or_eq_true (q7) with b13 | b13
                · replace H := H.1 b13
                  refine WL.gno rfl rfl (okb b13) rfl ?_
                  refine WL.gno rfl rfl (okb b13) rfl ?_
                  refine WL.gno rfl rfl (okb b13) rfl ?_
                  refine WL.gno rfl rfl (okb b13) rfl ?_
                  refine WL.gno rfl rfl (okb b13) rfl ?_
                  refine WL.gno rfl rfl (okb b13) rfl ?_
                  refine WL.gno rfl rfl (okb b13) rfl ?_
                  refine WL.gno rfl rfl (okb b13) rfl ?_
                  refine WL.gno rfl rfl (okb b13) rfl ?_
                  refine WL.gno rfl rfl (okb b13) rfl ?_
                  refine WL.gno rfl rfl (okb b13) rfl ?_
                  refine WL.gno rfl rfl (okb b13) rfl ?_
                  refine WL.y rfl (Yld.pickT (okb b13) rfl) ?_
                  exact WL.weaken (by repeat (first | exact Sub.nil | refine Sub.cons rfl ?_)) (hQ _ _ ⟨true, rfl, H, gr31, k98, k99, k100, k101, k102, k103, k104, k105⟩)
                · replace H := H.2 b13
                  refine WL.gyes rfl rfl (okb b13) rfl (Yld.pure tab_ok rfl) ?_
                  refine WL.gyes rfl rfl (okb b13) rfl (Yld.pure tab_ok rfl) ?_
                  refine WL.gyes rfl rfl (okb b13) rfl (Yld.pure tab_ok rfl) ?_
                  obtain ⟨h19, H⟩ := H
                  refine WL.gyes rfl rfl (okb b13) rfl (Yld.iaddrK tab_ok k96.rd rfl rfl k2.1.symm rfl h19.1 h19.2) ?_
                  refine WL.gyes rfl rfl (okb b13) rfl (Yld.faddrK tab_ok k96.rd (iltN h19 k2.1.symm) rfl rfl rfl) ?_
                  obtain ⟨⟨f7, ⟨A_el7, n7, c_el7⟩, ⟨A_el8, n8, c_el8⟩, f8⟩, eh4, ⟨en13, ⟨en14, hR7⟩, ⟨en15, hR8⟩, en16⟩⟩ := RelD.at k97 (0, hd0, hd0, []) (0, [], [], []) (j := back2.toNat) (Nat.lt_of_lt_of_eq (iltN h19 k2.1.symm) k97.1)
                  have en13 : f7 = (l.getD back2.toNat (0, [], [], [])).1 := en13
                  subst en13
                  have en14 : n7 = ((l.getD back2.toNat (0, [], [], [])).2.1).length := en14
                  subst en14
                  have en15 : n8 = ((l.getD back2.toNat (0, [], [], [])).2.2.1).length := en15
                  subst en15
                  have en16 : f8 = (l.getD back2.toNat (0, [], [], [])).2.2.2 := en16
                  subst en16
                  refine WL.gyes rfl rfl (okb b13) rfl (Yld.iloadF (v := vs ((l.getD back2.toNat (0, [], [], [])).2.2.2)) (0, hd0, hd0, []) tab_ok k96.rd rfl rfl (iltN h19 k2.1.symm) (by rw [eh4]; rfl)) ?_
                  refine WL.putw (wants_some rfl rfl (okb b13)) rfl (Eff.lit tab_ok rfl rfl (all1c rfl all1n) rfl (by omega)) ?_
                  rintro _ w43 ⟨rfl, hB11, hg29⟩
                  obtain ⟨g_t115, hl8⟩ : ∃ g, g = w34.heap.size := ⟨_, rfl⟩
                  rw [← hl8] at hB11
                  rw [← hl8]
                  have hO11 : Own vs w43 w.heap.size 9 (some ⟨g_t115, 0, none⟩) 1 ([(l.getD back2.toNat (0, [], [], [])).2.2.2] : List (List UInt8)) := Own.ofBl hB11 (Nat.le_trans (size_le gr31) (Nat.le_of_eq hl8.symm)) (by simp [maxLen]) rfl
                  have gr40 := gr_trans gr31 hg29
                  have k167 := k98.grown hg29
                  have k168 := k99.grown hg29
                  have k169 := k100.grown hg29
                  have k170 := k101.grown hg29
                  have k171 := k102.grown hg29
                  have k172 := k103.grown hg29
                  have k173 := k104.g0 hg29
                  have k174 := k105.g0 hg29
                  refine WL.callw (wants_some rfl rfl (okb b13)) rfl rfl (W_pgraph_Graph_Needs k167.rd rfl k168 k173 k169.rd rfl k170 k171.rd rfl k172 k174 hO11.rd rfl H) ?_
                  rintro _ w44 ⟨hg30, t116, A_t116, c_t116, rfl, ht116, H⟩
                  have hb12 := ht116.ge'
                  have k175 := ht116.base (fun g hg => Nat.le_trans (size_le gr40) (hb12 g hg))
                  have gr41 := gr_trans gr40 hg30
                  have k176 := k167.grown hg30
                  have k177 := k168.grown hg30
                  have k178 := k169.grown hg30
                  have k179 := k170.grown hg30
                  have k180 := k171.grown hg30
                  have k181 := k172.grown hg30
                  have k182 := k173.g0 hg30
                  have k183 := k174.g0 hg30
                  have k184 := hO11.grown hg30
                  refine WL.gyes rfl rfl (okb b13) rfl (Yld.pure tab_ok rfl) ?_
                  refine WL.gyes rfl rfl (okb b13) rfl (Yld.pure tab_ok rfl) ?_
                  obtain ⟨h20, H⟩ := H
                  refine WL.gyes rfl rfl (okb b13) rfl (Yld.add rfl rfl h20) ?_
                  refine WL.gyes rfl rfl (okb b13) rfl (Yld.pure tab_ok rfl) ?_
                  refine WL.y rfl (Yld.pickF (okb b13) rfl) ?_
                  exact WL.weaken (by repeat (first | exact Sub.nil | refine Sub.cons rfl ?_)) (hQ _ _ ⟨!decide ((t116.length : Int) = (back2 + (1 : Int))), rfl, H, gr41, k176, k177, k178, k179, k180, k181, k182, k183⟩)
            · clear hJ7
              rcases Bool.eq_false_or_eq_true (!decide (t8512 = Er.ok)) with b14 | b14
              · replace H := H.1 b14
                refine WL.gno rfl rfl (okb b14) rfl ?_
                refine WL.gno rfl rfl (okb b14) rfl ?_
                refine WL.gno rfl rfl (okb b14) rfl ?_
                refine WL.gno rfl rfl (okb b14) rfl ?_
                refine WL.gno rfl rfl (okb b14) rfl ?_
                refine WL.gno rfl rfl (okb b14) rfl ?_
                refine WL.gno rfl rfl (okb b14) rfl ?_
                refine WL.gno rfl rfl (okb b14) rfl ?_
                refine WL.gno rfl rfl (okb b14) rfl ?_
                refine WL.gno rfl rfl (okb b14) rfl ?_
                refine WL.gno rfl rfl (okb b14) rfl ?_
                refine WL.gno rfl rfl (okb b14) rfl ?_
                refine WL.y rfl (Yld.pickT (okb b14) rfl) ?_
                exact WL.weaken (by repeat (first | exact Sub.nil | refine Sub.cons rfl ?_)) (hQ _ _ ⟨true, rfl, H, gr30, k94, k95, k91, hr_t850_l, k92, hr_t850_before, k93, hr_t850_after, ht850_makers, ht850⟩)
              · replace H := H.2 b14
                refine WL.gyes rfl rfl (okb b14) rfl (Yld.pure tab_ok rfl) ?_
                refine WL.gyes rfl rfl (okb b14) rfl (Yld.pure tab_ok rfl) ?_
                refine WL.gyes rfl rfl (okb b14) rfl (Yld.pure tab_ok rfl) ?_
                obtain ⟨h21, H⟩ := H
                refine WL.gyes rfl rfl (okb b14) rfl (Yld.sub rfl rfl h21) ?_
                obtain ⟨h22, H⟩ := H
                refine WL.gyes rfl rfl (okb b14) rfl (Yld.iaddrK tab_ok k94.rd rfl rfl k2.1.symm rfl h22.1 h22.2) ?_
                refine WL.gyes rfl rfl (okb b14) rfl (Yld.faddrK tab_ok k94.rd (iltN h22 k2.1.symm) rfl rfl rfl) ?_
                obtain ⟨⟨f9, ⟨A_el9, n9, c_el9⟩, ⟨A_el10, n10, c_el10⟩, f10⟩, eh5, ⟨en17, ⟨en18, hR9⟩, ⟨en19, hR10⟩, en20⟩⟩ := RelD.at k95 (0, hd0, hd0, []) (0, [], [], []) (j := ((t22 + (1 : Int)) - (1 : Int)).toNat) (Nat.lt_of_lt_of_eq (iltN h22 k2.1.symm) k95.1)
                have en17 : f9 = (l.getD (((t22 + (1 : Int)) - (1 : Int)).toNat) (0, [], [], [])).1 := en17
                subst en17
                have en18 : n9 = ((l.getD (((t22 + (1 : Int)) - (1 : Int)).toNat) (0, [], [], [])).2.1).length := en18
                subst en18
                have en19 : n10 = ((l.getD (((t22 + (1 : Int)) - (1 : Int)).toNat) (0, [], [], [])).2.2.1).length := en19
                subst en19
                have en20 : f10 = (l.getD (((t22 + (1 : Int)) - (1 : Int)).toNat) (0, [], [], [])).2.2.2 := en20
                subst en20
                refine WL.gyes rfl rfl (okb b14) rfl (Yld.iloadF (v := vs ((l.getD (((t22 + (1 : Int)) - (1 : Int)).toNat) (0, [], [], [])).2.2.2)) (0, hd0, hd0, []) tab_ok k94.rd rfl rfl (iltN h22 k2.1.symm) (by rw [eh5]; rfl)) ?_
                refine WL.putw (wants_some rfl rfl (okb b14)) rfl (Eff.lit tab_ok rfl rfl (all1c rfl all1n) rfl (by omega)) ?_
                rintro _ w45 ⟨rfl, hB12, hg31⟩
                obtain ⟨g_t102, hl9⟩ : ∃ g, g = w29.heap.size := ⟨_, rfl⟩
                rw [← hl9] at hB12
                rw [← hl9]
                have hO12 : Own vs w45 w.heap.size 9 (some ⟨g_t102, 0, none⟩) 1 ([(l.getD (((t22 + (1 : Int)) - (1 : Int)).toNat) (0, [], [], [])).2.2.2] : List (List UInt8)) := Own.ofBl hB12 (Nat.le_trans (size_le gr30) (Nat.le_of_eq hl9.symm)) (by simp [maxLen]) rfl
                have gr42 := gr_trans gr30 hg31
                have k185 := k94.grown hg31
                have k186 := k95.grown hg31
                have k187 := k91.grown hg31
                have k188 := hr_t850_l.grown hg31
                have k189 := k92.grown hg31
                have k190 := hr_t850_before.grown hg31
                have k191 := k93.grown hg31
                have k192 := hr_t850_after.grown hg31
                have k193 := ht850_makers.g0 hg31
                have k194 := ht850.g0 hg31
                refine WL.callw (wants_some rfl rfl (okb b14)) rfl rfl (W_pgraph_Graph_Needs k187.rd rfl k188 k193 k189.rd rfl k190 k191.rd rfl k192 k194 hO12.rd rfl H) ?_
                rintro _ w46 ⟨hg32, t103, A_t103, c_t103, rfl, ht103, H⟩
                have hb13 := ht103.ge'
                have k195 := ht103.base (fun g hg => Nat.le_trans (size_le gr42) (hb13 g hg))
                have gr43 := gr_trans gr42 hg32
                have k196 := k185.grown hg32
                have k197 := k186.grown hg32
                have k198 := k187.grown hg32
                have k199 := k188.grown hg32
                have k200 := k189.grown hg32
                have k201 := k190.grown hg32
                have k202 := k191.grown hg32
                have k203 := k192.grown hg32
                have k204 := k193.g0 hg32
                have k205 := k194.g0 hg32
                have k206 := hO12.grown hg32
                refine WL.gyes rfl rfl (okb b14) rfl (Yld.pure tab_ok rfl) ?_
                refine WL.gyes rfl rfl (okb b14) rfl (Yld.pure tab_ok rfl) ?_
                refine WL.gyes rfl rfl (okb b14) rfl (Yld.pure tab_ok rfl) ?_
                refine WL.y rfl (Yld.pickF (okb b14) rfl) ?_
                exact WL.weaken (by repeat (first | exact Sub.nil | refine Sub.cons rfl ?_)) (hQ _ _ ⟨!decide ((t103.length : Int) = (t22 + (1 : Int))), rfl, H, gr43, k196, k197, k198, k199, k200, k201, k202, k203, k204, k205⟩)
          · clear H
            refine WL.gyes rfl rfl (rfl) rfl (Yld.pure tab_ok rfl) ?_
            refine WL.gyes rfl rfl (rfl) rfl (Yld.errneq Tryd.underlying29 ht8512 rfl) ?_
            refine WL.y rfl (Yld.pickF (rfl) rfl) ?_
            exact WL.weaken (by repeat (first | exact Sub.nil | refine Sub.cons rfl ?_)) (hQ _ _ ⟨!decide (t8512 = Er.ok), rfl, rfl, rfl⟩)

end Go.Proofs.YtlonpmajnglmoaaDoor

 /- GraphRings, plainly. -/
namespace Go.Proofs.YtlonpmajnglmoaaDoor
open Go Go.RowKit
def abN (i : Nat) : List UInt8 := [UInt8.ofNat (97 + i)]
theorem ab_ok : NOk abN [] 2 := ⟨by decide, fun i hi => by
  match i, hi with
  | 0, _ => decide +kernel
  | 1, _ => decide +kernel, fun i _ => by simp [abN], by simp, by simp, by simp, by simp⟩
def oN (i : Nat) : List UInt8 := [111, UInt8.ofNat (97 + i)]
def srcS : List UInt8 := [115, 114, 99]
theorem oN_ok : NOk oN [srcS] 20 := by
  have h1 : ∀ i, i < 20 → ∀ j, j < 20 → oN i = oN j → i = j := by decide
  have h2 : ∀ i, i < 20 → validB (oN i) = true := by decide +kernel
  have h3 : validB srcS = true := by decide +kernel
  have h4 : ∀ i, i < 20 → oN i ≠ srcS := by decide
  refine ⟨h1, h2, fun i _ => by simp [oN], fun s hs => ?_, fun s hs => ?_, fun s hs => ?_, by simp⟩
  · rw [List.mem_singleton.1 hs]; exact h3
  · rw [List.mem_singleton.1 hs]; decide
  · rw [List.mem_singleton.1 hs]; exact h4
theorem oN_cut : ∀ i, i < 20 → ([111] : List UInt8) ++ ((([97, 98, 99, 100, 101, 102, 103, 104, 105, 106, 107, 108, 109, 110, 111, 112, 113, 114, 115, 116] : List UInt8).drop i).take 1) = oN i := by decide
theorem gfirst_M {K : Bool → Prop} (h : K true) : M_smithylaw22_first K := by
  refine fun _ _ => ?_
  have e : ([((1 : Int), ([] : TL), ([] : TL), ([97] : List UInt8)), (1, [], [[97]], [98])] : List GAct) = rg abN [] 2 none := by decide
  show M_graph_New ([((1 : Int), ([] : TL), ([] : TL), ([97] : List UInt8)), (1, [], [[97]], [98])] : List GAct) _ _
  rw [e]
  refine row_M ab_ok (by omega) (by omega) ?_
  refine ⟨fun b => b = true, ⟨fun _ => row_order ab_ok (by omega) (by omega) (sameInts_M (by simp) ?_), fun h => by simp at h⟩, fun q5 hq5 => ?_⟩
  · decide
  · subst hq5
    refine ⟨fun b => b = true, ⟨fun _ => row_needs (nm := abN) (k := 1) ab_ok (by omega) (by omega) (by omega) (sameInts_M (by simp) ?_), fun h => by simp at h⟩, fun q6 hq6 => by rw [hq6]; exact h⟩
    decide
theorem row_src {m : Nat} (hN : m + 1 ≤ 20) : sortU ((rg oN [srcS] (m + 1) none).flatMap fun a => srcA (mkP (rg oN [srcS] (m + 1) none) (m + 1)) a.2.2.1) = if 0 < m then [srcS] else [] := by
  refine strict_uniq (sortU_strict _) ?_ fun s => ?_
  · split
    · exact List.pairwise_singleton _ _
    · exact List.Pairwise.nil
  · rw [sortU_mem, List.mem_flatMap]
    constructor
    · rintro ⟨a, ha, hs⟩
      obtain ⟨i, hi, rfl⟩ := List.mem_map.1 ha
      have hi := List.mem_range.1 hi
      unfold srcA at hs
      obtain ⟨h1, h2⟩ := List.mem_filter.1 hs
      dsimp only at h1
      rw [if_neg (by simp), List.append_nil] at h1
      unfold ci at h1
      split at h1
      · simp at h1
      · rcases List.mem_cons.1 h1 with h1 | h1
        · rw [h1, rg_get oN_ok hN (Nat.le_refl _) (i - 1) (by omega)] at h2
          simp at h2
        · have hm : 0 < m := by omega
          rw [if_pos hm]; exact h1
    · intro hs
      split at hs
      · rename_i hm
        refine ⟨(1, [], ci oN [srcS] 1 ++ [], oN 1), List.mem_map.2 ⟨1, List.mem_range.2 (by omega), by simp⟩, ?_⟩
        rw [List.mem_singleton.1 hs]
        unfold srcA
        refine List.mem_filter.2 ⟨by simp [ci], ?_⟩
        cases hg : mget (mkP (rg oN [srcS] (m + 1) none) (m + 1)) srcS with
        | none => rfl
        | some v =>
          obtain ⟨j, g1, _, g3⟩ := rg_mget oN_ok hN (Nat.le_refl _) hg
          exact absurd g3 (oN_ok.exn srcS (by simp) j (by omega))
      · simp at hs
theorem rings_ok2 {n back : Int} {ring : Bool} {K : Bool → Prop} (hn : In .i64 n) (hb : In .i64 back) (H : K true) : M_smithylaw22_GraphRings n back ring K := by
  refine gfirst_M ⟨fun h => by simp at h, fun _ => numG_M hn (by omega) (by omega) fun t t0 t1 => ⟨by simp only [In]; omega, numG_M hb (by omega) (by omega) fun c c0 c1 => ?_⟩⟩
  obtain ⟨m, rfl⟩ : ∃ m : Nat, t = m := ⟨t.toNat, by omega⟩
  obtain ⟨b, rfl⟩ : ∃ b : Nat, c = b := ⟨c.toNat, by omega⟩
  have hN : m + 1 ≤ 20 := by omega
  have hbm : b < m + 1 := by omega
  refine ⟨fun l i => 0 ≤ i ∧ i ≤ m + 1 ∧ l = rg oN [srcS] i.toNat none, fun _ i => (m + 1 : Int).toNat - i.toNat, ⟨by omega, by omega, rfl⟩, fun l i ⟨a0, a1, a2⟩ => ⟨fun hlt => ?_, fun hge => ?_⟩⟩
  · have hi : i.toNat < 20 := by omega
    have hii : (i.toNat : Int) = i := by omega
    have hll : l.length = i.toNat := by rw [a2, rg_len]
    have hcut := oN_cut _ hi
    have h1 : ((i + 1).toNat - i.toNat) = 1 := by omega
    rw [h1, hcut]
    refine ⟨by simp only [In]; omega, ⟨by omega, by omega, by simp only [List.length_cons, List.length_nil]; omega⟩, by simp only [List.length_cons, List.length_nil, List.length_take, List.length_drop]; omega, fun _ => ⟨fun a => a = ci oN [srcS] i.toNat, ⟨fun h0 => ⟨by simp only [In]; omega, ⟨by omega, by omega⟩, ?_⟩, fun h0 => ?_⟩, fun a ha => ⟨by rw [List.length_singleton]; omega, by simp only [In]; omega, ⟨by omega, by omega, ?_⟩, by (try dsimp only); omega⟩⟩⟩
    · have hx : (i - 1).toNat = i.toNat - 1 := by omega
      rw [hx, a2]
      show [((rg oN [srcS] i.toNat none).getD (i.toNat - 1) az).2.2.2, srcS] = _
      have hlt0 : i.toNat - 1 < i.toNat := by omega
      have hne0 : ¬ i.toNat = 0 := by omega
      rw [rg_at hlt0]
      show [oN (i.toNat - 1), srcS] = ci oN [srcS] i.toNat
      unfold ci
      rw [if_neg hne0]
    · have hz : i.toNat = 0 := by omega
      rw [hz]; rfl
    · rw [ha, a2, show (i + 1).toNat = i.toNat + 1 by omega]
      unfold rg
      rw [List.range_succ, List.map_append]
      congr 1
      show [(1, ([] : TL), ci oN [srcS] i.toNat, oN i.toNat)] = [_]
      simp
  · have hi : i.toNat = m + 1 := by omega
    rw [hi] at a2
    have hll : l.length = m + 1 := by rw [a2, rg_len]
    have hx : ((m : Int) + 1 - 1).toNat = m := by omega
    have hgb : l.getD b (0, [], [], []) = (1, [], ci oN [srcS] b, oN b) := by
      rw [a2]
      show (rg oN [srcS] (m + 1) none).getD b az = _
      rw [rg_at hbm]; simp
    have hgm : l.getD m (0, [], [], []) = (1, [], ci oN [srcS] m, oN m) := by
      rw [a2]
      show (rg oN [srcS] (m + 1) none).getD m az = _
      rw [rg_at (by omega)]; simp
    rw [hx, Int.toNat_natCast, hgb, hgm]
    dsimp only
    have hcl : (ci oN [srcS] b).length ≤ 2 := by unfold ci; split <;> simp
    refine ⟨fun hr => ⟨fun t60 => t60 = ci oN [srcS] b, ⟨⟨by omega, by omega⟩, by simp only [In]; omega, ⟨by omega, by omega⟩, gtexts_M (by omega) ⟨by rw [List.length_singleton]; omega, rfl⟩⟩, fun t60 ht => ⟨⟨by omega, by omega⟩, ?_⟩⟩, fun hr => ?_⟩
    · subst ht
      have hset : l.set b ((1 : Int), ([] : TL), ci oN [srcS] b ++ [oN m], oN b) = rg oN [srcS] (m + 1) (some b) := by
        rw [a2]
        unfold rg
        rw [rng_set]
        refine List.map_congr_left fun k _ => ?_
        by_cases e : b = k
        · subst e; rw [if_pos rfl, if_pos rfl]; rfl
        · rw [if_neg e, if_neg (by simp), if_neg (fun e2 => e (Option.some.inj e2).symm)]
      show M_graph_New (l.set b ((1 : Int), ([] : TL), ci oN [srcS] b ++ [oN m], oN b)) _ _
      rw [hset]
      refine ring_M oN_ok hN (by omega) hbm ⟨fun q => q = true, ⟨fun _ => sameAt_M (by omega) rfl, fun h => by simp at h⟩, fun q hq => by rw [hq]; exact H⟩
    · rw [a2]
      refine row_M oN_ok hN (by omega) ?_
      refine ⟨fun b => b = false, ⟨fun h => by simp at h, fun _ => ⟨by simp only [In]; omega, ⟨by omega, by rw [rg_len]; omega⟩, row_needs oN_ok hN (by omega) (by omega) ?_⟩⟩, fun q7 hq7 => ?_⟩
      · rw [List.length_map, List.length_range]; simp
      · subst hq7
        refine ⟨fun b => b = false, ⟨fun h => by simp at h, fun _ => ⟨⟨by omega, by rw [rg_len]; omega⟩, row_needs oN_ok hN (by omega) hbm ⟨by simp only [In]; omega, ?_⟩⟩⟩, fun q8 hq8 => ⟨fun h => (by rw [hq8] at h; cases h), fun _ => ?_⟩⟩
        · rw [List.length_map, List.length_range]; simp
        · refine row_order oN_ok hN (by omega) ⟨fun i2 => 0 ≤ i2 ∧ i2 ≤ m + 1, fun i2 => (m + 1 : Int).toNat - i2.toNat, ⟨by omega, by omega⟩, fun i2 ⟨b0, b1⟩ => ⟨fun hlt => ?_, fun hge2 => ?_⟩⟩
          · have hg : ((List.range (m + 1)).map fun (j : Nat) => (j : Int)).getD i2.toNat 0 = i2 := by
              rw [rng_getD (by omega)]; omega
            rw [hg]
            exact ⟨⟨b0, by rw [List.length_map, List.length_range]; omega⟩, fun hne => absurd rfl hne, fun _ => ⟨by simp only [In]; omega, ⟨by omega, by omega⟩, by (try dsimp only); omega⟩⟩
          · refine ⟨fun src => src = if 0 < m then [srcS] else [], ⟨fun h0 => by rw [if_pos (by omega)]; rfl, fun h0 => by rw [if_neg (by omega)]⟩, fun src hsrc => ?_⟩
            refine ⟨fun q => q = true, ⟨fun _ => sources_M (by rw [rg_len]; omega) (fun a ha => ?_) (sameTexts_M ?_ ?_), fun h => by simp at h⟩, fun q9 hq9 => ?_⟩
            · have hs := rg_sz oN_ok hN a ha
              refine ⟨?_, hs.1⟩
              obtain ⟨i, _, rfl⟩ := List.mem_map.1 ha
              have := rg_inl (nm := oN) (ex := [srcS]) (i := i) (b := none) (n := m + 1) oN_ok
              dsimp only; omega
            · rw [row_src hN]; split <;> simp
            · rw [row_src hN, hsrc]; simp
            · subst hq9
              refine ⟨fun q => q = true, ⟨fun _ => ⟨by simp only [In]; omega, ?_⟩, fun h => by simp at h⟩, fun q10 hq10 => by rw [hq10]; exact H⟩
              have hA : (aftL (rg oN [srcS] (m + 1) none) (m + 1)).getD ((m : Int) + 1 - 1).toNat [] = [] := by
                unfold aftL
                rw [rg_len, hx, rng_getD (by omega), row_aft oN_ok hN (m + 1) (Nat.le_refl _), if_neg (by omega)]
              refine after_M ⟨by omega, by rw [rg_len]; omega⟩ (by unfold aftL; rw [List.length_map, List.length_range]) (by rw [hA]; simp) ?_
              rw [hA]
              exact sameInts_M (by simp) (by simp)
end Go.Proofs.YtlonpmajnglmoaaDoor


 