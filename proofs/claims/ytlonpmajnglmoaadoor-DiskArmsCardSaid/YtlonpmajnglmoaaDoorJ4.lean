/- Texts of this claim, joined by a program: DiskL. -/
import Derived.Test.YtlonpmajnglmoaaDoorJ3
/- DiskArms and DiskFiles, plainly. -/
namespace Go.Proofs.YtlonpmajnglmoaaDoor
open Go Go.RowKit
theorem numR_M {n below : Int} {K : Int → Prop} (hn : In .i64 n) (hb : 0 < below) (hb2 : below ≤ 100000) (h : ∀ m, 0 ≤ m → m < below → K m) : M_smithyworld_Number n below K := by
  unfold M_smithyworld_Number
  have h1 := Int.tmod_lt_of_pos n hb
  have h2 := Int.lt_tmod_of_pos n hb
  simp only [In] at hn
  refine ⟨by omega, by simp only [In]; omega, by omega, ?_⟩
  have h3 : 0 ≤ n.tmod below + below := by omega
  rw [Int.tmod_eq_emod_of_nonneg h3]
  exact h _ (Int.emod_nonneg _ (by omega)) (Int.emod_lt_of_pos _ hb)
theorem new0_M {K0 : Er → Prop} {K : DF → Int → Int → Bool → Er → Prop} (h : K [] 0 0 false .ok) : M_disk_New [] K0 K := by
  intro _
  refine ⟨fun i fs => i = 0 ∧ fs = [], fun _ _ => 0, ⟨rfl, rfl⟩, fun i fs ⟨a0, a1⟩ => ⟨fun hlt => ?_, fun _ => ⟨fun hb => ?_, fun _ => by rw [a1]; exact h⟩⟩⟩
  · subst a0; simp at hlt
  · simp at hb
theorem new1_M {p text : List UInt8} {K0 : Er → Prop} {K : DF → Int → Int → Bool → Er → Prop} (hp : p.length ≤ 1000) (hv : validB p = true) (ht : text.length ≤ 65536) (h : K [(p, (text, true, text, true, []))] 0 0 false .ok) : M_disk_New [(p, text)] K0 K := by
  intro _
  refine ⟨fun i fs => (i = 0 ∧ fs = []) ∨ (i = 1 ∧ fs = [(p, (text, true, text, true, []))]), fun i _ => 1 - i.toNat, .inl ⟨rfl, rfl⟩, fun i fs hi => ⟨fun hlt => ?_, fun hge => ?_⟩⟩
  · have hl : i < 1 := by simpa using hlt
    rcases hi with ⟨rfl, rfl⟩ | ⟨rfl, _⟩
    · refine ⟨⟨by omega, hlt⟩, valid_M (by simp; omega) ⟨fun _ => by simp [maxLen]; omega, fun hb => ?_, fun _ => ⟨by simp [maxLen]; omega, by simp only [In]; omega, .inr ⟨rfl, rfl⟩, by (try dsimp only); omega⟩⟩⟩
      exfalso
      have hv' : validB (([(p, text)] : List (List UInt8 × List UInt8)).getD (0 : Int).toNat ([], [])).1 = true := hv
      rw [hv'] at hb
      simp [mget] at hb
      omega
    · omega
  · refine ⟨fun hb => by simp at hb, fun _ => ?_⟩
    have hl : ¬ i < 1 := by simpa using hge
    rcases hi with ⟨rfl, _⟩ | ⟨rfl, rfl⟩
    · omega
    · exact h
theorem sort1 (x : List UInt8) : sortB [x] = [x] := by unfold sortB; simp
theorem dfirst_M {K : Bool → Prop} (h : K true) : M_smithylaw3_first K := by
  have va : validB ([97] : List UInt8) = true := by decide +kernel
  refine new0_M ⟨fun h => absurd rfl h, fun _ => ?_⟩
  refine put0_M (by simp) (by omega) (by omega) (by simp) (by simp) (by simp [fil, mget, fz]) (by simp [fil, mget, fz]) ?_
  rw [dlay_ok va (by simp) (by simp)]
  show M_pdisk_Disk_Sync [([97], ([120], true, [], false, [(0, [120])]))] _ _ _ _ _
  refine sync0_M (by simp) (by omega) (by omega) ?_
  have e1 : dsync [([97], ([120], true, [], false, [((0 : Int), [120])]))] [97] = (.ok, [([97], ([120], true, [120], true, []))]) := by
    unfold dsync
    rw [if_neg (by rw [va]; simp)]
    rfl
  rw [e1]
  refine put0_M (by simp) (by omega) (by omega) (by simp) (by simp) (by decide) (by decide) ?_
  rw [dlay_ok va (by simp) (by decide)]
  show M_pdisk_Disk_Arm [([97], ([120, 121, 122], true, [120], true, [(1, [121, 122])]))] _ _ _ _ _
  show M_pdisk_Disk_Sync _ _ 1 _ _ _
  refine sync_M (by simp) (by omega) (by omega) (by omega) fun o l d => ⟨fun e he hne => ?_, fun he => ?_⟩
  · simp [dcall] at he
    obtain ⟨rfl, rfl, rfl, rfl⟩ := he
    refine rise_M (by simp) (by simp [maxLen]) (by simp only [In]; omega) (fun k => ?_) ?_
    · unfold fil mget SmallF
      split
      · simp
      · simp [mget, fz]
    · rw [if_pos rfl]
      have e2 : riseAll (max0 1) (sortB (([([97], (([120, 121, 122], true, [120], true, [((1 : Int), [121, 122])]) : Fil))] : DF).map (·.1))) (max0 0) [([97], ([120, 121, 122], true, [120], true, [(1, [121, 122])]))] = [([97], ([120, 121], true, [120, 121], true, []))] := by
        show riseAll (max0 1) (sortB [[97]]) _ _ = _
        rw [sort1]
        rfl
      rw [e2]
      refine dread0_M (by simp [maxLen]) (by omega) (by omega) ?_
      have e3 : dtext [([97], ([120, 121], true, [120, 121], true, []))] [97] = [120, 121] := by decide +kernel
      have e4 : thereB [([97], ([120, 121], true, [120, 121], true, []))] [97] = true := by decide +kernel
      rw [e3, e4]
      refine ⟨fun b => b = true, ⟨fun _ => is_M rfl, fun h => by simp at h⟩, fun q hq => ?_⟩
      rw [hq]
      simpa using h
  · simp [dcall] at he
/-- DiskArms' counters: n: after how many calls it falls (0: never); i calls have been -/
def armO (n i : Int) : Int := if 0 < n ∧ n ≤ i then n else i
theorem arms_ok {n calls : Int} {K : Bool → Prop} (hn : In .i64 n) (hc : In .i64 calls) (H : K true) : M_smithylaw3_DiskArms n calls K := by
  have va : validB ([97] : List UInt8) = true := by decide +kernel
  refine dfirst_M ⟨fun h => by simp at h, fun _ => numR_M hn (by omega) (by omega) fun n n0 n1 => numR_M hc (by omega) (by omega) fun calls c0 c1 => ?_⟩
  refine new1_M (by simp) va (by simp) ⟨fun h => absurd rfl h, fun _ => ?_⟩
  have hthere : thereB [([97], ([120], true, [120], true, []))] [97] = true := by decide +kernel
  have htext : dtext [([97], ([120], true, [120], true, []))] [97] = [120] := by decide +kernel
  unfold M_pdisk_Disk_Arm
  rw [if_neg (by omega : ¬ n < 0)]
  refine ⟨fun i fs ops left down => 0 ≤ i ∧ i ≤ calls ∧ fs = [([97], ([120], true, [120], true, []))] ∧ ops = armO n i ∧ left = (if 0 < n then (if i < n then n - i else 0) else 0) ∧ down = decide (0 < n ∧ n ≤ i), fun i _ _ _ _ => calls.toNat - i.toNat, ⟨by omega, c0, rfl, ?_, ?_, ?_⟩, fun i fs ops left down ⟨a0, a1, a2, a3, a4, a5⟩ => ⟨fun hlt => ?_, fun hge => ?_⟩⟩
  · unfold armO; rw [if_neg (by omega)]
  · split <;> (try split) <;> omega
  · rw [decide_eq_false (by omega)]
  · subst a2
    have hcall : dcall ops left down = (if 0 < n ∧ n - 1 ≤ i then (.e 15 : Er) else .ok, armO n (i + 1), (if 0 < n then (if i + 1 < n then n - (i + 1) else 0) else 0), decide (0 < n ∧ n ≤ i + 1)) := by
      rw [a3, a4, a5]
      unfold dcall armO
      by_cases h1 : 0 < n
      · by_cases h2 : n ≤ i
        · simp only [h1, h2, and_self, decide_true, if_true, true_and]
          rw [if_pos (by omega : n - 1 ≤ i), if_neg (by omega : ¬ i < n), if_pos (by omega : n ≤ i + 1), if_neg (by omega : ¬ i + 1 < n), decide_eq_true (by omega : n ≤ i + 1)]
        · have e1 : decide (0 < n ∧ n ≤ i) = false := decide_eq_false (by omega)
          rw [e1]
          simp only [Bool.false_eq_true, if_false, h1, h2, and_false, true_and, if_true]
          rw [if_pos (by omega : i < n), if_pos (by omega : 0 < n - i)]
          by_cases h3 : n - i = 1
          · rw [if_pos h3, if_pos (by omega : n - 1 ≤ i), if_pos (by omega : n ≤ i + 1), if_neg (by omega : ¬ i + 1 < n), decide_eq_true (by omega : n ≤ i + 1)]
            have : n = i + 1 := by omega
            rw [this]
          · rw [if_neg h3, if_neg (by omega : ¬ n - 1 ≤ i), if_neg (by omega : ¬ n ≤ i + 1), if_pos (by omega : i + 1 < n), decide_eq_false (by omega : ¬ n ≤ i + 1)]
            have : n - i - 1 = n - (i + 1) := by omega
            rw [this]
      · have e1 : decide (0 < n ∧ n ≤ i) = false := decide_eq_false (by omega)
        have e2 : decide (0 < n ∧ n ≤ i + 1) = false := decide_eq_false (by omega)
        rw [e1, e2]
        simp [h1]
    have hb : 0 ≤ armO n i ∧ armO n i ≤ 100 := by unfold armO; split <;> omega
    refine dreadC_M (by simp [maxLen]) (by omega) (by omega) (by rw [a4]; split <;> (try split) <;> omega) ?_
    rw [hcall, hthere]
    dsimp only
    have hE : (decide ((if 0 < n ∧ n - 1 ≤ i then (.e 15 : Er) else .ok) = .ok) && true) = !(decide (0 < n) && decide (n - 1 ≤ i)) := by
      by_cases h1 : 0 < n ∧ n - 1 ≤ i
      · rw [if_pos h1, decide_eq_true h1.1, decide_eq_true h1.2]; rfl
      · rw [if_neg h1]
        have : (decide (0 < n) && decide (n - 1 ≤ i)) = false := by rw [← Bool.decide_and]; exact decide_eq_false h1
        rw [this]; rfl
    rw [hE]
    have hD : decide (0 < n ∧ n ≤ i + 1) = (decide (0 < n) && decide (n - 1 ≤ i)) := by
      rw [← Bool.decide_and]
      apply Bool.eq_iff_iff.2
      simp only [decide_eq_true_eq]
      omega
    have hX : ∀ b : Bool, (decide (0 < n) && decide (n - 1 ≤ i)) = b → (if 0 < n ∧ n - 1 ≤ i then (.e 15 : Er) else .ok) = (if b = true then (.e 15 : Er) else .ok) := fun b hb => by
      by_cases h1 : 0 < n ∧ n - 1 ≤ i
      · rw [if_pos h1, ← hb, decide_eq_true h1.1, decide_eq_true h1.2]; rfl
      · rw [if_neg h1]
        have : (decide (0 < n) && decide (n - 1 ≤ i)) = false := by rw [← Bool.decide_and]; exact decide_eq_false h1
        rw [← hb, this]; rfl
    refine ⟨fun hp => by simp only [decide_eq_true_eq] at hp; simp only [In]; omega, fun b => b = false, ⟨fun h => ?_, fun _ => ⟨fun hd => ?_, fun _ => rfl⟩⟩, fun q4 hq4 => ?_⟩
    · revert h
      cases (decide (0 < n) && decide (n - 1 ≤ i)) <;> simp
    · rw [hX _ hd]
      exact is_M rfl
    · subst hq4
      refine ⟨fun b => b = false, ⟨fun h => ?_, fun _ => ?_⟩, fun q6 hq6 => ⟨fun h => (by rw [hq6] at h; cases h), fun _ => ⟨by simp only [In]; omega, ⟨by omega, by omega, rfl, rfl, rfl, rfl⟩, by (try dsimp only); omega⟩⟩⟩
      · exfalso
        revert h
        cases hd : (decide (0 < n) && decide (n - 1 ≤ i))
        · rw [hX _ hd]; simp
        · simp
      · show (!(decide (0 < n ∧ n ≤ i + 1) == (decide (0 < n) && decide (n - 1 ≤ i)))) = false
        rw [hD]; simp
  · obtain rfl : i = calls := by omega
    subst a2
    refine ⟨fun w => w = armO n i, ⟨fun hp => ?_, fun hp => ?_⟩, fun want hw => ?_⟩
    · unfold armO
      by_cases h1 : n < i
      · rw [if_pos h1, if_pos (by omega)]
      · rw [if_neg h1]
        split <;> omega
    · unfold armO; rw [if_neg (by omega)]
    · refine ⟨fun hne => absurd (a3.trans hw.symm) hne, fun _ => ?_⟩
      refine rise_M (by simp) (by simp [maxLen]) (by simp only [In]; omega) (fun k => ?_) ?_
      · unfold fil mget SmallF
        split
        · simp
        · simp [mget, fz]
      · by_cases hd : 0 < n ∧ n ≤ i
        · rw [a5, if_pos (decide_eq_true hd)]
          have e2 : riseAll (max0 0) (sortB (([([97], (([120], true, [120], true, []) : Fil))] : DF).map (·.1))) (max0 0) [([97], ([120], true, [120], true, []))] = [([97], ([120], true, [120], true, []))] := by
            show riseAll (max0 0) (sortB [[97]]) _ _ = _
            rw [sort1]
            rfl
          rw [e2]
          have hb : 0 ≤ armO n i ∧ armO n i ≤ 100 := by unfold armO; split <;> omega
          refine dread0_M (by simp [maxLen]) (by omega) (by omega) ?_
          rw [hthere, htext]
          refine ⟨fun h => ?_, fun _ => ⟨fun b => b = true, ⟨fun _ => rfl, fun h => by simp at h⟩, fun q hq => by rw [hq]; exact H⟩⟩
          exfalso
          rw [Bool.and_eq_true, decide_eq_true_eq, decide_eq_true_eq] at h
          omega
        · rw [a5, if_neg (by simpa using hd)]
          have hb : 0 ≤ armO n i ∧ armO n i ≤ 100 := by unfold armO; split <;> omega
          refine dreadC_M (by simp [maxLen]) (by omega) (by omega) (by rw [a4]; split <;> (try split) <;> omega) ?_
          rw [hthere, htext]
          refine ⟨fun h => ⟨fun _ => by simp only [In]; omega, ?_⟩, fun h => ?_⟩
          · rw [Bool.and_eq_true, decide_eq_true_eq, decide_eq_true_eq] at h
            have e : (decide ((dcall ops left (decide (0 < n ∧ n ≤ i))).1 = .ok) == decide (i < n - 1)) = true := by
              have hdf : decide (0 < n ∧ n ≤ i) = false := decide_eq_false hd
              rw [a4, hdf, if_pos h.1, if_pos h.2]
              unfold dcall
              simp only [Bool.false_eq_true, if_false]
              rw [if_pos (by omega : 0 < n - i)]
              by_cases h3 : n - i = 1
              · rw [if_pos h3, decide_eq_false (by omega : ¬ i < n - 1)]; rfl
              · rw [if_neg h3, decide_eq_true (by omega : i < n - 1)]; rfl
            rw [e]; exact H
          · have hn0 : ¬ 0 < n := fun hp => by
              have : i < n := by omega
              rw [decide_eq_true hp, decide_eq_true this] at h; cases h
            have hdf : decide (0 < n ∧ n ≤ i) = false := decide_eq_false hd
            have e : dcall ops left (decide (0 < n ∧ n ≤ i)) = (.ok, ops + 1, 0, false) := by
              rw [a4, hdf, if_neg hn0]
              simp [dcall]
            rw [e]
            refine ⟨fun b => b = true, ⟨fun _ => rfl, fun h => by simp at h⟩, fun q hq => by rw [hq]; exact H⟩
end Go.Proofs.YtlonpmajnglmoaaDoor


 