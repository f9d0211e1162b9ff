/- NumRings, plainly. -/
import Derived.Test.YtfibkajdahaggaaDoorGNa
namespace Go.Proofs.YtfibkajdahaggaaDoor
open Go Go.RowKit
theorem cutm_len (s : List UInt8) : (cutm s).length ≤ s.length := by unfold cutm; split <;> simp
theorem parse_M {s : List UInt8} {K : Int → Nat → Er → Prop} (hs : s.length ≤ maxLen) (h : ∀ z m e, (e = Er.ok ∧ shape s = true ∧ z = sval s ∧ m = (cutm s).length ∧ m ≤ 2400) ∨ (e ≠ Er.ok ∧ z = 0 ∧ m = 0) → K z m e) : M_num_Parse s K :=
  ⟨hs, fun h1 h2 => h _ _ _ (.inl ⟨rfl, h1, rfl, rfl, h2⟩), fun _ _ => h _ _ _ (.inr ⟨by simp, rfl, rfl⟩), fun _ => h _ _ _ (.inr ⟨by simp, rfl, rfl⟩)⟩
set_option maxRecDepth 10000 in
theorem rings_ok {s t u : List UInt8} {K : Bool → Prop} (hs : s.length ≤ maxLen) (ht : t.length ≤ maxLen) (hu : u.length ≤ maxLen) (H : K true) : M_smithylaw9_NumRings s t u K := by
  unfold M_smithylaw9_NumRings M_smithylaw9_first
  refine ⟨fun h => by simp at h, fun _ => ⟨fun _ => H, fun hlen => ?_⟩⟩
  simp only [Bool.not_true, Bool.or_false, Bool.or_eq_false_iff, decide_eq_false_iff_not] at hlen
  refine parse_M hs fun x m1 e1 h1 => parse_M ht fun y m2 e2 h2 => parse_M hu fun z m3 e3 h3 => ⟨fun _ => H, fun he => ?_⟩
  simp only [Bool.or_eq_false_iff, Bool.not_eq_false', decide_eq_true_eq] at he
  obtain ⟨⟨rfl, rfl⟩, rfl⟩ := he
  have c1 := cutm_len s
  have c2 := cutm_len t
  have c3 := cutm_len u
  have b1 : m1 ≤ 200 := by rcases h1 with h1 | h1 <;> omega
  have b2 : m2 ≤ 200 := by rcases h2 with h2 | h2 <;> omega
  have b3 : m3 ≤ 200 := by rcases h3 with h3 | h3 <;> omega
  clear h1 h2 h3 c1 c2 c3 hlen hs ht hu
  refine ⟨by omega, by omega, by omega, by omega, fun q => q = false, ⟨fun h => ?_, fun _ => ⟨by omega, by omega, by omega, by omega, ?_⟩⟩, ?_⟩
  · rw [Int.add_comm y x] at h; simp at h
  · rw [Int.mul_comm y x]; simp
  rintro _ rfl
  refine ⟨fun q => q = false, ⟨nofun, fun _ => ⟨by omega, by omega, by omega, ?_⟩⟩, ?_⟩
  · rw [show x + y - y = x by omega]; simp
  rintro _ rfl
  refine ⟨fun q => q = false, ⟨nofun, fun _ => ⟨by omega, by omega, by omega, by omega, by omega, by omega, by omega, ?_⟩⟩, ?_⟩
  · rw [Int.add_mul]; simp
  rintro _ rfl
  refine ⟨fun q => q = false, ⟨nofun, fun _ => ⟨by omega, by omega, by omega, by omega, by omega, ?_⟩⟩, ?_⟩
  · rw [Int.mul_assoc]; simp
  rintro _ rfl
  refine ⟨nofun, fun _ => ⟨by omega, fun q hq => ⟨by omega, fun r hr => ?_⟩⟩⟩
  refine ⟨fun h => ⟨by omega, ?_⟩, fun h => ?_⟩
  · have hy : y = 0 := by simpa using h
    rw [hy, show txt 0 = [48] from rfl]
    simpa using H
  · have hy : y ≠ 0 := by simpa using h
    obtain ⟨r', hq⟩ := hq hy
    obtain ⟨q', hr⟩ := hr hy
    have hqq := (Floor.unique hq hr).1
    subst hqq
    refine ⟨fun b m e => (∃ r, Floor (x * y) y b r) ∧ m ≤ 1000 ∧ e = true, ⟨by omega, by omega, fun z hz => ⟨hz hy, by omega, by simpa using hy⟩⟩, ?_⟩
    rintro b mb _ ⟨⟨rb, hb⟩, hmb, rfl⟩
    have hfl : Floor (x * y) y x 0 := ⟨by omega, by rcases Int.lt_trichotomy y 0 with h | h | h <;> omega⟩
    obtain rfl := (Floor.unique hb hfl).1
    have hx : q * y + r = b := hr.1.symm
    refine ⟨by omega, by omega, by omega, fun q => q = true, ⟨fun _ => ⟨by omega, by simp⟩, fun h => ?_⟩, ?_⟩
    · rw [hx] at h; simp at h
    rintro _ rfl
    refine ⟨fun q => q = true, ⟨fun _ => ⟨by omega, by omega, by omega, by rw [Int.neg_neg]; simp⟩, nofun⟩, ?_⟩
    rintro _ rfl
    refine ⟨fun q => q = true, ⟨fun _ => ⟨by omega, by omega, by rw [Int.sub_self]; rfl⟩, nofun⟩, ?_⟩
    rintro _ rfl
    exact H
end Go.Proofs.YtfibkajdahaggaaDoor
