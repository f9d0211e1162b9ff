/- Texts of this claim, joined by a program: ShaS. -/
import Derived.Test.YtilphcippnfklaaDoorJ4
/- ShaSays, plainly. -/
namespace Go.Proofs.YtilphcippnfklaaDoor
open Go Go.RowKit
theorem or_lo (b : Nat) (h : b < 16) : bits .or .u8 (shlV .u8 ((0 : Nat) : Int) 4) (b : Int) = b := by
  have : ∀ b : Fin 16, bits .or .u8 (shlV .u8 ((0 : Nat) : Int) 4) (b.val : Int) = (b.val : Int) := by decide
  exact this ⟨b, h⟩
theorem u8_small (a : Nat) (h : a < 16) : (UInt8.ofNat a).toNat = a := by rw [UInt8.toNat_ofNat']; omega
theorem set_mid {L : List UInt8} {n m : Nat} (hL : L.length = n) (x y : UInt8) (r : List UInt8) (hr : m = n) : (L ++ x :: r).set m y = L ++ y :: r := by
  subst hr; subst hL
  rw [List.set_append_right _ _ (by omega), Nat.sub_self, List.set_cons_zero]
theorem getD_mid {L : List UInt8} {n m : Nat} (hL : L.length = n) (x : UInt8) (r : List UInt8) (hr : m = n) : (L ++ x :: r).getD m 0 = x := by
  subst hr; subst hL
  simp [List.getD]
theorem rep_cons {n : Nat} (h : n < 32) : List.replicate (32 - n) (0 : UInt8) = 0 :: List.replicate (31 - n) 0 := by
  rw [show 32 - n = (31 - n) + 1 by omega, List.replicate_succ]
def UI (s : List UInt8) (p : Nat) (out : List UInt8) : Prop :=
  (∃ n L, p = 2 * n ∧ parN s n = some L ∧ out = L ++ List.replicate (32 - n) 0) ∨
  (∃ n L a, p = 2 * n + 1 ∧ parN s n = some L ∧ digV (s.getD (2 * n) 0) = some a ∧ out = L ++ UInt8.ofNat a :: List.replicate (31 - n) 0)
theorem UI.none {s : List UInt8} {p : Nat} {out : List UInt8} (h : UI s p out) (hp : p < 64) (hl : s.length = 64) (hd : digV (s.getD p 0) = none) : parS s = none := by
  unfold parS
  rw [if_pos hl]
  rcases h with ⟨n, L, rfl, h1, h2⟩ | ⟨n, L, a, rfl, h1, h2, h3⟩
  · have := parN_none s (n + 1) (by rw [parN, h1, hd]) (31 - n)
    rwa [show n + 1 + (31 - n) = 32 by omega] at this
  · have := parN_none s (n + 1) (by rw [parN, h1, h2, hd]) (31 - n)
    rwa [show n + 1 + (31 - n) = 32 by omega] at this
theorem UI.step {s : List UInt8} {p b : Nat} {out : List UInt8} (h : UI s p out) (hp : p < 64) (hd : digV (s.getD p 0) = some b) :
    (0 ≤ bits .or .u8 (shlV .u8 ((out.getD (p / 2) 0).toNat : Int) 4) (b : Int) ∧ bits .or .u8 (shlV .u8 ((out.getD (p / 2) 0).toNat : Int) 4) (b : Int) ≤ 255) ∧ UI s (p + 1) (out.set (p / 2) (UInt8.ofNat (bits .or .u8 (shlV .u8 ((out.getD (p / 2) 0).toNat : Int) 4) (b : Int)).toNat)) := by
  have hb := digV_lt hd
  rcases h with ⟨n, L, rfl, h1, h2⟩ | ⟨n, L, a, rfl, h1, h2, h3⟩
  · have hL := parN_len s n L h1
    rw [rep_cons (by omega)] at h2
    have e0 : out.getD (2 * n / 2) 0 = 0 := by rw [h2]; exact getD_mid hL _ _ (by omega)
    have e1 : ((0 : UInt8).toNat : Int) = ((0 : Nat) : Int) := rfl
    rw [e0, e1, or_lo b hb]
    refine ⟨by omega, .inr ⟨n, L, b, rfl, h1, hd, ?_⟩⟩
    rw [h2, set_mid hL _ _ _ (by omega), Int.toNat_natCast]
  · have hL := parN_len s n L h1
    have ha := digV_lt h2
    have e0 : (out.getD ((2 * n + 1) / 2) 0).toNat = a := by rw [h3, getD_mid hL _ _ (by omega), u8_small a ha]
    rw [e0]
    have ho := or_in ha hb
    have hlt := (u8v (bits .or .u8 (shlV .u8 (a : Int) 4) (b : Int))).toNat_lt
    refine ⟨by omega, .inl ⟨n + 1, L ++ [u8v (bits .or .u8 (shlV .u8 (a : Int) 4) (b : Int))], by omega, by rw [parN, h1, h2, hd], ?_⟩⟩
    rw [h3, set_mid hL _ _ _ (by omega)]
    have : UInt8.ofNat (bits .or .u8 (shlV .u8 (a : Int) 4) (b : Int)).toNat = u8v (bits .or .u8 (shlV .u8 (a : Int) 4) (b : Int)) := by
      rw [← ho, Int.toNat_natCast, UInt8.ofNat_toNat, ho]
    rw [this]
    simp
theorem unhex_M {s : List UInt8} {K : List UInt8 → Bool → Prop} (h1 : ∀ l, parS s = some l → K l true) (h0 : parS s = none → K (List.replicate 32 0) false) : M_smithyref17_unhex s K := by
  refine ⟨fun hne => h0 (by unfold parS; rw [if_neg (by omega)]), fun he => ?_⟩
  have hl : s.length = 64 := by omega
  refine ⟨fun i _ out => 0 ≤ i ∧ i ≤ 64 ∧ UI s i.toNat out, fun i _ _ => 64 - i.toNat, ⟨by omega, by omega, .inl ⟨0, [], rfl, rfl, rfl⟩⟩, fun i t out ⟨a0, a1, a2⟩ => ⟨fun hlt => ⟨by omega, ?_⟩, fun hge => ?_⟩⟩
  · generalize hc : s.getD i.toNat 0 = c
    refine ⟨fun d => ∃ b : Nat, digV c = some b ∧ d = b, ⟨fun h => ?_, fun h => ⟨fun h' => ?_, fun h' => ?_⟩⟩, ?_⟩
    · simp only [Bool.and_eq_true, decide_eq_true_eq] at h
      exact ⟨by simp only [In]; omega, c.toNat - 48, by unfold digV; rw [if_pos (by omega)], by omega⟩
    · simp only [Bool.and_eq_false_iff, decide_eq_false_iff_not] at h
      simp only [Bool.and_eq_true, decide_eq_true_eq] at h'
      exact ⟨by simp only [In]; omega, by simp only [In]; omega, c.toNat - 87, by unfold digV; rw [if_neg (by omega), if_pos (by omega)], by omega⟩
    · simp only [Bool.and_eq_false_iff, decide_eq_false_iff_not] at h h'
      exact h0 (a2.none (by omega) hl (by rw [hc]; unfold digV; rw [if_neg (by omega), if_neg (by omega)]))
    · rintro _ ⟨b, hb, rfl⟩
      have hi2 : (i / 2).toNat = i.toNat / 2 := by omega
      have hs := a2.step (by omega) (by rw [hc]; exact hb)
      have hol : out.length = 32 := by
        rcases a2 with ⟨n, L, e, h2, h3⟩ | ⟨n, L, a, e, h2, _, h3⟩ <;> (have := parN_len s n L h2; rw [h3]; simp; omega)
      rw [hi2]
      refine ⟨⟨by omega, by omega, by simp only [In]; omega⟩, ⟨by omega, by omega, by simp only [In]; omega⟩, by omega, by omega, hs.1, hol, by simp only [In]; omega, ⟨by omega, by omega, ?_⟩, by dsimp only; omega⟩
      rw [show (i + 1).toNat = i.toNat + 1 by omega]
      exact hs.2
  · rcases a2 with ⟨n, L, e, h2, h3⟩ | ⟨n, L, a, e, h2, _, h3⟩
    · obtain rfl : n = 32 := by omega
      have : out = L := by rw [h3]; simp
      rw [this]
      exact h1 L (by unfold parS; rw [if_pos hl]; exact h2)
    · omega
theorem shfirst_M {K : Bool → Prop} (h : K true) : M_smithylaw2_first K := h
theorem says_sha {b : List UInt8} {l : List (List UInt8)} {s : List UInt8} {K : Bool → Prop} (_ : ∀ x ∈ l, x.length ≤ maxLen) (_ : s.length ≤ maxLen) (H : K true) : M_smithylaw2_ShaSays b l s K := by
  intro _ _
  refine shfirst_M ⟨fun h => (by simp at h), fun _ => ⟨fun _ => H, fun hb => ?_⟩⟩
  have hbb : (b.length ≤ 1000 ∧ l.length ≤ 20) ∧ s.length ≤ 100 := by
    simp at hb
    omega
  obtain ⟨⟨b1, b2⟩, b3⟩ := hbb
  refine ⟨fun i => 0 ≤ i ∧ ∀ j, j < i.toNat → (l.getD j []).length ≤ 200, fun i => l.length - i.toNat, ⟨by omega, by intro j hj; simp at hj⟩, fun i ⟨a0, a1⟩ => ⟨fun hlt => ⟨by omega, fun _ => H, fun hle => ⟨by simp only [In]; omega, ⟨by omega, fun j hj => ?_⟩, by dsimp only; omega⟩⟩, fun hge => ?_⟩⟩
  · by_cases e : j = i.toNat
    · rw [e]; omega
    · exact a1 j (by omega)
  have hx : ∀ x ∈ l, x.length ≤ 1000 := fun x hx => by
    obtain ⟨j, hj, rfl⟩ := List.getElem_of_mem hx
    have := a1 j (by omega)
    simp only [List.getD, List.getElem?_eq_getElem hj, Option.getD_some] at this
    omega
  have fin : ∀ (x : List UInt8) (e : Er) (bad : Int), x.length = 32 → isB e bad = true →
      M_sha_Of b (fun (t59 : List UInt8) => M_sha_Text t59 (fun (t60 : List UInt8) => M_smithyref1_Sum b (fun (t63 : List UInt8) => M_smithyref1_Hex t63 (fun (t64 : List UInt8) =>
 ∃ J2 : Bool → Prop, ((((decide (t60 = t64)) = true → M_sha_Many l (fun (t68 : List UInt8) =>
 M_sha_Text t68 (fun (t69 : List UInt8) =>
 M_smithyref1_Many l (fun (t71 : List UInt8) =>
 M_smithyref1_Hex t71 (fun (t72 : List UInt8) =>
 J2 (decide (t69 = t72))))))) ∧
 ((decide (t60 = t64)) = false → J2 false))) ∧
 (∀ q4 : Bool, J2 q4 → ∃ J3 : Bool → Prop, (((q4 = true → M_smithysee_Is e bad (fun (t78 : Bool) =>
 J3 t78)) ∧
 (q4 = false → J3 false))) ∧
 (∀ q5 : Bool, J3 q5 → ∃ J4 : Bool → Prop, (((q5 = true → M_smithyref17_SameSum x x (fun (t83 : Bool) =>
 J4 t83)) ∧
 (q5 = false → J4 false))) ∧
 (∀ q6 : Bool, J4 q6 → K q6))))))) := fun x e bad hxl hB =>
    ⟨by omega, text_M (shaS_len _) (sum_M (by omega) (hex_M (shaS_len _) ⟨fun q => q = true, ⟨fun _ => ⟨by omega, fun y hy => (by have := hx y hy; omega), text_M (manyS_len _) (rmany_M (by omega) hx (hex_M (manyS_len _) (by simp)))⟩, fun h => (by simp at h)⟩,
      fun q4 h4 => ⟨fun q => q = true, ⟨fun _ => is_M hB, fun h => (by rw [h4] at h; cases h)⟩, fun q5 h5 => ⟨fun q => q = true, ⟨fun _ => sameSum_M hxl hxl (by simp), fun h => (by rw [h5] at h; cases h)⟩, fun q6 h6 => (by rw [h6]; exact H)⟩⟩⟩))⟩
  refine ⟨fun L h => unhex_M (fun L' h' => ?_) (fun h' => by rw [h] at h'; cases h'), fun h => unhex_M (fun L' h' => by rw [h] at h'; cases h') (fun _ => ?_)⟩
  · obtain rfl : L = L' := by rw [h] at h'; exact Option.some.inj h'
    refine ⟨fun d => d = 0, ⟨fun _ => rfl, fun h => (by cases h)⟩, ?_⟩
    rintro _ rfl
    exact fin L .ok 0 (parS_len h) rfl
  · refine ⟨fun d => d = 113, ⟨fun h => (by cases h), fun _ => rfl⟩, ?_⟩
    rintro _ rfl
    exact fin _ (.e 12) 113 (by simp) rfl
end Go.Proofs.YtilphcippnfklaaDoor
 