/- Texts of this claim, joined by a program: Dq, Dr, Ds, Dt, Dx, Du, DoL, Dy, GLo, Dz. -/
import Derived.Test.YtofenpiiihhigaaDoorJ4
/- Values and sets of sets, plainly: what is printed, keyed and made. -/
namespace Go.Proofs.YtofenpiiihhigaaDoor
open Go Go.RowKit
/-! ## texts of numbers -/
theorem dd_inj (a : Nat) : ∀ b, dd a = dd b → a = b := by
  induction a using Nat.strongRecOn with
  | _ a ih =>
    intro b h
    rcases Nat.eq_zero_or_pos a with ha | ha
    · subst ha
      rcases Nat.eq_zero_or_pos b with hb | hb
      · exact hb.symm
      · rw [dd_zero, dd_pos hb] at h; cases h
    · rcases Nat.eq_zero_or_pos b with hb | hb
      · subst hb; rw [dd_zero, dd_pos ha] at h; cases h
      · rw [dd_pos ha, dd_pos hb] at h
        injection h with h1 h2
        have h3 := ih (a / 10) (by omega) _ h2
        have h4 := congrArg UInt8.toNat h1
        rw [dc_toNat, dc_toNat] at h4
        omega
theorem dd_dig (n : Nat) : ∀ c ∈ dd n, 48 ≤ c.toNat ∧ c.toNat ≤ 57 := by
  induction n using Nat.strongRecOn with
  | _ n ih =>
    intro c hc
    rcases Nat.eq_zero_or_pos n with h | h
    · subst h; rw [dd_zero] at hc; cases hc
    · rw [dd_pos h] at hc
      rcases List.mem_cons.1 hc with rfl | hc
      · rw [dc_toNat]; omega
      · exact ih (n / 10) (by omega) c hc
theorem txt_inj {a b : Int} (h : txt a = txt b) : a = b := by
  have key : ∀ n : Nat, 0 < n → (dd n).reverse ≠ [48] := fun n hn e => by
    have e2 : dd n = [48] := by have := congrArg List.reverse e; simpa using this
    rw [dd_pos hn] at e2
    injection e2 with h1 h2
    have h3 := congrArg UInt8.toNat h1
    rw [dc_toNat] at h3
    have h4 : n / 10 = 0 := dd_inj _ 0 (by rw [h2, dd_zero])
    have : (48 : UInt8).toNat = 48 := rfl
    omega
  have m45 : ∀ (n : Nat) (l : List UInt8), (dd n).reverse ≠ 45 :: l := fun n l e => by
    have := dd_dig n 45 (by rw [← List.mem_reverse, e]; exact List.mem_cons_self)
    revert this; decide
  unfold txt at h
  by_cases ha : a = 0
  · by_cases hb : b = 0
    · omega
    · rw [if_pos ha, if_neg hb] at h
      by_cases b0 : b < 0
      · rw [if_pos b0] at h; injection h with h1; exact absurd h1 (by decide)
      · rw [if_neg b0] at h; exact absurd h.symm (key _ (by omega))
  · by_cases hb : b = 0
    · rw [if_neg ha, if_pos hb] at h
      by_cases a0 : a < 0
      · rw [if_pos a0] at h; injection h with h1; exact absurd h1 (by decide)
      · rw [if_neg a0] at h; exact absurd h (key _ (by omega))
    · rw [if_neg ha, if_neg hb] at h
      by_cases a0 : a < 0
      · by_cases b0 : b < 0
        · rw [if_pos a0, if_pos b0] at h
          have := dd_inj _ _ (List.reverse_inj.1 (List.append_cancel_left h))
          omega
        · rw [if_pos a0, if_neg b0] at h
          exact absurd h.symm (m45 _ _)
      · by_cases b0 : b < 0
        · rw [if_neg a0, if_pos b0] at h
          exact absurd h (m45 _ _)
        · rw [if_neg a0, if_neg b0] at h
          have := dd_inj _ _ (List.reverse_inj.1 (List.append_cancel_left h))
          omega
theorem txt_len {z : Int} (h : -100000000 < z ∧ z < 100000000) : (txt z).length ≤ 9 := by
  have := dd_len 8 z.natAbs (by omega)
  unfold txt
  split
  · simp
  · split <;> simp <;> omega
theorem keyP_iff {a b : Int} : keyP (.int a) = keyP (.int b) ↔ a = b := by
  refine ⟨fun h => ?_, fun h => by rw [h]⟩
  unfold keyP at h
  injection h with _ h
  exact txt_inj (List.append_cancel_right h)
/-! ## what is printed -/
theorem full_M {p : List UInt8} {K : Bool → Prop} (hp : p.length < 65536) (h : K false) : M_pval_printer_full p K := by
  intro _
  rw [decide_eq_false (by omega)]; exact h
theorem put_M {p t : List UInt8} {K : List UInt8 → Prop} (hp : p.length + t.length ≤ 65536) (h : K (p ++ t)) : M_pval_printer_put p [t] K := by
  intro _ _
  refine ⟨fun i q => (i = 0 ∧ q = p) ∨ (i = 1 ∧ q = p ++ t), fun i _ => (1 - i).toNat, .inl ⟨rfl, rfl⟩, ?_⟩
  rintro i q (⟨rfl, rfl⟩ | ⟨rfl, rfl⟩)
  · have e : (if (65536 : Int) - (q.length : Int) < (t.length : Int) then (65536 : Int) - (q.length : Int) else (t.length : Int)).toNat = t.length := by
      split <;> omega
    refine ⟨fun _ => ⟨by simp, by simp only [In]; omega, ?_, ?_, by simp only [In]; omega, ?_, by dsimp only; omega⟩, fun hn => absurd (by simp) hn⟩
    · simp only [Int.toNat_zero, List.getD_cons_zero]; split <;> omega
    · simp only [Int.toNat_zero, List.getD_cons_zero, e, List.take_length]; omega
    · simp only [Int.toNat_zero, List.getD_cons_zero, e, List.take_length]
      exact .inr ⟨by omega, by first | rfl | trivial⟩
  · exact ⟨fun hl => absurd hl (by simp), fun _ => h⟩
theorem text_M {z : Int} {K : List UInt8 → Prop} (h : K (txt z)) : M_num_Num_Text z 3 K := ⟨by decide, h⟩
theorem repr_int {p : List UInt8} {z deep : Int} {K : List UInt8 → Prop} (hp : p.length + (txt z).length ≤ 65000) (h : K (p ++ txt z)) : M_pval_printer_repr p (.int z) deep K := by
  intro _
  refine full_M (by omega) ⟨fun e => (by cases e), fun _ => ⟨fun e => (by cases e), fun z' e => ?_, fun e => absurd rfl (e z)⟩⟩
  cases e
  exact text_M (put_M (by omega) h)
theorem vrepr_int {z : Int} {K : List UInt8 → Prop} (hp : (txt z).length ≤ 65000) (h : K (txt z)) : M_val_Repr (.int z) K := by
  intro _
  refine full_M (by decide) ⟨fun e => (by cases e), fun _ => ⟨fun e => (by cases e), fun z' e => ?_, fun e => absurd rfl (e z)⟩⟩
  cases e
  exact text_M (put_M (by simp; omega) h)
theorem comT_push : ∀ (l : List Int) (z : Int), comT (l ++ [z]) = comT l ++ (if l = [] then [] else [44, 32]) ++ txt z
  | [], z => by simp [comT]
  | [y], z => by simp [comT]
  | y :: x :: l, z => by
    have := comT_push (x :: l) z
    rw [List.cons_append, List.cons_append, comT, ← List.cons_append, this, comT]
    simp
theorem comT_len : ∀ {l : List Int}, (∀ z ∈ l, (txt z).length ≤ 9) → (comT l).length ≤ 11 * l.length
  | [], _ => by simp [comT]
  | [z], h => by have := h z (by simp); simp [comT]; omega
  | z :: y :: l, h => by
    have h1 := comT_len (l := y :: l) fun x hx => h x (List.mem_cons_of_mem _ hx)
    have h2 := h z (by simp)
    rw [comT]
    simp only [List.length_append, List.length_cons, List.length_nil] at h1 ⊢
    omega
theorem getD_get' {α : Type} {l : List α} {i : Nat} {d : α} (h : i < l.length) : l.getD i d = l[i] := by simp [List.getD, h]
theorem items_M {p : List UInt8} {l : List Int} {deep : Int} {K : List UInt8 → Prop} (hl : l.length ≤ 2000) (hp : p.length ≤ 1000) (ht : ∀ z ∈ l, (txt z).length ≤ 9) (h : K (p ++ comT l)) : M_pval_printer_items p (l.map .int) deep K := by
  intro _ _
  refine ⟨fun i q => 0 ≤ i ∧ i ≤ l.length ∧ q = p ++ comT (l.take i.toNat), fun i _ => ((l.length : Int) - i).toNat, ⟨by omega, by omega, by simp [comT]⟩, ?_⟩
  rintro i q ⟨h0, h1, rfl⟩
  have hc := comT_len (l := l.take i.toNat) fun z hz => ht z (List.mem_of_mem_take hz)
  have hcl : (l.take i.toNat).length ≤ 2000 := by rw [List.length_take]; omega
  rw [List.length_map]
  refine ⟨fun hi => ⟨⟨h0, by omega⟩, full_M (by simp; omega) ⟨fun e => (by cases e), fun _ => ?_⟩⟩, fun hi => ?_⟩
  · have hlt : i.toNat < l.length := by omega
    have e1 : (l.map PV.int).getD i.toNat PV.nil = .int l[i.toNat] := by rw [getD_get' (by simpa using hlt)]; simp
    have e2 : l.take (i + 1).toNat = l.take i.toNat ++ [l[i.toNat]] := by
      rw [show (i + 1).toNat = i.toNat + 1 by omega, List.take_add_one, List.getElem?_eq_getElem hlt]; rfl
    have e3 := ht l[i.toNat] (List.getElem_mem hlt)
    refine ⟨fun q => q = p ++ (comT (l.take i.toNat) ++ (if l.take i.toNat = [] then [] else [44, 32])), ⟨fun hpos => ?_, fun hn => ?_⟩, ?_⟩
    · refine put_M (by simp; omega) ?_
      have : l.take i.toNat ≠ [] := by
        intro e
        have := congrArg List.length e
        rw [List.length_take, List.length_nil] at this
        omega
      rw [if_neg this, List.append_assoc]
    · have e0 : i = 0 := by omega
      subst e0
      simp
    · rintro _ rfl
      rw [e1]
      refine repr_int ?_ ⟨by simp only [In]; omega, ⟨by omega, by omega, ?_⟩, by dsimp only; omega⟩
      · simp only [List.length_append]
        split <;> simp only [List.length_nil, List.length_cons] <;> omega
      · rw [e2, comT_push]; simp
  · have : l.take i.toNat = l := List.take_of_length_le (by omega)
    rw [this]; exact h
theorem vrepr_tup {l : List Int} {K : List UInt8 → Prop} (hl : l.length ≤ 1000) (ht : ∀ z ∈ l, (txt z).length ≤ 9) (h : K (tupT l)) : M_val_Repr (.tup l) K := by
  have hc := comT_len ht
  intro _
  refine full_M (by decide) ⟨fun e => (by cases e), fun _ => ⟨fun e => (by cases e), fun z' e => (by cases e), fun _ => ?_⟩⟩
  intro _
  refine ⟨fun e => absurd e (by decide), fun _ => ⟨fun e => (by cases e), fun _ => ⟨fun l' e => ?_, fun e => absurd rfl (e l)⟩⟩⟩
  cases e
  refine put_M (by simp) ⟨by simp only [In]; omega, items_M (by omega) (by simp) ht ?_⟩
  refine ⟨fun q => q = [40] ++ comT l ++ (if l.length = 1 then [44] else []), ⟨fun e => ?_, fun e => ?_⟩, ?_⟩
  · rw [List.length_map] at e
    rw [if_pos (by omega)]
    exact put_M (by simp; omega) rfl
  · rw [List.length_map] at e
    rw [if_neg (by omega), List.append_nil]; rfl
  · rintro _ rfl
    refine put_M (by simp only [List.length_append]; split <;> simp <;> omega) ?_
    have : [40] ++ comT l ++ (if l.length = 1 then [44] else []) ++ [41] = tupT l := by
      unfold tupT
      split <;> simp
    rw [this]; exact h
/-! ## keys and weights -/
theorem key_int {z : Int} {K : List UInt8 → Er → Prop} (ht : (txt z).length ≤ 1000) (h : K (keyP (.int z)) .ok) : M_val_Key (.int z) K := by
  intro _
  refine ⟨by simp only [In]; omega, fun e => absurd e (by decide), fun _ => ⟨fun q => q = 73 :: txt z, ⟨⟨fun e => (by cases e), fun z' e => ?_, fun e => absurd rfl (e z)⟩, ?_⟩⟩⟩
  · cases e
    exact ⟨by decide, text_M ⟨by simp; omega, rfl⟩⟩
  · rintro _ rfl
    exact ⟨by simp; omega, fun e => absurd rfl e, fun _ => h⟩
theorem weight_M {v : PV} {most : Int} {K : Int → Prop} (hv : v = .emp ∨ ∃ z, v = .int z) (h : K 1) : M_val_weight v most K := by
  refine ⟨fun l => l = [], ⟨fun _ => rfl, fun _ => ⟨fun l e => ?_, fun _ => rfl⟩⟩, ?_⟩
  · rcases hv with rfl | ⟨z, rfl⟩ <;> cases e
  · rintro _ rfl
    exact ⟨fun n i => n = 1 ∧ i = 0, fun _ _ => 0, ⟨rfl, rfl⟩, fun n i ⟨e1, e2⟩ => ⟨fun hl => by subst e2; simp at hl, fun _ => by rw [e1]; exact h⟩⟩
theorem light_M {l : List PV} {K : Bool → Prop} (hl : l.length ≤ 4096) (hv : ∀ v ∈ l, v = .emp ∨ ∃ z, v = .int z) (h : K true) : M_val_Light 4096 l K := by
  intro _
  refine ⟨fun m i => 0 ≤ i ∧ i ≤ l.length ∧ m = 4096 - i, fun _ i => ((l.length : Int) - i).toNat, ⟨by omega, by omega, by omega⟩, ?_⟩
  rintro m i ⟨h0, h1, rfl⟩
  refine ⟨fun hi => ⟨⟨h0, by omega⟩, weight_M ?_ ⟨by simp only [In]; omega, fun e => by omega, fun _ => ⟨by simp only [In]; omega, ⟨by omega, by omega, by omega⟩, by dsimp only; omega⟩⟩⟩, fun _ => h⟩
  rw [getD_get' (by omega)]
  exact hv _ (List.getElem_mem (by omega))
end Go.Proofs.YtofenpiiihhigaaDoor


 /- Sets of sets, plainly: a set is made; how many sets there are. -/
namespace Go.Proofs.YtofenpiiihhigaaDoor
open Go Go.RowKit
theorem mget_in {κ : Type} [DecidableEq κ] {l : List κ} {q : κ} (h : (mget (l.map fun x => (x, true)) q).getD false = true) : q ∈ l := by
  rw [mget_true] at h; exact of_decide_eq_true h
theorem mget_out {κ : Type} [DecidableEq κ] {l : List κ} {q : κ} (h : (mget (l.map fun x => (x, true)) q).getD false = false) : q ∉ l := by
  rw [mget_true] at h; exact of_decide_eq_false h
theorem ownT_snoc (l : List PV) (i : Nat) (t : TS) (h : i < l.length) : ownT (l.take (i + 1)) t = stepT (ownT (l.take i) t) l[i] := by
  rw [List.take_add_one, List.getElem?_eq_getElem h]
  exact ownT_push _ _ _
theorem ownT_keys : ∀ (l : List PV) (t : TS), t.keys = t.out.map keyP → (ownT l t).keys = (ownT l t).out.map keyP
  | [], _, h => h
  | v :: l, t, h => by
    rw [ownT_cons]
    refine ownT_keys l _ ?_
    unfold stepT
    split
    · exact h
    · simp [h]
theorem ownT_sub : ∀ (l : List PV) (t : TS), ∀ x ∈ (ownT l t).out, x ∈ t.out ∨ x ∈ l
  | [], _, _, h => .inl h
  | v :: l, t, x, h => by
    rw [ownT_cons] at h
    rcases ownT_sub l _ x h with h | h
    · unfold stepT at h
      split at h
      · exact .inl h
      · rcases List.mem_append.1 h with h | h
        · exact .inl h
        · exact .inr (by rw [List.mem_singleton.1 h]; exact List.mem_cons_self)
    · exact .inr (List.mem_cons_of_mem _ h)
theorem ownT_olen : ∀ (l : List PV) (t : TS), (ownT l t).out.length ≤ t.out.length + l.length
  | [], t => Nat.le_refl _
  | v :: l, t => by
    rw [ownT_cons]
    refine Nat.le_trans (ownT_olen l _) ?_
    unfold stepT
    split <;> simp <;> omega
theorem dedP_sub {l : List PV} {x : PV} (h : x ∈ dedP l) : x ∈ l := (ownT_sub l ts0 x h).resolve_left (by simp [ts0])
theorem dedP_len (l : List PV) : (dedP l).length ≤ l.length := by
  have h := ownT_olen l ts0
  have h0 : ts0.out.length = 0 := rfl
  show (ownT l ts0).out.length ≤ _
  omega
def deepF (fr : List PS) : Int := fr.foldl (fun d f => if d < f.deep + 1 then f.deep + 1 else d) 0
def emptyF (own : List PV) (fr : List PS) : Bool := fr.foldl (fun e f => e && f.empty) (decide ((own.length : Int) = 0))
theorem deepF_bd : ∀ (fr : List PS) (d m : Int), 0 ≤ d → d ≤ m → (∀ f ∈ fr, f.deep < m) → 0 ≤ fr.foldl (fun d f => if d < f.deep + 1 then f.deep + 1 else d) d ∧ fr.foldl (fun d f => if d < f.deep + 1 then f.deep + 1 else d) d ≤ m
  | [], d, m, h0, h1, _ => ⟨h0, h1⟩
  | f :: fr, d, m, h0, h1, h => by
    have := h f List.mem_cons_self
    refine deepF_bd fr _ m ?_ ?_ fun g hg => h g (List.mem_cons_of_mem _ hg)
    · dsimp only; split <;> omega
    · dsimp only; split <;> omega
/-- how many sets, how many items -/
structure Few (s : PS) (n m : Nat) : Prop where
  some : ∀ l, Some' s l → l.length ≤ n
  sum : ∀ l, SetsOf s l → (l.map fun x => x.own.length).sum ≤ m
theorem sum_take {l : List Nat} {i : Nat} : (l.take i).sum ≤ l.sum := by
  have := congrArg List.sum (List.take_append_drop i l)
  rw [List.sum_append] at this
  omega
theorem reach_split {s x : PS} (hr : Reach s x) : x = s ∨ ∃ f ∈ s.fr, Reach f x := by
  induction hr with
  | refl => exact .inl rfl
  | @step y f hy hf ih =>
    rcases ih with rfl | ⟨f0, h1, h2⟩
    · exact .inr ⟨f, hf, .refl⟩
    · exact .inr ⟨f0, h1, .step h2 hf⟩
theorem new_M {order : Int} {own : List PV} {fr : List PS} {K : PS → Er → Prop} (ho : 1 ≤ order ∧ order ≤ 3) (hown : ∀ v ∈ own, ∃ z, v = .int z ∧ (txt z).length ≤ 30) (hol : own.length + fr.length ≤ 1024)
    (hfr : ∀ f ∈ fr, f ≠ .nil ∧ (f.order = order ∨ f.order = 1 ∨ order = 1) ∧ -10 ≤ f.deep ∧ f.deep < 1000)
    (hs : ∀ g, Few (.mk g order (dedP own) fr (deepF fr) (emptyF (dedP own) fr)) 100000 1024) (hn : ∀ f ∈ fr, ∀ y, Reach f y → y ≠ .nil)
    (hK : ∀ g, K (.mk g order (dedP own) fr (deepF fr) (emptyF (dedP own) fr)) .ok) : M_deps_New order own fr K := by
  intro _ _
  refine ⟨fun e => ?_, fun _ => light_M (by omega) (fun v hv => .inr ?_) ⟨fun e => (by cases e), fun _ => clone_MS (by omega) ?_⟩⟩
  · exfalso
    rw [Bool.or_eq_true, decide_eq_true_eq, decide_eq_true_eq] at e
    omega
  · obtain ⟨z, h, _⟩ := hown v hv
    exact ⟨z, h⟩
  refine ⟨fun i a b m => 0 ≤ i ∧ i ≤ own.length ∧ a = (ownT (own.take i.toNat) ts0).out ∧ b = (ownT (own.take i.toNat) ts0).keys ∧ m = (ownT (own.take i.toNat) ts0).keys.map fun x => (x, true),
    fun i _ _ _ => ((own.length : Int) - i).toNat, ⟨by omega, by omega, rfl, rfl, rfl⟩, ?_⟩
  rintro i _ _ _ ⟨h0, h1, rfl, rfl, rfl⟩
  refine ⟨fun hi => ?_, fun hi => ?_⟩
  · have hlt : i.toNat < own.length := by omega
    obtain ⟨z, hz, htz⟩ := hown own[i.toNat] (List.getElem_mem hlt)
    have hol' := ownT_olen (own.take i.toNat) ts0
    have htl : (own.take i.toNat).length ≤ 1024 := by rw [List.length_take]; omega
    have hkl : (ownT (own.take i.toNat) ts0).keys.length = (ownT (own.take i.toNat) ts0).out.length := by rw [ownT_keys _ _ rfl, List.length_map]
    have h00 : ts0.out.length = 0 := rfl
    refine ⟨fun a b m => a = (ownT (own.take (i.toNat + 1)) ts0).out ∧ b = (ownT (own.take (i.toNat + 1)) ts0).keys ∧ m = (ownT (own.take (i.toNat + 1)) ts0).keys.map fun x => (x, true), ⟨⟨h0, by omega⟩, ?_⟩, ?_⟩
    · rw [getD_get' hlt, ownT_snoc _ _ _ hlt, hz]
      refine key_int (by omega) ⟨fun e => absurd rfl e, fun _ => ⟨by simp [keyP, maxLen]; omega, fun e => ?_, fun e => ?_⟩⟩
      · replace e := mget_out (by rw [Bool.not_eq_true'] at e; exact e)
        refine ⟨⟨by simp [keyP, maxLen]; omega, by simp [maxLen]; omega⟩, True, ⟨by simp; omega, by simp; omega, trivial⟩, fun _ => ?_⟩
        unfold stepT
        rw [if_neg e, mput_true e]
        exact ⟨rfl, rfl, rfl⟩
      · replace e := mget_in (by rw [Bool.not_eq_false'] at e; exact e)
        unfold stepT
        rw [if_pos e]
        exact ⟨rfl, rfl, rfl⟩
    · rintro _ _ _ ⟨rfl, rfl, rfl⟩
      refine ⟨by simp only [In]; omega, ⟨by omega, by omega, ?_⟩, by dsimp only; omega⟩
      rw [show (i + 1).toNat = i.toNat + 1 by omega]
      exact ⟨rfl, rfl, rfl⟩
  · have e1 : own.take i.toNat = own := List.take_of_length_le (by omega)
    rw [e1]
    refine ⟨fun k d e => 0 ≤ k ∧ k ≤ fr.length ∧ d = deepF (fr.take k.toNat) ∧ e = emptyF (dedP own) (fr.take k.toNat), fun k _ _ => ((fr.length : Int) - k).toNat, ⟨by omega, by omega, rfl, rfl⟩, ?_⟩
    rintro k _ _ ⟨k0, k1, rfl, rfl⟩
    refine ⟨fun hk => ?_, fun hk => ?_⟩
    · have hlt : k.toNat < fr.length := by omega
      obtain ⟨f1, f2, f3, f4⟩ := hfr _ (List.getElem_mem hlt)
      rw [getD_get' hlt]
      refine ⟨⟨k0, by omega⟩, f1, fun e => ?_, fun _ => ⟨by simp only [In]; omega, by simp only [In]; omega, ⟨by omega, by omega, ?_, ?_⟩, by dsimp only; omega⟩⟩
      · exfalso
        simp only [Bool.and_eq_true, Bool.not_eq_true', decide_eq_false_iff_not] at e
        rcases f2 with f2 | f2 | f2
        · exact e.1.1 f2
        · exact e.1.2 f2
        · exact e.2 f2
      · rw [show (k + 1).toNat = k.toNat + 1 by omega, List.take_add_one, List.getElem?_eq_getElem hlt]
        unfold deepF
        rw [List.foldl_append]; rfl
      · rw [show (k + 1).toNat = k.toNat + 1 by omega, List.take_add_one, List.getElem?_eq_getElem hlt]
        unfold emptyF
        rw [List.foldl_append]; rfl
    · have e2 : fr.take k.toNat = fr := List.take_of_length_le (by omega)
      rw [e2]
      have hd := deepF_bd fr 0 1000 (by omega) (by omega) fun f hf => (hfr f hf).2.2.2
      have hd' : deepF fr ≤ 1000 := hd.2
      refine ⟨fun _ => by simp only [In]; omega, fun e => ?_, fun _ => ⟨fun x hx => ?_, ?_, fun x hx => (hfr x hx).1, fun g => ⟨(by intro e; cases e), (hs g).some, fun l hl => ?_⟩⟩⟩
      · exfalso
        simp only [Bool.or_eq_true, decide_eq_true_eq] at e
        omega
      · obtain ⟨z, h, _⟩ := hown x (dedP_sub hx)
        exact ⟨z, h⟩
      · exact ownT_keys own ts0 rfl
      · have hsum := (hs g).sum l hl
        have hll := (hs g).some l hl.toSome'
        have hnn : ∀ x ∈ l, x ≠ .nil := fun x hx => by
          have hr := hl.re x hx
          rcases reach_split hr with rfl | ⟨f, h1, h2⟩
          · intro e; cases e
          · exact hn f h1 x h2
        refine ⟨fun n q => 0 ≤ q ∧ q ≤ l.length ∧ n = (((l.take q.toNat).map fun x => x.own.length).sum : Nat), fun _ q => ((l.length : Int) - q).toNat, ⟨by omega, by omega, rfl⟩, ?_⟩
        rintro n q ⟨q0, q1, rfl⟩
        refine ⟨fun hq => ?_, fun _ => hK g⟩
        have hlt : q.toNat < l.length := by omega
        rw [getD_get' hlt]
        have e3 : ((l.take (q.toNat + 1)).map fun x => x.own.length).sum = ((l.take q.toNat).map fun x => x.own.length).sum + l[q.toNat].own.length := by
          rw [List.take_add_one, List.getElem?_eq_getElem hlt, List.map_append, List.sum_append]
          show _ + List.sum [_] = _
          simp
        have e4 : ((l.take (q.toNat + 1)).map fun x => x.own.length).sum ≤ (l.map fun x => x.own.length).sum := by
          rw [List.map_take]; exact sum_take
        refine ⟨⟨q0, by omega⟩, hnn _ (List.getElem_mem hlt), by simp only [In]; omega, fun e => by omega, fun _ => ⟨by simp only [In]; omega, ⟨by omega, by omega, ?_⟩, by dsimp only; omega⟩⟩
        rw [show (q + 1).toNat = q.toNat + 1 by omega, e3]
        omega
/-! ## a known list of all sets -/
structure AllIn (s : PS) (C : List PS) : Prop where
  top : s ∈ C
  nn : ∀ x ∈ C, x ≠ .nil
  cl : ∀ x ∈ C, ∀ f ∈ x.fr, f ∈ C
theorem AllIn.reach {s : PS} {C : List PS} (h : AllIn s C) : ∀ x, Reach s x → x ∈ C := fun x hr => by
  induction hr with
  | refl => exact h.top
  | step _ hf ih => exact h.cl _ ih _ hf
theorem AllIn.few {s : PS} {C : List PS} {n k : Nat} (h : AllIn s C) (hn : C.length ≤ n) (hk : ∀ x ∈ C, x.own.length ≤ k) : Few s n (n * k) := by
  have key : ∀ l, Some' s l → l.length ≤ n := fun l hl => by
    have h1 := List.Nodup.length_le_of_subset hl.nd (l₂ := C.map PS.id) fun i hi => by
      obtain ⟨x, hx, rfl⟩ := List.mem_map.1 hi
      exact List.mem_map.2 ⟨x, h.reach x (hl.re x hx), rfl⟩
    rw [List.length_map, List.length_map] at h1
    omega
  refine ⟨key, fun l hl => ?_⟩
  have h1 := key l hl.toSome'
  have h2 : ∀ l : List PS, (∀ x ∈ l, x ∈ C) → (l.map fun x => x.own.length).sum ≤ l.length * k := fun l => by
    induction l with
    | nil => intro _; simp
    | cons x l ih =>
      intro h
      have := ih fun y hy => h y (List.mem_cons_of_mem _ hy)
      have h3 := hk x (h x List.mem_cons_self)
      simp only [List.map_cons, List.sum_cons, List.length_cons, Nat.succ_mul]
      omega
  exact Nat.le_trans (h2 l fun x hx => h.reach x (hl.re x hx)) (Nat.mul_le_mul_right k h1)
theorem Few.mono {s : PS} {n m n' m' : Nat} (h : Few s n m) (a : n ≤ n') (b : m ≤ m') : Few s n' m' := ⟨fun l hl => Nat.le_trans (h.some l hl) a, fun l hl => Nat.le_trans (h.sum l hl) b⟩
theorem uniq_id {C : List PS} (nd : (C.map PS.id).Nodup) {x y : PS} (hx : x ∈ C) (hy : y ∈ C) (e : x.id = y.id) : x = y := by
  induction C with
  | nil => cases hx
  | cons c C ih =>
    rw [List.map_cons, List.nodup_cons] at nd
    rcases List.mem_cons.1 hx with h1 | h1
    · rcases List.mem_cons.1 hy with h2 | h2
      · rw [h1, h2]
      · exact absurd (List.mem_map.2 ⟨y, h2, by rw [← e, h1]⟩) nd.1
    · rcases List.mem_cons.1 hy with h2 | h2
      · exact absurd (List.mem_map.2 ⟨x, h1, by rw [e, h2]⟩) nd.1
      · exact ih nd.2 h1 h2
theorem AllIn.size {s : PS} {C : List PS} (h : AllIn s C) (hr : ∀ x ∈ C, Reach s x) (nd : (C.map PS.id).Nodup) {l : List PS} (hl : SetsOf s l) : l.length = C.length := by
  have h1 : ∀ x, Reach s x → x ∈ l := fun x hx => by
    induction hx with
    | refl => exact hl.top
    | @step x f hx hf ih =>
      obtain ⟨y, hy, e⟩ := hl.cl x ih f hf
      have := uniq_id nd (h.reach y (hl.re y hy)) (h.cl x (h.reach x hx) f hf) e
      exact this ▸ hy
  have h2 := List.Nodup.length_le_of_subset hl.nd (l₂ := C.map PS.id) fun i hi => by
    obtain ⟨x, hx, rfl⟩ := List.mem_map.1 hi
    exact List.mem_map.2 ⟨x, h.reach x (hl.re x hx), rfl⟩
  have h3 := List.Nodup.length_le_of_subset nd (l₂ := l.map PS.id) fun i hi => by
    obtain ⟨x, hx, rfl⟩ := List.mem_map.1 hi
    exact List.mem_map.2 ⟨x, h1 x (hr x hx), rfl⟩
  simp only [List.length_map] at h2 h3
  omega
end Go.Proofs.YtofenpiiihhigaaDoor


 /- Rows of sets, plainly. -/
namespace Go.Proofs.YtofenpiiihhigaaDoor
open Go Go.RowKit
def numI (n b : Int) : Int := (n.tmod b + b).tmod b
theorem numI_bd (n : Int) {b : Int} (hb : 0 < b) : 0 ≤ numI n b ∧ numI n b < b := by
  have h2 : -b < n.tmod b := Int.lt_tmod_of_pos n hb
  exact ⟨Int.tmod_nonneg b (by omega), Int.tmod_lt_of_pos _ hb⟩
theorem numI_M {n b : Int} {K : Int → Prop} (hb : 0 < b) (hb2 : b ≤ 100000) (h : K (numI n b)) : M_smithyworld_Number n b K := by
  have h1 := Int.tmod_lt_of_pos n hb
  have h2 : -b < n.tmod b := Int.lt_tmod_of_pos n hb
  exact ⟨by omega, by simp only [In]; omega, by omega, h⟩
theorem numI_lt {n b : Int} (h0 : 0 ≤ n) (h1 : n < b) : numI n b = n := by
  unfold numI
  rw [Int.tmod_eq_of_lt h0 h1, Int.tmod_eq_emod_of_nonneg (by omega), Int.add_emod_right, Int.emod_eq_of_lt h0 h1]
theorem small_M {n : Int} {K : PV → Prop} (hn : In .i64 n) (h : K (.int n)) : M_smithylaw13_small n K := ⟨by simpa only [In] using hn, h⟩
abbrev RowD := Int × List Int × List Int
def fromsP (prev : List PS) (fs : List Int) : List PS := if prev = [] then [] else fs.map fun f => prev.getD (numI f prev.length).toNat .nil
def rowS (o : Int) (r : RowD) (prev : List PS) (g : Nat) : PS := .mk g o (dedP (r.2.1.map .int)) (fromsP prev r.2.2) (deepF (fromsP prev r.2.2)) (emptyF (dedP (r.2.1.map .int)) (fromsP prev r.2.2))
inductive Mds (l : List RowD) (o : Int) : List PS → Prop
  | nil : Mds l o []
  | snoc {out : List PS} (g : Nat) (h : Mds l o out) (hlt : out.length < l.length) (hg : ∀ x ∈ out, x.id ≠ g) : Mds l o (out ++ [rowS o (l.getD out.length (0, [], [])) out g])
theorem fromsP_mem {prev : List PS} {fs : List Int} {f : PS} (h : f ∈ fromsP prev fs) : f ∈ prev := by
  unfold fromsP at h
  split at h
  · cases h
  · rename_i hne
    obtain ⟨z, _, rfl⟩ := List.mem_map.1 h
    have hp := List.length_pos_iff.2 hne
    have := numI_bd z (b := (prev.length : Int)) (by omega)
    rw [getD_get' (by omega)]
    exact List.getElem_mem _
/-- what holds of rows that are made -/
structure MdsF (o : Int) (out : List PS) : Prop where
  nn : ∀ x ∈ out, x ≠ .nil
  cl : ∀ x ∈ out, ∀ f ∈ x.fr, f ∈ out
  ord : ∀ x ∈ out, x.order = o
  deep : ∀ x ∈ out, 0 ≤ x.deep ∧ x.deep < out.length
theorem Mds.facts {l : List RowD} {o : Int} {out : List PS} (h : Mds l o out) : MdsF o out := by
  induction h with
  | nil => exact ⟨fun _ h => (by cases h), fun _ h => (by cases h), fun _ h => (by cases h), fun _ h => (by cases h)⟩
  | @snoc out g h hlt hg ih =>
    have hd := deepF_bd (fromsP out (l.getD out.length (0, [], [])).2.2) 0 out.length (by omega) (by omega) fun f hf => (ih.deep f (fromsP_mem hf)).2
    refine ⟨fun x hx => ?_, fun x hx f hf => ?_, fun x hx => ?_, fun x hx => ?_⟩
    · rcases List.mem_append.1 hx with hx | hx
      · exact ih.nn x hx
      · rw [List.mem_singleton.1 hx]; intro e; cases e
    · rcases List.mem_append.1 hx with hx | hx
      · exact List.mem_append_left _ (ih.cl x hx f hf)
      · rw [List.mem_singleton.1 hx] at hf
        exact List.mem_append_left _ (fromsP_mem hf)
    · rcases List.mem_append.1 hx with hx | hx
      · exact ih.ord x hx
      · rw [List.mem_singleton.1 hx]; rfl
    · rcases List.mem_append.1 hx with hx | hx
      · have := ih.deep x hx
        rw [List.length_append]; simp; omega
      · rw [List.mem_singleton.1 hx, List.length_append]
        show 0 ≤ deepF _ ∧ deepF _ < _
        have h1 : (List.length out : Int) < ((List.length out + [rowS o (l.getD out.length (0, [], [])) out g].length : Nat) : Int) := by simp; omega
        exact ⟨hd.1, Int.lt_of_le_of_lt hd.2 h1⟩
theorem MdsF.reach {o : Int} {out : List PS} (h : MdsF o out) {f y : PS} (hf : f ∈ out) (hr : Reach f y) : y ∈ out := by
  induction hr with
  | refl => exact hf
  | step _ hg ih => exact h.cl _ ih _ hg
theorem Mds.own {l : List RowD} {o : Int} {out : List PS} {n : Nat} (h : Mds l o out) (hr : ∀ r ∈ l, r.2.1.length ≤ n) : ∀ x ∈ out, x.own.length ≤ n := by
  induction h with
  | nil => intro _ h; cases h
  | @snoc out g h hlt hg ih =>
    intro x hx
    rcases List.mem_append.1 hx with hx | hx
    · exact ih x hx
    · rw [List.mem_singleton.1 hx]
      show (dedP _).length ≤ n
      refine Nat.le_trans (dedP_len _) ?_
      rw [List.length_map, getD_get' hlt]
      exact hr _ (List.getElem_mem hlt)
theorem made_M {l : List RowD} {o : Int} {K : List PS → Bool → Prop} (hl : l.length ≤ 20) (ho : 1 ≤ o ∧ o ≤ 3) (hr : ∀ r ∈ l, r.1 = o ∧ r.2.1.length ≤ 10 ∧ r.2.2.length ≤ 6 ∧ ∀ z ∈ r.2.1, -100000000 < z ∧ z < 100000000)
    (hK : ∀ out, Mds l o out → out.length = l.length → K out true) : M_smithylaw13_made l K := by
  intro _
  refine ⟨fun out i => 0 ≤ i ∧ i ≤ l.length ∧ out.length = i.toNat ∧ Mds l o out, fun _ i => ((l.length : Int) - i).toNat, ⟨by omega, by omega, rfl, .nil⟩, ?_⟩
  rintro out i ⟨h0, h1, hlen, hm⟩
  refine ⟨fun hi => ?_, fun hi => hK out hm (by omega)⟩
  have hlt : i.toNat < l.length := by omega
  have hF := hm.facts
  generalize hrow : l[i.toNat] = r
  have hrow' : l.getD i.toNat (0, [], []) = r := by rw [getD_get' hlt, hrow]
  obtain ⟨ho', hws, hfs, hz⟩ := hr r (by rw [← hrow]; exact List.getElem_mem hlt)
  simp only [hrow']
  have hib : 0 ≤ i ∧ i < (l.length : Nat) := ⟨h0, hi⟩
  refine ⟨fun own k => 0 ≤ k ∧ k ≤ r.2.1.length ∧ own = (r.2.1.take k.toNat).map .int, fun _ k => ((r.2.1.length : Int) - k).toNat, ⟨by omega, by omega, rfl⟩, ?_⟩
  rintro _ k ⟨k0, k1, rfl⟩
  refine ⟨hib, fun hk => ?_, fun hk => ?_⟩
  · have hkl : k.toNat < r.2.1.length := by omega
    rw [getD_get' hkl]
    have hzz := hz _ (List.getElem_mem hkl)
    refine ⟨hib, ⟨k0, by omega⟩, small_M (by simp only [In]; omega) ⟨?_, by simp only [In]; omega, ⟨by omega, by omega, ?_⟩, by dsimp only; omega⟩⟩
    · simp only [List.length_map, List.length_take, List.length_cons, List.length_nil]; omega
    · rw [show (k + 1).toNat = k.toNat + 1 by omega, List.take_add_one, List.getElem?_eq_getElem hkl, List.map_append]
      rfl
  · have e1 : r.2.1.take k.toNat = r.2.1 := List.take_of_length_le (by omega)
    rw [e1]
    refine ⟨fun from_ q => 0 ≤ q ∧ q ≤ r.2.2.length ∧ from_ = fromsP out (r.2.2.take q.toNat), fun _ q => ((r.2.2.length : Int) - q).toNat, ⟨by omega, by omega, by unfold fromsP; simp⟩, ?_⟩
    rintro _ q ⟨q0, q1, rfl⟩
    refine ⟨hib, fun hq => ?_, fun hq => ?_⟩
    · rw [Bool.and_eq_true, decide_eq_true_eq, decide_eq_true_eq] at hq
      have hql : q.toNat < r.2.2.length := by omega
      have hone : out ≠ [] := by intro e; rw [e] at hlen; simp at hlen; omega
      have hnb := numI_bd r.2.2[q.toNat] hq.2
      rw [getD_get' hql]
      have e5 : fromsP out (r.2.2.take (q.toNat + 1)) = fromsP out (r.2.2.take q.toNat) ++ [out.getD (numI r.2.2[q.toNat] i).toNat .nil] := by
        unfold fromsP
        rw [if_neg hone, if_neg hone, List.take_add_one, List.getElem?_eq_getElem hql, hlen, Int.toNat_of_nonneg h0, List.map_append]
        rfl
      refine ⟨hib, ⟨q0, by omega⟩, numI_M hq.2 (by omega) ⟨⟨hnb.1, by omega⟩, ?_, by simp only [In]; omega, ⟨by omega, by omega, ?_⟩, by dsimp only; omega⟩⟩
      · unfold fromsP
        rw [if_neg hone]
        simp only [List.length_map, List.length_take, List.length_cons, List.length_nil]; omega
      · rw [show (q + 1).toNat = q.toNat + 1 by omega, e5]
    · have e6 : fromsP out (r.2.2.take q.toNat) = fromsP out r.2.2 := by
        rw [Bool.and_eq_false_iff, decide_eq_false_iff_not, decide_eq_false_iff_not] at hq
        rcases hq with hq | hq
        · rw [List.take_of_length_le (by omega)]
        · have : out = [] := List.length_eq_zero_iff.1 (by omega)
          unfold fromsP
          rw [if_pos this, if_pos this]
      rw [e6, ho']
      have hfl : (fromsP out r.2.2).length ≤ 6 := by
        unfold fromsP
        split
        · simp
        · simpa using hfs
      have hdp : (dedP (r.2.1.map PV.int)).length ≤ 10 := Nat.le_trans (dedP_len _) (by simpa using hws)
      refine ⟨hib, new_M ho (fun v hv => ?_) (by rw [List.length_map]; omega) (fun f hf => ⟨hF.nn f (fromsP_mem hf), .inl (hF.ord f (fromsP_mem hf)), ?_, ?_⟩) (fun g => ?_) (fun f hf y hy => hF.nn y (hF.reach (fromsP_mem hf) hy)) (fun g hfrA hfrB => ?_)⟩
      · obtain ⟨z, hz', rfl⟩ := List.mem_map.1 hv
        exact ⟨z, rfl, Nat.le_trans (txt_len (hz z hz')) (by omega)⟩
      · have := hF.deep f (fromsP_mem hf); omega
      · have := hF.deep f (fromsP_mem hf); omega
      · have hA : AllIn (PS.mk g o (dedP (r.2.1.map .int)) (fromsP out r.2.2) (deepF (fromsP out r.2.2)) (emptyF (dedP (r.2.1.map .int)) (fromsP out r.2.2))) (PS.mk g o (dedP (r.2.1.map .int)) (fromsP out r.2.2) (deepF (fromsP out r.2.2)) (emptyF (dedP (r.2.1.map .int)) (fromsP out r.2.2)) :: out) := by
          refine ⟨List.mem_cons_self, fun x hx => ?_, fun x hx f hf => ?_⟩
          · rcases List.mem_cons.1 hx with rfl | hx
            · intro e; cases e
            · exact hF.nn x hx
          · rcases List.mem_cons.1 hx with rfl | hx
            · exact List.mem_cons_of_mem _ (fromsP_mem hf)
            · exact List.mem_cons_of_mem _ (hF.cl x hx f hf)
        refine (hA.few (n := 21) (k := 10) (by simp; omega) fun x hx => ?_).mono (by omega) (by omega)
        rcases List.mem_cons.1 hx with rfl | hx
        · exact hdp
        · exact hm.own (fun r hr' => (hr r hr').2.1) x hx
      · have hne : (PS.mk g o (dedP (r.2.1.map .int)) (fromsP out r.2.2) (deepF (fromsP out r.2.2)) (emptyF (dedP (r.2.1.map .int)) (fromsP out r.2.2))) ≠ .nil := by intro e; cases e
        have hg : ∀ x ∈ out, x.id ≠ g := fun x hx => hfrA hne x hx x .refl (hF.nn x hx)
        refine ⟨fun e => by simp [PS.isNil] at e, fun _ => ⟨by simp; omega, by simp only [In]; omega, ⟨by omega, by omega, by simp; omega, ?_⟩, by (try dsimp only); omega⟩⟩
        have := Mds.snoc (l := l) (o := o) g hm (by omega) hg
        rw [hlen, hrow'] at this
        exact this
end Go.Proofs.YtofenpiiihhigaaDoor


 /- What sets tell, plainly: the chapter's example, and a chain. -/
namespace Go.Proofs.YtofenpiiihhigaaDoor
open Go Go.RowKit
theorem tell_done {N : Nat} {o : Int} {s : PS} {t : TS} (h : s.id ∈ t.sets) : tellN N o s t = t := by
  cases N with
  | zero => rfl
  | succ N => rw [tellN_succ, if_pos h]
/-! ## the chapter's example -/
theorem told_M {s : PS} {zs : List Int} {K : List UInt8 → Prop} (hs : s ≠ .nil) (hd : ∀ n, dep n s → (tellN n s.order s ts0).sets.length ≤ 100000 ∧ allN n s = zs.map .int) (hz : zs.length ≤ 1000 ∧ ∀ z ∈ zs, (txt z).length ≤ 9) (h : K (tupT zs)) : M_smithylaw13_told s K := by
  refine ⟨hs, fun n hn => ?_⟩
  obtain ⟨h1, h2⟩ := hd n hn
  have h3 : (tellN n s.order s ts0).out.length = (allN n s).length := by
    unfold allN; split <;> simp
  refine ⟨h1, by rw [h3, h2, List.length_map]; omega, fun e => absurd rfl e, fun _ => ⟨by rw [h2, List.length_map]; omega, zs, h2, vrepr_tup hz.1 hz.2 h⟩⟩
def ex4 (o : Int) : List RowD := [(o, [1], []), (o, [2], [0]), (o, [3], [0]), (o, [4], [1, 2])]
theorem ded1 (z : Int) : dedP [.int z] = [.int z] := by
  simp [dedP, ownT, ts0]
theorem fromsP_c (x : PS) (l : List PS) (fs : List Int) : fromsP (x :: l) fs = fs.map fun f => (x :: l).getD (numI f (x :: l).length).toNat .nil := by
  unfold fromsP; rw [if_neg (by simp)]
theorem ex4_out {o : Int} {out : List PS} (h : Mds (ex4 o) o out) (hl : out.length = 4) : ∃ a b c d : Nat, ∃ d1 d2 d3 d4 : Int, ∃ e1 e2 e3 e4 : Bool, a ≠ b ∧ a ≠ c ∧ b ≠ c ∧ a ≠ d ∧ b ≠ d ∧ c ≠ d ∧
    out = [.mk a o [.int 1] [] d1 e1, .mk b o [.int 2] [.mk a o [.int 1] [] d1 e1] d2 e2, .mk c o [.int 3] [.mk a o [.int 1] [] d1 e1] d3 e3,
      .mk d o [.int 4] [.mk b o [.int 2] [.mk a o [.int 1] [] d1 e1] d2 e2, .mk c o [.int 3] [.mk a o [.int 1] [] d1 e1] d3 e3] d4 e4] := by
  obtain _ | @⟨o3, g4, h, l4, f4⟩ := h
  · simp at hl
  simp only [List.length_append, List.length_cons, List.length_nil, Nat.zero_add, Nat.add_right_cancel_iff] at hl
  obtain _ | @⟨o2, g3, h, l3, f3⟩ := h
  · simp at hl
  simp only [List.length_append, List.length_cons, List.length_nil, Nat.zero_add, Nat.add_right_cancel_iff] at hl
  obtain _ | @⟨o1, g2, h, l2, f2⟩ := h
  · simp at hl
  simp only [List.length_append, List.length_cons, List.length_nil, Nat.zero_add, Nat.add_right_cancel_iff] at hl
  obtain _ | @⟨o0, g1, h, l1, f1⟩ := h
  · simp at hl
  simp only [List.length_append, List.length_cons, List.length_nil, Nat.zero_add, Nat.add_right_cancel_iff] at hl
  have h0 : o0 = [] := List.length_eq_zero_iff.1 (by omega)
  subst h0
  have key : ∀ (prev : List PS) (g : Nat) (z : Int) (fs : List Int) (fr : List PS), fromsP prev fs = fr → ∃ d : Int, ∃ e : Bool, rowS o (o, [z], fs) prev g = .mk g o [.int z] fr d e := fun prev g z fs fr h => by
    subst h
    refine ⟨deepF (fromsP prev fs), emptyF (dedP [.int z]) (fromsP prev fs), ?_⟩
    unfold rowS
    simp only [List.map_cons, List.map_nil, ded1]
  obtain ⟨d1, e1, h1⟩ := key [] g1 1 [] [] rfl
  rw [show [] ++ [rowS o ((ex4 o).getD (List.length []) (0, [], [])) [] g1] = [.mk g1 o [.int 1] [] d1 e1] by rw [← h1]; rfl] at f2 f3 f4 ⊢
  obtain ⟨d2, e2, h2⟩ := key [.mk g1 o [.int 1] [] d1 e1] g2 2 [0] [.mk g1 o [.int 1] [] d1 e1] (by rw [fromsP_c, List.map_cons, List.map_nil, numI_lt (n := 0) (by omega) (by simp)]; rfl)
  rw [show [.mk g1 o [.int 1] [] d1 e1] ++ [rowS o ((ex4 o).getD (List.length [PS.mk g1 o [.int 1] [] d1 e1]) (0, [], [])) [.mk g1 o [.int 1] [] d1 e1] g2] = [.mk g1 o [.int 1] [] d1 e1, .mk g2 o [.int 2] [.mk g1 o [.int 1] [] d1 e1] d2 e2] by rw [← h2]; rfl] at f3 f4 ⊢
  obtain ⟨d3, e3, h3⟩ := key [.mk g1 o [.int 1] [] d1 e1, .mk g2 o [.int 2] [.mk g1 o [.int 1] [] d1 e1] d2 e2] g3 3 [0] [.mk g1 o [.int 1] [] d1 e1] (by rw [fromsP_c, List.map_cons, List.map_nil, numI_lt (n := 0) (by omega) (by simp)]; rfl)
  rw [show [.mk g1 o [.int 1] [] d1 e1, .mk g2 o [.int 2] [.mk g1 o [.int 1] [] d1 e1] d2 e2] ++ [rowS o ((ex4 o).getD (List.length [PS.mk g1 o [.int 1] [] d1 e1, .mk g2 o [.int 2] [.mk g1 o [.int 1] [] d1 e1] d2 e2]) (0, [], [])) [.mk g1 o [.int 1] [] d1 e1, .mk g2 o [.int 2] [.mk g1 o [.int 1] [] d1 e1] d2 e2] g3] =
    [.mk g1 o [.int 1] [] d1 e1, .mk g2 o [.int 2] [.mk g1 o [.int 1] [] d1 e1] d2 e2, .mk g3 o [.int 3] [.mk g1 o [.int 1] [] d1 e1] d3 e3] by rw [← h3]; rfl] at f4 ⊢
  obtain ⟨d4, e4, h4⟩ := key [.mk g1 o [.int 1] [] d1 e1, .mk g2 o [.int 2] [.mk g1 o [.int 1] [] d1 e1] d2 e2, .mk g3 o [.int 3] [.mk g1 o [.int 1] [] d1 e1] d3 e3] g4 4 [1, 2] [.mk g2 o [.int 2] [.mk g1 o [.int 1] [] d1 e1] d2 e2, .mk g3 o [.int 3] [.mk g1 o [.int 1] [] d1 e1] d3 e3] (by rw [fromsP_c, List.map_cons, List.map_cons, List.map_nil, numI_lt (n := 1) (by omega) (by simp), numI_lt (n := 2) (by omega) (by simp)]; rfl)
  refine ⟨g1, g2, g3, g4, d1, d2, d3, d4, e1, e2, e3, e4, f2 (.mk g1 o [.int 1] [] d1 e1) (by simp), f3 (.mk g1 o [.int 1] [] d1 e1) (by simp), f3 (.mk g2 o [.int 2] [.mk g1 o [.int 1] [] d1 e1] d2 e2) (by simp), f4 (.mk g1 o [.int 1] [] d1 e1) (by simp), f4 (.mk g2 o [.int 2] [.mk g1 o [.int 1] [] d1 e1] d2 e2) (by simp), f4 (.mk g3 o [.int 3] [.mk g1 o [.int 1] [] d1 e1] d3 e3) (by simp), ?_⟩
  rw [← h4]; rfl
theorem txt_dig {d : Nat} (h0 : 0 < d) (h1 : d < 10) : txt (d : Int) = [UInt8.ofNat (48 + d)] := by
  unfold txt
  rw [if_neg (by omega), if_neg (by omega), Int.natAbs_natCast, dd_pos h0, show d / 10 = 0 by omega, dd_zero]
  simp only [dc, show d % 10 = d by omega]
  rfl
def ex4Z (o : Int) : List Int := if o = 1 then [4, 2, 1, 3] else if o = 2 then [1, 2, 3, 4] else [4, 2, 3, 1]
theorem ex4_tell {o : Int} (ho : 1 ≤ o ∧ o ≤ 3) {a b c d : Nat} {d1 d2 d3 d4 : Int} {e1 e2 e3 e4 : Bool} (hab : a ≠ b) (hac : a ≠ c) (hbc : b ≠ c) (had : a ≠ d) (hbd : b ≠ d) (hcd : c ≠ d) (n : Nat)
    (hn : dep n (.mk d o [.int 4] [.mk b o [.int 2] [.mk a o [.int 1] [] d1 e1] d2 e2, .mk c o [.int 3] [.mk a o [.int 1] [] d1 e1] d3 e3] d4 e4)) :
    (tellN n o (.mk d o [.int 4] [.mk b o [.int 2] [.mk a o [.int 1] [] d1 e1] d2 e2, .mk c o [.int 3] [.mk a o [.int 1] [] d1 e1] d3 e3] d4 e4) ts0).sets.length ≤ 100000 ∧
    allN n (.mk d o [.int 4] [.mk b o [.int 2] [.mk a o [.int 1] [] d1 e1] d2 e2, .mk c o [.int 3] [.mk a o [.int 1] [] d1 e1] d3 e3] d4 e4) = (ex4Z o).map .int := by
  obtain _ | n := n
  · exact hn.elim
  have hn1 := hn (.mk b o [.int 2] [.mk a o [.int 1] [] d1 e1] d2 e2) (by simp)
  obtain _ | n := n
  · exact hn1.elim
  have hn2 := hn1 (.mk a o [.int 1] [] d1 e1) (by simp)
  obtain _ | n := n
  · exact hn2.elim
  have : o = 1 ∨ o = 2 ∨ o = 3 := by omega
  have k1 := Ne.symm hab
  have k2 := Ne.symm hac
  have k3 := Ne.symm hbc
  have k4 := Ne.symm had
  have k5 := Ne.symm hbd
  have k6 := Ne.symm hcd
  rcases this with rfl | rfl | rfl
  · simp [allN, tellN_succ, preT, midT, postT, ownT_cons, ownT, stepT, ts0, PS.id, PS.own, PS.fr, PS.order, ex4Z, keyP_iff, *]
  · simp [allN, tellN_succ, preT, midT, postT, ownT_cons, ownT, stepT, ts0, PS.id, PS.own, PS.fr, PS.order, ex4Z, keyP_iff, *]
  · simp [allN, tellN_succ, preT, midT, postT, ownT_cons, ownT, stepT, ts0, PS.id, PS.own, PS.fr, PS.order, ex4Z, keyP_iff, *]
end Go.Proofs.YtofenpiiihhigaaDoor


 /- What a set of sets tells, plainly: who is told, in which order. -/
namespace Go.Proofs.YtofenpiiihhigaaDoor
open Go Go.RowKit
theorem ownT_fresh : ∀ (l : List PV) (t : TS), (l.map keyP).Nodup → (∀ x ∈ l, keyP x ∉ t.keys) → ownT l t = { t with keys := t.keys ++ l.map keyP, out := t.out ++ l }
  | [], t, _, _ => by simp [ownT]
  | v :: l, t, hn, hf => by
    rw [List.map_cons, List.nodup_cons] at hn
    rw [ownT_cons]
    have h1 : stepT t v = { t with keys := t.keys ++ [keyP v], out := t.out ++ [v] } := by
      unfold stepT; rw [if_neg (hf v List.mem_cons_self)]
    rw [h1, ownT_fresh l _ hn.2 fun x hx hm => ?_]
    · simp
    · rcases List.mem_append.1 hm with hm | hm
      · exact hf x (List.mem_cons_of_mem _ hx) hm
      · exact hn.1 (by rw [← List.mem_singleton.1 hm]; exact List.mem_map.2 ⟨x, hx, rfl⟩)
theorem dep_succ {n : Nat} {s : PS} (hs : s ≠ .nil) (h : dep n s) : ∃ m, n = m + 1 ∧ ∀ f ∈ s.fr, dep m f := by
  cases s with
  | nil => exact absurd rfl hs
  | mk a b c d e f =>
    cases n with
    | zero => exact h.elim
    | succ n => exact ⟨n, rfl, h⟩
inductive Rch (fr : Nat → List Nat) (j : Nat) : Nat → Prop
  | refl : Rch fr j j
  | step {v f : Nat} : Rch fr j v → f ∈ fr v → Rch fr j f
theorem Rch.under {fr : Nat → List Nat} {j f v : Nat} (hf : f ∈ fr j) (h : Rch fr f v) : Rch fr j v := by
  induction h with
  | refl => exact .step .refl hf
  | step _ hg ih => exact .step ih hg
/-- sets by their numbers, each over such as_ have a less one -/
structure DG (N : Nat) (C : Nat → PS) (fr : Nat → List Nat) (ow : Nat → List PV) : Prop where
  id : ∀ i j, i < N → j < N → (C i).id = (C j).id → i = j
  nn : ∀ i, i < N → C i ≠ .nil
  own : ∀ i, i < N → (C i).own = ow i
  frs : ∀ i, i < N → (C i).fr = (fr i).map C
  lt : ∀ i, i < N → ∀ f ∈ fr i, f < i
  nd : ∀ i, i < N → ((ow i).map keyP).Nodup
  dis : ∀ i j, i < N → j < N → i ≠ j → ∀ x ∈ ow i, ∀ y ∈ ow j, keyP x ≠ keyP y
structure TOk (t : TS) : Prop where
  k : t.keys = t.out.map keyP
  nd : t.keys.Nodup
structure HT (N : Nat) (C : Nat → PS) (ow : Nat → List PV) (m : Nat) (vis : List Nat) (t : TS) : Prop where
  sets : t.sets = vis.map fun i => (C i).id
  ndv : vis.Nodup
  lt : ∀ v ∈ vis, v < N
  ok : TOk t
  src : ∀ x ∈ t.out, ∃ v ∈ vis, x ∈ ow v
  comp : ∀ v ∈ vis, v < m → ∀ x ∈ ow v, x ∈ t.out
def Ord (o : Int) (fr : Nat → List Nat) (ow : Nat → List PV) (v : Nat) (out : List PV) : Prop := ∃ A B, out = A ++ (if o = 3 then (ow v).reverse else ow v) ++ B ∧ ∀ f ∈ fr v, ∀ x ∈ ow f, x ∈ A
structure TR (o : Int) (N : Nat) (C : Nat → PS) (fr : Nat → List Nat) (ow : Nat → List PV) (Rp : Nat → Prop) (vis : List Nat) (t t' : TS) (vis' : List Nat) : Prop where
  sets : t'.sets = (vis ++ vis').map fun i => (C i).id
  ndv : (vis ++ vis').Nodup
  ok : TOk t'
  pre : ∃ B, t'.out = t.out ++ B ∧ ∀ x ∈ B, ∃ v ∈ vis', x ∈ ow v
  fin : ∀ v ∈ vis', v < N ∧ (∀ x ∈ ow v, x ∈ t'.out) ∧ (∀ f ∈ fr v, f ∈ vis ++ vis') ∧ Rp v ∧ (o ≠ 1 → Ord o fr ow v t'.out)
section
variable {o : Int} {N : Nat} {C : Nat → PS} {fr : Nat → List Nat} {ow : Nat → List PV}
theorem Ord.app {v : Nat} {l B : List PV} (h : Ord o fr ow v l) : Ord o fr ow v (l ++ B) := by
  obtain ⟨A, B', e, k⟩ := h
  exact ⟨A, B' ++ B, by rw [e]; simp, k⟩
theorem TR.nil {Rp : Nat → Prop} {vis : List Nat} {t : TS} {m : Nat} (h : HT N C ow m vis t) : TR o N C fr ow Rp vis t t [] :=
  ⟨by rw [List.append_nil]; exact h.sets, by rw [List.append_nil]; exact h.ndv, h.ok, ⟨[], by simp, fun x hx => by cases hx⟩, fun v hv => by cases hv⟩
theorem TR.ht {Rp : Nat → Prop} {vis vis' : List Nat} {t t' : TS} {m : Nat} (h : HT N C ow m vis t) (k : TR o N C fr ow Rp vis t t' vis') : HT N C ow m (vis ++ vis') t' := by
  obtain ⟨B, hB, hs⟩ := k.pre
  refine ⟨k.sets, k.ndv, fun v hv => ?_, k.ok, fun x hx => ?_, fun v hv hm x hx => ?_⟩
  · rcases List.mem_append.1 hv with hv | hv
    · exact h.lt v hv
    · exact (k.fin v hv).1
  · rw [hB] at hx
    rcases List.mem_append.1 hx with hx | hx
    · obtain ⟨v, h1, h2⟩ := h.src x hx
      exact ⟨v, List.mem_append_left _ h1, h2⟩
    · obtain ⟨v, h1, h2⟩ := hs x hx
      exact ⟨v, List.mem_append_right _ h1, h2⟩
  · rcases List.mem_append.1 hv with hv | hv
    · rw [hB]; exact List.mem_append_left _ (h.comp v hv hm x hx)
    · exact (k.fin v hv).2.1 x hx
theorem TR.trans {Rp Rq Rs : Nat → Prop} {vis v1 v2 : List Nat} {t t1 t2 : TS} (a : TR o N C fr ow Rp vis t t1 v1) (b : TR o N C fr ow Rq (vis ++ v1) t1 t2 v2) (hp : ∀ v, Rp v → Rs v) (hq : ∀ v, Rq v → Rs v) : TR o N C fr ow Rs vis t t2 (v1 ++ v2) := by
  obtain ⟨B1, e1, s1⟩ := a.pre
  obtain ⟨B2, e2, s2⟩ := b.pre
  refine ⟨by rw [← List.append_assoc]; exact b.sets, by rw [← List.append_assoc]; exact b.ndv, b.ok, ⟨B1 ++ B2, by rw [e2, e1]; simp, fun x hx => ?_⟩, fun v hv => ?_⟩
  · rcases List.mem_append.1 hx with hx | hx
    · obtain ⟨v, h1, h2⟩ := s1 x hx; exact ⟨v, List.mem_append_left _ h1, h2⟩
    · obtain ⟨v, h1, h2⟩ := s2 x hx; exact ⟨v, List.mem_append_right _ h1, h2⟩
  · rcases List.mem_append.1 hv with hv | hv
    · obtain ⟨f1, f2, f3, f4, f5⟩ := a.fin v hv
      refine ⟨f1, fun x hx => by rw [e2]; exact List.mem_append_left _ (f2 x hx), fun f hf => ?_, hp v f4, fun ho => by rw [e2]; exact (f5 ho).app⟩
      rw [← List.append_assoc]; exact List.mem_append_left _ (f3 f hf)
    · obtain ⟨f1, f2, f3, f4, f5⟩ := b.fin v hv
      exact ⟨f1, f2, fun f hf => by rw [← List.append_assoc]; exact f3 f hf, hq v f4, f5⟩
theorem tell_fold {n j : Nat} (hjN : j ≤ N) (ih : ∀ f, f < j → dep n (C f) → ∀ t vis, HT N C ow (f + 1) vis t → ∃ vis', TR o N C fr ow (fun v => v ≤ f ∧ Rch fr f v) vis t (tellN n o (C f) t) vis' ∧ f ∈ vis ++ vis') :
    ∀ (fl : List Nat), (∀ f ∈ fl, f < j ∧ dep n (C f)) → ∀ t vis, HT N C ow j vis t → ∃ vis', TR o N C fr ow (fun v => v < j ∧ ∃ f ∈ fl, Rch fr f v) vis t ((fl.map C).foldl (fun t f => tellN n o f t) t) vis' ∧ ∀ f ∈ fl, f ∈ vis ++ vis'
  | [], _, t, vis, h => ⟨[], TR.nil h, fun f hf => by cases hf⟩
  | f :: fl, hl, t, vis, h => by
    obtain ⟨hf, hd⟩ := hl f List.mem_cons_self
    obtain ⟨v1, a, m1⟩ := ih f hf hd t vis ⟨h.sets, h.ndv, h.lt, h.ok, h.src, fun v hv hm x hx => h.comp v hv (by omega) x hx⟩
    have h1 : HT N C ow j (vis ++ v1) (tellN n o (C f) t) := a.ht h
    obtain ⟨v2, b, m2⟩ := tell_fold hjN ih fl (fun g hg => hl g (List.mem_cons_of_mem _ hg)) _ _ h1
    refine ⟨v1 ++ v2, a.trans b (fun v hv => ⟨by omega, f, List.mem_cons_self, hv.2⟩) (fun v hv => ⟨hv.1, ?_⟩), fun g hg => ?_⟩
    · obtain ⟨g, hg, hr⟩ := hv.2
      exact ⟨g, List.mem_cons_of_mem _ hg, hr⟩
    · rw [← List.append_assoc]
      rcases List.mem_cons.1 hg with rfl | hg
      · exact List.mem_append_left _ m1
      · exact m2 g hg
theorem tell_all (D : DG N C fr ow) : ∀ (n j : Nat), j < N → dep n (C j) → ∀ t vis, HT N C ow (j + 1) vis t →
    ∃ vis', TR o N C fr ow (fun v => v ≤ j ∧ Rch fr j v) vis t (tellN n o (C j) t) vis' ∧ j ∈ vis ++ vis' ∧ (o = 1 → j ∉ vis → ∃ B, (tellN n o (C j) t).out = t.out ++ ow j ++ B) := by
  intro n
  induction n with
  | zero => intro j hj hd; obtain ⟨m, e, _⟩ := dep_succ (D.nn j hj) hd; omega
  | succ n ih =>
    intro j hj hd t vis h
    obtain ⟨m, e, hdf⟩ := dep_succ (D.nn j hj) hd
    obtain rfl : n = m := by omega
    by_cases hv : j ∈ vis
    · have : (C j).id ∈ t.sets := by rw [h.sets]; exact List.mem_map.2 ⟨j, hv, rfl⟩
      rw [tell_done this]
      exact ⟨[], TR.nil h, by rw [List.append_nil]; exact hv, fun _ hn => absurd hv hn⟩
    · have hni : (C j).id ∉ t.sets := fun hm => by
        rw [h.sets] at hm
        obtain ⟨v, h1, h2⟩ := List.mem_map.1 hm
        exact hv (D.id v j (h.lt v h1) hj h2 ▸ h1)
      have hdl : ∀ f ∈ fr j, f < j ∧ dep n (C f) := fun f hf => ⟨D.lt j hj f hf, hdf _ (by rw [D.frs j hj]; exact List.mem_map.2 ⟨f, hf, rfl⟩)⟩
      have ih' : ∀ f, f < j → dep n (C f) → ∀ t vis, HT N C ow (f + 1) vis t → ∃ vis', TR o N C fr ow (fun v => v ≤ f ∧ Rch fr f v) vis t (tellN n o (C f) t) vis' ∧ f ∈ vis ++ vis' := fun f hf hd t vis h => by
        obtain ⟨v', a, b, _⟩ := ih f (by omega) hd t vis h
        exact ⟨v', a, b⟩
      have hsrc : ∀ x ∈ t.out, ∀ y ∈ ow j, keyP x ≠ keyP y := fun x hx y hy => by
        obtain ⟨v, h1, h2⟩ := h.src x hx
        exact D.dis v j (h.lt v h1) hj (fun e => hv (e ▸ h1)) x h2 y hy
      have hndj : (vis ++ [j]).Nodup := List.nodup_append.2 ⟨h.ndv, by simp, fun a ha b hb e => hv (by rw [← List.mem_singleton.1 hb, ← e]; exact ha)⟩
      rw [tellN_succ, if_neg hni]
      by_cases ho : o = 1
      · subst ho
        have hfr : ∀ y ∈ ow j, keyP y ∉ t.keys := fun y hy hm => by
          rw [h.ok.k] at hm
          obtain ⟨x, hx, e⟩ := List.mem_map.1 hm
          exact hsrc x hx y hy e
        have e1 : preT 1 (C j) t = { sets := t.sets ++ [(C j).id], keys := t.keys ++ (ow j).map keyP, out := t.out ++ ow j } := by
          unfold preT
          rw [if_pos rfl, D.own j hj, ownT_fresh _ { t with sets := t.sets ++ [(C j).id] } (D.nd j hj) hfr]
        have hok : TOk { sets := t.sets ++ [(C j).id], keys := t.keys ++ (ow j).map keyP, out := t.out ++ ow j } := by
          refine ⟨by rw [h.ok.k, List.map_append], List.nodup_append.2 ⟨h.ok.nd, D.nd j hj, fun a ha b hb e => ?_⟩⟩
          obtain ⟨y, hy, rfl⟩ := List.mem_map.1 hb
          exact hfr y hy (e ▸ ha)
        have h1 : HT N C ow j (vis ++ [j]) { sets := t.sets ++ [(C j).id], keys := t.keys ++ (ow j).map keyP, out := t.out ++ ow j } := by
          refine ⟨by rw [h.sets]; simp, hndj, fun v hv' => ?_, hok, fun x hx => ?_, fun v hv' hm x hx => ?_⟩
          · rcases List.mem_append.1 hv' with h2 | h2
            · exact h.lt v h2
            · rw [List.mem_singleton.1 h2]; exact hj
          · rcases List.mem_append.1 hx with h2 | h2
            · obtain ⟨v, a, b⟩ := h.src x h2; exact ⟨v, List.mem_append_left _ a, b⟩
            · exact ⟨j, List.mem_append_right _ List.mem_cons_self, h2⟩
          · rcases List.mem_append.1 hv' with h2 | h2
            · exact List.mem_append_left _ (h.comp v h2 (by omega) x hx)
            · have := List.mem_singleton.1 h2; omega
        obtain ⟨v2, b, m2⟩ := tell_fold (by omega) ih' (fr j) hdl _ _ h1
        obtain ⟨B, eB, sB⟩ := b.pre
        have e2 : postT 1 (C j) (midT n 1 (C j) (preT 1 (C j) t)) = (((fr j).map C).foldl (fun t f => tellN n 1 f t) { sets := t.sets ++ [(C j).id], keys := t.keys ++ (ow j).map keyP, out := t.out ++ ow j }) := by
          unfold postT midT
          rw [if_pos rfl, if_neg (by decide), e1, D.frs j hj]
        rw [e2]
        refine ⟨j :: v2, ⟨by rw [b.sets]; simp, by have := b.ndv; simpa using this, b.ok, ⟨ow j ++ B, by rw [eB]; simp, fun x hx => ?_⟩, fun v hv' => ?_⟩, by simp, fun _ _ => ⟨B, eB⟩⟩
        · rcases List.mem_append.1 hx with hx | hx
          · exact ⟨j, List.mem_cons_self, hx⟩
          · obtain ⟨v, a, c⟩ := sB x hx; exact ⟨v, List.mem_cons_of_mem _ a, c⟩
        · rcases List.mem_cons.1 hv' with rfl | hv'
          · refine ⟨hj, fun x hx => by rw [eB]; exact List.mem_append_left _ (List.mem_append_right _ hx), fun f hf => ?_, ⟨Nat.le_refl _, .refl⟩, fun e => absurd rfl e⟩
            have := m2 f hf
            simpa using this
          · obtain ⟨f1, f2, f3, f4, f5⟩ := b.fin v hv'
            refine ⟨f1, f2, fun f hf => by have := f3 f hf; simpa using this, ⟨by omega, ?_⟩, f5⟩
            obtain ⟨g, hg, hr⟩ := f4.2
            exact Rch.under hg hr
      · have e1 : preT o (C j) t = { t with sets := t.sets ++ [(C j).id] } := by unfold preT; rw [if_neg ho]
        have h1 : HT N C ow j (vis ++ [j]) { t with sets := t.sets ++ [(C j).id] } := by
          refine ⟨by rw [h.sets]; simp, hndj, fun v hv' => ?_, ⟨h.ok.k, h.ok.nd⟩, fun x hx => ?_, fun v hv' hm x hx => ?_⟩
          · rcases List.mem_append.1 hv' with h2 | h2
            · exact h.lt v h2
            · rw [List.mem_singleton.1 h2]; exact hj
          · obtain ⟨v, a, b⟩ := h.src x hx; exact ⟨v, List.mem_append_left _ a, b⟩
          · rcases List.mem_append.1 hv' with h2 | h2
            · exact h.comp v h2 (by omega) x hx
            · have := List.mem_singleton.1 h2; omega
        have hmem : ∀ f, f ∈ (if o = 3 then (fr j).reverse else fr j) ↔ f ∈ fr j := fun f => by split <;> simp
        obtain ⟨v2, b, m2⟩ := tell_fold (by omega) ih' (if o = 3 then (fr j).reverse else fr j) (fun f hf => hdl f ((hmem f).1 hf)) _ _ h1
        have em : (if o = 3 then (C j).fr.reverse else (C j).fr) = (if o = 3 then (fr j).reverse else fr j).map C := by
          rw [D.frs j hj]; split <;> simp
        generalize ht2 : (((if o = 3 then (fr j).reverse else fr j).map C).foldl (fun t f => tellN n o f t) { t with sets := t.sets ++ [(C j).id] }) = t2 at b
        obtain ⟨B, eB, sB⟩ := b.pre
        have hL : ((if o = 3 then (ow j).reverse else ow j).map keyP).Nodup := by
          split
          · rw [List.map_reverse]; exact List.pairwise_reverse.2 ((D.nd j hj).imp fun h => Ne.symm h)
          · exact D.nd j hj
        have hLm : ∀ y, y ∈ (if o = 3 then (ow j).reverse else ow j) ↔ y ∈ ow j := fun y => by split <;> simp
        have hfr : ∀ y ∈ (if o = 3 then (ow j).reverse else ow j), keyP y ∉ t2.keys := fun y hy hm => by
          rw [b.ok.k] at hm
          obtain ⟨x, hx, e⟩ := List.mem_map.1 hm
          rw [eB] at hx
          rcases List.mem_append.1 hx with hx | hx
          · exact hsrc x hx y ((hLm y).1 hy) e
          · obtain ⟨v, a, c⟩ := sB x hx
            obtain ⟨f1, _, _, f4, _⟩ := b.fin v a
            exact D.dis v j f1 hj (by omega) x c y ((hLm y).1 hy) e
        have e2 : postT o (C j) (midT n o (C j) (preT o (C j) t)) = { t2 with keys := t2.keys ++ (if o = 3 then (ow j).reverse else ow j).map keyP, out := t2.out ++ (if o = 3 then (ow j).reverse else ow j) } := by
          unfold postT midT
          rw [if_neg ho, em, e1, ht2, D.own j hj, ownT_fresh _ _ hL hfr]
        rw [e2]
        refine ⟨j :: v2, ⟨by show t2.sets = _; rw [b.sets]; simp, by have := b.ndv; simpa using this, ⟨by show _ = List.map keyP (_ ++ _); rw [List.map_append, b.ok.k], List.nodup_append.2 ⟨b.ok.nd, hL, fun a ha c hc e => ?_⟩⟩, ⟨B ++ (if o = 3 then (ow j).reverse else ow j), by show _ ++ _ = _; rw [eB]; simp, fun x hx => ?_⟩, fun v hv' => ?_⟩, by simp, fun e => absurd e ho⟩
        · obtain ⟨y, hy, rfl⟩ := List.mem_map.1 hc
          exact hfr y hy (e ▸ ha)
        · rcases List.mem_append.1 hx with hx | hx
          · obtain ⟨v, a, c⟩ := sB x hx; exact ⟨v, List.mem_cons_of_mem _ a, c⟩
          · exact ⟨j, List.mem_cons_self, (hLm x).1 hx⟩
        · rcases List.mem_cons.1 hv' with rfl | hv'
          · refine ⟨hj, fun x hx => List.mem_append_right _ ((hLm x).2 hx), fun f hf => ?_, ⟨Nat.le_refl _, .refl⟩, fun _ => ⟨t2.out, [], by simp, fun f hf x hx => ?_⟩⟩
            · have := m2 f ((hmem f).2 hf)
              simpa using this
            · have h3 := m2 f ((hmem f).2 hf)
              have h4 := D.lt v hj f hf
              rcases List.mem_append.1 h3 with h3 | h3
              · rcases List.mem_append.1 h3 with h3 | h3
                · rw [eB]; exact List.mem_append_left _ (h.comp f h3 (by omega) x hx)
                · have := List.mem_singleton.1 h3; omega
              · exact (b.fin f h3).2.1 x hx
          · obtain ⟨f1, f2, f3, f4, f5⟩ := b.fin v hv'
            refine ⟨f1, fun x hx => List.mem_append_left _ (f2 x hx), fun f hf => by have := f3 f hf; simpa using this, ⟨by omega, ?_⟩, fun e => (f5 e).app⟩
            obtain ⟨g, hg, hr⟩ := f4.2
            exact Rch.under ((hmem g).1 hg) hr
end
end Go.Proofs.YtofenpiiihhigaaDoor


 /- DepsRows and DepsOrders, plainly. -/
namespace Go.Proofs.YtofenpiiihhigaaDoor
open Go Go.RowKit
theorem tup4 {a b c d : Nat} (h : (0 < a ∧ a < 10) ∧ (0 < b ∧ b < 10) ∧ (0 < c ∧ c < 10) ∧ 0 < d ∧ d < 10) : tupT [(a : Int), b, c, d] = [40, UInt8.ofNat (48 + a), 44, 32, UInt8.ofNat (48 + b), 44, 32, UInt8.ofNat (48 + c), 44, 32, UInt8.ofNat (48 + d), 41] := by
  obtain ⟨⟨a0, a1⟩, ⟨b0, b1⟩, ⟨c0, c1⟩, d0, d1⟩ := h
  simp [tupT, comT, txt_dig a0 a1, txt_dig b0 b1, txt_dig c0 c1, txt_dig d0 d1]
theorem ex4_txt {o : Int} (ho : 1 ≤ o ∧ o ≤ 3) : tupT (ex4Z o) = ([([40, 52, 44, 32, 50, 44, 32, 49, 44, 32, 51, 41] : List UInt8), ([40, 49, 44, 32, 50, 44, 32, 51, 44, 32, 52, 41] : List UInt8), ([40, 52, 44, 32, 50, 44, 32, 51, 44, 32, 49, 41] : List UInt8)] : List (List UInt8)).getD ((o - (1 : Int)).toNat) [] := by
  have : o = 1 ∨ o = 2 ∨ o = 3 := by omega
  rcases this with rfl | rfl | rfl
  · exact (tup4 (a := 4) (b := 2) (c := 1) (d := 3) (by omega)).trans rfl
  · exact (tup4 (a := 1) (b := 2) (c := 3) (d := 4) (by omega)).trans rfl
  · exact (tup4 (a := 4) (b := 2) (c := 3) (d := 1) (by omega)).trans rfl
theorem first_M {K : Bool → Prop} (h : K true) : M_smithylaw13_first K := by
  refine ⟨fun o l => 1 ≤ o ∧ o ≤ 4 ∧ ∃ a b c d : Int, l = [(a, [1], []), (b, [2], [0]), (c, [3], [0]), (d, [4], [1, 2])], fun o _ => (4 - o).toNat, ⟨by omega, by omega, 0, 0, 0, 0, rfl⟩, ?_⟩
  rintro o _ ⟨o0, o1, a, b, c, d, rfl⟩ _
  refine ⟨fun ho => ?_, fun _ => h⟩
  refine ⟨fun i l2 => ∃ a b c d : Int, l2 = [(a, [1], []), (b, [2], [0]), (c, [3], [0]), (d, [4], [1, 2])] ∧ (i = 0 ∨ (i = 1 ∧ a = o) ∨ (i = 2 ∧ a = o ∧ b = o) ∨ (i = 3 ∧ a = o ∧ b = o ∧ c = o) ∨ (i = 4 ∧ a = o ∧ b = o ∧ c = o ∧ d = o)), fun i _ => (4 - i).toNat, ⟨a, b, c, d, rfl, .inl rfl⟩, ?_⟩
  rintro i _ ⟨a, b, c, d, rfl, hi⟩ _
  refine ⟨fun hi4 => ⟨⟨by omega, by omega⟩, by simp only [In]; omega, ?_, by dsimp only; omega⟩, fun hi4 => ?_⟩
  · rcases hi with rfl | ⟨rfl, rfl⟩ | ⟨rfl, rfl, rfl⟩ | ⟨rfl, rfl, rfl, rfl⟩ | ⟨rfl, _⟩
    · exact ⟨o, b, c, d, rfl, .inr (.inl ⟨rfl, rfl⟩)⟩
    · exact ⟨a, a, c, d, rfl, .inr (.inr (.inl ⟨rfl, rfl, rfl⟩))⟩
    · exact ⟨b, b, b, d, rfl, .inr (.inr (.inr (.inl ⟨rfl, rfl, rfl, rfl⟩)))⟩
    · exact ⟨c, c, c, c, rfl, .inr (.inr (.inr (.inr ⟨rfl, rfl, rfl, rfl, rfl⟩)))⟩
    · omega
  · obtain ⟨rfl, rfl, rfl, rfl⟩ : a = o ∧ b = o ∧ c = o ∧ d = o := by omega
    refine made_M (l := ex4 d) (by simp [ex4]) ⟨o0, ho⟩ (fun r hr => ?_) (fun out hm hl => ?_)
    · simp only [ex4, List.mem_cons, List.not_mem_nil, or_false] at hr
      rcases hr with rfl | rfl | rfl | rfl <;> simp
    · refine ⟨fun q => q = false, ⟨fun e => absurd e (by decide), fun _ => ?_⟩, ?_⟩
      · obtain ⟨g1, g2, g3, g4, d1, d2, d3, d4, e1, e2, e3, e4, n1, n2, n3, n4, n5, n6, rfl⟩ := ex4_out hm hl
        refine ⟨⟨by omega, by simp⟩, told_M (zs := ex4Z d) (by intro e; cases e) (fun n hn => ex4_tell ⟨o0, ho⟩ n1 n2 n3 n4 n5 n6 n hn) ⟨?_, fun z hz => txt_len ?_⟩ ⟨by simp only [In]; omega, ⟨by omega, by omega⟩, ?_⟩⟩
        · unfold ex4Z; split
          · decide
          · split <;> decide
        · have : z = 1 ∨ z = 2 ∨ z = 3 ∨ z = 4 := by
            unfold ex4Z at hz
            split at hz
            · simp at hz; omega
            · split at hz <;> simp at hz <;> omega
          omega
        · rw [ex4_txt ⟨o0, ho⟩, decide_eq_true rfl]; rfl
      · rintro _ rfl
        exact ⟨fun e => (by cases e), fun _ => ⟨by simp only [In]; omega, ⟨by omega, by omega, d, d, d, d, rfl⟩, by dsimp only; omega⟩⟩
/-! ## DepsOrders -/
def idxD (l : List (List UInt8)) (s : List UInt8) : Int := if l.idxOf s < l.length then l.idxOf s else -1
theorem amongD_M {l : List (List UInt8)} {s : List UInt8} {K : Int → Prop} (h : K (idxD l s)) : M_smithyref_AmongTexts l s K := by
  intro hm
  simp only [maxLen] at hm
  refine ⟨fun i => 0 ≤ i ∧ i ≤ l.length ∧ ∀ j, j < i.toNat → l.getD j [] ≠ s, fun i => l.length - i.toNat, ⟨by omega, by omega, fun j hj => by simp at hj⟩, fun i ⟨a0, a1, a2⟩ => ⟨fun hlt => ⟨by omega, fun e => ?_, fun e => ⟨by simp only [In]; omega, ⟨by omega, by omega, fun j hj => ?_⟩, by dsimp only; omega⟩⟩, fun hge => ?_⟩⟩
  · have hix : l.idxOf s = i.toNat := by
      have h1 : l.idxOf s < l.length := List.idxOf_lt_length_iff.2 (by rw [← e, getD_get' (by omega)]; exact List.getElem_mem _)
      have h2 : l[l.idxOf s] = s := List.getElem_idxOf h1
      have h3 : ¬ l.idxOf s < i.toNat := fun q => a2 _ q (by rw [getD_get' h1]; exact h2)
      have h4 : ¬ i.toNat < l.idxOf s := fun q => by
        have := List.not_of_lt_findIdx (p := (· == s)) (xs := l) q
        exact absurd ((getD_get' (d := []) (show i.toNat < l.length by omega)).symm.trans e) (beq_eq_false_iff_ne.1 this)
      omega
    unfold idxD at h
    rw [hix, if_pos (by omega), Int.toNat_of_nonneg a0] at h
    exact h
  · by_cases e2 : j = i.toNat
    · rw [e2]; exact e
    · exact a2 j (by omega)
  · unfold idxD at h
    rw [if_neg] at h
    · exact h
    · intro h1
      exact a2 (l.idxOf s) (by omega) (by rw [getD_get' h1]; exact List.getElem_idxOf h1)
end Go.Proofs.YtofenpiiihhigaaDoor


 /- DepsOnce: its own rows are laid (by hand). -/
namespace Go.Proofs.YtofenpiiihhigaaDoor
open Go Go.RowKit
attribute [local irreducible] WL WC WX WQ WK WJ Yld Eff Ef0 Fn
def cL : Code → Code
  | .seq a _ => a
  | c => c
def cR : Code → Code
  | .seq _ b => b
  | c => c
noncomputable def onceLoop : Code := cL (cR (cR (cR (cR (cR (cR (Tryd.f3.body.getD .skip)))))))
abbrev RowO := Int × List Int × List Int
def ownO (i n : Nat) : List Int := (List.range n).map fun k : Nat => 100 * (i : Int) + (k : Int)
def rowO (o : Int) (l : List RowO) (i : Nat) : RowO := (o, ownO i (l.getD i (0, [], [])).2.1.length, (l.getD i (0, [], [])).2.2)
def rowsTo (o : Int) (l : List RowO) (n : Nat) : List RowO := (List.range l.length).map fun j => if j < n then rowO o l j else (0, [], [])
def onceRows (o : Int) (l : List RowO) : List RowO := rowsTo o l l.length
theorem rowsTo_len (o : Int) (l : List RowO) (n : Nat) : (rowsTo o l n).length = l.length := by simp [rowsTo]
theorem rowsTo_zero (o : Int) (l : List RowO) : rowsTo o l 0 = List.replicate l.length (0, [], []) := by
  apply List.ext_getElem?
  intro j
  rw [List.getElem?_replicate]
  simp only [rowsTo, List.getElem?_map]
  by_cases h : j < l.length
  · rw [List.getElem?_range h, if_pos h]; rfl
  · rw [if_neg h, List.getElem?_eq_none (by simpa using h)]; rfl
theorem rowsTo_set (o : Int) (l : List RowO) (i : Nat) : (rowsTo o l i).set i (rowO o l i) = rowsTo o l (i + 1) := by
  apply List.ext_getElem?
  intro j
  rw [List.getElem?_set]
  simp only [rowsTo, List.getElem?_map, List.length_map, List.length_range]
  by_cases h : j < l.length
  · rw [List.getElem?_range h]
    by_cases e : i = j
    · subst e
      rw [if_pos rfl, if_pos h]
      simp
    · rw [if_neg e]
      simp only [Option.map_some]
      by_cases h2 : j < i
      · rw [if_pos h2, if_pos (by omega)]
      · rw [if_neg h2, if_neg (by omega)]
  · rw [List.getElem?_eq_none (l := List.range l.length) (by simpa using h)]
    by_cases e : i = j
    · subst e; rw [if_pos rfl, if_neg h]; rfl
    · rw [if_neg e]; rfl
theorem ownO_succ (i n : Nat) : ownO i (n + 1) = ownO i n ++ [100 * (i : Int) + (n : Int)] := by
  unfold ownO; rw [List.range_succ, List.map_append]; rfl
theorem ownO_len (i n : Nat) : (ownO i n).length = n := by simp [ownO]
theorem set_getD {α : Type} {l : List α} {i : Nat} {x d : α} (h : i < l.length) : (l.set i x).getD i d = x := by simp [List.getD, h]
set_option maxHeartbeats 4000000 in
theorem once_loop {Q : Post} {w0 w : World} {l : List RowO} {A_l A_m : Option Addr} {c_l c_m : Nat} {hs_l : List (Int × Hdr × Hdr)} {o : Int} (hl : RdK 3 encH28 w0 A_l c_l hs_l) (hr_l : RelD de28 w0 hs_l l) (gr0 : w0.grownBy w none)
    (hm : OwnK 3 encH28 w w0.heap.size 28 A_m c_m (List.replicate l.length ((0, hd0, hd0) : Int × Hdr × Hdr))) (hlim : l.length ≤ 20 ∧ ∀ r ∈ l, r.2.1.length ≤ 10)
    (kk : ∀ w2 hs', w0.grownBy w2 none → OwnK 3 encH28 w2 w0.heap.size 28 A_m c_m hs' → RelD de28 w2 hs' (onceRows o l) → WX 275 Q .normal [(0, .slice A_l l.length c_l), (1, .int .i64 o), (6, .slice A_m l.length c_m)] w2) :
    WC Tryd.prog 275 Q onceLoop [(0, .slice A_l l.length c_l), (1, .int .i64 o), (6, .slice A_m l.length c_m)] w := by
  obtain ⟨hl20, hl10⟩ := hlim
  refine WC.seq ?_
  refine WC.region ?_
  refine WL.y rfl (Yld.pure tab_ok rfl) ?_
  refine WL.nil (WX.then_normal ?_)
  refine WC.block ?_
  refine WC.loopF (fun n' L' w' => ∃ (i : Int), ∃ (hs : List (Int × Hdr × Hdr)), n' = ((l.length : Int) - i).toNat ∧ L' = [(0, .slice A_l l.length c_l), (1, .int .i64 o), (6, .slice A_m l.length c_m), (7, .int .i64 i)] ∧ 0 ≤ i ∧ i ≤ l.length ∧ w0.grownBy w' none ∧ OwnK 3 encH28 w' w0.heap.size 28 A_m c_m hs ∧ RelD de28 w' hs (rowsTo o l i.toNat) ∧ DnD de28 hs (rowsTo o l i.toNat) (blk A_m)) _ _
    ⟨0, _, rfl, rfl, Int.le_refl _, by omega, gr0, hm, ?_, ?_⟩ (by repeat (first | exact Sub.nil | refine Sub.cons rfl ?_)) ?_
  · rw [show (0 : Int).toNat = 0 from rfl, rowsTo_zero]
    exact RelD.rep _ ⟨rfl, ⟨rfl, Rd.nil _ _ (Nat.zero_le _)⟩, ⟨rfl, Rd.nil _ _ (Nat.zero_le _)⟩⟩
  · rw [show (0 : Int).toNat = 0 from rfl, rowsTo_zero]
    intro j h x hh hx
    have hx' := (List.mem_replicate.1 (List.mem_of_getElem? hx)).2
    subst hx'
    exact ⟨trivial, fun e => absurd rfl e, fun e => absurd rfl e⟩
  rintro _ _ w1 ⟨i, hs, rfl, rfl, hi0, hi1, gr1, k1, k2, dj1⟩
  have hhs : hs.length = l.length := by rw [k2.1, rowsTo_len]
  refine WC.seq ?_
  refine WC.seq ?_
  refine WC.region ?_
  refine WL.y rfl (Yld.pure tab_ok rfl) ?_
  refine WL.y rfl (Yld.pure tab_ok rfl) ?_
  refine WL.y rfl (Yld.pure tab_ok rfl) ?_
  refine WL.y rfl (Yld.pure tab_ok rfl) ?_
  refine WL.nil (WX.then_normal ?_)
  refine WC.cond rfl (fun b1 => ?_) (fun b1 => ?_)
  · have hil : i < (l.length : Int) := of_decide_eq_true b1
    have hin : i.toNat < l.length := by omega
    have hinl : i.toNat < hs_l.length := by rw [hr_l.1]; exact hin
    have hinm : i.toNat < hs.length := by rw [hhs]; exact hin
    refine WC.skip (WX.then_normal ?_)
    refine WC.seq ?_
    refine WC.block ?_
    refine WC.seq ?_
    refine WC.region ?_
    refine WL.y rfl (Yld.pure tab_ok rfl) ?_
    refine WL.y rfl (Yld.pure tab_ok rfl) ?_
    refine WL.y rfl (Yld.pure tab_ok rfl) ?_
    refine WL.y rfl (Yld.pure tab_ok rfl) ?_
    refine WL.y rfl (Yld.pure tab_ok rfl) ?_
    refine WL.y rfl (Yld.iaddrK tab_ok (hl.grown gr1) rfl rfl hr_l.1.symm rfl hi0 hil) ?_
    refine WL.y rfl (Yld.faddrK tab_ok (hl.grown gr1) hinl rfl rfl rfl) ?_
    obtain ⟨⟨f1, ⟨A1, n1, c1⟩, ⟨A2, n2, c2⟩⟩, eh1, ⟨en1, ⟨en2, hR1⟩, ⟨en3, hR2⟩⟩⟩ := RelD.at hr_l (0, hd0, hd0) (0, [], []) (j := i.toNat) hin
    have en2 : n1 = ((l.getD i.toNat (0, [], [])).2.1).length := en2
    subst en2
    have en3 : n2 = ((l.getD i.toNat (0, [], [])).2.2).length := en3
    subst en3
    have hn10 : ((l.getD i.toNat (0, [], [])).2.1).length ≤ 10 := by
      refine hl10 _ ?_
      have : l.getD i.toNat (0, [], []) = l[i.toNat] := by simp [List.getD, hin]
      rw [this]; exact List.getElem_mem hin
    have dfrom : ∀ p : Option Nat, Ge p w0.heap.size → Dn ((l.getD i.toNat (0, [], [])).2.2) (blk A2) p := fun p hp => (DnD.at (hr_l.new hp) hr_l.1 hin eh1).2.2
    refine WL.y rfl (Yld.iloadF (v := .slice A2 (((l.getD i.toNat (0, [], [])).2.2).length) c2) (0, hd0, hd0) tab_ok (hl.grown gr1) rfl rfl hinl (by rw [eh1]; rfl)) ?_
    refine WL.y rfl (Yld.struct (us := [.int .i64 o, .slice none 0 0, .slice A2 (((l.getD i.toNat (0, [], [])).2.2).length) c2]) zero28 places28 rfl rfl) ?_
    refine WL.y rfl (Yld.iaddrK tab_ok k1.rd rfl rfl hhs.symm rfl hi0 hil) ?_
    refine WL.ostoreK (v := ((o, hd0, ⟨A2, ((l.getD i.toNat (0, [], [])).2.2).length, c2⟩) : Int × Hdr × Hdr)) tab_ok rfl k1 rfl rfl hinm (fun w2 hO1 hg1 => ?_)
    have gr2 := gr_mod gr1 hg1 k1.ge'
    refine WL.nil (WX.then_normal ?_)
    have r2 : RelD de28 w2 (hs.set i.toNat ((o, hd0, ⟨A2, ((l.getD i.toNat (0, [], [])).2.2).length, c2⟩) : Int × Hdr × Hdr)) ((rowsTo o l i.toNat).set i.toNat (o, [], (l.getD i.toNat (0, [], [])).2.2)) :=
      RelD.set (h := ((o, hd0, ⟨A2, ((l.getD i.toNat (0, [], [])).2.2).length, c2⟩) : Int × Hdr × Hdr)) (x := (o, [], (l.getD i.toNat (0, [], [])).2.2)) (k2.go hg1 dj1) ⟨rfl, ⟨rfl, Rd.nil _ _ (Nat.zero_le _)⟩, ⟨rfl, hR2.grown gr2⟩⟩ i.toNat
    have d2 : DnD de28 (hs.set i.toNat ((o, hd0, ⟨A2, ((l.getD i.toNat (0, [], [])).2.2).length, c2⟩) : Int × Hdr × Hdr)) ((rowsTo o l i.toNat).set i.toNat (o, [], (l.getD i.toNat (0, [], [])).2.2)) (blk A_m) :=
      DnD.set (h := ((o, hd0, ⟨A2, ((l.getD i.toNat (0, [], [])).2.2).length, c2⟩) : Int × Hdr × Hdr)) (x := (o, [], (l.getD i.toNat (0, [], [])).2.2)) dj1 ⟨trivial, fun e => absurd rfl e, dfrom _ k1.ge'⟩ i.toNat
    generalize hn1 : ((l.getD i.toNat (0, [], [])).2.1).length = n1 at hn10 en1 hR1 eh1
    refine WC.seq ?_
    refine WC.region ?_
    refine WL.y rfl (Yld.pure tab_ok rfl) ?_
    refine WL.nil (WX.then_normal ?_)
    refine WC.block ?_
    refine WC.loopF (fun n' L' w' => ∃ (k : Int), ∃ (A : Option Addr), ∃ (c : Nat), ∃ (own : List Int), n' = ((n1 : Int) - k).toNat ∧ L' = [(0, .slice A_l l.length c_l), (1, .int .i64 o), (6, .slice A_m l.length c_m), (7, .int .i64 i), (8, .int .i64 k)] ∧ 0 ≤ k ∧ k ≤ n1 ∧ own = ownO i.toNat k.toNat ∧ w0.grownBy w' none ∧ Own vi w' w0.heap.size 3 A c own ∧
      OwnK 3 encH28 w' w0.heap.size 28 A_m c_m (hs.set i.toNat ((o, ⟨A, own.length, c⟩, ⟨A2, ((l.getD i.toNat (0, [], [])).2.2).length, c2⟩) : Int × Hdr × Hdr)) ∧
      RelD de28 w' (hs.set i.toNat ((o, hd0, ⟨A2, ((l.getD i.toNat (0, [], [])).2.2).length, c2⟩) : Int × Hdr × Hdr)) ((rowsTo o l i.toNat).set i.toNat (o, [], (l.getD i.toNat (0, [], [])).2.2)) ∧
      DnD de28 (hs.set i.toNat ((o, hd0, ⟨A2, ((l.getD i.toNat (0, [], [])).2.2).length, c2⟩) : Int × Hdr × Hdr)) ((rowsTo o l i.toNat).set i.toNat (o, [], (l.getD i.toNat (0, [], [])).2.2)) (blk A) ∧ Dj (blk A_m) (blk A)) _ _
      ⟨0, none, 0, [], rfl, rfl, Int.le_refl _, by omega, rfl, gr2, Own.nil _ _ _ _, hO1, r2, DnD.none r2, Dj.nr⟩ (by repeat (first | exact Sub.nil | refine Sub.cons rfl ?_)) ?_
    rintro _ _ w3 ⟨k, A, c, own, rfl, rfl, hk0, hk1, hown, gr3, e1, m1, r3, d4, d5⟩
    have hml : (hs.set i.toNat ((o, ⟨A, own.length, c⟩, ⟨A2, ((l.getD i.toNat (0, [], [])).2.2).length, c2⟩) : Int × Hdr × Hdr)).length = l.length := by rw [List.length_set, hhs]
    have hmi : i.toNat < (hs.set i.toNat ((o, ⟨A, own.length, c⟩, ⟨A2, ((l.getD i.toNat (0, [], [])).2.2).length, c2⟩) : Int × Hdr × Hdr)).length := by rw [hml]; exact hin
    refine WC.seq ?_
    refine WC.seq ?_
    refine WC.region ?_
    refine WL.y rfl (Yld.pure tab_ok rfl) ?_
    refine WL.y rfl (Yld.pure tab_ok rfl) ?_
    refine WL.y rfl (Yld.pure tab_ok rfl) ?_
    refine WL.y rfl (Yld.iaddrK tab_ok (hl.grown gr3) rfl rfl hr_l.1.symm rfl hi0 hil) ?_
    refine WL.y rfl (Yld.faddrK tab_ok (hl.grown gr3) hinl rfl rfl rfl) ?_
    refine WL.y rfl (Yld.iloadF (v := .slice A1 n1 c1) (0, hd0, hd0) tab_ok (hl.grown gr3) rfl rfl hinl (by rw [eh1]; rfl)) ?_
    refine WL.y rfl (Yld.pure tab_ok rfl) ?_
    refine WL.y rfl (Yld.pure tab_ok rfl) ?_
    refine WL.nil (WX.then_normal ?_)
    refine WC.cond rfl (fun b2 => ?_) (fun b2 => ?_)
    · have hkl : k < (n1 : Int) := of_decide_eq_true b2
      have hol : own.length = k.toNat := by rw [hown, ownO_len]
      refine WC.skip (WX.then_normal ?_)
      refine WC.seq ?_
      refine WC.block ?_
      refine WC.region ?_
      refine WL.y rfl (Yld.pure tab_ok rfl) ?_
      refine WL.y rfl (Yld.pure tab_ok rfl) ?_
      refine WL.y rfl (Yld.pure tab_ok rfl) ?_
      refine WL.y rfl (Yld.pure tab_ok rfl) ?_
      refine WL.y rfl (Yld.iaddrK tab_ok m1.rd rfl rfl hml.symm rfl hi0 hil) ?_
      refine WL.y rfl (Yld.faddrK tab_ok m1.rd hmi rfl rfl rfl) ?_
      refine WL.y rfl (Yld.iloadF (v := .slice A own.length c) (0, hd0, hd0) tab_ok m1.rd rfl rfl hmi (by rw [set_getD hinm]; rfl)) ?_
      refine WL.y rfl (Yld.pure tab_ok rfl) ?_
      refine WL.y rfl (Yld.mul rfl rfl (show In .i64 ((100 : Int) * i) by simp only [In]; omega)) ?_
      refine WL.y rfl (Yld.pure tab_ok rfl) ?_
      refine WL.y rfl (Yld.add rfl rfl (show In .i64 ((100 : Int) * i + k) by simp only [In]; omega)) ?_
      refine WL.lit (us := [.int .i64 ((100 : Int) * i + k)]) tab_ok rfl rfl rfl (all1c rfl all1n) rfl (by omega) (fun g w4 hB4 hg4 hl4 => ?_)
      have hO4 : Own vi w4 w0.heap.size 3 (some ⟨g, 0, none⟩) 1 [(100 : Int) * i + k] := Own.ofBl hB4 (Nat.le_trans (size_le gr3) hl4) (by simp [maxLen]) rfl
      have gr4 := gr_trans gr3 hg4
      have h5 : (own.length + ([(100 : Int) * i + k] : List Int).length) * 8 ≤ 140737488355328 := by simp only [List.length_cons, List.length_nil]; omega
      refine WL.append tab_ok rfl rfl One.i (e1.grown hg4) rfl rfl hO4.rd rfl rfl h5 (applen h5) (size_le gr4) (fun A' c' w5 hO5 hg5 hk5 => ?_)
      have gr5 := gr_mod gr4 hg5 e1.ge'
      have m2 := (m1.grown hg4).go hg5 d5
      have r5 := (r3.grown hg4).go hg5 d4
      have d6 := RelD.app (r3.grown hg4) d4 hk5
      have d7 : Dj (blk A_m) (blk A') := (Dj.app d5.symm (m1.grown hg4).lt' hk5).symm
      refine WL.y rfl (Yld.iaddrK tab_ok m2.rd rfl rfl hml.symm rfl hi0 hil) ?_
      refine WL.y rfl (Yld.faddrK tab_ok m2.rd hmi rfl rfl rfl) ?_
      refine WL.ostoreF (v := ((o, ⟨A', (own ++ [(100 : Int) * i + k]).length, c'⟩, ⟨A2, ((l.getD i.toNat (0, [], [])).2.2).length, c2⟩) : Int × Hdr × Hdr)) (0, hd0, hd0) one26 rfl m2 rfl rfl hmi rfl (by rw [set_getD hinm]; rfl) (fun w6 m3 hg6 => ?_)
      rw [List.set_set] at m3
      refine WL.nil (WX.block_normal (WX.then_normal ?_))
      refine WC.region ?_
      refine WL.y rfl (Yld.pure tab_ok rfl) ?_
      refine WL.y rfl (Yld.add rfl rfl (show In .i64 (k + (1 : Int)) by simp only [In]; omega)) ?_
      refine WL.y rfl (Yld.pure tab_ok rfl) ?_
      refine WL.nil ?_
      have d8 : DnD de28 (hs.set i.toNat ((o, hd0, ⟨A2, ((l.getD i.toNat (0, [], [])).2.2).length, c2⟩) : Int × Hdr × Hdr)) ((rowsTo o l i.toNat).set i.toNat (o, [], (l.getD i.toNat (0, [], [])).2.2)) (blk A_m) := d2
      refine WX.roundF _ ⟨k + (1 : Int), A', c', own ++ [(100 : Int) * i + k], rfl, rfl, by omega, by omega, ?_, gr_mod gr5 hg6 m2.ge', hO5.go hg6 d7.symm, m3, r5.go hg6 d8, d6, d7⟩ (by repeat (first | exact Sub.nil | refine Sub.cons rfl ?_)) (by omega)
      rw [show (k + 1).toNat = k.toNat + 1 by omega, ownO_succ, ← hown, Int.toNat_of_nonneg hi0, Int.toNat_of_nonneg hk0]
    · have hkl : ¬ k < (n1 : Int) := of_decide_eq_false b2
      have hkn : k.toNat = n1 := by omega
      refine WC.exit (WX.then_exit (WX.then_exit (WX.block_same (WX.block_normal (WX.then_normal ?_)))))
      refine WC.region ?_
      refine WL.y rfl (Yld.pure tab_ok rfl) ?_
      refine WL.y rfl (Yld.add rfl rfl (show In .i64 (i + (1 : Int)) by simp only [In]; omega)) ?_
      refine WL.y rfl (Yld.pure tab_ok rfl) ?_
      refine WL.nil ?_
      have hrow : rowO o l i.toNat = (o, own, (l.getD i.toNat (0, [], [])).2.2) := by
        unfold rowO
        rw [hown, hkn, hn1]
      have r6 := RelD.set (h := ((o, ⟨A, own.length, c⟩, ⟨A2, ((l.getD i.toNat (0, [], [])).2.2).length, c2⟩) : Int × Hdr × Hdr)) (x := (o, own, (l.getD i.toNat (0, [], [])).2.2)) r3 ⟨rfl, ⟨rfl, e1.rd⟩, ⟨rfl, hR2.grown gr3⟩⟩ i.toNat
      have d9 := DnD.set (h := ((o, ⟨A, own.length, c⟩, ⟨A2, ((l.getD i.toNat (0, [], [])).2.2).length, c2⟩) : Int × Hdr × Hdr)) (x := (o, own, (l.getD i.toNat (0, [], [])).2.2)) d2 ⟨trivial, Dn.of d5.symm, dfrom _ k1.ge'⟩ i.toNat
      rw [List.set_set, List.set_set, ← hrow, rowsTo_set] at r6 d9
      refine WX.roundF _ ⟨i + (1 : Int), _, rfl, rfl, by omega, by omega, gr3, m1, ?_, ?_⟩ (by repeat (first | exact Sub.nil | refine Sub.cons rfl ?_)) (by omega)
      · rw [show (i + 1).toNat = i.toNat + 1 by omega]; exact r6
      · rw [show (i + 1).toNat = i.toNat + 1 by omega]; exact d9
  · have hil : ¬ i < (l.length : Int) := of_decide_eq_false b1
    have hin : i.toNat = l.length := by omega
    refine WC.exit (WX.then_exit (WX.then_exit (WX.block_same ?_)))
    rw [hin] at k2
    exact WX.weaken (by repeat (first | exact Sub.nil | refine Sub.cons rfl ?_)) (kk w1 hs gr1 k1 k2)
end Go.Proofs.YtofenpiiihhigaaDoor


 /- DepsOnce's rows, plainly: what all of them tell. -/
namespace Go.Proofs.YtofenpiiihhigaaDoor
open Go Go.RowKit
def frI (l : List RowD) (i : Nat) : List Nat := if i = 0 then [] else (l.getD i (0, [], [])).2.2.map fun f => (numI f i).toNat
theorem Mds.nd {l : List RowD} {o : Int} {out : List PS} (h : Mds l o out) : (out.map PS.id).Nodup := by
  induction h with
  | nil => exact List.nodup_nil
  | snoc g h hlt hg ih =>
    rw [List.map_append]
    refine List.nodup_append.2 ⟨ih, by simp, fun a ha b hb e => ?_⟩
    obtain ⟨x, hx, rfl⟩ := List.mem_map.1 ha
    exact hg x hx (e.trans (List.mem_singleton.1 hb))
theorem Mds.row {l : List RowD} {o : Int} {out : List PS} (h : Mds l o out) : ∀ i, i < out.length → ∃ g, out.getD i .nil = rowS o (l.getD i (0, [], [])) (out.take i) g := by
  induction h with
  | nil => intro i hi; simp at hi
  | @snoc out g h hlt hg ih =>
    intro i hi
    rw [List.length_append] at hi
    simp only [List.length_cons, List.length_nil] at hi
    by_cases e : i < out.length
    · obtain ⟨g', e'⟩ := ih i e
      refine ⟨g', ?_⟩
      rw [List.take_append_of_le_length (by omega), ← e']
      simp [List.getD, List.getElem?_append_left e]
    · obtain rfl : i = out.length := by omega
      exact ⟨g, by simp⟩
theorem getD_take {α : Type} {l : List α} {i j : Nat} {d : α} (h : j < i) : (l.take i).getD j d = l.getD j d := by
  simp only [List.getD, List.getElem?_take, if_pos h]
theorem fromsP_frI {l : List RowD} {out : List PS} {i : Nat} (hi : i < out.length) : fromsP (out.take i) (l.getD i (0, [], [])).2.2 = (frI l i).map fun f => out.getD f .nil := by
  have hl : (out.take i).length = i := by rw [List.length_take]; omega
  unfold fromsP frI
  by_cases e : i = 0
  · subst e; simp
  · have : out.take i ≠ [] := fun h => by rw [h] at hl; simp at hl; omega
    rw [if_neg this, if_neg e, hl, List.map_map]
    refine List.map_congr_left fun f _ => ?_
    have := numI_bd f (b := (i : Int)) (by omega)
    exact getD_take (by omega)
theorem frI_lt {l : List RowD} {i f : Nat} (h : f ∈ frI l i) : f < i := by
  unfold frI at h
  split at h
  · cases h
  · obtain ⟨z, _, rfl⟩ := List.mem_map.1 h
    have := numI_bd z (b := (i : Int)) (by omega)
    omega
/-! ## own items -/
def owV (l : List RowO) (i : Nat) : List PV := (ownO i (l.getD i (0, [], [])).2.1.length).map .int
theorem owV_mem {l : List RowO} {i : Nat} {x : PV} : x ∈ owV l i ↔ ∃ k : Nat, k < (l.getD i (0, [], [])).2.1.length ∧ x = .int (100 * (i : Int) + (k : Int)) := by
  unfold owV ownO
  rw [List.map_map, List.mem_map]
  constructor
  · rintro ⟨k, hk, rfl⟩; exact ⟨k, List.mem_range.1 hk, rfl⟩
  · rintro ⟨k, hk, rfl⟩; exact ⟨k, List.mem_range.2 hk, rfl⟩
theorem owV_len (l : List RowO) (i : Nat) : (owV l i).length = (l.getD i (0, [], [])).2.1.length := by unfold owV; rw [List.length_map, ownO_len]
theorem owV_nd (l : List RowO) (i : Nat) : ((owV l i).map keyP).Nodup := by
  unfold owV ownO
  rw [List.map_map, List.map_map]
  unfold List.Nodup
  rw [List.pairwise_map]
  refine List.pairwise_lt_range.imp fun {a b} hab e => ?_
  have : 100 * (i : Int) + (a : Int) = 100 * (i : Int) + (b : Int) := keyP_iff.1 e
  omega
theorem owV_dis {l : List RowO} (hl : ∀ i, (l.getD i (0, [], [])).2.1.length ≤ 10) {i j : Nat} (hij : i ≠ j) {x y : PV} (hx : x ∈ owV l i) (hy : y ∈ owV l j) : keyP x ≠ keyP y := by
  obtain ⟨a, ha, rfl⟩ := owV_mem.1 hx
  obtain ⟨b, hb, rfl⟩ := owV_mem.1 hy
  intro e
  have := keyP_iff.1 e
  have := hl i
  have := hl j
  omega
theorem rows_get {o : Int} {l : List RowO} {i : Nat} (h : i < l.length) : (onceRows o l).getD i (0, [], []) = rowO o l i := by
  unfold onceRows rowsTo
  rw [List.getD, List.getElem?_map, List.getElem?_range h, Option.map_some, Option.getD_some, if_pos h]
theorem once_DG {o : Int} {l : List RowO} {out : List PS} (h : Mds (onceRows o l) o out) (hlen : out.length = l.length) (hl : ∀ i, (l.getD i (0, [], [])).2.1.length ≤ 10) : DG l.length (fun i => out.getD i .nil) (frI (onceRows o l)) (owV l) := by
  refine ⟨fun i j hi hj e => ?_, fun i hi => ?_, fun i hi => ?_, fun i hi => ?_, fun i hi f hf => frI_lt hf, fun i _ => owV_nd l i, fun i j _ _ hij x hx y hy => owV_dis hl hij hx hy⟩
  · have hn := h.nd
    have hi' : i < (out.map PS.id).length := by rw [List.length_map]; omega
    have hj' : j < (out.map PS.id).length := by rw [List.length_map]; omega
    have key := List.pairwise_iff_getElem.1 hn
    simp only [getD_get' (show i < out.length by omega), getD_get' (show j < out.length by omega)] at e
    rcases Nat.lt_trichotomy i j with hij | hij | hij
    · exact absurd (by rw [List.getElem_map, List.getElem_map]; exact e) (key i j hi' hj' hij)
    · exact hij
    · exact absurd (by rw [List.getElem_map, List.getElem_map]; exact e.symm) (key j i hj' hi' hij)
  · rw [getD_get' (by omega)]
    exact h.facts.nn _ (List.getElem_mem _)
  · obtain ⟨g, e⟩ := h.row i (by omega)
    rw [e, rows_get hi]
    show dedP (((ownO i _).map PV.int)) = owV l i
    have := ownT_fresh (owV l i) ts0 (owV_nd l i) (fun x _ hm => by cases hm)
    unfold dedP
    show (ownT (owV l i) ts0).out = _
    rw [this]
    rfl
  · obtain ⟨g, e⟩ := h.row i (by omega)
    simp only [e]
    show fromsP (out.take i) _ = _
    exact fromsP_frI (by omega)
/-! ## how many -/
def wI (l : List RowO) (V : List Nat) (u : Nat) : Nat := if u ∈ V then (l.getD u (0, [], [])).2.1.length else 0
def RV (l : List RowO) (V : List Nat) (n : Nat) : List PV := (List.range n).flatMap fun u => if u ∈ V then owV l u else []
theorem RV_succ (l : List RowO) (V : List Nat) (n : Nat) : RV l V (n + 1) = RV l V n ++ (if n ∈ V then owV l n else []) := by
  unfold RV; rw [List.range_succ, List.flatMap_append]; simp
theorem RV_len (l : List RowO) (V : List Nat) : ∀ n, (RV l V n).length = ((List.range n).map (wI l V)).sum
  | 0 => rfl
  | n + 1 => by
    rw [RV_succ, List.length_append, RV_len l V n, List.range_succ, List.map_append, List.sum_append]
    by_cases hv : n ∈ V
    · simp [wI, hv, owV_len]
    · simp [wI, hv]
theorem RV_mem {l : List RowO} {V : List Nat} {n : Nat} {x : PV} : x ∈ RV l V n ↔ ∃ u, u < n ∧ u ∈ V ∧ x ∈ owV l u := by
  unfold RV
  rw [List.mem_flatMap]
  constructor
  · rintro ⟨u, hu, hx⟩
    split at hx
    · rename_i h; exact ⟨u, List.mem_range.1 hu, h, hx⟩
    · cases hx
  · rintro ⟨u, hu, h, hx⟩
    exact ⟨u, List.mem_range.2 hu, by rw [if_pos h]; exact hx⟩
theorem RV_nd {l : List RowO} (hl : ∀ i, (l.getD i (0, [], [])).2.1.length ≤ 10) (V : List Nat) : ∀ n, ((RV l V n).map keyP).Nodup
  | 0 => List.nodup_nil
  | n + 1 => by
    rw [RV_succ, List.map_append]
    refine List.nodup_append.2 ⟨RV_nd hl V n, ?_, fun a ha b hb e => ?_⟩
    · split
      · exact owV_nd l n
      · exact List.nodup_nil
    · obtain ⟨x, hx, rfl⟩ := List.mem_map.1 ha
      obtain ⟨y, hy, rfl⟩ := List.mem_map.1 hb
      obtain ⟨u, hu, _, hxu⟩ := RV_mem.1 hx
      split at hy
      · exact owV_dis hl (by omega) hxu hy e
      · cases hy
theorem sum_le_mul {w : Nat → Nat} (hw : ∀ u, w u ≤ 10) : ∀ L : List Nat, (L.map w).sum ≤ 10 * L.length
  | [] => by simp
  | u :: L => by
    have := sum_le_mul hw L
    have := hw u
    simp only [List.map_cons, List.sum_cons, List.length_cons]
    omega
/-! ## places -/
def tx : PV → List UInt8
  | .int z => txt z
  | _ => []
theorem idxD_lt {P Q : List (List UInt8)} {a b : List UInt8} (hb : b ∈ P) (ha : a ∈ Q) (hn : (P ++ Q).Nodup) : idxD (P ++ Q) b < idxD (P ++ Q) a := by
  have hna : a ∉ P := fun h => (List.nodup_append.1 hn).2.2 a h a ha rfl
  have h1 : P.idxOf b < P.length := List.idxOf_lt_length_iff.2 hb
  have h2 : Q.idxOf a < Q.length := List.idxOf_lt_length_iff.2 ha
  unfold idxD
  rw [List.idxOf_append, List.idxOf_append, if_pos hb, if_neg hna, List.length_append, if_pos (by omega), if_pos (by omega)]
  omega
theorem idxD_not {l : List (List UInt8)} {s : List UInt8} (h : s ∉ l) : idxD l s = -1 := by
  unfold idxD
  rw [if_neg fun h2 => h (List.idxOf_lt_length_iff.1 h2)]
theorem idxD_nn {l : List (List UInt8)} {s : List UInt8} (h : s ∈ l) : 0 ≤ idxD l s := by
  unfold idxD
  rw [if_pos (List.idxOf_lt_length_iff.2 h)]
  omega
/-- what all tells of such rows -/
structure OnceF (o : Int) (l : List RowO) (fr : Nat → List Nat) (top : Nat) (V : List Nat) (L : List PV) : Prop where
  rch : ∀ v, v ∈ V ↔ Rch fr top v
  lt : ∀ v ∈ V, v < l.length
  len : L.length = ((List.range l.length).map (wI l V)).sum
  int : ∀ x ∈ L, ∃ z, x = .int z ∧ -100000000 < z ∧ z < 100000000
  nd : (L.map tx).Nodup
  mem : ∀ v ∈ V, ∀ x ∈ owV l v, x ∈ L
  p2 : o = 2 → ∀ i ∈ V, ∀ j ∈ fr i, ∀ x ∈ owV l i, ∀ y ∈ owV l j, idxD (L.map tx) (tx y) < idxD (L.map tx) (tx x)
  p3 : o = 3 → ∀ i ∈ V, ∀ j ∈ fr i, ∀ x ∈ owV l i, ∀ y ∈ owV l j, idxD (L.map tx) (tx x) < idxD (L.map tx) (tx y)
  p1 : o = 1 → ∃ B, L = owV l top ++ B
theorem once_all {o : Int} {l : List RowO} {out : List PS} (ho : 1 ≤ o ∧ o ≤ 3) (h : Mds (onceRows o l) o out) (hlen : out.length = l.length) (hl : ∀ i, (l.getD i (0, [], [])).2.1.length ≤ 10) (hl20 : l.length ≤ 20) {top : Nat} (ht : top < l.length) {K : List PV → Er → Prop}
    (hK : ∀ V L, OnceF o l (frI (onceRows o l)) top V L → K L .ok) : M_pdeps_Set_All (out.getD top .nil) K := by
  have D := once_DG h hlen hl
  refine ⟨D.nn top ht, fun n hd => ?_⟩
  have hord : (out.getD top .nil).order = o := by
    rw [getD_get' (by omega)]
    exact h.facts.ord _ (List.getElem_mem _)
  obtain ⟨V, T, hV, hp1⟩ := tell_all (o := o) D n top ht hd ts0 [] ⟨rfl, List.nodup_nil, fun v hv => (by cases hv), ⟨rfl, List.nodup_nil⟩, fun x hx => (by cases hx), fun v hv => (by cases hv)⟩
  rw [List.nil_append] at hV
  have hsets := T.sets
  rw [List.nil_append] at hsets
  have hndv := T.ndv
  rw [List.nil_append] at hndv
  obtain ⟨B, eB, sB⟩ := T.pre
  have eB' : (tellN n o (out.getD top .nil) ts0).out = B := by rw [eB]; rfl
  have hfr : ∀ v ∈ V, ∀ f ∈ frI (onceRows o l) v, f ∈ V := fun v hv f hf => by have := (T.fin v hv).2.2.1 f hf; simpa using this
  have hown : ∀ v ∈ V, ∀ x ∈ owV l v, x ∈ B := fun v hv x hx => by have := (T.fin v hv).2.1 x hx; rwa [eB'] at this
  have hndk : (B.map keyP).Nodup := by have := T.ok.nd; rwa [T.ok.k, eB'] at this
  have hlt : ∀ v ∈ V, v < l.length := fun v hv => (T.fin v hv).1
  have hVl : V.length ≤ 20 := by
    have := List.Nodup.length_le_of_subset hndv (l₂ := List.range l.length) fun v hv => List.mem_range.2 (hlt v hv)
    rw [List.length_range] at this
    omega
  have hw10 : ∀ u, wI l V u ≤ 10 := fun u => by unfold wI; split; exact hl u; omega
  have hBlen : B.length = ((List.range l.length).map (wI l V)).sum := by
    rw [← RV_len]
    have a1 := List.Nodup.length_le_of_subset hndk (l₂ := (RV l V l.length).map keyP) fun k hk => by
      obtain ⟨x, hx, rfl⟩ := List.mem_map.1 hk
      obtain ⟨v, h1, h2⟩ := sB x hx
      exact List.mem_map.2 ⟨x, RV_mem.2 ⟨v, hlt v h1, h1, h2⟩, rfl⟩
    have a2 := List.Nodup.length_le_of_subset (RV_nd hl V l.length) (l₂ := B.map keyP) fun k hk => by
      obtain ⟨x, hx, rfl⟩ := List.mem_map.1 hk
      obtain ⟨u, _, h1, h2⟩ := RV_mem.1 hx
      exact List.mem_map.2 ⟨x, hown u h1 x h2, rfl⟩
    rw [List.length_map, List.length_map] at a1 a2
    omega
  have hB200 : B.length ≤ 200 := by
    have := sum_le_mul hw10 (List.range l.length)
    rw [List.length_range] at this
    omega
  have hint : ∀ x ∈ B, ∃ z, x = .int z ∧ -100000000 < z ∧ z < 100000000 := fun x hx => by
    obtain ⟨v, h1, h2⟩ := sB x hx
    obtain ⟨k, hk, rfl⟩ := owV_mem.1 h2
    have := hlt v h1
    have := hl v
    exact ⟨_, rfl, by omega, by omega⟩
  have hndt : (B.map tx).Nodup := by
    unfold List.Nodup at hndk ⊢
    rw [List.pairwise_map] at hndk ⊢
    refine hndk.imp_of_mem fun {a b} ha hb hne e => hne ?_
    obtain ⟨za, rfl, _⟩ := hint a ha
    obtain ⟨zb, rfl, _⟩ := hint b hb
    rw [txt_inj e]
  have hrch : ∀ v, v ∈ V ↔ Rch (frI (onceRows o l)) top v := fun v => by
    refine ⟨fun hv => (T.fin v hv).2.2.2.1.2, fun hr => ?_⟩
    induction hr with
    | refl => exact hV
    | step _ hf ih => exact hfr _ ih _ hf
  rw [hord]
  refine ⟨by rw [hsets, List.length_map]; omega, by rw [eB']; omega, ?_⟩
  have hA : allN n (out.getD top .nil) = if o = 3 then B.reverse else B := by
    unfold allN; rw [hord, eB']
  have hOrd : o ≠ 1 → ∀ v ∈ V, Ord o (frI (onceRows o l)) (owV l) v B := fun hne v hv => by have := (T.fin v hv).2.2.2.2 hne; rwa [eB'] at this
  rw [hA]
  by_cases h3 : o = 3
  · rw [if_pos h3]
    refine hK V B.reverse ⟨hrch, hlt, by rw [List.length_reverse]; exact hBlen, fun x hx => hint x (List.mem_reverse.1 hx), ?_, fun v hv x hx => List.mem_reverse.2 (hown v hv x hx), fun e => by omega, fun _ i hi j hj x hx y hy => ?_, fun e => by omega⟩
    · rw [List.map_reverse]; exact List.pairwise_reverse.2 (List.Pairwise.imp (fun h => Ne.symm h) hndt)
    · obtain ⟨A, B2, e, k⟩ := hOrd (by omega) i hi
      have e2 : B.reverse.map tx = (B2.reverse ++ owV l i).map tx ++ (A.reverse).map tx := by
        rw [e, if_pos h3]; simp
      have hn2 : ((B2.reverse ++ owV l i).map tx ++ (A.reverse).map tx).Nodup := by
        rw [← e2, List.map_reverse]; exact List.pairwise_reverse.2 (List.Pairwise.imp (fun h => Ne.symm h) hndt)
      rw [e2]
      exact idxD_lt (List.mem_map.2 ⟨x, List.mem_append_right _ hx, rfl⟩) (List.mem_map.2 ⟨y, List.mem_reverse.2 (k j hj y hy), rfl⟩) hn2
  · rw [if_neg h3]
    refine hK V B ⟨hrch, hlt, hBlen, hint, hndt, hown, fun h2 i hi j hj x hx y hy => ?_, fun e => absurd e h3, fun h1 => ?_⟩
    · obtain ⟨A, B2, e, k⟩ := hOrd (by omega) i hi
      have e2 : B.map tx = A.map tx ++ (owV l i ++ B2).map tx := by
        rw [e, if_neg h3]; simp
      rw [e2] at hndt ⊢
      exact idxD_lt (List.mem_map.2 ⟨y, k j hj y hy, rfl⟩) (List.mem_map.2 ⟨x, List.mem_append_left _ hx, rfl⟩) hndt
    · obtain ⟨B', e⟩ := hp1 h1 (by simp)
      exact ⟨B', by rw [← eB', e]; rfl⟩
end Go.Proofs.YtofenpiiihhigaaDoor


 /- Printed by a program (wip/vg): what the functions mean, plainly, and their walks. -/
namespace Go.Proofs.YtofenpiiihhigaaDoor
open Go Go.RowKit
attribute [local irreducible] WL WC WX WQ WK WJ Yld Eff Ef0 Fn
def M_smithylaw13_DepsOnce (l : List (Int × List Int × List Int)) (order : Int) (K : Bool → Prop) : Prop :=
 (l.length ≤ maxLen →
 M_smithylaw13_first (fun (ok : Bool) =>
 (((!ok) = true → K false) ∧
 ((!ok) = false → M_smithylaw13_light l (fun (t30 : Bool) =>
 (((((!t30) || (decide ((l.length : Int) = (0 : Int)))) || (!ok)) = true → K ok) ∧
 ((((!t30) || (decide ((l.length : Int) = (0 : Int)))) || (!ok)) = false → M_smithyworld_Number order (3 : Int) (fun (t43 : Int) =>
 (In .i64 (t43 + (1 : Int))) ∧
 (0 ≤ (l.length : Int) ∧ (l.length : Int) * 56 ≤ 140737488355328 ∧ (l.length : Int) ≤ 140737488355328) ∧
 (l.length ≤ 20 ∧ ∀ r ∈ l, r.2.1.length ≤ 10) ∧
 M_smithylaw13_made (onceRows (t43 + (1 : Int)) l) (fun (t910 : List PS) (t911 : Bool) =>
 (((!t911) = true → K false) ∧
 ((!t911) = false → (In .i64 ((t910.length : Int) - (1 : Int))) ∧
 (0 ≤ (t910.length : Int) - (1 : Int) ∧ (t910.length : Int) - (1 : Int) < (t910.length : Nat)) ∧
 M_pdeps_Set_All (t910.getD (((t910.length : Int) - (1 : Int)).toNat) PS.nil) (fun (t1040 : List PV) (t1041 : Er) =>
 ((¬ (t1041 = Er.ok) → K false) ∧
 (t1041 = Er.ok → Lp2 (fun (at_ : List (List UInt8)) (i : Int) kont1 => ((i < (t1040.length : Int) → (0 ≤ i ∧ i < (t1040.length : Nat)) ∧
 M_val_Repr (t1040.getD i.toNat PV.nil) (fun (s : List UInt8) =>
 M_smithyref_AmongTexts at_ s (fun (t122 : Int) =>
 (((0 : Int) ≤ t122 → K false) ∧
 (¬ ((0 : Int) ≤ t122) → ((at_.length + (([s] : List (List UInt8))).length) * 16 ≤ 140737488355328) ∧
 (In .i64 (i + (1 : Int))) ∧
 kont1 (at_ ++ ([s] : List (List UInt8))) (i + (1 : Int))))))) ∧
 (¬ (i < (t1040.length : Int)) → (0 ≤ (l.length : Int) ∧ (l.length : Int) * 1 ≤ 140737488355328 ∧ (l.length : Int) ≤ 140737488355328) ∧
 (0 ≤ (t910.length : Int) - (1 : Int) ∧ (t910.length : Int) - (1 : Int) < ((l.length : Int).toNat : Nat)) ∧
 Lp3 (fun (n : Int) (i2 : Int) (seen : List Bool) kont2 => (l.length : Int).toNat = seen.length → (((0 : Int) ≤ i2 → ∃ J1 : Int → (List Bool) → Prop, ((0 ≤ i2 ∧ i2 < ((l.length : Int).toNat : Nat)) ∧
 (((!(seen.getD i2.toNat false)) = true → J1 n seen) ∧
 ((!(seen.getD i2.toNat false)) = false → (0 ≤ i2 ∧ i2 < (l.length : Nat)) ∧
 (In .i64 (n + ((((onceRows (t43 + (1 : Int)) l).getD i2.toNat (0, [], [])).2.1).length : Int))) ∧
 Lp2 (fun (k : Int) (seen2 : List Bool) kont3 => (l.length : Int).toNat = seen2.length → (0 ≤ i2 ∧ i2 < (l.length : Nat)) ∧
 ((((decide (k < ((((onceRows (t43 + (1 : Int)) l).getD i2.toNat (0, [], [])).2.2).length : Int))) && (decide ((0 : Int) < i2))) = true → (0 ≤ i2 ∧ i2 < (l.length : Nat)) ∧
 (0 ≤ k ∧ k < ((((onceRows (t43 + (1 : Int)) l).getD i2.toNat (0, [], [])).2.2).length : Nat)) ∧
 M_smithyworld_Number ((((onceRows (t43 + (1 : Int)) l).getD i2.toNat (0, [], [])).2.2).getD k.toNat 0) i2 (fun (t176 : Int) =>
 (0 ≤ t176 ∧ t176 < ((l.length : Int).toNat : Nat)) ∧
 (In .i64 (k + (1 : Int))) ∧
 kont3 (k + (1 : Int)) (seen2.set t176.toNat true))) ∧
 (((decide (k < ((((onceRows (t43 + (1 : Int)) l).getD i2.toNat (0, [], [])).2.2).length : Int))) && (decide ((0 : Int) < i2))) = false → J1 (n + ((((onceRows (t43 + (1 : Int)) l).getD i2.toNat (0, [], [])).2.1).length : Int)) seen2))) (0 : Int) seen))) ∧
 (∀ n2 : Int, ∀ xs : List Bool, J1 n2 xs → (l.length : Int).toNat = xs.length → (In .i64 (i2 - (1 : Int))) ∧
 kont2 n2 (i2 - (1 : Int)) xs)) ∧
 (¬ ((0 : Int) ≤ i2) → ((¬ (n = (t1040.length : Int)) → K false) ∧
 (n = (t1040.length : Int) → Lp1 (fun (i3 : Int) kont4 => ((i3 ≤ ((t910.length : Int) - (1 : Int)) → Lp1 (fun (k_2 : Int) kont5 => (0 ≤ i3 ∧ i3 < (l.length : Nat)) ∧
 (((decide (k_2 < ((((onceRows (t43 + (1 : Int)) l).getD i3.toNat (0, [], [])).2.2).length : Int))) && (decide ((0 : Int) < i3))) = true → (0 ≤ i3 ∧ i3 < ((l.length : Int).toNat : Nat))) ∧
 (((((decide (k_2 < ((((onceRows (t43 + (1 : Int)) l).getD i3.toNat (0, [], [])).2.2).length : Int))) && (decide ((0 : Int) < i3))) && (seen.getD i3.toNat false)) = true → ∃ J2 : Prop, ((0 ≤ i3 ∧ i3 < (l.length : Nat)) ∧
 (0 ≤ k_2 ∧ k_2 < ((((onceRows (t43 + (1 : Int)) l).getD i3.toNat (0, [], [])).2.2).length : Nat)) ∧
 M_smithyworld_Number ((((onceRows (t43 + (1 : Int)) l).getD i3.toNat (0, [], [])).2.2).getD k_2.toNat 0) i3 (fun (j : Int) =>
 (0 ≤ i3 ∧ i3 < (l.length : Nat)) ∧
 ((decide (((((onceRows (t43 + (1 : Int)) l).getD i3.toNat (0, [], [])).2.1).length : Int) = (0 : Int))) = false → (0 ≤ j ∧ j < (l.length : Nat))) ∧
 ((((decide (((((onceRows (t43 + (1 : Int)) l).getD i3.toNat (0, [], [])).2.1).length : Int) = (0 : Int))) || (decide (((((onceRows (t43 + (1 : Int)) l).getD j.toNat (0, [], [])).2.1).length : Int) = (0 : Int)))) = true → J2) ∧
 (((decide (((((onceRows (t43 + (1 : Int)) l).getD i3.toNat (0, [], [])).2.1).length : Int) = (0 : Int))) || (decide (((((onceRows (t43 + (1 : Int)) l).getD j.toNat (0, [], [])).2.1).length : Int) = (0 : Int)))) = false → (In .i64 ((100 : Int) * i3)) ∧
 M_num_Of ((100 : Int) * i3) (fun (t236 : Int) (m_t236 : Nat) =>
 M_num_Num_Text t236 m_t236 (fun (t237 : List UInt8) =>
 M_smithyref_AmongTexts at_ t237 (fun (x : Int) =>
 (In .i64 ((100 : Int) * j)) ∧
 M_num_Of ((100 : Int) * j) (fun (t242 : Int) (m_t242 : Nat) =>
 M_num_Num_Text t242 m_t242 (fun (t243 : List UInt8) =>
 M_smithyref_AmongTexts at_ t243 (fun (y : Int) =>
 ((((((decide ((t43 + (1 : Int)) = (2 : Int))) && (decide (x < y))) || ((decide ((t43 + (1 : Int)) = (3 : Int))) && (decide (y < x)))) || (((decide ((t43 + (1 : Int)) = (1 : Int))) && (decide (i3 = ((t910.length : Int) - (1 : Int))))) && (decide (y < x)))) = true → K false) ∧
 (((((decide ((t43 + (1 : Int)) = (2 : Int))) && (decide (x < y))) || ((decide ((t43 + (1 : Int)) = (3 : Int))) && (decide (y < x)))) || (((decide ((t43 + (1 : Int)) = (1 : Int))) && (decide (i3 = ((t910.length : Int) - (1 : Int))))) && (decide (y < x)))) = false → J2)))))))))))) ∧
 (J2 → (In .i64 (k_2 + (1 : Int))) ∧
 kont5 (k_2 + (1 : Int)))) ∧
 ((((decide (k_2 < ((((onceRows (t43 + (1 : Int)) l).getD i3.toNat (0, [], [])).2.2).length : Int))) && (decide ((0 : Int) < i3))) && (seen.getD i3.toNat false)) = false → (In .i64 (i3 + (1 : Int))) ∧
 kont4 (i3 + (1 : Int))))) (0 : Int)) ∧
 (¬ (i3 ≤ ((t910.length : Int) - (1 : Int))) → K true))) (0 : Int)))))) (0 : Int) ((t910.length : Int) - (1 : Int)) ((List.replicate (l.length : Int).toNat false).set (((t910.length : Int) - (1 : Int)).toNat) true)))) [] (0 : Int)))))))))))))))

set_option maxHeartbeats 8000000 in
theorem W_smithylaw13_DepsOnce {S : List Nat} {w : World} {l : List (Int × List Int × List Int)} {A_l : Option Addr} {c_l : Nat} {hs_l : List (Int × Hdr × Hdr)} {order : Int} {n_l : Nat} {K : Bool → Prop} (hG : GOK S w) (hS3 : 3 ∈ S) (hS7 : 7 ∈ S) (hl : RdK 3 encH28 w A_l c_l hs_l) (hn_l : n_l = l.length) (hr_l : RelD de28 w hs_l l) (H : M_smithylaw13_DepsOnce l order K) : Fn Tryd.prog 3 ⟨[.slice A_l n_l c_l, .int .i64 order]⟩ w (fun v w' => w.grownBy w' none ∧ ∃ (r : Bool), v = .bool r ∧ K r) := by
  subst hn_l
  unfold M_smithylaw13_DepsOnce at H
  refine Fn.enter (by kernel_rfl) Tryd.func3 rfl Tryd.ntmps3 rfl ?_
  replace H := H (by rw [← hr_l.1]; exact Nat.le_trans hl.cap hl.max)
  refine WC.seq ?_
  refine WC.region ?_
  refine WL.y rfl (Yld.pure tab_ok rfl) ?_
  refine WL.nil (WX.then_normal ?_)
  refine WC.seq ?_
  refine WC.region ?_
  refine WL.call rfl rfl (W_smithylaw13_first hG hS3 hS7 H) ?_
  rintro _ w1 ⟨hg1, ok, rfl, H⟩
  have gr1 := hg1
  refine WL.y rfl (Yld.pure tab_ok rfl) ?_
  refine WL.nil (WX.then_normal ?_)
  refine WC.seq ?_
  refine WC.seq ?_
  refine WC.region ?_
  refine WL.y rfl (Yld.pure tab_ok rfl) ?_
  refine WL.y rfl (Yld.pure tab_ok rfl) ?_
  refine WL.nil (WX.then_normal ?_)
  refine WC.cond rfl (fun b1 => ?_) (fun b1 => ?_)
  · replace H := H.1 (b1)
    refine WC.seq ?_
    refine WC.region ?_
    refine WL.y rfl (Yld.pure tab_ok rfl) ?_
    refine WL.nil (WX.then_normal ?_)
    refine WC.ret (WX.then_ret ?_)
    exact WX.ret1 rfl rfl ⟨gr1, false, rfl, H⟩
  · replace H := H.2 (b1)
    refine WC.skip (WX.then_normal ?_)
    refine WC.seq ?_
    refine WC.seq ?_
    refine WC.region ?_
    refine WL.y rfl (Yld.pure tab_ok rfl) ?_
    refine WL.call rfl rfl (W_smithylaw13_light (hl.grown gr1) rfl (hr_l.grown gr1) H) ?_
    rintro _ _ ⟨rfl, t30, rfl, H⟩
    refine WL.y rfl (Yld.pure tab_ok rfl) ?_
    refine WL.y rfl (Yld.pure tab_ok rfl) ?_
    refine WL.midF 4 (fun L' w' => ∃ q1 : Bool, L' = [(36, .bool q1), (0, .slice A_l l.length c_l), (1, .int .i64 order), (5, .bool ok)] ∧ ((!t30) || (decide ((l.length : Int) = (0 : Int)))) = q1 ∧ w1 = w') ?_ (fun hQ => ?_)
    · rintro _ _ ⟨q1, rfl, rfl, rfl⟩
      refine WL.y rfl (Yld.pure tab_ok rfl) ?_
      refine WL.midF 3 (fun L' w' => ∃ q2 : Bool, L' = [(40, .bool q2), (0, .slice A_l l.length c_l), (1, .int .i64 order), (5, .bool ok)] ∧ (((!t30) || (decide ((l.length : Int) = (0 : Int)))) || (!ok)) = q2 ∧ w1 = w') ?_ (fun hQ => ?_)
      · rintro _ _ ⟨q2, rfl, rfl, rfl⟩
        refine WL.nil (WX.then_normal ?_)
        refine WC.cond rfl (fun b2 => ?_) (fun b2 => ?_)
        · replace H := H.1 (b2)
          refine WC.seq ?_
          refine WC.region ?_
          refine WL.y rfl (Yld.pure tab_ok rfl) ?_
          refine WL.y rfl (Yld.pure tab_ok rfl) ?_
          refine WL.nil (WX.then_normal ?_)
          refine WC.ret (WX.then_ret ?_)
          exact WX.ret1 rfl rfl ⟨gr1, ok, rfl, H⟩
        · replace H := H.2 (b2)
          refine WC.skip (WX.then_normal ?_)
          refine WC.seq ?_
          refine WC.region ?_
          refine WL.y rfl (Yld.pure tab_ok rfl) ?_
          refine WL.call rfl rfl (W_smithyworld_Number H) ?_
          rintro _ _ ⟨rfl, t43, rfl, H⟩
          obtain ⟨h1, H⟩ := H
          refine WL.y rfl (Yld.add rfl rfl h1) ?_
          refine WL.y rfl (Yld.pure tab_ok rfl) ?_
          refine WL.nil (WX.then_normal ?_)
          refine WC.seq ?_
          refine WC.region ?_
          refine WL.y rfl (Yld.pure tab_ok rfl) ?_
          refine WL.y rfl (Yld.pure tab_ok rfl) ?_
          obtain ⟨h2, H⟩ := H
          refine WL.makeZK (f := encH28) (B := w.heap.size) (0, hd0, hd0) encH28_ok rfl ow22 zero28 rfl rfl h2.1 h2.2.1 h2.2.2 (size_le gr1) (fun g1 w2 hO1 hg2 hl1 => ?_)
          have gr2 := gr_trans gr1 hg2
          have hr1 : RelD de28 w2 (List.replicate (l.length : Int).toNat ((0, hd0, hd0) : Int × Hdr × Hdr)) (List.replicate (l.length : Int).toNat ((0, [], []) : Int × List Int × List Int)) := RelD.rep _ ⟨rfl, ⟨rfl, Rd.nil _ _ (Nat.zero_le _)⟩, ⟨rfl, Rd.nil _ _ (Nat.zero_le _)⟩⟩
          refine WL.y rfl (Yld.pure tab_ok rfl) ?_
          refine WL.nil (WX.then_normal ?_)
          refine WC.seq ?_
          obtain ⟨h3, H⟩ := H
          refine WC.weaken (L' := [(0, .slice A_l l.length c_l), (1, .int .i64 (t43 + (1 : Int))), (6, .slice (some ⟨g1, 0, none⟩) l.length (l.length : Int).toNat)]) (by repeat (first | exact Sub.nil | refine Sub.cons rfl ?_)) ?_
          refine once_loop (w0 := w) (l := l) (o := t43 + (1 : Int)) hl hr_l gr2 hO1 h3 (fun w3 hs_m gr3 hO2 hr2 => ?_)
          refine WX.then_normal ?_
          refine WC.seq ?_
          refine WC.region ?_
          refine WL.y rfl (Yld.pure tab_ok rfl) ?_
          refine WL.call rfl rfl (W_smithylaw13_made (hG.grown gr3) hS3 hS7 hO2.rd (((rowsTo_len _ _ _).symm.trans hr2.1.symm).trans hr2.1) hr2 H) ?_
          rintro _ w4 ⟨hg3, t910, A_t910, c_t910, hs_t910, t911, rfl, ht910, hr_t910, ho1, dj1, H⟩
          have hb1 := ht910.ge'
          have k1 := ht910.base (fun g hg => Nat.le_trans (size_le gr3) (hb1 g hg))
          have gr4 := gr_trans gr3 hg3
          have k2 := hO2.grown hg3
          have k3 := hr2.grown hg3
          refine WL.y rfl (Yld.pure tab_ok rfl) ?_
          refine WL.y rfl (Yld.pure tab_ok rfl) ?_
          refine WL.y rfl (Yld.pure tab_ok rfl) ?_
          refine WL.y rfl (Yld.pure tab_ok rfl) ?_
          refine WL.y rfl (Yld.pure tab_ok rfl) ?_
          refine WL.nil (WX.then_normal ?_)
          refine WC.seq ?_
          refine WC.seq ?_
          refine WC.region ?_
          refine WL.y rfl (Yld.pure tab_ok rfl) ?_
          refine WL.y rfl (Yld.pure tab_ok rfl) ?_
          refine WL.nil (WX.then_normal ?_)
          refine WC.cond rfl (fun b3 => ?_) (fun b3 => ?_)
          · replace H := H.1 (b3)
            refine WC.seq ?_
            refine WC.region ?_
            refine WL.y rfl (Yld.pure tab_ok rfl) ?_
            refine WL.nil (WX.then_normal ?_)
            refine WC.ret (WX.then_ret ?_)
            exact WX.ret1 rfl rfl ⟨gr4, false, rfl, H⟩
          · replace H := H.2 (b3)
            refine WC.skip (WX.then_normal ?_)
            refine WC.seq ?_
            refine WC.region ?_
            refine WL.y rfl (Yld.pure tab_ok rfl) ?_
            refine WL.y rfl (Yld.pure tab_ok rfl) ?_
            obtain ⟨h4, H⟩ := H
            refine WL.y rfl (Yld.sub rfl rfl h4) ?_
            refine WL.y rfl (Yld.pure tab_ok rfl) ?_
            refine WL.nil (WX.then_normal ?_)
            refine WC.seq ?_
            refine WC.region ?_
            refine WL.y rfl (Yld.pure tab_ok rfl) ?_
            refine WL.y rfl (Yld.pure tab_ok rfl) ?_
            obtain ⟨h5, H⟩ := H
            refine WL.y rfl (Yld.iaddrW tab_ok k1.rd rfl rfl hr_t910.1.symm rfl h5.1 h5.2) ?_
            obtain ⟨⟨v_el, F_el⟩, eh1, hR1⟩ := RelD.at hr_t910 vh0 PS.nil (j := ((t910.length : Int) - (1 : Int)).toNat) (Nat.lt_of_lt_of_eq (iltN h5 hr_t910.1.symm) hr_t910.1)
            have hv1 : RelD deS w4 [(v_el, F_el)] [t910.getD (((t910.length : Int) - (1 : Int)).toNat) PS.nil] := RelD.cons hR1 RelD.nil
            refine WL.y rfl (Yld.to (v := v_el.1) (Yld.iload vh0 tab_ok k1.rd rfl rfl (iltN h5 hr_t910.1.symm)) (congrArg vv eh1)) ?_
            refine WL.call rfl rfl (W_pdeps_Set_All (hG.grown gr4) hS7 hv1 H) ?_
            rintro _ w5 ⟨hg4, t1040, A_t1040, c_t1040, hs_t1040, v_t1041, t1041, rfl, ht1040, hr_t1040, ho2, dj2, ht1041, H⟩
            have hb2 := ht1040.ge'
            have k4 := ht1040.base (fun g hg => Nat.le_trans (size_le gr4) (hb2 g hg))
            have gr5 := gr_trans gr4 hg4
            have k5 := k2.grown hg4
            have k6 := k3.grown hg4
            refine WL.y rfl (Yld.pure tab_ok rfl) ?_
            refine WL.y rfl (Yld.pure tab_ok rfl) ?_
            refine WL.y rfl (Yld.pure tab_ok rfl) ?_
            refine WL.y rfl (Yld.pure tab_ok rfl) ?_
            refine WL.y rfl (Yld.pure tab_ok rfl) ?_
            refine WL.nil (WX.then_normal ?_)
            refine WC.seq ?_
            refine WC.seq ?_
            refine WC.region ?_
            refine WL.y rfl (Yld.pure tab_ok rfl) ?_
            refine WL.y rfl (Yld.errneq Tryd.underlying34 ht1041 rfl) ?_
            refine WL.nil (WX.then_normal ?_)
            refine WC.cond rfl (fun b4 => ?_) (fun b4 => ?_)
            · replace H := H.1 (nd_true b4)
              refine WC.seq ?_
              refine WC.region ?_
              refine WL.y rfl (Yld.pure tab_ok rfl) ?_
              refine WL.nil (WX.then_normal ?_)
              refine WC.ret (WX.then_ret ?_)
              exact WX.ret1 rfl rfl ⟨gr5, false, rfl, H⟩
            · replace H := H.2 (nd_false b4)
              refine WC.skip (WX.then_normal ?_)
              refine WC.seq ?_
              refine WC.region ?_
              refine WL.y rfl (Yld.pure tab_ok rfl) ?_
              refine WL.nil (WX.then_normal ?_)
              refine WC.seq ?_
              refine WC.seq ?_
              refine WC.region ?_
              refine WL.y rfl (Yld.pure tab_ok rfl) ?_
              refine WL.nil (WX.then_normal ?_)
              refine WC.block ?_
              obtain ⟨I1, mu1, h0_1, HR1⟩ := H
              refine WC.loopF (fun n' L' w' => ∃ (at_ : List (List UInt8)), ∃ (A_at : Option Addr), ∃ (c_at : Nat), ∃ (n_at : Nat), ∃ (i : Int), n' = mu1 at_ i ∧ L' = [(1, .int .i64 (t43 + (1 : Int))), (6, .slice (some ⟨g1, 0, none⟩) l.length ((l.length : Int).toNat)), (11, .int .i64 ((t910.length : Int) - (1 : Int))), (12, .slice A_t1040 t1040.length c_t1040), (14, .slice A_at n_at c_at), (15, .int .i64 i)] ∧ I1 at_ i ∧ n_at = at_.length ∧ w.grownBy w' none ∧ OwnK 3 encH28 w' w.heap.size 28 (some ⟨g1, 0, none⟩) ((l.length : Int).toNat) hs_m ∧ RelD de28 w' hs_m (onceRows (t43 + (1 : Int)) l) ∧ Own vv w' w.heap.size 41 A_t1040 c_t1040 hs_t1040 ∧ RelD deV w' hs_t1040 t1040 ∧ Own vs w' w.heap.size 9 A_at c_at at_ ∧ Dj (blk (some ⟨g1, 0, none⟩)) (blk A_t1040) ∧ Dj (blk (some ⟨g1, 0, none⟩)) (blk A_at) ∧ DnD de28 hs_m (onceRows (t43 + (1 : Int)) l) (blk A_t1040) ∧ DnD de28 hs_m (onceRows (t43 + (1 : Int)) l) (blk A_at) ∧ Dj (blk A_t1040) (blk A_at) ∧ DnD deV hs_t1040 t1040 (blk (some ⟨g1, 0, none⟩)) ∧ DnD deV hs_t1040 t1040 (blk A_t1040) ∧ DnD deV hs_t1040 t1040 (blk A_at)) _ _ ⟨[], none, 0, 0, (0 : Int), rfl, rfl, h0_1, rfl, gr5, k5, k6, k4, hr_t1040, (Own.nil vs w5 w.heap.size 9), (Dj.new k2.lt' hb2), Dj.nr, (k3.new hb2), (DnD.none k6), Dj.nr, (ho2 _ k2.lt' (DnD.cons (DnD.at (ho1 _ hO2.lt') hr_t910.1 (Nat.lt_of_lt_of_eq (iltN h5 hr_t910.1.symm) hr_t910.1) eh1) DnD.nil)), dj2, (DnD.none hr_t1040)⟩ (by repeat (first | exact Sub.nil | refine Sub.cons rfl ?_)) ?_
              clear h0_1
              rintro _ _ w6 ⟨at_, A_at, c_at, n_at, i, rfl, rfl, hI1, rfl, gr6, k7, k8, k9, k10, k11, dj3, dj4, dj5, dj6, dj7, dj8, dj9, dj10⟩
              have H := HR1 at_ i hI1
              refine WC.seq ?_
              refine WC.seq ?_
              refine WC.region ?_
              refine WL.y rfl (Yld.pure tab_ok rfl) ?_
              refine WL.y rfl (Yld.pure tab_ok rfl) ?_
              refine WL.y rfl (Yld.pure tab_ok rfl) ?_
              refine WL.y rfl (Yld.pure tab_ok rfl) ?_
              refine WL.nil (WX.then_normal ?_)
              refine WC.cond rfl (fun b5 => ?_) (fun b5 => ?_)
              · replace H := H.1 (of_decide_eq_true b5)
                refine WC.skip (WX.then_normal ?_)
                refine WC.seq ?_
                refine WC.block ?_
                refine WC.seq ?_
                refine WC.region ?_
                refine WL.y rfl (Yld.pure tab_ok rfl) ?_
                refine WL.y rfl (Yld.pure tab_ok rfl) ?_
                obtain ⟨h6, H⟩ := H
                refine WL.y rfl (Yld.iaddrW tab_ok k9.rd rfl rfl hr_t1040.1.symm rfl h6.1 h6.2) ?_
                obtain ⟨⟨v_el2, F_el2⟩, eh2, hR2⟩ := RelD.at k10 vh0 PV.nil (j := i.toNat) (Nat.lt_of_lt_of_eq (iltN h6 hr_t1040.1.symm) k10.1)
                have hv2 : RelD deV w6 [(v_el2, F_el2)] [t1040.getD i.toNat PV.nil] := RelD.cons hR2 RelD.nil
                refine WL.y rfl (Yld.to (v := v_el2.1) (Yld.iload vh0 tab_ok k9.rd rfl rfl (iltN h6 hr_t1040.1.symm)) (congrArg vv eh2)) ?_
                refine WL.call rfl rfl (W_val_Repr hv2 H) ?_
                rintro _ w7 ⟨hg5, s, rfl, H⟩
                have gr7 := gr_trans gr6 hg5
                have k12 := k7.grown hg5
                have k13 := k8.grown hg5
                have k14 := k9.grown hg5
                have k15 := k10.grown hg5
                have k16 := k11.grown hg5
                refine WL.y rfl (Yld.pure tab_ok rfl) ?_
                refine WL.nil (WX.then_normal ?_)
                refine WC.seq ?_
                refine WC.seq ?_
                refine WC.region ?_
                refine WL.y rfl (Yld.pure tab_ok rfl) ?_
                refine WL.y rfl (Yld.pure tab_ok rfl) ?_
                refine WL.call rfl rfl (W_smithyref_AmongTexts k16.rd rfl H) ?_
                rintro _ _ ⟨rfl, t122, rfl, H⟩
                refine WL.y rfl (Yld.pure tab_ok rfl) ?_
                refine WL.nil (WX.then_normal ?_)
                refine WC.cond rfl (fun b6 => ?_) (fun b6 => ?_)
                · replace H := H.1 (of_decide_eq_true b6)
                  refine WC.seq ?_
                  refine WC.region ?_
                  refine WL.y rfl (Yld.pure tab_ok rfl) ?_
                  refine WL.nil (WX.then_normal ?_)
                  refine WC.ret (WX.then_ret (WX.block_ret (WX.then_ret (WX.then_ret (WX.block_ret (WX.then_ret ?_))))))
                  exact WX.ret1 rfl rfl ⟨gr7, false, rfl, H⟩
                · replace H := H.2 (of_decide_eq_false b6)
                  refine WC.skip (WX.then_normal ?_)
                  refine WC.region ?_
                  refine WL.y rfl (Yld.pure tab_ok rfl) ?_
                  refine WL.y rfl (Yld.pure tab_ok rfl) ?_
                  refine WL.lit tab_ok rfl rfl rfl (all1c rfl all1n) rfl (by omega) (fun g2 w8 hB1 hg6 hl2 => ?_)
                  have hO3 : Own vs w8 w.heap.size 9 (some ⟨g2, 0, none⟩) 1 ([s] : List (List UInt8)) := Own.ofBl hB1 (Nat.le_trans (size_le gr7) hl2) (by simp [maxLen]) rfl
                  have gr8 := gr_trans gr7 hg6
                  have k17 := k12.grown hg6
                  have k18 := k13.grown hg6
                  have k19 := k14.grown hg6
                  have k20 := k15.grown hg6
                  have k21 := k16.grown hg6
                  obtain ⟨h7, H⟩ := H
                  refine WL.append tab_ok rfl rfl One.s k21 rfl rfl hO3.rd rfl rfl h7 (applen h7) (size_le gr8) (fun A_at2 c_at2 w9 hO4 hg7 hk1 => ?_)
                  have gr9 := gr_mod gr8 hg7 k21.ge'
                  have k22 := k17.go hg7 dj4
                  have k23 := k18.go hg7 dj6
                  have k24 := k19.go hg7 dj7
                  have k25 := k20.go hg7 dj10
                  refine WL.y rfl (Yld.pure tab_ok rfl) ?_
                  refine WL.nil (WX.block_normal (WX.then_normal ?_))
                  refine WC.region ?_
                  refine WL.y rfl (Yld.pure tab_ok rfl) ?_
                  obtain ⟨h8, H⟩ := H
                  refine WL.y rfl (Yld.add rfl rfl h8) ?_
                  refine WL.y rfl (Yld.pure tab_ok rfl) ?_
                  refine WL.nil ?_
                  exact WX.roundF _ ⟨at_ ++ ([s] : List (List UInt8)), A_at2, c_at2, (at_ ++ ([s] : List (List UInt8))).length, i + (1 : Int), rfl, rfl, H.1, rfl, gr9, k22, k23, k24, k25, hO4, dj3, (Dj.app dj4.symm k17.lt' hk1).symm, dj5, (RelD.app k18 dj6 hk1), (Dj.app dj7.symm k19.lt' hk1).symm, dj8, dj9, (RelD.app k20 dj10 hk1)⟩ (by repeat (first | exact Sub.nil | refine Sub.cons rfl ?_)) H.2
              · replace H := H.2 (of_decide_eq_false b5)
                refine WC.exit (WX.then_exit (WX.then_exit (WX.block_same (WX.then_normal ?_))))
                refine WC.seq ?_
                refine WC.region ?_
                refine WL.y rfl (Yld.pure tab_ok rfl) ?_
                refine WL.y rfl (Yld.pure tab_ok rfl) ?_
                obtain ⟨h9, H⟩ := H
                refine WL.makeZI (f := vB) (z := false) (B := w.heap.size) tab_ok rfl rfl zero4 rfl rfl h9.1 h9.2.1 h9.2.2 (size_le gr6) (fun g3 w10 hO5 hg8 hl3 => ?_)
                have gr10 := gr_trans gr6 hg8
                have k26 := k7.grown hg8
                have k27 := k8.grown hg8
                have k28 := k9.grown hg8
                have k29 := k10.grown hg8
                have k30 := k11.grown hg8
                refine WL.y rfl (Yld.pure tab_ok rfl) ?_
                refine WL.nil (WX.then_normal ?_)
                refine WC.seq ?_
                refine WC.region ?_
                refine WL.y rfl (Yld.pure tab_ok rfl) ?_
                refine WL.y rfl (Yld.pure tab_ok rfl) ?_
                obtain ⟨h10, H⟩ := H
                refine WL.y rfl (Yld.iaddrW tab_ok hO5.rd rfl rfl ((List.length_replicate).symm) rfl h10.1 h10.2) ?_
                refine WL.ostore (v := true) one4 One.B hO5 rfl rfl (iltN h10 ((List.length_replicate).symm)) (fun w11 hO6 hg9 => ?_)
                have gr11 := gr_mod gr10 hg9 hO5.ge'
                have k31 := k26.go hg9 (Dj.new k7.lt' (Ge.box hl3))
                have k32 := k27.go hg9 (k8.new (Ge.box hl3))
                have k33 := k28.go hg9 (Dj.new k9.lt' (Ge.box hl3))
                have k34 := k29.go hg9 (k10.new (Ge.box hl3))
                have k35 := k30.go hg9 (Dj.new k11.lt' (Ge.box hl3))
                refine WL.nil (WX.then_normal ?_)
                refine WC.seq ?_
                refine WC.region ?_
                refine WL.y rfl (Yld.pure tab_ok rfl) ?_
                refine WL.nil (WX.then_normal ?_)
                refine WC.seq ?_
                refine WC.seq ?_
                refine WC.region ?_
                refine WL.y rfl (Yld.pure tab_ok rfl) ?_
                refine WL.y rfl (Yld.pure tab_ok rfl) ?_
                refine WL.nil (WX.then_normal ?_)
                refine WC.block ?_
                obtain ⟨I2, mu2, h0_2, HR2⟩ := H
                refine WC.loopF (fun n' L' w' => ∃ (n : Int), ∃ (i2 : Int), ∃ (seen : List Bool), n' = mu2 n i2 seen ∧ L' = [(1, .int .i64 (t43 + (1 : Int))), (6, .slice (some ⟨g1, 0, none⟩) l.length ((l.length : Int).toNat)), (11, .int .i64 ((t910.length : Int) - (1 : Int))), (12, .slice A_t1040 t1040.length c_t1040), (14, .slice A_at at_.length c_at), (17, .slice (some ⟨g3, 0, none⟩) ((l.length : Int).toNat) ((l.length : Int).toNat)), (18, .int .i64 n), (19, .int .i64 i2)] ∧ I2 n i2 seen ∧ (l.length : Int).toNat = seen.length ∧ w.grownBy w' none ∧ OwnK 3 encH28 w' w.heap.size 28 (some ⟨g1, 0, none⟩) ((l.length : Int).toNat) hs_m ∧ RelD de28 w' hs_m (onceRows (t43 + (1 : Int)) l) ∧ Own vv w' w.heap.size 41 A_t1040 c_t1040 hs_t1040 ∧ RelD deV w' hs_t1040 t1040 ∧ Own vs w' w.heap.size 9 A_at c_at at_ ∧ Own vB w' w.heap.size 4 (some ⟨g3, 0, none⟩) ((l.length : Int).toNat) seen ∧ Dj (blk (some ⟨g1, 0, none⟩)) (blk A_t1040) ∧ Dj (blk (some ⟨g1, 0, none⟩)) (blk A_at) ∧ Dj (blk (some ⟨g1, 0, none⟩)) (blk (some ⟨g3, 0, none⟩)) ∧ DnD de28 hs_m (onceRows (t43 + (1 : Int)) l) (blk A_t1040) ∧ DnD de28 hs_m (onceRows (t43 + (1 : Int)) l) (blk A_at) ∧ DnD de28 hs_m (onceRows (t43 + (1 : Int)) l) (blk (some ⟨g3, 0, none⟩)) ∧ Dj (blk A_t1040) (blk A_at) ∧ Dj (blk A_t1040) (blk (some ⟨g3, 0, none⟩)) ∧ DnD deV hs_t1040 t1040 (blk (some ⟨g1, 0, none⟩)) ∧ DnD deV hs_t1040 t1040 (blk A_t1040) ∧ DnD deV hs_t1040 t1040 (blk A_at) ∧ DnD deV hs_t1040 t1040 (blk (some ⟨g3, 0, none⟩)) ∧ Dj (blk A_at) (blk (some ⟨g3, 0, none⟩))) _ _ ⟨(0 : Int), (t910.length : Int) - (1 : Int), (List.replicate (l.length : Int).toNat false).set (((t910.length : Int) - (1 : Int)).toNat) true, rfl, rfl, h0_2, (((List.length_replicate).symm).trans List.length_set.symm), gr11, k31, k32, k33, k34, k35, hO6, dj3, dj4, (Dj.new k7.lt' (Ge.box hl3)), dj5, dj6, (k8.new (Ge.box hl3)), dj7, (Dj.new k9.lt' (Ge.box hl3)), dj8, dj9, dj10, (k10.new (Ge.box hl3)), (Dj.new k11.lt' (Ge.box hl3))⟩ (by repeat (first | exact Sub.nil | refine Sub.cons rfl ?_)) ?_
                clear h0_2
                rintro _ _ w12 ⟨n, i2, seen, rfl, rfl, hI2, hn_seen, gr12, k36, k37, k38, k39, k40, k41, dj11, dj12, dj13, dj14, dj15, dj16, dj17, dj18, dj19, dj20, dj21, dj22, dj23⟩
                have H := HR2 n i2 seen hI2
                replace H := H hn_seen
                refine WC.seq ?_
                refine WC.seq ?_
                refine WC.region ?_
                refine WL.y rfl (Yld.pure tab_ok rfl) ?_
                refine WL.y rfl (Yld.pure tab_ok rfl) ?_
                refine WL.nil (WX.then_normal ?_)
                refine WC.cond rfl (fun b7 => ?_) (fun b7 => ?_)
                · replace H := H.1 (of_decide_eq_true b7)
                  refine WC.skip (WX.then_normal ?_)
                  refine WC.seq ?_
                  obtain ⟨J1, H, hJ1⟩ := H
                  refine WC.midF (fun L' w' => ∃ (n2 : Int), ∃ (xs : List Bool), L' = [(1, .int .i64 (t43 + (1 : Int))), (6, .slice (some ⟨g1, 0, none⟩) l.length ((l.length : Int).toNat)), (11, .int .i64 ((t910.length : Int) - (1 : Int))), (12, .slice A_t1040 t1040.length c_t1040), (14, .slice A_at at_.length c_at), (17, .slice (some ⟨g3, 0, none⟩) ((l.length : Int).toNat) ((l.length : Int).toNat)), (18, .int .i64 n2), (19, .int .i64 i2)] ∧ J1 n2 xs ∧ (l.length : Int).toNat = xs.length ∧ w.grownBy w' none ∧ OwnK 3 encH28 w' w.heap.size 28 (some ⟨g1, 0, none⟩) ((l.length : Int).toNat) hs_m ∧ RelD de28 w' hs_m (onceRows (t43 + (1 : Int)) l) ∧ Own vv w' w.heap.size 41 A_t1040 c_t1040 hs_t1040 ∧ RelD deV w' hs_t1040 t1040 ∧ Own vs w' w.heap.size 9 A_at c_at at_ ∧ Own vB w' w.heap.size 4 (some ⟨g3, 0, none⟩) ((l.length : Int).toNat) xs ∧ Dj (blk (some ⟨g1, 0, none⟩)) (blk A_t1040) ∧ Dj (blk (some ⟨g1, 0, none⟩)) (blk A_at) ∧ Dj (blk (some ⟨g1, 0, none⟩)) (blk (some ⟨g3, 0, none⟩)) ∧ DnD de28 hs_m (onceRows (t43 + (1 : Int)) l) (blk A_t1040) ∧ DnD de28 hs_m (onceRows (t43 + (1 : Int)) l) (blk A_at) ∧ DnD de28 hs_m (onceRows (t43 + (1 : Int)) l) (blk (some ⟨g3, 0, none⟩)) ∧ Dj (blk A_t1040) (blk A_at) ∧ Dj (blk A_t1040) (blk (some ⟨g3, 0, none⟩)) ∧ DnD deV hs_t1040 t1040 (blk (some ⟨g1, 0, none⟩)) ∧ DnD deV hs_t1040 t1040 (blk A_t1040) ∧ DnD deV hs_t1040 t1040 (blk A_at) ∧ DnD deV hs_t1040 t1040 (blk (some ⟨g3, 0, none⟩)) ∧ Dj (blk A_at) (blk (some ⟨g3, 0, none⟩))) ?_ (fun hQ => ?_)
                  · clear H
                    rintro _ w13 ⟨n2, xs, rfl, H, hn_xs, gr13, k42, k43, k44, k45, k46, k47, dj24, dj25, dj26, dj27, dj28, dj29, dj30, dj31, dj32, dj33, dj34, dj35, dj36⟩
                    replace H := hJ1 n2 xs H
                    replace H := H hn_xs
                    refine WX.then_normal ?_
                    refine WC.region ?_
                    refine WL.y rfl (Yld.pure tab_ok rfl) ?_
                    obtain ⟨h11, H⟩ := H
                    refine WL.y rfl (Yld.sub rfl rfl h11) ?_
                    refine WL.y rfl (Yld.pure tab_ok rfl) ?_
                    refine WL.nil ?_
                    exact WX.roundF _ ⟨n2, i2 - (1 : Int), xs, rfl, rfl, H.1, hn_xs, gr13, k42, k43, k44, k45, k46, k47, dj24, dj25, dj26, dj27, dj28, dj29, dj30, dj31, dj32, dj33, dj34, dj35, dj36⟩ (by repeat (first | exact Sub.nil | refine Sub.cons rfl ?_)) H.2
                  · clear hJ1
                    refine WC.block ?_
                    refine WC.seq ?_
                    refine WC.seq ?_
                    refine WC.region ?_
                    refine WL.y rfl (Yld.pure tab_ok rfl) ?_
                    refine WL.y rfl (Yld.pure tab_ok rfl) ?_
                    obtain ⟨h12, H⟩ := H
                    refine WL.y rfl (Yld.iaddrW tab_ok k41.rd rfl rfl hn_seen rfl h12.1 h12.2) ?_
                    refine WL.y rfl (Yld.iload false tab_ok k41.rd rfl rfl (iltN h12 hn_seen)) ?_
                    refine WL.y rfl (Yld.pure tab_ok rfl) ?_
                    refine WL.nil (WX.then_normal ?_)
                    refine WC.cond rfl (fun b8 => ?_) (fun b8 => ?_)
                    · replace H := H.1 (b8)
                      refine WC.exit (WX.then_exit (WX.block_same ?_))
                      exact WX.weaken (by repeat (first | exact Sub.nil | refine Sub.cons rfl ?_)) (hQ _ _ ⟨n, seen, rfl, H, hn_seen, gr12, k36, k37, k38, k39, k40, k41, dj11, dj12, dj13, dj14, dj15, dj16, dj17, dj18, dj19, dj20, dj21, dj22, dj23⟩)
                    · replace H := H.2 (b8)
                      refine WC.skip (WX.then_normal ?_)
                      refine WC.seq ?_
                      refine WC.region ?_
                      refine WL.y rfl (Yld.pure tab_ok rfl) ?_
                      refine WL.y rfl (Yld.pure tab_ok rfl) ?_
                      refine WL.y rfl (Yld.pure tab_ok rfl) ?_
                      obtain ⟨h13, H⟩ := H
                      refine WL.y rfl (Yld.iaddrK tab_ok k36.rd rfl rfl ((rowsTo_len _ _ _).symm.trans hr2.1.symm) rfl h13.1 h13.2) ?_
                      refine WL.y rfl (Yld.faddrK tab_ok k36.rd (iltN h13 ((rowsTo_len _ _ _).symm.trans hr2.1.symm)) rfl rfl rfl) ?_
                      obtain ⟨⟨f1, ⟨A_el, n1, c_el⟩, ⟨A_el2, n2, c_el2⟩⟩, eh3, ⟨en1, ⟨en2, hR3⟩, ⟨en3, hR4⟩⟩⟩ := RelD.at k37 (0, hd0, hd0) (0, [], []) (j := i2.toNat) (Nat.lt_of_lt_of_eq (iltN h13 ((rowsTo_len _ _ _).symm.trans hr2.1.symm)) k37.1)
                      have en1 : f1 = ((onceRows (t43 + (1 : Int)) l).getD i2.toNat (0, [], [])).1 := en1
                      subst en1
                      have en2 : n1 = (((onceRows (t43 + (1 : Int)) l).getD i2.toNat (0, [], [])).2.1).length := en2
                      subst en2
                      have en3 : n2 = (((onceRows (t43 + (1 : Int)) l).getD i2.toNat (0, [], [])).2.2).length := en3
                      subst en3
                      refine WL.y rfl (Yld.iloadF (v := .slice A_el ((((onceRows (t43 + (1 : Int)) l).getD i2.toNat (0, [], [])).2.1).length) c_el) (0, hd0, hd0) tab_ok k36.rd rfl rfl (iltN h13 ((rowsTo_len _ _ _).symm.trans hr2.1.symm)) (by rw [eh3]; rfl)) ?_
                      refine WL.y rfl (Yld.pure tab_ok rfl) ?_
                      obtain ⟨h14, H⟩ := H
                      refine WL.y rfl (Yld.add rfl rfl h14) ?_
                      refine WL.y rfl (Yld.pure tab_ok rfl) ?_
                      refine WL.nil (WX.then_normal ?_)
                      refine WC.seq ?_
                      refine WC.region ?_
                      refine WL.y rfl (Yld.pure tab_ok rfl) ?_
                      refine WL.nil (WX.then_normal ?_)
                      refine WC.block ?_
                      obtain ⟨I3, mu3, h0_3, HR3⟩ := H
                      refine WC.loopF (fun n' L' w' => ∃ (k : Int), ∃ (seen2 : List Bool), n' = mu3 k seen2 ∧ L' = [(1, .int .i64 (t43 + (1 : Int))), (6, .slice (some ⟨g1, 0, none⟩) l.length ((l.length : Int).toNat)), (11, .int .i64 ((t910.length : Int) - (1 : Int))), (12, .slice A_t1040 t1040.length c_t1040), (14, .slice A_at at_.length c_at), (17, .slice (some ⟨g3, 0, none⟩) ((l.length : Int).toNat) ((l.length : Int).toNat)), (18, .int .i64 (n + ((((onceRows (t43 + (1 : Int)) l).getD i2.toNat (0, [], [])).2.1).length : Int))), (19, .int .i64 i2), (20, .int .i64 k)] ∧ I3 k seen2 ∧ (l.length : Int).toNat = seen2.length ∧ w.grownBy w' none ∧ OwnK 3 encH28 w' w.heap.size 28 (some ⟨g1, 0, none⟩) ((l.length : Int).toNat) hs_m ∧ RelD de28 w' hs_m (onceRows (t43 + (1 : Int)) l) ∧ Own vv w' w.heap.size 41 A_t1040 c_t1040 hs_t1040 ∧ RelD deV w' hs_t1040 t1040 ∧ Own vs w' w.heap.size 9 A_at c_at at_ ∧ Own vB w' w.heap.size 4 (some ⟨g3, 0, none⟩) ((l.length : Int).toNat) seen2 ∧ Dj (blk (some ⟨g1, 0, none⟩)) (blk A_t1040) ∧ Dj (blk (some ⟨g1, 0, none⟩)) (blk A_at) ∧ Dj (blk (some ⟨g1, 0, none⟩)) (blk (some ⟨g3, 0, none⟩)) ∧ DnD de28 hs_m (onceRows (t43 + (1 : Int)) l) (blk A_t1040) ∧ DnD de28 hs_m (onceRows (t43 + (1 : Int)) l) (blk A_at) ∧ DnD de28 hs_m (onceRows (t43 + (1 : Int)) l) (blk (some ⟨g3, 0, none⟩)) ∧ Dj (blk A_t1040) (blk A_at) ∧ Dj (blk A_t1040) (blk (some ⟨g3, 0, none⟩)) ∧ DnD deV hs_t1040 t1040 (blk (some ⟨g1, 0, none⟩)) ∧ DnD deV hs_t1040 t1040 (blk A_t1040) ∧ DnD deV hs_t1040 t1040 (blk A_at) ∧ DnD deV hs_t1040 t1040 (blk (some ⟨g3, 0, none⟩)) ∧ Dj (blk A_at) (blk (some ⟨g3, 0, none⟩))) _ _ ⟨(0 : Int), seen, rfl, rfl, h0_3, hn_seen, gr12, k36, k37, k38, k39, k40, k41, dj11, dj12, dj13, dj14, dj15, dj16, dj17, dj18, dj19, dj20, dj21, dj22, dj23⟩ (by repeat (first | exact Sub.nil | refine Sub.cons rfl ?_)) ?_
                      clear h0_3
                      rintro _ _ w14 ⟨k, seen2, rfl, rfl, hI3, hn_seen2, gr14, k48, k49, k50, k51, k52, k53, dj37, dj38, dj39, dj40, dj41, dj42, dj43, dj44, dj45, dj46, dj47, dj48, dj49⟩
                      have H := HR3 k seen2 hI3
                      replace H := H hn_seen2
                      refine WC.seq ?_
                      refine WC.seq ?_
                      refine WC.region ?_
                      refine WL.y rfl (Yld.pure tab_ok rfl) ?_
                      refine WL.y rfl (Yld.pure tab_ok rfl) ?_
                      refine WL.y rfl (Yld.pure tab_ok rfl) ?_
                      obtain ⟨h15, H⟩ := H
                      refine WL.y rfl (Yld.iaddrK tab_ok k48.rd rfl rfl ((rowsTo_len _ _ _).symm.trans hr2.1.symm) rfl h15.1 h15.2) ?_
                      refine WL.y rfl (Yld.faddrK tab_ok k48.rd (iltN h15 ((rowsTo_len _ _ _).symm.trans hr2.1.symm)) rfl rfl rfl) ?_
                      obtain ⟨⟨f2, ⟨A_el3, n3, c_el3⟩, ⟨A_el4, n4, c_el4⟩⟩, eh4, ⟨en4, ⟨en5, hR5⟩, ⟨en6, hR6⟩⟩⟩ := RelD.at k49 (0, hd0, hd0) (0, [], []) (j := i2.toNat) (Nat.lt_of_lt_of_eq (iltN h15 ((rowsTo_len _ _ _).symm.trans hr2.1.symm)) k49.1)
                      have en4 : f2 = ((onceRows (t43 + (1 : Int)) l).getD i2.toNat (0, [], [])).1 := en4
                      subst en4
                      have en5 : n3 = (((onceRows (t43 + (1 : Int)) l).getD i2.toNat (0, [], [])).2.1).length := en5
                      subst en5
                      have en6 : n4 = (((onceRows (t43 + (1 : Int)) l).getD i2.toNat (0, [], [])).2.2).length := en6
                      subst en6
                      refine WL.y rfl (Yld.iloadF (v := .slice A_el4 ((((onceRows (t43 + (1 : Int)) l).getD i2.toNat (0, [], [])).2.2).length) c_el4) (0, hd0, hd0) tab_ok k48.rd rfl rfl (iltN h15 ((rowsTo_len _ _ _).symm.trans hr2.1.symm)) (by rw [eh4]; rfl)) ?_
                      refine WL.y rfl (Yld.pure tab_ok rfl) ?_
                      refine WL.y rfl (Yld.pure tab_ok rfl) ?_
                      refine WL.y rfl (Yld.pure tab_ok rfl) ?_
                      refine WL.midF 3 (fun L' w' => ∃ q3 : Bool, L' = [(163, .bool q3), (1, .int .i64 (t43 + (1 : Int))), (6, .slice (some ⟨g1, 0, none⟩) l.length ((l.length : Int).toNat)), (11, .int .i64 ((t910.length : Int) - (1 : Int))), (12, .slice A_t1040 t1040.length c_t1040), (14, .slice A_at at_.length c_at), (17, .slice (some ⟨g3, 0, none⟩) ((l.length : Int).toNat) ((l.length : Int).toNat)), (18, .int .i64 (n + ((((onceRows (t43 + (1 : Int)) l).getD i2.toNat (0, [], [])).2.1).length : Int))), (19, .int .i64 i2), (20, .int .i64 k)] ∧ ((decide (k < ((((onceRows (t43 + (1 : Int)) l).getD i2.toNat (0, [], [])).2.2).length : Int))) && (decide ((0 : Int) < i2))) = q3 ∧ w14 = w') ?_ (fun hQ => ?_)
                      · rintro _ _ ⟨q3, rfl, rfl, rfl⟩
                        refine WL.nil (WX.then_normal ?_)
                        refine WC.cond rfl (fun b9 => ?_) (fun b9 => ?_)
                        · replace H := H.1 (b9)
                          refine WC.skip (WX.then_normal ?_)
                          refine WC.seq ?_
                          refine WC.block ?_
                          refine WC.region ?_
                          refine WL.y rfl (Yld.pure tab_ok rfl) ?_
                          refine WL.y rfl (Yld.pure tab_ok rfl) ?_
                          refine WL.y rfl (Yld.pure tab_ok rfl) ?_
                          obtain ⟨h16, H⟩ := H
                          refine WL.y rfl (Yld.iaddrK tab_ok k48.rd rfl rfl ((rowsTo_len _ _ _).symm.trans hr2.1.symm) rfl h16.1 h16.2) ?_
                          refine WL.y rfl (Yld.faddrK tab_ok k48.rd (iltN h16 ((rowsTo_len _ _ _).symm.trans hr2.1.symm)) rfl rfl rfl) ?_
                          refine WL.y rfl (Yld.iloadF (v := .slice A_el4 ((((onceRows (t43 + (1 : Int)) l).getD i2.toNat (0, [], [])).2.2).length) c_el4) (0, hd0, hd0) tab_ok k48.rd rfl rfl (iltN h16 ((rowsTo_len _ _ _).symm.trans hr2.1.symm)) (by rw [eh4]; rfl)) ?_
                          refine WL.y rfl (Yld.pure tab_ok rfl) ?_
                          obtain ⟨h17, H⟩ := H
                          refine WL.y rfl (Yld.iaddrW tab_ok hR6 rfl rfl rfl rfl h17.1 h17.2) ?_
                          refine WL.y rfl (Yld.iload 0 tab_ok hR6 rfl rfl (iltN h17 rfl)) ?_
                          refine WL.y rfl (Yld.pure tab_ok rfl) ?_
                          refine WL.call rfl rfl (W_smithyworld_Number H) ?_
                          rintro _ _ ⟨rfl, t176, rfl, H⟩
                          obtain ⟨h18, H⟩ := H
                          refine WL.y rfl (Yld.iaddrW tab_ok k53.rd rfl rfl hn_seen2 rfl h18.1 h18.2) ?_
                          refine WL.ostore (v := true) one4 One.B k53 rfl rfl (iltN h18 hn_seen2) (fun w15 hO7 hg10 => ?_)
                          have gr15 := gr_mod gr14 hg10 k53.ge'
                          have k54 := k48.go hg10 dj39
                          have k55 := k49.go hg10 dj42
                          have k56 := k50.go hg10 dj44
                          have k57 := k51.go hg10 dj48
                          have k58 := k52.go hg10 dj49
                          refine WL.nil (WX.block_normal (WX.then_normal ?_))
                          refine WC.region ?_
                          refine WL.y rfl (Yld.pure tab_ok rfl) ?_
                          obtain ⟨h19, H⟩ := H
                          refine WL.y rfl (Yld.add rfl rfl h19) ?_
                          refine WL.y rfl (Yld.pure tab_ok rfl) ?_
                          refine WL.nil ?_
                          exact WX.roundF _ ⟨k + (1 : Int), seen2.set t176.toNat true, rfl, rfl, H.1, (hn_seen2.trans List.length_set.symm), gr15, k54, k55, k56, k57, k58, hO7, dj37, dj38, dj39, dj40, dj41, dj42, dj43, dj44, dj45, dj46, dj47, dj48, dj49⟩ (by repeat (first | exact Sub.nil | refine Sub.cons rfl ?_)) H.2
                        · replace H := H.2 (b9)
                          refine WC.exit (WX.then_exit (WX.then_exit (WX.block_same (WX.block_normal ?_))))
                          exact WX.weaken (by repeat (first | exact Sub.nil | refine Sub.cons rfl ?_)) (hQ _ _ ⟨n + ((((onceRows (t43 + (1 : Int)) l).getD i2.toNat (0, [], [])).2.1).length : Int), seen2, rfl, H, hn_seen2, gr14, k48, k49, k50, k51, k52, k53, dj37, dj38, dj39, dj40, dj41, dj42, dj43, dj44, dj45, dj46, dj47, dj48, dj49⟩)
                      · clear H
                        rcases Bool.eq_false_or_eq_true (decide (k < ((((onceRows (t43 + (1 : Int)) l).getD i2.toNat (0, [], [])).2.2).length : Int))) with b10 | b10
                        · refine WL.gyes rfl rfl (okb b10) rfl (Yld.pure tab_ok rfl) ?_
                          refine WL.gyes rfl rfl (okb b10) rfl (Yld.pure tab_ok rfl) ?_
                          refine WL.y rfl (Yld.pickT (okb b10) rfl) ?_
                          exact WL.weaken (by repeat (first | exact Sub.nil | refine Sub.cons rfl ?_)) (hQ _ _ ⟨decide ((0 : Int) < i2), rfl, by rw [b10] <;> rfl, rfl⟩)
                        · refine WL.gno rfl rfl (okb b10) rfl ?_
                          refine WL.gno rfl rfl (okb b10) rfl ?_
                          refine WL.y rfl (Yld.pickF (okb b10) rfl) ?_
                          exact WL.weaken (by repeat (first | exact Sub.nil | refine Sub.cons rfl ?_)) (hQ _ _ ⟨false, rfl, by rw [b10] <;> rfl, rfl⟩)
                · replace H := H.2 (of_decide_eq_false b7)
                  refine WC.exit (WX.then_exit (WX.then_exit (WX.block_same (WX.then_normal ?_))))
                  refine WC.seq ?_
                  refine WC.seq ?_
                  refine WC.region ?_
                  refine WL.y rfl (Yld.pure tab_ok rfl) ?_
                  refine WL.y rfl (Yld.pure tab_ok rfl) ?_
                  refine WL.y rfl (Yld.pure tab_ok rfl) ?_
                  refine WL.y rfl (Yld.pure tab_ok rfl) ?_
                  refine WL.nil (WX.then_normal ?_)
                  refine WC.cond rfl (fun b11 => ?_) (fun b11 => ?_)
                  · replace H := H.1 (nd_true b11)
                    refine WC.seq ?_
                    refine WC.region ?_
                    refine WL.y rfl (Yld.pure tab_ok rfl) ?_
                    refine WL.nil (WX.then_normal ?_)
                    refine WC.ret (WX.then_ret ?_)
                    exact WX.ret1 rfl rfl ⟨gr12, false, rfl, H⟩
                  · replace H := H.2 (nd_false b11)
                    refine WC.skip (WX.then_normal ?_)
                    refine WC.seq ?_
                    refine WC.seq ?_
                    refine WC.region ?_
                    refine WL.y rfl (Yld.pure tab_ok rfl) ?_
                    refine WL.nil (WX.then_normal ?_)
                    refine WC.block ?_
                    obtain ⟨I4, mu4, h0_4, HR4⟩ := H
                    refine WC.loopF (fun n' L' w' => ∃ (i3 : Int), n' = mu4 i3 ∧ L' = [(1, .int .i64 (t43 + (1 : Int))), (6, .slice (some ⟨g1, 0, none⟩) l.length ((l.length : Int).toNat)), (11, .int .i64 ((t910.length : Int) - (1 : Int))), (14, .slice A_at at_.length c_at), (17, .slice (some ⟨g3, 0, none⟩) ((l.length : Int).toNat) ((l.length : Int).toNat)), (21, .int .i64 i3)] ∧ I4 i3 ∧ w.grownBy w' none ∧ OwnK 3 encH28 w' w.heap.size 28 (some ⟨g1, 0, none⟩) ((l.length : Int).toNat) hs_m ∧ RelD de28 w' hs_m (onceRows (t43 + (1 : Int)) l) ∧ Own vs w' w.heap.size 9 A_at c_at at_ ∧ Own vB w' w.heap.size 4 (some ⟨g3, 0, none⟩) ((l.length : Int).toNat) seen ∧ Dj (blk (some ⟨g1, 0, none⟩)) (blk A_at) ∧ Dj (blk (some ⟨g1, 0, none⟩)) (blk (some ⟨g3, 0, none⟩)) ∧ DnD de28 hs_m (onceRows (t43 + (1 : Int)) l) (blk A_at) ∧ DnD de28 hs_m (onceRows (t43 + (1 : Int)) l) (blk (some ⟨g3, 0, none⟩)) ∧ Dj (blk A_at) (blk (some ⟨g3, 0, none⟩))) _ _ ⟨(0 : Int), rfl, rfl, h0_4, gr12, k36, k37, k40, k41, dj12, dj13, dj15, dj16, dj23⟩ (by repeat (first | exact Sub.nil | refine Sub.cons rfl ?_)) ?_
                    clear h0_4
                    rintro _ _ w16 ⟨i3, rfl, rfl, hI4, gr16, k59, k60, k61, k62, dj50, dj51, dj52, dj53, dj54⟩
                    have H := HR4 i3 hI4
                    refine WC.seq ?_
                    refine WC.seq ?_
                    refine WC.region ?_
                    refine WL.y rfl (Yld.pure tab_ok rfl) ?_
                    refine WL.y rfl (Yld.pure tab_ok rfl) ?_
                    refine WL.y rfl (Yld.pure tab_ok rfl) ?_
                    refine WL.nil (WX.then_normal ?_)
                    refine WC.cond rfl (fun b12 => ?_) (fun b12 => ?_)
                    · replace H := H.1 (of_decide_eq_true b12)
                      refine WC.skip (WX.then_normal ?_)
                      refine WC.seq ?_
                      refine WC.block ?_
                      refine WC.seq ?_
                      refine WC.region ?_
                      refine WL.y rfl (Yld.pure tab_ok rfl) ?_
                      refine WL.nil (WX.then_normal ?_)
                      refine WC.block ?_
                      obtain ⟨I5, mu5, h0_5, HR5⟩ := H
                      refine WC.loopF (fun n' L' w' => ∃ (k_2 : Int), n' = mu5 k_2 ∧ L' = [(1, .int .i64 (t43 + (1 : Int))), (6, .slice (some ⟨g1, 0, none⟩) l.length ((l.length : Int).toNat)), (11, .int .i64 ((t910.length : Int) - (1 : Int))), (14, .slice A_at at_.length c_at), (17, .slice (some ⟨g3, 0, none⟩) ((l.length : Int).toNat) ((l.length : Int).toNat)), (21, .int .i64 i3), (22, .int .i64 k_2)] ∧ I5 k_2 ∧ w.grownBy w' none ∧ OwnK 3 encH28 w' w.heap.size 28 (some ⟨g1, 0, none⟩) ((l.length : Int).toNat) hs_m ∧ RelD de28 w' hs_m (onceRows (t43 + (1 : Int)) l) ∧ Own vs w' w.heap.size 9 A_at c_at at_ ∧ Own vB w' w.heap.size 4 (some ⟨g3, 0, none⟩) ((l.length : Int).toNat) seen ∧ Dj (blk (some ⟨g1, 0, none⟩)) (blk A_at) ∧ Dj (blk (some ⟨g1, 0, none⟩)) (blk (some ⟨g3, 0, none⟩)) ∧ DnD de28 hs_m (onceRows (t43 + (1 : Int)) l) (blk A_at) ∧ DnD de28 hs_m (onceRows (t43 + (1 : Int)) l) (blk (some ⟨g3, 0, none⟩)) ∧ Dj (blk A_at) (blk (some ⟨g3, 0, none⟩))) _ _ ⟨(0 : Int), rfl, rfl, h0_5, gr16, k59, k60, k61, k62, dj50, dj51, dj52, dj53, dj54⟩ (by repeat (first | exact Sub.nil | refine Sub.cons rfl ?_)) ?_
                      clear h0_5
                      rintro _ _ w17 ⟨k_2, rfl, rfl, hI5, gr17, k63, k64, k65, k66, dj55, dj56, dj57, dj58, dj59⟩
                      have H := HR5 k_2 hI5
                      refine WC.seq ?_
                      refine WC.seq ?_
                      refine WC.region ?_
                      refine WL.y rfl (Yld.pure tab_ok rfl) ?_
                      refine WL.y rfl (Yld.pure tab_ok rfl) ?_
                      refine WL.y rfl (Yld.pure tab_ok rfl) ?_
                      obtain ⟨h20, H⟩ := H
                      refine WL.y rfl (Yld.iaddrK tab_ok k63.rd rfl rfl ((rowsTo_len _ _ _).symm.trans hr2.1.symm) rfl h20.1 h20.2) ?_
                      refine WL.y rfl (Yld.faddrK tab_ok k63.rd (iltN h20 ((rowsTo_len _ _ _).symm.trans hr2.1.symm)) rfl rfl rfl) ?_
                      obtain ⟨⟨f3, ⟨A_el5, n5, c_el5⟩, ⟨A_el6, n6, c_el6⟩⟩, eh5, ⟨en7, ⟨en8, hR7⟩, ⟨en9, hR8⟩⟩⟩ := RelD.at k64 (0, hd0, hd0) (0, [], []) (j := i3.toNat) (Nat.lt_of_lt_of_eq (iltN h20 ((rowsTo_len _ _ _).symm.trans hr2.1.symm)) k64.1)
                      have en7 : f3 = ((onceRows (t43 + (1 : Int)) l).getD i3.toNat (0, [], [])).1 := en7
                      subst en7
                      have en8 : n5 = (((onceRows (t43 + (1 : Int)) l).getD i3.toNat (0, [], [])).2.1).length := en8
                      subst en8
                      have en9 : n6 = (((onceRows (t43 + (1 : Int)) l).getD i3.toNat (0, [], [])).2.2).length := en9
                      subst en9
                      refine WL.y rfl (Yld.iloadF (v := .slice A_el6 ((((onceRows (t43 + (1 : Int)) l).getD i3.toNat (0, [], [])).2.2).length) c_el6) (0, hd0, hd0) tab_ok k63.rd rfl rfl (iltN h20 ((rowsTo_len _ _ _).symm.trans hr2.1.symm)) (by rw [eh5]; rfl)) ?_
                      refine WL.y rfl (Yld.pure tab_ok rfl) ?_
                      refine WL.y rfl (Yld.pure tab_ok rfl) ?_
                      refine WL.y rfl (Yld.pure tab_ok rfl) ?_
                      refine WL.midF 3 (fun L' w' => ∃ q4 : Bool, L' = [(198, .bool q4), (1, .int .i64 (t43 + (1 : Int))), (6, .slice (some ⟨g1, 0, none⟩) l.length ((l.length : Int).toNat)), (11, .int .i64 ((t910.length : Int) - (1 : Int))), (14, .slice A_at at_.length c_at), (17, .slice (some ⟨g3, 0, none⟩) ((l.length : Int).toNat) ((l.length : Int).toNat)), (21, .int .i64 i3), (22, .int .i64 k_2)] ∧ ((decide (k_2 < ((((onceRows (t43 + (1 : Int)) l).getD i3.toNat (0, [], [])).2.2).length : Int))) && (decide ((0 : Int) < i3))) = q4 ∧ w17 = w') ?_ (fun hQ => ?_)
                      · rintro _ _ ⟨q4, rfl, rfl, rfl⟩
                        refine WL.y rfl (Yld.pure tab_ok rfl) ?_
                        obtain ⟨h21, H⟩ := H
                        refine WL.midF 5 (fun L' w' => ∃ q5 : Bool, L' = [(204, .bool q5), (1, .int .i64 (t43 + (1 : Int))), (6, .slice (some ⟨g1, 0, none⟩) l.length ((l.length : Int).toNat)), (11, .int .i64 ((t910.length : Int) - (1 : Int))), (14, .slice A_at at_.length c_at), (17, .slice (some ⟨g3, 0, none⟩) ((l.length : Int).toNat) ((l.length : Int).toNat)), (21, .int .i64 i3), (22, .int .i64 k_2)] ∧ (((decide (k_2 < ((((onceRows (t43 + (1 : Int)) l).getD i3.toNat (0, [], [])).2.2).length : Int))) && (decide ((0 : Int) < i3))) && (seen.getD i3.toNat false)) = q5 ∧ w17 = w') ?_ (fun hQ => ?_)
                        · rintro _ _ ⟨q5, rfl, rfl, rfl⟩
                          refine WL.nil (WX.then_normal ?_)
                          refine WC.cond rfl (fun b13 => ?_) (fun b13 => ?_)
                          · replace H := H.1 (b13)
                            refine WC.skip (WX.then_normal ?_)
                            refine WC.seq ?_
                            obtain ⟨J2, H, hJ2⟩ := H
                            refine WC.midF (fun L' w' => L' = [(1, .int .i64 (t43 + (1 : Int))), (6, .slice (some ⟨g1, 0, none⟩) l.length ((l.length : Int).toNat)), (11, .int .i64 ((t910.length : Int) - (1 : Int))), (14, .slice A_at at_.length c_at), (17, .slice (some ⟨g3, 0, none⟩) ((l.length : Int).toNat) ((l.length : Int).toNat)), (21, .int .i64 i3), (22, .int .i64 k_2)] ∧ J2 ∧ w.grownBy w' none ∧ OwnK 3 encH28 w' w.heap.size 28 (some ⟨g1, 0, none⟩) ((l.length : Int).toNat) hs_m ∧ RelD de28 w' hs_m (onceRows (t43 + (1 : Int)) l) ∧ Own vs w' w.heap.size 9 A_at c_at at_ ∧ Own vB w' w.heap.size 4 (some ⟨g3, 0, none⟩) ((l.length : Int).toNat) seen ∧ Dj (blk (some ⟨g1, 0, none⟩)) (blk A_at) ∧ Dj (blk (some ⟨g1, 0, none⟩)) (blk (some ⟨g3, 0, none⟩)) ∧ DnD de28 hs_m (onceRows (t43 + (1 : Int)) l) (blk A_at) ∧ DnD de28 hs_m (onceRows (t43 + (1 : Int)) l) (blk (some ⟨g3, 0, none⟩)) ∧ Dj (blk A_at) (blk (some ⟨g3, 0, none⟩))) ?_ (fun hQ => ?_)
                            · clear H
                              rintro _ w18 ⟨rfl, H, gr18, k67, k68, k69, k70, dj60, dj61, dj62, dj63, dj64⟩
                              replace H := hJ2  H
                              refine WX.then_normal ?_
                              refine WC.region ?_
                              refine WL.y rfl (Yld.pure tab_ok rfl) ?_
                              obtain ⟨h22, H⟩ := H
                              refine WL.y rfl (Yld.add rfl rfl h22) ?_
                              refine WL.y rfl (Yld.pure tab_ok rfl) ?_
                              refine WL.nil ?_
                              exact WX.roundF _ ⟨k_2 + (1 : Int), rfl, rfl, H.1, gr18, k67, k68, k69, k70, dj60, dj61, dj62, dj63, dj64⟩ (by repeat (first | exact Sub.nil | refine Sub.cons rfl ?_)) H.2
                            · clear hJ2
                              refine WC.block ?_
                              refine WC.seq ?_
                              refine WC.region ?_
                              refine WL.y rfl (Yld.pure tab_ok rfl) ?_
                              refine WL.y rfl (Yld.pure tab_ok rfl) ?_
                              obtain ⟨h23, H⟩ := H
                              refine WL.y rfl (Yld.iaddrK tab_ok k63.rd rfl rfl ((rowsTo_len _ _ _).symm.trans hr2.1.symm) rfl h23.1 h23.2) ?_
                              refine WL.y rfl (Yld.faddrK tab_ok k63.rd (iltN h23 ((rowsTo_len _ _ _).symm.trans hr2.1.symm)) rfl rfl rfl) ?_
                              refine WL.y rfl (Yld.iloadF (v := .slice A_el6 ((((onceRows (t43 + (1 : Int)) l).getD i3.toNat (0, [], [])).2.2).length) c_el6) (0, hd0, hd0) tab_ok k63.rd rfl rfl (iltN h23 ((rowsTo_len _ _ _).symm.trans hr2.1.symm)) (by rw [eh5]; rfl)) ?_
                              refine WL.y rfl (Yld.pure tab_ok rfl) ?_
                              obtain ⟨h24, H⟩ := H
                              refine WL.y rfl (Yld.iaddrW tab_ok hR8 rfl rfl rfl rfl h24.1 h24.2) ?_
                              refine WL.y rfl (Yld.iload 0 tab_ok hR8 rfl rfl (iltN h24 rfl)) ?_
                              refine WL.y rfl (Yld.pure tab_ok rfl) ?_
                              refine WL.call rfl rfl (W_smithyworld_Number H) ?_
                              rintro _ _ ⟨rfl, j, rfl, H⟩
                              refine WL.y rfl (Yld.pure tab_ok rfl) ?_
                              refine WL.nil (WX.then_normal ?_)
                              refine WC.seq ?_
                              refine WC.seq ?_
                              refine WC.region ?_
                              refine WL.y rfl (Yld.pure tab_ok rfl) ?_
                              refine WL.y rfl (Yld.pure tab_ok rfl) ?_
                              obtain ⟨h25, H⟩ := H
                              refine WL.y rfl (Yld.iaddrK tab_ok k63.rd rfl rfl ((rowsTo_len _ _ _).symm.trans hr2.1.symm) rfl h25.1 h25.2) ?_
                              refine WL.y rfl (Yld.faddrK tab_ok k63.rd (iltN h25 ((rowsTo_len _ _ _).symm.trans hr2.1.symm)) rfl rfl rfl) ?_
                              refine WL.y rfl (Yld.iloadF (v := .slice A_el5 ((((onceRows (t43 + (1 : Int)) l).getD i3.toNat (0, [], [])).2.1).length) c_el5) (0, hd0, hd0) tab_ok k63.rd rfl rfl (iltN h25 ((rowsTo_len _ _ _).symm.trans hr2.1.symm)) (by rw [eh5]; rfl)) ?_
                              refine WL.y rfl (Yld.pure tab_ok rfl) ?_
                              refine WL.y rfl (Yld.pure tab_ok rfl) ?_
                              refine WL.y rfl (Yld.pure tab_ok rfl) ?_
                              obtain ⟨h26, H⟩ := H
                              refine WL.midF 8 (fun L' w' => ∃ q6 : Bool, L' = [(232, .bool q6), (1, .int .i64 (t43 + (1 : Int))), (6, .slice (some ⟨g1, 0, none⟩) l.length ((l.length : Int).toNat)), (11, .int .i64 ((t910.length : Int) - (1 : Int))), (14, .slice A_at at_.length c_at), (17, .slice (some ⟨g3, 0, none⟩) ((l.length : Int).toNat) ((l.length : Int).toNat)), (21, .int .i64 i3), (22, .int .i64 k_2), (23, .int .i64 j)] ∧ ((decide (((((onceRows (t43 + (1 : Int)) l).getD i3.toNat (0, [], [])).2.1).length : Int) = (0 : Int))) || (decide (((((onceRows (t43 + (1 : Int)) l).getD j.toNat (0, [], [])).2.1).length : Int) = (0 : Int)))) = q6 ∧ w17 = w') ?_ (fun hQ => ?_)
                              · rintro _ _ ⟨q6, rfl, rfl, rfl⟩
                                refine WL.nil (WX.then_normal ?_)
                                refine WC.cond rfl (fun b14 => ?_) (fun b14 => ?_)
                                · replace H := H.1 (b14)
                                  refine WC.exit (WX.then_exit (WX.block_same ?_))
                                  exact WX.weaken (by repeat (first | exact Sub.nil | refine Sub.cons rfl ?_)) (hQ _ _ ⟨rfl, H, gr17, k63, k64, k65, k66, dj55, dj56, dj57, dj58, dj59⟩)
                                · replace H := H.2 (b14)
                                  refine WC.skip (WX.then_normal ?_)
                                  refine WC.seq ?_
                                  refine WC.region ?_
                                  refine WL.y rfl (Yld.pure tab_ok rfl) ?_
                                  refine WL.y rfl (Yld.pure tab_ok rfl) ?_
                                  obtain ⟨h27, H⟩ := H
                                  refine WL.y rfl (Yld.mul rfl rfl h27) ?_
                                  refine WL.call rfl rfl (W_num_Of H) ?_
                                  rintro _ w19 ⟨hg11, v_t236, v_t2362, t236, m_t236, rfl, ht236, one_v_t236, one_v_t2362, H⟩
                                  have gr19 := gr_trans gr17 hg11
                                  have k71 := k63.grown hg11
                                  have k72 := k64.grown hg11
                                  have k73 := k65.grown hg11
                                  have k74 := k66.grown hg11
                                  refine WL.call rfl rfl (W_num_Num_Text ht236 H) ?_
                                  rintro _ w20 ⟨hg12, t237, rfl, H⟩
                                  have gr20 := gr_trans gr19 hg12
                                  have k75 := k71.grown hg12
                                  have k76 := k72.grown hg12
                                  have k77 := k73.grown hg12
                                  have k78 := k74.grown hg12
                                  refine WL.call rfl rfl (W_smithyref_AmongTexts k77.rd rfl H) ?_
                                  rintro _ _ ⟨rfl, x, rfl, H⟩
                                  refine WL.y rfl (Yld.pure tab_ok rfl) ?_
                                  refine WL.nil (WX.then_normal ?_)
                                  refine WC.seq ?_
                                  refine WC.region ?_
                                  refine WL.y rfl (Yld.pure tab_ok rfl) ?_
                                  refine WL.y rfl (Yld.pure tab_ok rfl) ?_
                                  obtain ⟨h28, H⟩ := H
                                  refine WL.y rfl (Yld.mul rfl rfl h28) ?_
                                  refine WL.call rfl rfl (W_num_Of H) ?_
                                  rintro _ w21 ⟨hg13, v_t242, v_t2422, t242, m_t242, rfl, ht242, one_v_t242, one_v_t2422, H⟩
                                  have gr21 := gr_trans gr20 hg13
                                  have k79 := k75.grown hg13
                                  have k80 := k76.grown hg13
                                  have k81 := k77.grown hg13
                                  have k82 := k78.grown hg13
                                  refine WL.call rfl rfl (W_num_Num_Text ht242 H) ?_
                                  rintro _ w22 ⟨hg14, t243, rfl, H⟩
                                  have gr22 := gr_trans gr21 hg14
                                  have k83 := k79.grown hg14
                                  have k84 := k80.grown hg14
                                  have k85 := k81.grown hg14
                                  have k86 := k82.grown hg14
                                  refine WL.call rfl rfl (W_smithyref_AmongTexts k85.rd rfl H) ?_
                                  rintro _ _ ⟨rfl, y, rfl, H⟩
                                  refine WL.y rfl (Yld.pure tab_ok rfl) ?_
                                  refine WL.nil (WX.then_normal ?_)
                                  refine WC.seq ?_
                                  refine WC.region ?_
                                  refine WL.y rfl (Yld.pure tab_ok rfl) ?_
                                  refine WL.y rfl (Yld.pure tab_ok rfl) ?_
                                  refine WL.y rfl (Yld.pure tab_ok rfl) ?_
                                  refine WL.midF 4 (fun L' w' => ∃ q7 : Bool, L' = [(251, .bool q7), (1, .int .i64 (t43 + (1 : Int))), (6, .slice (some ⟨g1, 0, none⟩) l.length ((l.length : Int).toNat)), (11, .int .i64 ((t910.length : Int) - (1 : Int))), (14, .slice A_at at_.length c_at), (17, .slice (some ⟨g3, 0, none⟩) ((l.length : Int).toNat) ((l.length : Int).toNat)), (21, .int .i64 i3), (22, .int .i64 k_2), (24, .int .i64 x), (25, .int .i64 y)] ∧ ((decide ((t43 + (1 : Int)) = (2 : Int))) && (decide (x < y))) = q7 ∧ w22 = w') ?_ (fun hQ => ?_)
                                  · rintro _ _ ⟨q7, rfl, rfl, rfl⟩
                                    refine WL.y rfl (Yld.pure tab_ok rfl) ?_
                                    refine WL.midF 8 (fun L' w' => ∃ q8 : Bool, L' = [(260, .bool q8), (1, .int .i64 (t43 + (1 : Int))), (6, .slice (some ⟨g1, 0, none⟩) l.length ((l.length : Int).toNat)), (11, .int .i64 ((t910.length : Int) - (1 : Int))), (14, .slice A_at at_.length c_at), (17, .slice (some ⟨g3, 0, none⟩) ((l.length : Int).toNat) ((l.length : Int).toNat)), (21, .int .i64 i3), (22, .int .i64 k_2), (24, .int .i64 x), (25, .int .i64 y)] ∧ (((decide ((t43 + (1 : Int)) = (2 : Int))) && (decide (x < y))) || ((decide ((t43 + (1 : Int)) = (3 : Int))) && (decide (y < x)))) = q8 ∧ w22 = w') ?_ (fun hQ => ?_)
                                    · rintro _ _ ⟨q8, rfl, rfl, rfl⟩
                                      refine WL.y rfl (Yld.pure tab_ok rfl) ?_
                                      refine WL.midF 13 (fun L' w' => ∃ q9 : Bool, L' = [(274, .bool q9), (1, .int .i64 (t43 + (1 : Int))), (6, .slice (some ⟨g1, 0, none⟩) l.length ((l.length : Int).toNat)), (11, .int .i64 ((t910.length : Int) - (1 : Int))), (14, .slice A_at at_.length c_at), (17, .slice (some ⟨g3, 0, none⟩) ((l.length : Int).toNat) ((l.length : Int).toNat)), (21, .int .i64 i3), (22, .int .i64 k_2)] ∧ ((((decide ((t43 + (1 : Int)) = (2 : Int))) && (decide (x < y))) || ((decide ((t43 + (1 : Int)) = (3 : Int))) && (decide (y < x)))) || (((decide ((t43 + (1 : Int)) = (1 : Int))) && (decide (i3 = ((t910.length : Int) - (1 : Int))))) && (decide (y < x)))) = q9 ∧ w22 = w') ?_ (fun hQ => ?_)
                                      · rintro _ _ ⟨q9, rfl, rfl, rfl⟩
                                        refine WL.nil (WX.then_normal ?_)
                                        refine WC.cond rfl (fun b15 => ?_) (fun b15 => ?_)
                                        · replace H := H.1 (b15)
                                          refine WC.seq ?_
                                          refine WC.region ?_
                                          refine WL.y rfl (Yld.pure tab_ok rfl) ?_
                                          refine WL.nil (WX.then_normal ?_)
                                          refine WC.ret (WX.block_ret (WX.then_ret (WX.then_ret (WX.block_ret (WX.block_ret (WX.then_ret (WX.then_ret (WX.block_ret (WX.then_ret ?_)))))))))
                                          exact WX.ret1 rfl rfl ⟨gr22, false, rfl, H⟩
                                        · replace H := H.2 (b15)
                                          refine WC.skip (WX.block_normal ?_)
                                          exact WX.weaken (by repeat (first | exact Sub.nil | refine Sub.cons rfl ?_)) (hQ _ _ ⟨rfl, H, gr22, k83, k84, k85, k86, dj55, dj56, dj57, dj58, dj59⟩)
                                      · clear H
                                        rcases Bool.eq_false_or_eq_true (((decide ((t43 + (1 : Int)) = (2 : Int))) && (decide (x < y))) || ((decide ((t43 + (1 : Int)) = (3 : Int))) && (decide (y < x)))) with b16 | b16
                                        · refine WL.gno rfl rfl (okb b16) rfl ?_
                                          refine WL.gno rfl rfl (okb b16) rfl ?_
                                          refine WL.gno rfl rfl (okb b16) rfl ?_
                                          refine WL.gun rfl rfl rfl rfl ?_
                                          refine WL.gun rfl rfl rfl rfl ?_
                                          refine WL.gun rfl rfl rfl rfl ?_
                                          refine WL.gno rfl rfl (okb b16) rfl ?_
                                          refine WL.gno rfl rfl (okb b16) rfl ?_
                                          refine WL.gun rfl rfl rfl rfl ?_
                                          refine WL.gun rfl rfl rfl rfl ?_
                                          refine WL.gun rfl rfl rfl rfl ?_
                                          refine WL.gno rfl rfl (okb b16) rfl ?_
                                          refine WL.y rfl (Yld.pickT (okb b16) rfl) ?_
                                          exact WL.weaken (by repeat (first | exact Sub.nil | refine Sub.cons rfl ?_)) (hQ _ _ ⟨true, rfl, by rw [b16] <;> rfl, rfl⟩)
                                        · refine WL.gyes rfl rfl (okb b16) rfl (Yld.pure tab_ok rfl) ?_
                                          refine WL.gyes rfl rfl (okb b16) rfl (Yld.pure tab_ok rfl) ?_
                                          refine WL.gyes rfl rfl (okb b16) rfl (Yld.pure tab_ok rfl) ?_
                                          rcases Bool.eq_false_or_eq_true (decide ((t43 + (1 : Int)) = (1 : Int))) with b17 | b17
                                          · refine WL.gyes rfl rfl (okb b17) rfl (Yld.pure tab_ok rfl) ?_
                                            refine WL.gyes rfl rfl (okb b17) rfl (Yld.pure tab_ok rfl) ?_
                                            refine WL.gyes rfl rfl (okb b17) rfl (Yld.pure tab_ok rfl) ?_
                                            refine WL.gyes rfl rfl (okb b16) rfl (Yld.pickT (okb b17) rfl) ?_
                                            refine WL.gyes rfl rfl (okb b16) rfl (Yld.pure tab_ok rfl) ?_
                                            rcases Bool.eq_false_or_eq_true (decide (i3 = ((t910.length : Int) - (1 : Int)))) with b18 | b18
                                            · refine WL.gyes rfl rfl (okb b18) rfl (Yld.pure tab_ok rfl) ?_
                                              refine WL.gyes rfl rfl (okb b18) rfl (Yld.pure tab_ok rfl) ?_
                                              refine WL.gyes rfl rfl (okb b18) rfl (Yld.pure tab_ok rfl) ?_
                                              refine WL.gyes rfl rfl (okb b16) rfl (Yld.pickT (okb b18) rfl) ?_
                                              refine WL.y rfl (Yld.pickF (okb b16) rfl) ?_
                                              exact WL.weaken (by repeat (first | exact Sub.nil | refine Sub.cons rfl ?_)) (hQ _ _ ⟨decide (y < x), rfl, by rw [b16, b17, b18] <;> rfl, rfl⟩)
                                            · refine WL.gno rfl rfl (okb b18) rfl ?_
                                              refine WL.gno rfl rfl (okb b18) rfl ?_
                                              refine WL.gno rfl rfl (okb b18) rfl ?_
                                              refine WL.gyes rfl rfl (okb b16) rfl (Yld.pickF (okb b18) rfl) ?_
                                              refine WL.y rfl (Yld.pickF (okb b16) rfl) ?_
                                              exact WL.weaken (by repeat (first | exact Sub.nil | refine Sub.cons rfl ?_)) (hQ _ _ ⟨false, rfl, by rw [b16, b17, b18] <;> rfl, rfl⟩)
                                          · refine WL.gno rfl rfl (okb b17) rfl ?_
                                            refine WL.gno rfl rfl (okb b17) rfl ?_
                                            refine WL.gno rfl rfl (okb b17) rfl ?_
                                            refine WL.gyes rfl rfl (okb b16) rfl (Yld.pickF (okb b17) rfl) ?_
                                            refine WL.gyes rfl rfl (okb b16) rfl (Yld.pure tab_ok rfl) ?_
                                            refine WL.gno rfl rfl (rfl) rfl ?_
                                            refine WL.gno rfl rfl (rfl) rfl ?_
                                            refine WL.gno rfl rfl (rfl) rfl ?_
                                            refine WL.gyes rfl rfl (okb b16) rfl (Yld.pickF (rfl) rfl) ?_
                                            refine WL.y rfl (Yld.pickF (okb b16) rfl) ?_
                                            exact WL.weaken (by repeat (first | exact Sub.nil | refine Sub.cons rfl ?_)) (hQ _ _ ⟨false, rfl, by rw [b16, b17] <;> rfl, rfl⟩)
                                    · clear H
                                      rcases Bool.eq_false_or_eq_true ((decide ((t43 + (1 : Int)) = (2 : Int))) && (decide (x < y))) with b19 | b19
                                      · refine WL.gno rfl rfl (okb b19) rfl ?_
                                        refine WL.gno rfl rfl (okb b19) rfl ?_
                                        refine WL.gno rfl rfl (okb b19) rfl ?_
                                        refine WL.gun rfl rfl rfl rfl ?_
                                        refine WL.gun rfl rfl rfl rfl ?_
                                        refine WL.gun rfl rfl rfl rfl ?_
                                        refine WL.gno rfl rfl (okb b19) rfl ?_
                                        refine WL.y rfl (Yld.pickT (okb b19) rfl) ?_
                                        exact WL.weaken (by repeat (first | exact Sub.nil | refine Sub.cons rfl ?_)) (hQ _ _ ⟨true, rfl, by rw [b19] <;> rfl, rfl⟩)
                                      · refine WL.gyes rfl rfl (okb b19) rfl (Yld.pure tab_ok rfl) ?_
                                        refine WL.gyes rfl rfl (okb b19) rfl (Yld.pure tab_ok rfl) ?_
                                        refine WL.gyes rfl rfl (okb b19) rfl (Yld.pure tab_ok rfl) ?_
                                        rcases Bool.eq_false_or_eq_true (decide ((t43 + (1 : Int)) = (3 : Int))) with b20 | b20
                                        · refine WL.gyes rfl rfl (okb b20) rfl (Yld.pure tab_ok rfl) ?_
                                          refine WL.gyes rfl rfl (okb b20) rfl (Yld.pure tab_ok rfl) ?_
                                          refine WL.gyes rfl rfl (okb b20) rfl (Yld.pure tab_ok rfl) ?_
                                          refine WL.gyes rfl rfl (okb b19) rfl (Yld.pickT (okb b20) rfl) ?_
                                          refine WL.y rfl (Yld.pickF (okb b19) rfl) ?_
                                          exact WL.weaken (by repeat (first | exact Sub.nil | refine Sub.cons rfl ?_)) (hQ _ _ ⟨decide (y < x), rfl, by rw [b19, b20] <;> rfl, rfl⟩)
                                        · refine WL.gno rfl rfl (okb b20) rfl ?_
                                          refine WL.gno rfl rfl (okb b20) rfl ?_
                                          refine WL.gno rfl rfl (okb b20) rfl ?_
                                          refine WL.gyes rfl rfl (okb b19) rfl (Yld.pickF (okb b20) rfl) ?_
                                          refine WL.y rfl (Yld.pickF (okb b19) rfl) ?_
                                          exact WL.weaken (by repeat (first | exact Sub.nil | refine Sub.cons rfl ?_)) (hQ _ _ ⟨false, rfl, by rw [b19, b20] <;> rfl, rfl⟩)
                                  · clear H
                                    rcases Bool.eq_false_or_eq_true (decide ((t43 + (1 : Int)) = (2 : Int))) with b21 | b21
                                    · refine WL.gyes rfl rfl (okb b21) rfl (Yld.pure tab_ok rfl) ?_
                                      refine WL.gyes rfl rfl (okb b21) rfl (Yld.pure tab_ok rfl) ?_
                                      refine WL.gyes rfl rfl (okb b21) rfl (Yld.pure tab_ok rfl) ?_
                                      refine WL.y rfl (Yld.pickT (okb b21) rfl) ?_
                                      exact WL.weaken (by repeat (first | exact Sub.nil | refine Sub.cons rfl ?_)) (hQ _ _ ⟨decide (x < y), rfl, by rw [b21] <;> rfl, rfl⟩)
                                    · refine WL.gno rfl rfl (okb b21) rfl ?_
                                      refine WL.gno rfl rfl (okb b21) rfl ?_
                                      refine WL.gno rfl rfl (okb b21) rfl ?_
                                      refine WL.y rfl (Yld.pickF (okb b21) rfl) ?_
                                      exact WL.weaken (by repeat (first | exact Sub.nil | refine Sub.cons rfl ?_)) (hQ _ _ ⟨false, rfl, by rw [b21] <;> rfl, rfl⟩)
                              · clear H
                                rcases Bool.eq_false_or_eq_true (decide (((((onceRows (t43 + (1 : Int)) l).getD i3.toNat (0, [], [])).2.1).length : Int) = (0 : Int))) with b22 | b22
                                · refine WL.gno rfl rfl (okb b22) rfl ?_
                                  refine WL.gno rfl rfl (okb b22) rfl ?_
                                  refine WL.gno rfl rfl (okb b22) rfl ?_
                                  refine WL.gno rfl rfl (okb b22) rfl ?_
                                  refine WL.gno rfl rfl (okb b22) rfl ?_
                                  refine WL.gno rfl rfl (okb b22) rfl ?_
                                  refine WL.gno rfl rfl (okb b22) rfl ?_
                                  refine WL.y rfl (Yld.pickT (okb b22) rfl) ?_
                                  exact WL.weaken (by repeat (first | exact Sub.nil | refine Sub.cons rfl ?_)) (hQ _ _ ⟨true, rfl, by rw [b22] <;> rfl, rfl⟩)
                                · refine WL.gyes rfl rfl (okb b22) rfl (Yld.pure tab_ok rfl) ?_
                                  refine WL.gyes rfl rfl (okb b22) rfl (Yld.pure tab_ok rfl) ?_
                                  refine WL.gyes rfl rfl (okb b22) rfl (Yld.iaddrK tab_ok k63.rd rfl rfl ((rowsTo_len _ _ _).symm.trans hr2.1.symm) rfl (h26 b22).1 (h26 b22).2) ?_
                                  refine WL.gyes rfl rfl (okb b22) rfl (Yld.faddrK tab_ok k63.rd (iltN (h26 b22) ((rowsTo_len _ _ _).symm.trans hr2.1.symm)) rfl rfl rfl) ?_
                                  obtain ⟨⟨f4, ⟨A_el9, n7, c_el9⟩, ⟨A_el10, n8, c_el10⟩⟩, eh6, ⟨en10, ⟨en11, hR9⟩, ⟨en12, hR10⟩⟩⟩ := RelD.at k64 (0, hd0, hd0) (0, [], []) (j := j.toNat) (Nat.lt_of_lt_of_eq (iltN (h26 b22) ((rowsTo_len _ _ _).symm.trans hr2.1.symm)) k64.1)
                                  have en10 : f4 = ((onceRows (t43 + (1 : Int)) l).getD j.toNat (0, [], [])).1 := en10
                                  subst en10
                                  have en11 : n7 = (((onceRows (t43 + (1 : Int)) l).getD j.toNat (0, [], [])).2.1).length := en11
                                  subst en11
                                  have en12 : n8 = (((onceRows (t43 + (1 : Int)) l).getD j.toNat (0, [], [])).2.2).length := en12
                                  subst en12
                                  refine WL.gyes rfl rfl (okb b22) rfl (Yld.iloadF (v := .slice A_el9 ((((onceRows (t43 + (1 : Int)) l).getD j.toNat (0, [], [])).2.1).length) c_el9) (0, hd0, hd0) tab_ok k63.rd rfl rfl (iltN (h26 b22) ((rowsTo_len _ _ _).symm.trans hr2.1.symm)) (by rw [eh6]; rfl)) ?_
                                  refine WL.gyes rfl rfl (okb b22) rfl (Yld.pure tab_ok rfl) ?_
                                  refine WL.gyes rfl rfl (okb b22) rfl (Yld.pure tab_ok rfl) ?_
                                  refine WL.y rfl (Yld.pickF (okb b22) rfl) ?_
                                  exact WL.weaken (by repeat (first | exact Sub.nil | refine Sub.cons rfl ?_)) (hQ _ _ ⟨decide (((((onceRows (t43 + (1 : Int)) l).getD j.toNat (0, [], [])).2.1).length : Int) = (0 : Int)), rfl, by rw [b22] <;> rfl, rfl⟩)
                          · replace H := H.2 (b13)
                            refine WC.exit (WX.then_exit (WX.then_exit (WX.block_same (WX.block_normal (WX.then_normal ?_)))))
                            refine WC.region ?_
                            refine WL.y rfl (Yld.pure tab_ok rfl) ?_
                            obtain ⟨h29, H⟩ := H
                            refine WL.y rfl (Yld.add rfl rfl h29) ?_
                            refine WL.y rfl (Yld.pure tab_ok rfl) ?_
                            refine WL.nil ?_
                            exact WX.roundF _ ⟨i3 + (1 : Int), rfl, rfl, H.1, gr17, k63, k64, k65, k66, dj55, dj56, dj57, dj58, dj59⟩ (by repeat (first | exact Sub.nil | refine Sub.cons rfl ?_)) H.2
                        · clear H
                          rcases Bool.eq_false_or_eq_true ((decide (k_2 < ((((onceRows (t43 + (1 : Int)) l).getD i3.toNat (0, [], [])).2.2).length : Int))) && (decide ((0 : Int) < i3))) with b23 | b23
                          · refine WL.gyes rfl rfl (okb b23) rfl (Yld.pure tab_ok rfl) ?_
                            refine WL.gyes rfl rfl (okb b23) rfl (Yld.pure tab_ok rfl) ?_
                            refine WL.gyes rfl rfl (okb b23) rfl (Yld.iaddrW tab_ok k66.rd rfl rfl hn_seen rfl (h21 b23).1 (h21 b23).2) ?_
                            refine WL.gyes rfl rfl (okb b23) rfl (Yld.iload false tab_ok k66.rd rfl rfl (iltN (h21 b23) hn_seen)) ?_
                            refine WL.y rfl (Yld.pickT (okb b23) rfl) ?_
                            exact WL.weaken (by repeat (first | exact Sub.nil | refine Sub.cons rfl ?_)) (hQ _ _ ⟨seen.getD i3.toNat false, rfl, by rw [b23] <;> rfl, rfl⟩)
                          · refine WL.gno rfl rfl (okb b23) rfl ?_
                            refine WL.gno rfl rfl (okb b23) rfl ?_
                            refine WL.gno rfl rfl (okb b23) rfl ?_
                            refine WL.gno rfl rfl (okb b23) rfl ?_
                            refine WL.y rfl (Yld.pickF (okb b23) rfl) ?_
                            exact WL.weaken (by repeat (first | exact Sub.nil | refine Sub.cons rfl ?_)) (hQ _ _ ⟨false, rfl, by rw [b23] <;> rfl, rfl⟩)
                      · clear H
                        rcases Bool.eq_false_or_eq_true (decide (k_2 < ((((onceRows (t43 + (1 : Int)) l).getD i3.toNat (0, [], [])).2.2).length : Int))) with b24 | b24
                        · refine WL.gyes rfl rfl (okb b24) rfl (Yld.pure tab_ok rfl) ?_
                          refine WL.gyes rfl rfl (okb b24) rfl (Yld.pure tab_ok rfl) ?_
                          refine WL.y rfl (Yld.pickT (okb b24) rfl) ?_
                          exact WL.weaken (by repeat (first | exact Sub.nil | refine Sub.cons rfl ?_)) (hQ _ _ ⟨decide ((0 : Int) < i3), rfl, by rw [b24] <;> rfl, rfl⟩)
                        · refine WL.gno rfl rfl (okb b24) rfl ?_
                          refine WL.gno rfl rfl (okb b24) rfl ?_
                          refine WL.y rfl (Yld.pickF (okb b24) rfl) ?_
                          exact WL.weaken (by repeat (first | exact Sub.nil | refine Sub.cons rfl ?_)) (hQ _ _ ⟨false, rfl, by rw [b24] <;> rfl, rfl⟩)
                    · replace H := H.2 (of_decide_eq_false b12)
                      refine WC.exit (WX.then_exit (WX.then_exit (WX.block_same (WX.then_normal ?_))))
                      refine WC.seq ?_
                      refine WC.region ?_
                      refine WL.y rfl (Yld.pure tab_ok rfl) ?_
                      refine WL.nil (WX.then_normal ?_)
                      refine WC.ret ?_
                      exact WX.ret1 rfl rfl ⟨gr16, true, rfl, H⟩
      · clear H
        rcases Bool.eq_false_or_eq_true ((!t30) || (decide ((l.length : Int) = (0 : Int)))) with b25 | b25
        · refine WL.gno rfl rfl (okb b25) rfl ?_
          refine WL.gno rfl rfl (okb b25) rfl ?_
          refine WL.y rfl (Yld.pickT (okb b25) rfl) ?_
          exact WL.weaken (by repeat (first | exact Sub.nil | refine Sub.cons rfl ?_)) (hQ _ _ ⟨true, rfl, by rw [b25] <;> rfl, rfl⟩)
        · refine WL.gyes rfl rfl (okb b25) rfl (Yld.pure tab_ok rfl) ?_
          refine WL.gyes rfl rfl (okb b25) rfl (Yld.pure tab_ok rfl) ?_
          refine WL.y rfl (Yld.pickF (okb b25) rfl) ?_
          exact WL.weaken (by repeat (first | exact Sub.nil | refine Sub.cons rfl ?_)) (hQ _ _ ⟨!ok, rfl, by rw [b25] <;> rfl, rfl⟩)
    · clear H
      rcases Bool.eq_false_or_eq_true (!t30) with b26 | b26
      · refine WL.gno rfl rfl (okb b26) rfl ?_
        refine WL.gno rfl rfl (okb b26) rfl ?_
        refine WL.gno rfl rfl (okb b26) rfl ?_
        refine WL.y rfl (Yld.pickT (okb b26) rfl) ?_
        exact WL.weaken (by repeat (first | exact Sub.nil | refine Sub.cons rfl ?_)) (hQ _ _ ⟨true, rfl, by rw [b26] <;> rfl, rfl⟩)
      · refine WL.gyes rfl rfl (okb b26) rfl (Yld.pure tab_ok rfl) ?_
        refine WL.gyes rfl rfl (okb b26) rfl (Yld.pure tab_ok rfl) ?_
        refine WL.gyes rfl rfl (okb b26) rfl (Yld.pure tab_ok rfl) ?_
        refine WL.y rfl (Yld.pickF (okb b26) rfl) ?_
        exact WL.weaken (by repeat (first | exact Sub.nil | refine Sub.cons rfl ?_)) (hQ _ _ ⟨decide ((l.length : Int) = (0 : Int)), rfl, by rw [b26] <;> rfl, rfl⟩)

end Go.Proofs.YtofenpiiihhigaaDoor

 /- DepsOnce, plainly. -/
namespace Go.Proofs.YtofenpiiihhigaaDoor
open Go Go.RowKit
theorem light_B {l : List RowO} {K : Bool → Prop} (h : ∀ t : Bool, (t = true → l.length ≤ 20 ∧ ∀ i, i < l.length → (l.getD i (0, [], [])).2.1.length ≤ 10 ∧ (l.getD i (0, [], [])).2.2.length ≤ 6) → K t) : M_smithylaw13_light l K := by
  intro _
  refine ⟨fun _ => h false fun e => (by cases e), fun hl => ?_⟩
  refine ⟨fun i => 0 ≤ i ∧ i ≤ l.length ∧ ∀ j : Nat, j < i.toNat → (l.getD j (0, [], [])).2.1.length ≤ 10 ∧ (l.getD j (0, [], [])).2.2.length ≤ 6, fun i => ((l.length : Int) - i).toNat, ⟨by omega, by omega, fun j hj => by simp at hj⟩, ?_⟩
  rintro i ⟨i0, i1, hi⟩
  refine ⟨fun hlt => ⟨⟨i0, hlt⟩, fun _ => ⟨i0, hlt⟩, fun _ => h false fun e => (by cases e), fun e => ⟨by simp only [In]; omega, ⟨by omega, by omega, fun j hj => ?_⟩, by (try dsimp only); omega⟩⟩, fun hge => h true fun _ => ⟨by omega, fun j hj => hi j (by omega)⟩⟩
  rw [Bool.or_eq_false_iff, decide_eq_false_iff_not, decide_eq_false_iff_not] at e
  by_cases e2 : j = i.toNat
  · subst e2; omega
  · exact hi j (by omega)
theorem getD_set' {l : List Bool} {i j : Nat} {b : Bool} (hi : i < l.length) : (l.set i b).getD j false = if j = i then b else l.getD j false := by
  simp only [List.getD, List.getElem?_set]
  by_cases e : i = j
  · subst e; simp [hi]
  · rw [if_neg e, if_neg (Ne.symm e)]
def Pm (fr : Nat → List Nat) (N top m v : Nat) : Prop := v = top ∨ ∃ u, m ≤ u ∧ u < N ∧ Rch fr top u ∧ v ∈ fr u
def Sm (l : List RowO) (V : List Nat) (m : Nat) : Nat := (((List.range l.length).drop m).map (wI l V)).sum
theorem Sm_step {l : List RowO} {V : List Nat} {m : Nat} (h : m < l.length) : Sm l V m = wI l V m + Sm l V (m + 1) := by
  unfold Sm
  rw [List.drop_eq_getElem_cons (by simpa using h), List.map_cons, List.sum_cons, List.getElem_range]
theorem Sm_end {l : List RowO} {V : List Nat} : Sm l V l.length = 0 := by
  unfold Sm
  rw [List.drop_of_length_le (by simp)]; rfl
theorem Sm_le {l : List RowO} {V : List Nat} (hl : ∀ i, (l.getD i (0, [], [])).2.1.length ≤ 10) (h20 : l.length ≤ 20) (m : Nat) : Sm l V m ≤ 200 := by
  have := sum_le_mul (w := wI l V) (fun u => by unfold wI; split; exact hl u; omega) ((List.range l.length).drop m)
  rw [List.length_drop, List.length_range] at this
  unfold Sm
  omega
theorem depsOnce_ok {l : List RowO} {order : Int} {K : Bool → Prop} (H : K true) : M_smithylaw13_DepsOnce l order K := by
  intro _
  refine first_M ⟨fun e => (by cases e), fun _ => light_B fun b hb => ⟨fun _ => H, fun e => ?_⟩⟩
  simp only [Bool.or_eq_false_iff, decide_eq_false_iff_not, Bool.not_eq_false'] at e
  obtain ⟨hl20, hrows⟩ := hb e.1.1
  have hpos : 0 < l.length := by omega
  have hl10 : ∀ i, (l.getD i (0, [], [])).2.1.length ≤ 10 := fun i => by
    by_cases h : i < l.length
    · exact (hrows i h).1
    · simp [List.getD, List.getElem?_eq_none (Nat.le_of_not_lt h)]
  refine numI_M (by omega) (by omega) ?_
  have hB := numI_bd order (b := 3) (by omega)
  generalize numI order 3 = y at hB ⊢
  refine ⟨by simp only [In]; omega, by omega, ⟨hl20, fun r hr => ?_⟩, ?_⟩
  · obtain ⟨i, hi, rfl⟩ := List.getElem_of_mem hr
    have := hl10 i
    rwa [getD_get' hi] at this
  generalize ho : y + 1 = o
  have ho1 : 1 ≤ o ∧ o ≤ 3 := by omega
  have hrl : (onceRows o l).length = l.length := rowsTo_len _ _ _
  refine made_M (o := o) (by omega) ho1 (fun r hr => ?_) (fun out hm hol => ?_)
  · obtain ⟨i, hi, rfl⟩ := List.getElem_of_mem hr
    have hi' : i < l.length := by omega
    have e1 : (onceRows o l)[i] = rowO o l i := by
      have := rows_get (o := o) hi'
      rwa [getD_get' hi] at this
    rw [e1]
    refine ⟨rfl, by show (ownO i _).length ≤ 10; rw [ownO_len]; exact hl10 i, (hrows i hi').2, fun z hz => ?_⟩
    obtain ⟨k, hk, rfl⟩ := List.mem_map.1 (show z ∈ (List.range _).map _ from hz)
    have := List.mem_range.1 hk
    have := hl10 i
    omega
  have hol' : out.length = l.length := by rw [hol, hrl]
  refine ⟨fun e => (by cases e), fun _ => ?_⟩
  have htop : ((out.length : Int) - 1).toNat = l.length - 1 := by omega
  have htopi : (out.length : Int) - 1 = ((l.length - 1 : Nat) : Int) := by omega
  rw [htop]
  generalize htd : l.length - 1 = top at htopi
  have htl : top < l.length := by omega
  refine ⟨by simp only [In]; omega, ⟨by omega, by omega⟩, once_all ho1 hm hol' hl10 hl20 htl fun V L F => ⟨fun e => absurd rfl e, fun _ => ?_⟩⟩
  have hLl : L.length ≤ 200 := by
    have h1 := Sm_le (V := V) hl10 hl20 0
    unfold Sm at h1
    rw [List.drop_zero, ← F.len] at h1
    exact h1
  refine ⟨fun a i => 0 ≤ i ∧ i ≤ L.length ∧ a = (L.take i.toNat).map tx, fun _ i => ((L.length : Int) - i).toNat, ⟨by omega, by omega, by simp⟩, ?_⟩
  rintro _ i ⟨i0, i1, rfl⟩
  refine ⟨fun hi => ?_, fun hi => ?_⟩
  · have hin : i.toNat < L.length := by omega
    obtain ⟨z, hz, hzb⟩ := F.int L[i.toNat] (List.getElem_mem hin)
    have htl9 := txt_len hzb
    rw [getD_get' hin, hz]
    have hspl : (L.take (i.toNat + 1)).map tx = (L.take i.toNat).map tx ++ [txt z] := by
      rw [List.take_add_one, List.getElem?_eq_getElem hin, List.map_append, hz]; rfl
    have hnot : txt z ∉ (L.take i.toNat).map tx := fun hmem => by
      have hnd : ((L.take (i.toNat + 1)).map tx).Nodup := by
        rw [List.map_take]
        exact List.Sublist.nodup (List.take_sublist _ _) F.nd
      rw [hspl] at hnd
      exact (List.nodup_append.1 hnd).2.2 _ hmem _ List.mem_cons_self rfl
    refine ⟨⟨i0, hi⟩, vrepr_int (by omega) (amongD_M ?_)⟩
    rw [idxD_not hnot]
    refine ⟨fun e => absurd e (by decide), fun _ => ⟨?_, by simp only [In]; omega, ⟨by omega, by omega, ?_⟩, by (try dsimp only); omega⟩⟩
    · simp only [List.length_map, List.length_take, List.length_cons, List.length_nil]; omega
    · rw [show (i + 1).toNat = i.toNat + 1 by omega, hspl]
  · have e1 : L.take i.toNat = L := List.take_of_length_le (by omega)
    rw [e1]
    have hTn : ((l.length : Int)).toNat = l.length := by omega
    simp only [hTn, htopi, Int.toNat_natCast]
    refine ⟨by omega, ⟨by omega, by omega⟩, ?_⟩
    have hrn : ∀ v, Rch (frI (onceRows o l)) top v → v < l.length := fun v hv => F.lt v ((F.rch v).2 hv)
    refine ⟨fun n i2 seen => -1 ≤ i2 ∧ i2 ≤ top ∧ seen.length = l.length ∧ (∀ v, v < l.length → (seen.getD v false = true ↔ Pm (frI (onceRows o l)) l.length top (i2 + 1).toNat v)) ∧ n = Sm l V (i2 + 1).toNat, fun _ i2 _ => (i2 + 1).toNat,
      ⟨by omega, Int.le_refl _, by simp, fun v hv => ?_, ?_⟩, ?_⟩
    · rw [getD_set' (by simpa using htl)]
      constructor
      · intro h
        by_cases e : v = top
        · exact .inl e
        · rw [if_neg e] at h
          simp [List.getD, List.getElem?_replicate, hv] at h
      · rintro (h | ⟨u, h1, h2, h3, _⟩)
        · rw [if_pos h]
        · omega
    · rw [show ((top : Int) + 1).toNat = l.length by omega, Sm_end]; rfl
    rintro n i2 seen ⟨b0, b1, hsl, hseen, hn⟩ _
    subst hn
    refine ⟨fun hi2 => ?_, fun hi2 => ?_⟩
    · have hin : i2.toNat < l.length := by omega
      have hi2n : (i2.toNat : Int) = i2 := Int.toNat_of_nonneg hi2
      have hs1 : (i2 + 1).toNat = i2.toNat + 1 := by omega
      rw [hs1] at hseen
      have hrow := rows_get (o := o) hin
      simp only [hrow]
      have hRi : Pm (frI (onceRows o l)) l.length top (i2.toNat + 1) i2.toNat ↔ Rch (frI (onceRows o l)) top i2.toNat := by
        constructor
        · rintro (h | ⟨u, _, _, h3, h4⟩)
          · rw [h]; exact .refl
          · exact .step h3 h4
        · intro h
          cases h with
          | refl => exact .inl rfl
          | @step u _ h3 h4 => exact .inr ⟨u, by have := frI_lt h4; omega, hrn u h3, h3, h4⟩
      have hSb := Sm_le (V := V) hl10 hl20 (i2.toNat + 1)
      rw [hs1]
      refine ⟨fun n2 xs => xs.length = l.length ∧ (∀ v, v < l.length → (xs.getD v false = true ↔ Pm (frI (onceRows o l)) l.length top i2.toNat v)) ∧ n2 = Sm l V i2.toNat, ⟨⟨hi2, by omega⟩, fun hf => ?_, fun htr => ?_⟩, ?_⟩
      · have hnr : ¬ Rch (frI (onceRows o l)) top i2.toNat := fun h => by
          have := (hseen _ hin).2 (hRi.2 h)
          rw [this] at hf; cases hf
        refine ⟨hsl, fun v hv => (hseen v hv).trans ⟨?_, ?_⟩, ?_⟩
        · rintro (h | ⟨u, h1, h2⟩)
          · exact .inl h
          · exact .inr ⟨u, by omega, h2⟩
        · rintro (h | ⟨u, h1, h2, h3, h4⟩)
          · exact .inl h
          · refine .inr ⟨u, ?_, h2, h3, h4⟩
            rcases Nat.lt_or_ge i2.toNat u with h5 | h5
            · exact h5
            · exact absurd ((by omega : u = i2.toNat) ▸ h3) hnr
        · rw [Sm_step hin, wI, if_neg fun h => hnr ((F.rch _).1 h)]; omega
      · have hr : Rch (frI (onceRows o l)) top i2.toNat := hRi.1 ((hseen _ hin).1 (by simpa using htr))
        have hwi : wI l V i2.toNat = (l.getD i2.toNat (0, [], [])).2.1.length := by rw [wI, if_pos ((F.rch _).2 hr)]
        have hown : (rowO o l i2.toNat).2.1.length = (l.getD i2.toNat (0, [], [])).2.1.length := by show (ownO _ _).length = _; rw [ownO_len]
        have h10 := hl10 i2.toNat
        have h6 : (rowO o l i2.toNat).2.2.length ≤ 6 := (hrows _ hin).2
        have hfrd : frI (onceRows o l) i2.toNat = if i2.toNat = 0 then [] else (rowO o l i2.toNat).2.2.map fun f => (numI f i2).toNat := by
          unfold frI; rw [hrow, hi2n]
        refine ⟨⟨hi2, by omega⟩, by rw [hown]; simp only [In]; omega, ?_⟩
        refine ⟨fun k s2 => 0 ≤ k ∧ k ≤ (rowO o l i2.toNat).2.2.length ∧ s2.length = l.length ∧ ∀ v, v < l.length → (s2.getD v false = true ↔ Pm (frI (onceRows o l)) l.length top (i2.toNat + 1) v ∨ (i2.toNat ≠ 0 ∧ ∃ f ∈ (rowO o l i2.toNat).2.2.take k.toNat, v = (numI f i2).toNat)),
          fun k _ => (((rowO o l i2.toNat).2.2.length : Int) - k).toNat, ⟨by omega, by omega, hsl, fun v hv => by rw [hseen v hv]; simp⟩, ?_⟩
        rintro k s2 ⟨k0, k1, hs2, hs⟩ _
        refine ⟨⟨hi2, by omega⟩, fun hc => ?_, fun hc => ?_⟩
        · rw [Bool.and_eq_true, decide_eq_true_eq, decide_eq_true_eq] at hc
          have hkl : k.toNat < (rowO o l i2.toNat).2.2.length := by omega
          have hnb := numI_bd (rowO o l i2.toNat).2.2[k.toNat] hc.2
          rw [getD_get' hkl]
          refine ⟨⟨hi2, by omega⟩, ⟨k0, by omega⟩, numI_M hc.2 (by omega) ⟨⟨hnb.1, by omega⟩, by simp only [In]; omega, ⟨by omega, by omega, by simpa using hs2, fun v hv => ?_⟩, by (try dsimp only); omega⟩⟩
          rw [getD_set' (by omega), show (k + 1).toNat = k.toNat + 1 by omega, List.take_add_one, List.getElem?_eq_getElem hkl]
          constructor
          · intro h
            split at h
            · rename_i e
              exact .inr ⟨by omega, _, List.mem_append_right _ (by simp), e⟩
            · rcases (hs v hv).1 h with h | ⟨h1, f, hf, e⟩
              · exact .inl h
              · exact .inr ⟨h1, f, List.mem_append_left _ hf, e⟩
          · intro h
            split
            · rfl
            · rename_i e
              refine (hs v hv).2 ?_
              rcases h with h | ⟨h1, f, hf, e2⟩
              · exact .inl h
              · rcases List.mem_append.1 hf with hf | hf
                · exact .inr ⟨h1, f, hf, e2⟩
                · have : f = (rowO o l i2.toNat).2.2[k.toNat] := by simpa using hf
                  exact absurd (this ▸ e2) e
        · have hall : i2.toNat ≠ 0 → (rowO o l i2.toNat).2.2.take k.toNat = (rowO o l i2.toNat).2.2 := fun h0 => by
            rw [Bool.and_eq_false_iff, decide_eq_false_iff_not, decide_eq_false_iff_not] at hc
            exact List.take_of_length_le (by omega)
          refine ⟨hs2, fun v hv => (hs v hv).trans ⟨?_, ?_⟩, ?_⟩
          · rintro ((h | ⟨u, h1, h2⟩) | ⟨h0, f, hf, e⟩)
            · exact .inl h
            · exact .inr ⟨u, by omega, h2⟩
            · rw [hall h0] at hf
              refine .inr ⟨i2.toNat, Nat.le_refl _, hin, hr, ?_⟩
              rw [hfrd, if_neg h0]
              exact List.mem_map.2 ⟨f, hf, e.symm⟩
          · rintro (h | ⟨u, h1, h2, h3, h4⟩)
            · exact .inl (.inl h)
            · rcases Nat.lt_or_ge i2.toNat u with h5 | h5
              · exact .inl (.inr ⟨u, h5, h2, h3, h4⟩)
              · obtain rfl : u = i2.toNat := by omega
                rw [hfrd] at h4
                split at h4
                · cases h4
                · rename_i h0
                  obtain ⟨f, hf, e⟩ := List.mem_map.1 h4
                  exact .inr ⟨h0, f, by rw [hall h0]; exact hf, e.symm⟩
          · rw [Sm_step hin, hwi, hown]; omega
      · rintro n2 xs ⟨h1, h2, h3⟩ _
        refine ⟨by simp only [In]; omega, ⟨by omega, by omega, h1, ?_, ?_⟩, by (try dsimp only); omega⟩
        · rw [show (i2 - 1 + 1).toNat = i2.toNat by omega]; exact h2
        · rw [show (i2 - 1 + 1).toNat = i2.toNat by omega]; exact h3
    · have hm1 : i2 = -1 := by omega
      subst hm1
      have hS : Sm l V 0 = L.length := by unfold Sm; rw [List.drop_zero, F.len]
      have hz : ((-1 : Int) + 1).toNat = 0 := rfl
      rw [hz] at hseen ⊢
      rw [hS]
      refine ⟨fun e => absurd rfl e, fun _ => ?_⟩
      refine ⟨fun i => 0 ≤ i ∧ i ≤ (top : Int) + 1, fun i => ((top : Int) + 1 - i).toNat, ⟨by omega, by omega⟩, ?_⟩
      rintro i3 ⟨c0, c1⟩
      refine ⟨fun hi3 => ?_, fun _ => H⟩
      have hin : i3.toNat < l.length := by omega
      have hrow := rows_get (o := o) hin
      simp only [hrow]
      refine ⟨fun k => 0 ≤ k ∧ k ≤ (rowO o l i3.toNat).2.2.length, fun k => (((rowO o l i3.toNat).2.2.length : Int) - k).toNat, ⟨by omega, by omega⟩, ?_⟩
      rintro k ⟨k0, k1⟩
      refine ⟨⟨c0, by omega⟩, fun _ => ⟨c0, by omega⟩, fun hc => ?_, fun hc => ⟨by simp only [In]; omega, ⟨by omega, by omega⟩, by (try dsimp only); omega⟩⟩
      rw [Bool.and_eq_true, Bool.and_eq_true, decide_eq_true_eq, decide_eq_true_eq] at hc
      obtain ⟨⟨hk, hi0⟩, hsn⟩ := hc
      have hkl : k.toNat < (rowO o l i3.toNat).2.2.length := by omega
      have hnb := numI_bd (rowO o l i3.toNat).2.2[k.toNat] hi0
      have h6 : (rowO o l i3.toNat).2.2.length ≤ 6 := (hrows _ hin).2
      have hRi : Rch (frI (onceRows o l)) top i3.toNat := by
        rcases (hseen _ hin).1 hsn with h | ⟨u, _, _, h3, h4⟩
        · rw [h]; exact .refl
        · exact .step h3 h4
      have hfm : (numI (rowO o l i3.toNat).2.2[k.toNat] i3).toNat ∈ frI (onceRows o l) i3.toNat := by
        unfold frI
        rw [if_neg (by omega), hrow]
        refine List.mem_map.2 ⟨_, List.getElem_mem hkl, ?_⟩
        rw [Int.toNat_of_nonneg c0]
      rw [getD_get' hkl]
      refine ⟨True, ⟨⟨c0, by omega⟩, ⟨k0, by omega⟩, numI_M hi0 (by omega) ?_⟩, fun _ => ⟨by simp only [In]; omega, ⟨by omega, by omega⟩, by (try dsimp only); omega⟩⟩
      generalize hj : numI (rowO o l i3.toNat).2.2[k.toNat] i3 = j at hnb hfm
      have hjn : j.toNat < l.length := by omega
      have hrowj := rows_get (o := o) hjn
      simp only [hrowj]
      refine ⟨⟨c0, by omega⟩, fun _ => ⟨by omega, by omega⟩, fun _ => trivial, fun hne => ?_⟩
      rw [Bool.or_eq_false_iff, decide_eq_false_iff_not, decide_eq_false_iff_not] at hne
      have hoi : 0 < (l.getD i3.toNat (0, [], [])).2.1.length := by
        have : (rowO o l i3.toNat).2.1.length = (l.getD i3.toNat (0, [], [])).2.1.length := by show (ownO _ _).length = _; rw [ownO_len]
        omega
      have hoj : 0 < (l.getD j.toNat (0, [], [])).2.1.length := by
        have : (rowO o l j.toNat).2.1.length = (l.getD j.toNat (0, [], [])).2.1.length := by show (ownO _ _).length = _; rw [ownO_len]
        omega
      have hxi : PV.int ((100 : Int) * i3) ∈ owV l i3.toNat := owV_mem.2 ⟨0, hoi, by rw [Int.toNat_of_nonneg c0]; simp⟩
      have hxj : PV.int ((100 : Int) * j) ∈ owV l j.toNat := owV_mem.2 ⟨0, hoj, by rw [Int.toNat_of_nonneg hnb.1]; simp⟩
      have hVi := (F.rch _).2 hRi
      have hVj : j.toNat ∈ V := (F.rch _).2 (.step hRi hfm)
      refine ⟨by simp only [In]; omega, ⟨by omega, by omega, text_M (amongD_M ⟨by simp only [In]; omega, ⟨by omega, by omega, text_M (amongD_M ⟨fun hbad => ?_, fun _ => trivial⟩)⟩⟩)⟩⟩
      exfalso
      simp only [Bool.or_eq_true, Bool.and_eq_true, decide_eq_true_eq] at hbad
      rcases hbad with (⟨h2, hlt⟩ | ⟨h3, hlt⟩) | ⟨⟨h1, hit⟩, hlt⟩
      · have := F.p2 h2 _ hVi _ hfm _ hxi _ hxj
        simp only [tx] at this
        omega
      · have := F.p3 h3 _ hVi _ hfm _ hxi _ hxj
        simp only [tx] at this
        omega
      · obtain ⟨B, eB⟩ := F.p1 h1
        have hy := idxD_nn (List.mem_map.2 ⟨_, F.mem _ hVj _ hxj, rfl⟩ : tx (.int ((100 : Int) * j)) ∈ L.map tx)
        have hx : idxD (L.map tx) (txt ((100 : Int) * i3)) = 0 := by
          have ht : i3.toNat = top := by omega
          have e0 : owV l top = .int ((100 : Int) * i3) :: (owV l top).tail := by
            have hne : owV l top ≠ [] := fun e => by rw [ht, e] at hxi; cases hxi
            have h0 : (owV l top)[0]? = some (.int ((100 : Int) * i3)) := by
              unfold owV ownO
              rw [List.getElem?_map, List.getElem?_map, List.getElem?_range (by rw [← ht]; exact hoi)]
              simp only [Option.map_some]
              congr 2
              omega
            cases hc : owV l top with
            | nil => exact absurd hc hne
            | cons a b => rw [hc] at h0; simp at h0; rw [h0]; rfl
          rw [eB, e0]
          unfold idxD
          simp [tx]
        simp only [tx] at hy
        omega
theorem depsOnce_r {l : List RowO} {order : Int} {K : Bool → Prop} {P Q : Prop} (_ : P) (_ : Q) (H : K true) : M_smithylaw13_DepsOnce l order K := depsOnce_ok H
end Go.Proofs.YtofenpiiihhigaaDoor


 