/- Texts of this claim, joined by a program: DwC, Ord, Hoist, GDn, GSa, Sent, GSb, Enc, EncD. -/
import Derived.Test.YtofenpiiihhigaaDoorJ3
/- What a set tells: own, set, All (by hand). -/
namespace Go.Proofs.YtofenpiiihhigaaDoor
open Go Go.RowKit
/-! ## plainly -/
def stepT (t : TS) (v : PV) : TS := if keyP v ∈ t.keys then t else { t with keys := t.keys ++ [keyP v], out := t.out ++ [v] }
theorem ownT_cons (v : PV) (l : List PV) (t : TS) : ownT (v :: l) t = ownT l (stepT t v) := by
  rw [ownT]; rfl
theorem ownT_push : ∀ (l : List PV) (v : PV) (t : TS), ownT (l ++ [v]) t = stepT (ownT l t) v
  | [], v, t => by rw [List.nil_append, ownT_cons]; rfl
  | u :: l, v, t => by rw [List.cons_append, ownT_cons, ownT_cons, ownT_push l v]
structure TLe (a b : TS) : Prop where
  s : a.sets.length ≤ b.sets.length
  k : a.keys.length ≤ b.keys.length
  o : a.out.length ≤ b.out.length
theorem TLe.refl (a : TS) : TLe a a := ⟨Nat.le_refl _, Nat.le_refl _, Nat.le_refl _⟩
theorem TLe.trans {a b c : TS} (h : TLe a b) (k : TLe b c) : TLe a c := ⟨Nat.le_trans h.s k.s, Nat.le_trans h.k k.k, Nat.le_trans h.o k.o⟩
theorem stepT_le (t : TS) (v : PV) : TLe t (stepT t v) := by
  unfold stepT
  split
  · exact .refl _
  · exact ⟨Nat.le_refl _, by simp, by simp⟩
theorem ownT_le : ∀ (l : List PV) (t : TS), TLe t (ownT l t)
  | [], t => .refl t
  | v :: l, t => by rw [ownT_cons]; exact (stepT_le t v).trans (ownT_le l _)
theorem foldT_le {α : Type} {f : TS → α → TS} (h : ∀ t x, TLe t (f t x)) : ∀ (l : List α) (t : TS), TLe t (l.foldl f t)
  | [], t => .refl _
  | x :: l, t => (h t x).trans (foldT_le h l _)
def preT (o : Int) (s : PS) (t : TS) : TS := if o = 1 then ownT s.own { t with sets := t.sets ++ [s.id] } else { t with sets := t.sets ++ [s.id] }
def midT (n : Nat) (o : Int) (s : PS) (t : TS) : TS := (if o = 3 then s.fr.reverse else s.fr).foldl (fun t f => tellN n o f t) t
def postT (o : Int) (s : PS) (t : TS) : TS := if o = 1 then t else ownT (if o = 3 then s.own.reverse else s.own) t
theorem tellN_succ (n : Nat) (o : Int) (s : PS) (t : TS) : tellN (n + 1) o s t = if s.id ∈ t.sets then t else postT o s (midT n o s (preT o s t)) := rfl
theorem preT_le (o : Int) (s : PS) (t : TS) : TLe t (preT o s t) := by
  have h1 : TLe t { t with sets := t.sets ++ [s.id] } := ⟨by simp, Nat.le_refl _, Nat.le_refl _⟩
  unfold preT
  split
  · exact h1.trans (ownT_le _ _)
  · exact h1
theorem postT_le (o : Int) (s : PS) (t : TS) : TLe t (postT o s t) := by
  unfold postT
  split
  · exact .refl _
  · exact ownT_le _ _
theorem tellN_le : ∀ (n : Nat) (o : Int) (s : PS) (t : TS), TLe t (tellN n o s t)
  | 0, _, _, t => .refl t
  | n + 1, o, s, t => by
    rw [tellN_succ]
    split
    · exact .refl _
    · exact ((preT_le o s t).trans (foldT_le (f := fun t f => tellN n o f t) (fun t f => tellN_le n o f t) _ _)).trans (postT_le o s _)
theorem mget_true {κ : Type} [DecidableEq κ] (l : List κ) (q : κ) : (mget (l.map fun x => (x, true)) q).getD false = decide (q ∈ l) := by
  induction l with
  | nil => simp [mget]
  | cons x l ih =>
    simp only [List.map_cons, mget]
    split
    · rename_i h; simp [h]
    · rename_i h
      rw [ih]
      congr 1
      simp [Ne.symm h]
theorem mput_true {κ : Type} [DecidableEq κ] {l : List κ} {q : κ} (h : q ∉ l) : mput (l.map fun x => (x, true)) q true = (l ++ [q]).map fun x => (x, true) := by
  rw [mput_new, List.map_append]
  · rfl
  · rw [mget_none]
    intro p hp e
    obtain ⟨y, hy, rfl⟩ := List.mem_map.1 hp
    exact h (e ▸ hy)
theorem keyP_len {w : World} {v : OV} {F : Nat → Prop} {z : Int} (h : AI w F v.1 z) : (keyP (.int z)).length ≤ maxLen := by
  obtain ⟨a, b, _, hN, _⟩ := h
  obtain ⟨neg, A, c, l, _, _, hD, _, hl, _, hz⟩ := hN
  have h1 := val_lt' hD
  have h2 : (1000000000 : Nat) ^ l.length ≤ 1000000000 ^ 3 := Nat.pow_le_pow_right (by omega) hl
  have h3 : z.natAbs < 10 ^ 27 := by
    have : z.natAbs = val l := by
      rw [hz]
      cases neg <;> simp
    rw [this]
    omega
  have h4 := dd_len 27 z.natAbs h3
  have h5 : (txt z).length ≤ 30 := by
    unfold txt
    split
    · simp
    · split <;> simp <;> omega
  simp [keyP, maxLen]
  omega
attribute [local irreducible] WL WC WX WQ WK WJ Yld Eff Ef0 Fn
/-! ## in the world -/
theorem SR.out2 {w : World} {v : OV} {F : Nat → Prop} {s : PS} (h : RelD deS w [(v, F)] [s]) (hs : s ≠ .nil) : ∃ Ao co Ak ck Af cf, ∃ ho hf : List VH,
    Bl w s.id 83 [.int .i64 s.order, .slice Ao s.own.length co, .slice Ak (s.own.map keyP).length ck, .slice Af s.fr.length cf, .int .i64 s.deep, .bool s.empty] ∧
    Rd vv w Ao co ho ∧ RelD deV w ho s.own ∧ (∀ h ∈ ho, h.2 = F) ∧ (∀ (i : Nat) (x : PV), s.own[i]? = some x → ∃ z h, x = .int z ∧ ho[i]? = some h ∧ AI w F h.1.1 z) ∧ Rd vs w Ak ck (s.own.map keyP) ∧ Rd vv w Af cf hf ∧ hf.length = s.fr.length ∧
    (∀ (i : Nat) (x : PS), s.fr[i]? = some x → x ≠ .nil ∧ vv (hf.getD i vh0) = .pointer (some ⟨x.id, 0, none⟩)) := by
  cases s with
  | nil => exact absurd rfl hs
  | mk id order own fr deep empty =>
    obtain ⟨⟨n, h⟩, hF⟩ := h.one
    cases n with
    | zero => exact h.elim
    | succ n =>
      obtain ⟨h1, h2, Ao, co, Ak, ck, Af, cf, ho, hf, hB, o1, o2, o3, o4, k1, k2, f1, f2, f3, f4⟩ := h
      refine ⟨Ao, co, Ak, ck, Af, cf, ho.map fun h => ((h.1, F) : VH), hf, by simpa [PS.own, PS.fr, PS.id, PS.order, PS.deep, PS.empty] using hB, o1.frm F, RelD.frm (d := deV) o2 (fun i h x hh hx => ?_), fun h hh => ?_, fun i x hx => ?_, k1, f1, f2, fun i x hx => ?_⟩
      · obtain ⟨z, rfl, hz⟩ := o4 i h x hh hx
        exact ⟨hz, hF⟩
      · obtain ⟨y, _, rfl⟩ := List.mem_map.1 hh
        rfl
      · have hi : i < ho.length := by rw [o2]; exact (List.getElem?_eq_some_iff.1 hx).1
        obtain ⟨z, e, hz⟩ := o4 i _ x (List.getElem?_eq_getElem hi) hx
        exact ⟨z, (ho[i].1, F), e, by rw [List.getElem?_map, List.getElem?_eq_getElem hi]; rfl, hz⟩
      · have hi : i < hf.length := by rw [f2]; exact (List.getElem?_eq_some_iff.1 hx).1
        have := f4 i _ x (List.getElem?_eq_getElem hi) hx
        refine ⟨this.1, ?_⟩
        have e := this.2.ptr
        cases x with
        | nil => exact absurd rfl this.1
        | mk => simp only [List.getD, List.getElem?_eq_getElem hi, vv]; exact e
/-- a teller's box, and what hangs on it; w: the world in which the sets lay at first, s0: the set that is told -/
structure TI (w : World) (F : Nat → Prop) (s0 : PS) (gt gs gk : Nat) (w2 : World) (t : TS) (A : Option Addr) (c : Nat) (hs : List VH) : Prop where
  gr : w.grownBy w2 none
  box : Bl w2 gt 78 [.map (some gs), .map (some gk), .slice A t.out.length c]
  own : Own vv w2 w.heap.size 41 A c hs
  rel : RelD deV w hs t.out
  hd : ∀ h ∈ hs, h.2 = F
  ms : MapB vp (okR s0) vB w2 gs (t.sets.map fun x => (x, true))
  mkk : MapB vs okS vB w2 gk (t.keys.map fun x => (x, true))
  g1 : w.heap.size ≤ gt
  g2 : w.heap.size ≤ gs
  g3 : w.heap.size ≤ gk
  d1 : gt ≠ gs
  d2 : gt ≠ gk
  d3 : gs ≠ gk
  d4 : blk A ≠ some gt
  d5 : blk A ≠ some gs
  d6 : blk A ≠ some gk
  len : t.keys.length = t.out.length
theorem dj_of {a b : Nat} (h : a ≠ b) : Dj (some a) (some b) := fun _ e e2 => h (by injection e with e; injection e2 with e2; omega)
theorem dj_l {A : Option Addr} {b : Nat} (h : blk A ≠ some b) : Dj (blk A) (some b) := fun g e e2 => h (by rw [e, e2])
set_option maxHeartbeats 4000000 in
theorem own_fn {w w2 : World} {v0 : OV} {F : Nat → Prop} {s0 s : PS} {gt gs gk : Nat} {t : TS} {A : Option Addr} {c : Nat} {hs : List VH} (h0 : RelD deS w [(v0, F)] [s0]) (hr : Reach s0 s) (hn : s ≠ .nil) (back : Bool) (I : TI w F s0 gt gs gk w2 t A c hs)
    (hb : (ownT (if back then s.own.reverse else s.own) t).out.length ≤ 1024) :
    Fn Tryd.prog 57 ⟨[.pointer (some ⟨gt, 0, none⟩), .pointer (some ⟨s.id, 0, none⟩), .bool back]⟩ w2 (fun v w3 => v = .tuple #[] ∧ ∃ A' c' hs', TI w F s0 gt gs gk w3 (ownT (if back then s.own.reverse else s.own) t) A' c' hs') := by
  obtain ⟨Ao, co, Ak, ck, Af, cf, ho, hf, hBx, hRo, hro, hoF, hoA, hRk, _⟩ := SR.out2 (relS h0 hr hn) hn
  generalize hl : (if back then s.own.reverse else s.own) = l at hb ⊢
  have hll : l.length = s.own.length := by rw [← hl]; cases back <;> simp
  have hget : ∀ i, i < s.own.length → l[i]? = s.own[(if back then s.own.length - 1 - i else i)]? := fun i hi => by
    rw [← hl]
    cases back
    · rfl
    · simp only [if_true]
      rw [List.getElem?_reverse (by omega)]
  have hol : (s.own.length : Int) ≤ 9223372036854775807 := by
    have h1 := hRo.cap
    have h2 := hRo.max
    rw [hro.1] at h1
    simp only [maxLen] at h2
    omega
  refine Fn.enter (by kernel_rfl) Tryd.func57 rfl Tryd.ntmps57 rfl ?_
  refine WC.seq ?_
  refine WC.region ?_
  refine WL.y rfl (Yld.pure tab_ok rfl) ?_
  refine WL.y rfl (Yld.pure tab_ok rfl) ?_
  refine WL.y rfl (Yld.fa0 (o := 1) (by kernel_rfl) rfl) ?_
  refine WL.y rfl (Yld.bload tab_ok (hBx.g0 I.gr) rfl rfl rfl) ?_
  repeat (first | refine WC.seq ?_ | refine WC.block ?_ | refine WC.region ?_ | refine WL.nil ?_ | refine WX.then_normal ?_ | refine WC.skip ?_ | refine WC.exit ?_ | refine WC.ret ?_ | refine WX.then_exit ?_ | refine WX.then_ret ?_ | refine WX.block_normal ?_ | refine WX.block_ret ?_ | refine WX.block_same ?_ | refine WX.block_other rfl ?_ | refine WC.label ?_ | refine WC.scope ?_ | refine WX.scope_normal ?_ | refine WX.scope_ret ?_ | refine WX.scope_exit ?_ | refine WL.y rfl (Yld.add rfl rfl (by simp only [In]; omega)) ?_ | refine WL.y rfl (Yld.sub rfl rfl (by simp only [In]; omega)) ?_ | refine WL.y rfl (Yld.mul rfl rfl (by simp only [In]; omega)) ?_ | refine WL.y rfl (Yld.convB tab_ok rfl rfl rfl rfl) ?_ | refine WL.y rfl (Yld.conv tab_ok rfl rfl rfl (by simp only [In]; omega)) ?_ | refine WL.y rfl (Yld.quo rfl rfl (by omega) (by omega) (by simp only [In]; omega)) ?_ | refine WL.y rfl (Yld.rem rfl rfl (by omega) (by omega)) ?_ | refine WL.y rfl (Yld.shl rfl rfl (by omega)) ?_ | refine WL.y rfl (Yld.shr rfl rfl (by omega)) ?_ | refine WL.y rfl (Yld.pure tab_ok rfl) ?_ | refine WL.y rfl (Yld.fld flds_ok rfl rfl rfl) ?_ | refine WL.y rfl (Yld.max2 rfl rfl) ?_ | refine WL.y rfl (Yld.min2 rfl rfl) ?_ | refine WL.y rfl (Yld.pickV rfl rfl rfl) ?_ | refine WL.gno rfl rfl rfl rfl ?_ | refine WL.gyes rfl rfl rfl rfl (Yld.add rfl rfl (by simp only [In]; omega)) ?_ | refine WL.gyes rfl rfl rfl rfl (Yld.sub rfl rfl (by simp only [In]; omega)) ?_ | refine WL.gyes rfl rfl rfl rfl (Yld.mul rfl rfl (by simp only [In]; omega)) ?_ | refine WL.gyes rfl rfl rfl rfl (Yld.convB tab_ok rfl rfl rfl rfl) ?_ | refine WL.gyes rfl rfl rfl rfl (Yld.conv tab_ok rfl rfl rfl (by simp only [In]; omega)) ?_ | refine WL.gyes rfl rfl rfl rfl (Yld.quo rfl rfl (by omega) (by omega) (by simp only [In]; omega)) ?_ | refine WL.gyes rfl rfl rfl rfl (Yld.rem rfl rfl (by omega) (by omega)) ?_ | refine WL.gyes rfl rfl rfl rfl (Yld.shl rfl rfl (by omega)) ?_ | refine WL.gyes rfl rfl rfl rfl (Yld.shr rfl rfl (by omega)) ?_ | refine WL.gyes rfl rfl rfl rfl (Yld.pure tab_ok rfl) ?_ | refine WL.gyes rfl rfl rfl rfl (Yld.fld flds_ok rfl rfl rfl) ?_ | refine WL.gyes rfl rfl rfl rfl (Yld.max2 rfl rfl) ?_ | refine WL.gyes rfl rfl rfl rfl (Yld.min2 rfl rfl) ?_ | refine WL.gyes rfl rfl rfl rfl (Yld.pickV rfl rfl rfl) ?_)
  refine WC.loopF (fun n' L' w' => ∃ (i : Nat) (A : Option Addr) (c : Nat) (hs : List VH), n' = s.own.length - i ∧ L' = [(0, .pointer (some ⟨gt, 0, none⟩)), (1, .pointer (some ⟨s.id, 0, none⟩)), (2, .bool back), (11, .int .i64 (s.own.length : Int)), (12, .int .i64 (i : Int))] ∧ TI w F s0 gt gs gk w' (ownT (l.take i) t) A c hs ∧ i ≤ s.own.length) _ _ ⟨0, A, c, hs, rfl, rfl, I, by omega⟩ (by repeat (first | exact Sub.nil | refine Sub.cons rfl ?_)) ?_
  rintro _ _ w4 ⟨i, A, c, hs, rfl, rfl, I, hi⟩
  repeat (first | refine WC.seq ?_ | refine WC.block ?_ | refine WC.region ?_ | refine WL.nil ?_ | refine WX.then_normal ?_ | refine WC.skip ?_ | refine WC.exit ?_ | refine WC.ret ?_ | refine WX.then_exit ?_ | refine WX.then_ret ?_ | refine WX.block_normal ?_ | refine WX.block_ret ?_ | refine WX.block_same ?_ | refine WX.block_other rfl ?_ | refine WC.label ?_ | refine WC.scope ?_ | refine WX.scope_normal ?_ | refine WX.scope_ret ?_ | refine WX.scope_exit ?_ | refine WL.y rfl (Yld.add rfl rfl (by simp only [In]; omega)) ?_ | refine WL.y rfl (Yld.sub rfl rfl (by simp only [In]; omega)) ?_ | refine WL.y rfl (Yld.mul rfl rfl (by simp only [In]; omega)) ?_ | refine WL.y rfl (Yld.convB tab_ok rfl rfl rfl rfl) ?_ | refine WL.y rfl (Yld.conv tab_ok rfl rfl rfl (by simp only [In]; omega)) ?_ | refine WL.y rfl (Yld.quo rfl rfl (by omega) (by omega) (by simp only [In]; omega)) ?_ | refine WL.y rfl (Yld.rem rfl rfl (by omega) (by omega)) ?_ | refine WL.y rfl (Yld.shl rfl rfl (by omega)) ?_ | refine WL.y rfl (Yld.shr rfl rfl (by omega)) ?_ | refine WL.y rfl (Yld.pure tab_ok rfl) ?_ | refine WL.y rfl (Yld.fld flds_ok rfl rfl rfl) ?_ | refine WL.y rfl (Yld.max2 rfl rfl) ?_ | refine WL.y rfl (Yld.min2 rfl rfl) ?_ | refine WL.y rfl (Yld.pickV rfl rfl rfl) ?_ | refine WL.gno rfl rfl rfl rfl ?_ | refine WL.gyes rfl rfl rfl rfl (Yld.add rfl rfl (by simp only [In]; omega)) ?_ | refine WL.gyes rfl rfl rfl rfl (Yld.sub rfl rfl (by simp only [In]; omega)) ?_ | refine WL.gyes rfl rfl rfl rfl (Yld.mul rfl rfl (by simp only [In]; omega)) ?_ | refine WL.gyes rfl rfl rfl rfl (Yld.convB tab_ok rfl rfl rfl rfl) ?_ | refine WL.gyes rfl rfl rfl rfl (Yld.conv tab_ok rfl rfl rfl (by simp only [In]; omega)) ?_ | refine WL.gyes rfl rfl rfl rfl (Yld.quo rfl rfl (by omega) (by omega) (by simp only [In]; omega)) ?_ | refine WL.gyes rfl rfl rfl rfl (Yld.rem rfl rfl (by omega) (by omega)) ?_ | refine WL.gyes rfl rfl rfl rfl (Yld.shl rfl rfl (by omega)) ?_ | refine WL.gyes rfl rfl rfl rfl (Yld.shr rfl rfl (by omega)) ?_ | refine WL.gyes rfl rfl rfl rfl (Yld.pure tab_ok rfl) ?_ | refine WL.gyes rfl rfl rfl rfl (Yld.fld flds_ok rfl rfl rfl) ?_ | refine WL.gyes rfl rfl rfl rfl (Yld.max2 rfl rfl) ?_ | refine WL.gyes rfl rfl rfl rfl (Yld.min2 rfl rfl) ?_ | refine WL.gyes rfl rfl rfl rfl (Yld.pickV rfl rfl rfl) ?_)
  refine WC.cond rfl (fun b1 => ?_) (fun b1 => ?_)
  · have b1 := of_decide_eq_true b1
    have hil : i < s.own.length := by omega
    obtain ⟨kk, hkk⟩ : ∃ kk : Nat, kk = (if back then s.own.length - 1 - i else i) := ⟨_, rfl⟩
    have hkl : kk < s.own.length := by rw [hkk]; split <;> omega
    obtain ⟨x, hx⟩ : ∃ x, s.own[kk]? = some x := ⟨_, List.getElem?_eq_getElem hkl⟩
    have hlx : l[i]? = some x := by rw [hget i hil, ← hkk]; exact hx
    have htk : l.take (i + 1) = l.take i ++ [x] := by rw [List.take_add_one, hlx]; rfl
    have hstep : ownT (l.take (i + 1)) t = stepT (ownT (l.take i) t) x := by rw [htk, ownT_push]
    have hle : TLe (stepT (ownT (l.take i) t) x) (ownT l t) := by
      rw [← hstep]
      have : ownT l t = ownT (l.drop (i + 1)) (ownT (l.take (i + 1)) t) := by
        have key : ∀ (a b : List PV) (t : TS), ownT (a ++ b) t = ownT b (ownT a t) := fun a => by
          induction a with
          | nil => intro b t; rfl
          | cons u a ih => intro b t; rw [List.cons_append, ownT_cons, ownT_cons, ih]
        rw [← key, List.take_append_drop]
      rw [this]
      exact ownT_le _ _
    have hobound := Nat.le_trans hle.o hb
    obtain ⟨z, hh, rfl, hhk, hAI⟩ := hoA kk x hx
    have hklen : (keyP (.int z)).length ≤ maxLen := keyP_len (v := hh.1) hAI
    have gr4 := I.gr
    have hRk4 := hRk.grown gr4
    have hkl2 : kk < (s.own.map keyP).length := by simpa using hkl
    have hkg : (s.own.map keyP).getD kk [] = keyP (.int z) := by simp [List.getD, hx]
    refine WC.skip (WX.then_normal ?_)
    refine WC.seq ?_
    refine WC.block ?_
    refine WC.seq ?_
    repeat (first | refine WC.seq ?_ | refine WC.block ?_ | refine WC.region ?_ | refine WL.nil ?_ | refine WX.then_normal ?_ | refine WC.skip ?_ | refine WC.exit ?_ | refine WC.ret ?_ | refine WX.then_exit ?_ | refine WX.then_ret ?_ | refine WX.block_normal ?_ | refine WX.block_ret ?_ | refine WX.block_same ?_ | refine WX.block_other rfl ?_ | refine WC.label ?_ | refine WC.scope ?_ | refine WX.scope_normal ?_ | refine WX.scope_ret ?_ | refine WX.scope_exit ?_ | refine WL.y rfl (Yld.add rfl rfl (by simp only [In]; omega)) ?_ | refine WL.y rfl (Yld.sub rfl rfl (by simp only [In]; omega)) ?_ | refine WL.y rfl (Yld.mul rfl rfl (by simp only [In]; omega)) ?_ | refine WL.y rfl (Yld.convB tab_ok rfl rfl rfl rfl) ?_ | refine WL.y rfl (Yld.conv tab_ok rfl rfl rfl (by simp only [In]; omega)) ?_ | refine WL.y rfl (Yld.quo rfl rfl (by omega) (by omega) (by simp only [In]; omega)) ?_ | refine WL.y rfl (Yld.rem rfl rfl (by omega) (by omega)) ?_ | refine WL.y rfl (Yld.shl rfl rfl (by omega)) ?_ | refine WL.y rfl (Yld.shr rfl rfl (by omega)) ?_ | refine WL.y rfl (Yld.pure tab_ok rfl) ?_ | refine WL.y rfl (Yld.fld flds_ok rfl rfl rfl) ?_ | refine WL.y rfl (Yld.max2 rfl rfl) ?_ | refine WL.y rfl (Yld.min2 rfl rfl) ?_ | refine WL.y rfl (Yld.pickV rfl rfl rfl) ?_ | refine WL.gno rfl rfl rfl rfl ?_ | refine WL.gyes rfl rfl rfl rfl (Yld.add rfl rfl (by simp only [In]; omega)) ?_ | refine WL.gyes rfl rfl rfl rfl (Yld.sub rfl rfl (by simp only [In]; omega)) ?_ | refine WL.gyes rfl rfl rfl rfl (Yld.mul rfl rfl (by simp only [In]; omega)) ?_ | refine WL.gyes rfl rfl rfl rfl (Yld.convB tab_ok rfl rfl rfl rfl) ?_ | refine WL.gyes rfl rfl rfl rfl (Yld.conv tab_ok rfl rfl rfl (by simp only [In]; omega)) ?_ | refine WL.gyes rfl rfl rfl rfl (Yld.quo rfl rfl (by omega) (by omega) (by simp only [In]; omega)) ?_ | refine WL.gyes rfl rfl rfl rfl (Yld.rem rfl rfl (by omega) (by omega)) ?_ | refine WL.gyes rfl rfl rfl rfl (Yld.shl rfl rfl (by omega)) ?_ | refine WL.gyes rfl rfl rfl rfl (Yld.shr rfl rfl (by omega)) ?_ | refine WL.gyes rfl rfl rfl rfl (Yld.pure tab_ok rfl) ?_ | refine WL.gyes rfl rfl rfl rfl (Yld.fld flds_ok rfl rfl rfl) ?_ | refine WL.gyes rfl rfl rfl rfl (Yld.max2 rfl rfl) ?_ | refine WL.gyes rfl rfl rfl rfl (Yld.min2 rfl rfl) ?_ | refine WL.gyes rfl rfl rfl rfl (Yld.pickV rfl rfl rfl) ?_)
    refine WC.midF (fun L' w' => L' = [(0, .pointer (some ⟨gt, 0, none⟩)), (1, .pointer (some ⟨s.id, 0, none⟩)), (2, .bool back), (6, .int .i64 (kk : Int)), (11, .int .i64 (s.own.length : Int)), (12, .int .i64 (i : Int))] ∧ w4 = w') ?_ (fun hQ => ?_)
    · rintro _ _ ⟨rfl, rfl⟩
      refine WX.then_normal ?_
      refine WC.seq ?_
      have hq : ((kk : Int)).toNat = kk := by omega
      refine WC.quiet mixed (by kernel_rfl) ?_
      refine WQ.y rfl (Yld.pure tab_ok rfl) ?_
      refine WQ.y rfl (Yld.pure tab_ok rfl) ?_
      refine WQ.y rfl (Yld.pure tab_ok rfl) ?_
      refine WQ.y rfl (Yld.bload tab_ok I.box rfl rfl rfl) ?_
      refine WQ.y rfl (Yld.pure tab_ok rfl) ?_
      refine WQ.y rfl (Yld.pure tab_ok rfl) ?_
      refine WQ.y rfl (Yld.fa0 (o := 2) (by kernel_rfl) rfl) ?_
      refine WQ.y rfl (Yld.bload tab_ok (hBx.g0 gr4) rfl rfl rfl) ?_
      refine WQ.y rfl (Yld.pure tab_ok rfl) ?_
      refine WQ.y rfl (Yld.iaddrW tab_ok hRk4 rfl rfl rfl rfl (by omega) (by simp; omega)) ?_
      rw [hq]
      refine WQ.y rfl (Yld.to (v := vs (keyP (.int z))) (Yld.iload [] tab_ok hRk4 rfl rfl hkl2) (by rw [hkg])) ?_
      refine WQ.y rfl (Yld.look (z := false) (keyF_s Tryd.underlying9) Tryd.underlying76 (fun _ => by kernel_rfl) I.mkk rfl rfl hklen) ?_
      rw [mget_true]
      refine WQ.y rfl (Yld.pure tab_ok rfl) ?_
      refine WQ.nil (WX.then_normal ?_)
      refine WC.cond rfl (fun b2 => ?_) (fun b2 => ?_)
      · have hnot : keyP (.int z) ∉ (ownT (l.take i) t).keys := by simpa using b2
        have hst : stepT (ownT (l.take i) t) (.int z) = { ownT (l.take i) t with keys := (ownT (l.take i) t).keys ++ [keyP (.int z)], out := (ownT (l.take i) t).out ++ [.int z] } := by unfold stepT; rw [if_neg hnot]
        rw [hst] at hobound
        rw [hst] at hstep
        generalize ownT (l.take i) t = u at *
        simp only [List.length_append, List.length_cons, List.length_nil] at hobound
        have hkl3 := I.len
        refine WC.seq ?_
        refine WC.chainF (fun k => !(Nat.beq k 11)) (LD [3, 7, 10] (fun w' => Bl w' gt 78 [.map (some gs), .map (some gk), .slice A u.out.length c] ∧ Bl w' s.id 83 [.int .i64 s.order, .slice Ao s.own.length co, .slice Ak (s.own.map keyP).length ck, .slice Af s.fr.length cf, .int .i64 s.deep, .bool s.empty] ∧ Rd vs w' Ak ck (s.own.map keyP))) mixed (by kernel_rfl) (fun k w' h _ => ⟨bl_eqv h I.box, bl_eqv h (hBx.g0 gr4), rd_eqv h hRk4⟩) ?_
        refine WJ.y rfl rfl (fun w' hw' => Yld.pure tab_ok rfl) ?_
        refine WJ.y rfl rfl (fun w' hw' => Yld.pure tab_ok rfl) ?_
        refine WJ.y rfl rfl (fun w' hw' => Yld.pure tab_ok rfl) ?_
        refine WJ.y rfl rfl (fun w' hw' => Yld.bload tab_ok (hw' rfl).1 rfl rfl rfl) ?_
        refine WJ.y rfl rfl (fun w' hw' => Yld.pure tab_ok rfl) ?_
        refine WJ.y rfl rfl (fun w' hw' => Yld.pure tab_ok rfl) ?_
        refine WJ.y rfl rfl (fun w' hw' => Yld.fa0 (o := 2) (by kernel_rfl) rfl) ?_
        refine WJ.y rfl rfl (fun w' hw' => Yld.bload tab_ok (hw' rfl).2.1 rfl rfl rfl) ?_
        refine WJ.y rfl rfl (fun w' hw' => Yld.pure tab_ok rfl) ?_
        refine WJ.y rfl rfl (fun w' hw' => Yld.iaddrW tab_ok hRk4 rfl rfl rfl rfl (by omega) (by simp; omega)) ?_
        rw [hq]
        refine WJ.y rfl rfl (fun w' hw' => Yld.to (v := vs (keyP (.int z))) (Yld.iload [] tab_ok (hw' rfl).2.2 rfl rfl hkl2) (by rw [hkg])) ?_
        refine WJ.eff rfl (Ef0.mapPut (v := true) (keyF_s Tryd.underlying9) Tryd.underlying76 I.mkk (by simp [maxLen]; omega) rfl rfl hklen rfl) (fun w' h => DD.past (by kernel_rfl)) ?_
        rintro w5 ⟨hM5, hg5⟩
        rw [mput_true hnot] at hM5
        have gr5 : w.grownBy w5 none := gr_mod gr4 hg5 (Ge.box I.g3)
        have hB5 := I.box.go hg5 (dj_of I.d2)
        have hO5 := I.own.go hg5 (dj_l I.d6)
        have hS5 := I.ms.go hg5 (dj_of I.d3)
        have hRo5 := hRo.grown gr5
        have hkl4 : kk < ho.length := by rw [hro.1]; exact hkl
        have hhg : vv (ho.getD kk vh0) = vv hh := by simp [List.getD, hhk]
        refine WJ.nil (WX.then_normal ?_)
        refine WC.chainF (fun k => !(Nat.beq k 12 || Nat.beq k 13 || Nat.beq k 16)) (LD [4, 8, 11] (fun w' => Bl w' gt 78 [.map (some gs), .map (some gk), .slice A u.out.length c] ∧ Bl w' s.id 83 [.int .i64 s.order, .slice Ao s.own.length co, .slice Ak (s.own.map keyP).length ck, .slice Af s.fr.length cf, .int .i64 s.deep, .bool s.empty] ∧ Rd vv w' Ao co ho)) mixed (by kernel_rfl) (fun k w' h _ => ⟨bl_eqv h hB5, bl_eqv h (hBx.g0 gr5), rd_eqv h hRo5⟩) ?_
        refine WJ.y rfl rfl (fun w' hw' => Yld.pure tab_ok rfl) ?_
        refine WJ.y rfl rfl (fun w' hw' => Yld.pure tab_ok rfl) ?_
        refine WJ.y rfl rfl (fun w' hw' => Yld.pure tab_ok rfl) ?_
        refine WJ.y rfl rfl (fun w' hw' => Yld.pure tab_ok rfl) ?_
        refine WJ.y rfl rfl (fun w' hw' => Yld.bload tab_ok (hw' rfl).1 rfl rfl rfl) ?_
        refine WJ.y rfl rfl (fun w' hw' => Yld.pure tab_ok rfl) ?_
        refine WJ.y rfl rfl (fun w' hw' => Yld.pure tab_ok rfl) ?_
        refine WJ.y rfl rfl (fun w' hw' => Yld.fa0 (o := 1) (by kernel_rfl) rfl) ?_
        refine WJ.y rfl rfl (fun w' hw' => Yld.bload tab_ok (hw' rfl).2.1 rfl rfl rfl) ?_
        refine WJ.y rfl rfl (fun w' hw' => Yld.pure tab_ok rfl) ?_
        refine WJ.y rfl rfl (fun w' hw' => Yld.iaddrW tab_ok hRo5 rfl rfl hro.1.symm rfl (by omega) (by omega)) ?_
        rw [hq]
        refine WJ.y rfl rfl (fun w' hw' => Yld.to (v := vv hh) (Yld.iload vh0 tab_ok (hw' rfl).2.2 rfl rfl hkl4) hhg) ?_
        refine WJ.putw rfl wants_none rfl (Eff.lit (us := [vv hh]) tab_ok rfl rfl (all1c hh.1.2 all1n) rfl (by omega)) (fun v w' ⟨_, _, h⟩ => DD.keep ⟨hB5.g0 h, (hBx.g0 gr5).g0 h, hRo5.grown h⟩) ?_
        rintro _ w6 ⟨rfl, hB6, hg6⟩
        have gr6 := gr_trans gr5 hg6
        have hL6 : Own vv w6 w.heap.size 41 (some ⟨w5.heap.size, 0, none⟩) 1 [hh] := Own.ofBl hB6 gr5.size (by simp [maxLen]) rfl
        have hO6 := hO5.grown hg6
        have hrl := I.rel.1
        refine WJ.putw rfl wants_none rfl (Eff.append tab_ok rfl One.vv hO6 rfl hrl.symm hL6.rd rfl rfl (by rw [hrl]; simp; omega) (by rw [hrl]; simp [maxLen]; omega) gr6.size) (fun v w' h => DD.past (by kernel_rfl)) ?_
        rintro _ w7 ⟨A7, c7, rfl, hO7, hg7, hk7⟩
        have gr7 : w.grownBy w7 none := gr_mod gr6 hg7 hO6.ge'
        have el : (hs ++ [hh]).length = (u.out ++ [PV.int z]).length := by simp [hrl]
        rw [el]
        have hB7 := (hB5.g0 hg6).go hg7 (dj_l I.d4).symm
        have hM7 := (hM5.g0 hg6).go hg7 (dj_l I.d6).symm
        have hS7 := (hS5.g0 hg6).go hg7 (dj_l I.d5).symm
        have b4 : ∀ q, q < w6.heap.size → blk A ≠ some q → blk A7 ≠ some q := fun q hq hne e => by
          rcases hk7 q e with h | h
          · exact hne h
          · omega
        refine WJ.y rfl rfl (fun w' hw' => Yld.pure tab_ok rfl) ?_
        refine WJ.y rfl rfl (fun w' hw' => Yld.pure tab_ok rfl) ?_
        refine WJ.eff rfl (Ef0.store1 one32 rfl rfl rfl hB7 (by simp)) (fun w' h => DD.past (by kernel_rfl)) ?_
        rintro w8 ⟨hB8, hg8⟩
        have gr8 : w.grownBy w8 none := gr_mod gr7 hg8 (Ge.box I.g1)
        have q1 := (hB5.g0 hg6).lt
        have q2 := (hM5.g0 hg6).lt
        have q3 := (hS5.g0 hg6).lt
        refine WJ.nil ?_
        repeat (first | refine WC.seq ?_ | refine WC.block ?_ | refine WC.region ?_ | refine WL.nil ?_ | refine WX.then_normal ?_ | refine WC.skip ?_ | refine WC.exit ?_ | refine WC.ret ?_ | refine WX.then_exit ?_ | refine WX.then_ret ?_ | refine WX.block_normal ?_ | refine WX.block_ret ?_ | refine WX.block_same ?_ | refine WX.block_other rfl ?_ | refine WC.label ?_ | refine WC.scope ?_ | refine WX.scope_normal ?_ | refine WX.scope_ret ?_ | refine WX.scope_exit ?_ | refine WL.y rfl (Yld.add rfl rfl (by simp only [In]; omega)) ?_ | refine WL.y rfl (Yld.sub rfl rfl (by simp only [In]; omega)) ?_ | refine WL.y rfl (Yld.mul rfl rfl (by simp only [In]; omega)) ?_ | refine WL.y rfl (Yld.convB tab_ok rfl rfl rfl rfl) ?_ | refine WL.y rfl (Yld.conv tab_ok rfl rfl rfl (by simp only [In]; omega)) ?_ | refine WL.y rfl (Yld.quo rfl rfl (by omega) (by omega) (by simp only [In]; omega)) ?_ | refine WL.y rfl (Yld.rem rfl rfl (by omega) (by omega)) ?_ | refine WL.y rfl (Yld.shl rfl rfl (by omega)) ?_ | refine WL.y rfl (Yld.shr rfl rfl (by omega)) ?_ | refine WL.y rfl (Yld.pure tab_ok rfl) ?_ | refine WL.y rfl (Yld.fld flds_ok rfl rfl rfl) ?_ | refine WL.y rfl (Yld.max2 rfl rfl) ?_ | refine WL.y rfl (Yld.min2 rfl rfl) ?_ | refine WL.y rfl (Yld.pickV rfl rfl rfl) ?_ | refine WL.gno rfl rfl rfl rfl ?_ | refine WL.gyes rfl rfl rfl rfl (Yld.add rfl rfl (by simp only [In]; omega)) ?_ | refine WL.gyes rfl rfl rfl rfl (Yld.sub rfl rfl (by simp only [In]; omega)) ?_ | refine WL.gyes rfl rfl rfl rfl (Yld.mul rfl rfl (by simp only [In]; omega)) ?_ | refine WL.gyes rfl rfl rfl rfl (Yld.convB tab_ok rfl rfl rfl rfl) ?_ | refine WL.gyes rfl rfl rfl rfl (Yld.conv tab_ok rfl rfl rfl (by simp only [In]; omega)) ?_ | refine WL.gyes rfl rfl rfl rfl (Yld.quo rfl rfl (by omega) (by omega) (by simp only [In]; omega)) ?_ | refine WL.gyes rfl rfl rfl rfl (Yld.rem rfl rfl (by omega) (by omega)) ?_ | refine WL.gyes rfl rfl rfl rfl (Yld.shl rfl rfl (by omega)) ?_ | refine WL.gyes rfl rfl rfl rfl (Yld.shr rfl rfl (by omega)) ?_ | refine WL.gyes rfl rfl rfl rfl (Yld.pure tab_ok rfl) ?_ | refine WL.gyes rfl rfl rfl rfl (Yld.fld flds_ok rfl rfl rfl) ?_ | refine WL.gyes rfl rfl rfl rfl (Yld.max2 rfl rfl) ?_ | refine WL.gyes rfl rfl rfl rfl (Yld.min2 rfl rfl) ?_ | refine WL.gyes rfl rfl rfl rfl (Yld.pickV rfl rfl rfl) ?_)
        refine WX.roundF _ ⟨i + 1, A7, c7, hs ++ [hh], rfl, rfl, ?_, by omega⟩ (by repeat (first | exact Sub.nil | refine Sub.cons rfl ?_)) (by omega)
        rw [hstep]
        exact ⟨gr8, hB8, hO7.go hg8 (dj_l (b4 gt q1 I.d4)), I.rel.append (RelD.cons ⟨AI.mono hAI (fun g hg => by rw [hoF hh (List.mem_of_getElem? hhk)]; exact hg), fun g hg => by rw [hoF hh (List.mem_of_getElem? hhk)] at hg; exact h0.one.2 g hg⟩ RelD.nil), fun h hm => by
          rcases List.mem_append.1 hm with hm | hm
          · exact I.hd h hm
          · simp at hm; subst hm; exact hoF h (List.mem_of_getElem? hhk), hS7.go hg8 (dj_of I.d1.symm), hM7.go hg8 (dj_of I.d2.symm), I.g1, I.g2, I.g3, I.d1, I.d2, I.d3, b4 gt q1 I.d4, b4 gs q3 I.d5, b4 gk q2 I.d6, by simp [I.len]⟩
      · have hin : keyP (.int z) ∈ (ownT (l.take i) t).keys := by simpa using b2
        have hst : stepT (ownT (l.take i) t) (.int z) = ownT (l.take i) t := by unfold stepT; rw [if_pos hin]
        repeat (first | refine WC.seq ?_ | refine WC.block ?_ | refine WC.region ?_ | refine WL.nil ?_ | refine WX.then_normal ?_ | refine WC.skip ?_ | refine WC.exit ?_ | refine WC.ret ?_ | refine WX.then_exit ?_ | refine WX.then_ret ?_ | refine WX.block_normal ?_ | refine WX.block_ret ?_ | refine WX.block_same ?_ | refine WX.block_other rfl ?_ | refine WC.label ?_ | refine WC.scope ?_ | refine WX.scope_normal ?_ | refine WX.scope_ret ?_ | refine WX.scope_exit ?_ | refine WL.y rfl (Yld.add rfl rfl (by simp only [In]; omega)) ?_ | refine WL.y rfl (Yld.sub rfl rfl (by simp only [In]; omega)) ?_ | refine WL.y rfl (Yld.mul rfl rfl (by simp only [In]; omega)) ?_ | refine WL.y rfl (Yld.convB tab_ok rfl rfl rfl rfl) ?_ | refine WL.y rfl (Yld.conv tab_ok rfl rfl rfl (by simp only [In]; omega)) ?_ | refine WL.y rfl (Yld.quo rfl rfl (by omega) (by omega) (by simp only [In]; omega)) ?_ | refine WL.y rfl (Yld.rem rfl rfl (by omega) (by omega)) ?_ | refine WL.y rfl (Yld.shl rfl rfl (by omega)) ?_ | refine WL.y rfl (Yld.shr rfl rfl (by omega)) ?_ | refine WL.y rfl (Yld.pure tab_ok rfl) ?_ | refine WL.y rfl (Yld.fld flds_ok rfl rfl rfl) ?_ | refine WL.y rfl (Yld.max2 rfl rfl) ?_ | refine WL.y rfl (Yld.min2 rfl rfl) ?_ | refine WL.y rfl (Yld.pickV rfl rfl rfl) ?_ | refine WL.gno rfl rfl rfl rfl ?_ | refine WL.gyes rfl rfl rfl rfl (Yld.add rfl rfl (by simp only [In]; omega)) ?_ | refine WL.gyes rfl rfl rfl rfl (Yld.sub rfl rfl (by simp only [In]; omega)) ?_ | refine WL.gyes rfl rfl rfl rfl (Yld.mul rfl rfl (by simp only [In]; omega)) ?_ | refine WL.gyes rfl rfl rfl rfl (Yld.convB tab_ok rfl rfl rfl rfl) ?_ | refine WL.gyes rfl rfl rfl rfl (Yld.conv tab_ok rfl rfl rfl (by simp only [In]; omega)) ?_ | refine WL.gyes rfl rfl rfl rfl (Yld.quo rfl rfl (by omega) (by omega) (by simp only [In]; omega)) ?_ | refine WL.gyes rfl rfl rfl rfl (Yld.rem rfl rfl (by omega) (by omega)) ?_ | refine WL.gyes rfl rfl rfl rfl (Yld.shl rfl rfl (by omega)) ?_ | refine WL.gyes rfl rfl rfl rfl (Yld.shr rfl rfl (by omega)) ?_ | refine WL.gyes rfl rfl rfl rfl (Yld.pure tab_ok rfl) ?_ | refine WL.gyes rfl rfl rfl rfl (Yld.fld flds_ok rfl rfl rfl) ?_ | refine WL.gyes rfl rfl rfl rfl (Yld.max2 rfl rfl) ?_ | refine WL.gyes rfl rfl rfl rfl (Yld.min2 rfl rfl) ?_ | refine WL.gyes rfl rfl rfl rfl (Yld.pickV rfl rfl rfl) ?_)
        refine WX.roundF _ ⟨i + 1, A, c, hs, rfl, rfl, ?_, by omega⟩ (by repeat (first | exact Sub.nil | refine Sub.cons rfl ?_)) (by omega)
        rw [hstep, hst]
        exact I
    · cases back
      · refine WC.cond rfl (fun h => by cases h) (fun _ => ?_)
        simp only [Bool.false_eq_true, if_false] at hkk
        subst hkk
        refine WC.skip ?_
        exact WX.weaken (by repeat (first | exact Sub.nil | refine Sub.cons rfl ?_)) (hQ _ _ ⟨rfl, rfl⟩)
      · refine WC.cond rfl (fun _ => ?_) (fun h => by cases h)
        simp only [if_true] at hkk
        have ek : ((s.own.length : Int) - 1 - (i : Int)) = (kk : Int) := by omega
        refine WC.region ?_
        refine WL.y rfl (Yld.pure tab_ok rfl) ?_
        refine WL.y rfl (Yld.pure tab_ok rfl) ?_
        refine WL.y rfl (Yld.fa0 (o := 1) (by kernel_rfl) rfl) ?_
        refine WL.y rfl (Yld.bload tab_ok (hBx.g0 gr4) rfl rfl rfl) ?_
        refine WL.y rfl (Yld.pure tab_ok rfl) ?_
        refine WL.y rfl (Yld.sub rfl rfl (by simp only [In]; omega)) ?_
        refine WL.y rfl (Yld.pure tab_ok rfl) ?_
        refine WL.y rfl (Yld.sub rfl rfl (by simp only [In]; omega)) ?_
        rw [ek]
        refine WL.y rfl (Yld.pure tab_ok rfl) ?_
        refine WL.nil ?_
        exact WX.weaken (by repeat (first | exact Sub.nil | refine Sub.cons rfl ?_)) (hQ _ _ ⟨rfl, rfl⟩)
  · have b1 := of_decide_eq_false b1
    obtain rfl : i = s.own.length := by omega
    rw [← hll, List.take_length] at I
    repeat (first | refine WC.seq ?_ | refine WC.block ?_ | refine WC.region ?_ | refine WL.nil ?_ | refine WX.then_normal ?_ | refine WC.skip ?_ | refine WC.exit ?_ | refine WC.ret ?_ | refine WX.then_exit ?_ | refine WX.then_ret ?_ | refine WX.block_normal ?_ | refine WX.block_ret ?_ | refine WX.block_same ?_ | refine WX.block_other rfl ?_ | refine WC.label ?_ | refine WC.scope ?_ | refine WX.scope_normal ?_ | refine WX.scope_ret ?_ | refine WX.scope_exit ?_ | refine WL.y rfl (Yld.add rfl rfl (by simp only [In]; omega)) ?_ | refine WL.y rfl (Yld.sub rfl rfl (by simp only [In]; omega)) ?_ | refine WL.y rfl (Yld.mul rfl rfl (by simp only [In]; omega)) ?_ | refine WL.y rfl (Yld.convB tab_ok rfl rfl rfl rfl) ?_ | refine WL.y rfl (Yld.conv tab_ok rfl rfl rfl (by simp only [In]; omega)) ?_ | refine WL.y rfl (Yld.quo rfl rfl (by omega) (by omega) (by simp only [In]; omega)) ?_ | refine WL.y rfl (Yld.rem rfl rfl (by omega) (by omega)) ?_ | refine WL.y rfl (Yld.shl rfl rfl (by omega)) ?_ | refine WL.y rfl (Yld.shr rfl rfl (by omega)) ?_ | refine WL.y rfl (Yld.pure tab_ok rfl) ?_ | refine WL.y rfl (Yld.fld flds_ok rfl rfl rfl) ?_ | refine WL.y rfl (Yld.max2 rfl rfl) ?_ | refine WL.y rfl (Yld.min2 rfl rfl) ?_ | refine WL.y rfl (Yld.pickV rfl rfl rfl) ?_ | refine WL.gno rfl rfl rfl rfl ?_ | refine WL.gyes rfl rfl rfl rfl (Yld.add rfl rfl (by simp only [In]; omega)) ?_ | refine WL.gyes rfl rfl rfl rfl (Yld.sub rfl rfl (by simp only [In]; omega)) ?_ | refine WL.gyes rfl rfl rfl rfl (Yld.mul rfl rfl (by simp only [In]; omega)) ?_ | refine WL.gyes rfl rfl rfl rfl (Yld.convB tab_ok rfl rfl rfl rfl) ?_ | refine WL.gyes rfl rfl rfl rfl (Yld.conv tab_ok rfl rfl rfl (by simp only [In]; omega)) ?_ | refine WL.gyes rfl rfl rfl rfl (Yld.quo rfl rfl (by omega) (by omega) (by simp only [In]; omega)) ?_ | refine WL.gyes rfl rfl rfl rfl (Yld.rem rfl rfl (by omega) (by omega)) ?_ | refine WL.gyes rfl rfl rfl rfl (Yld.shl rfl rfl (by omega)) ?_ | refine WL.gyes rfl rfl rfl rfl (Yld.shr rfl rfl (by omega)) ?_ | refine WL.gyes rfl rfl rfl rfl (Yld.pure tab_ok rfl) ?_ | refine WL.gyes rfl rfl rfl rfl (Yld.fld flds_ok rfl rfl rfl) ?_ | refine WL.gyes rfl rfl rfl rfl (Yld.max2 rfl rfl) ?_ | refine WL.gyes rfl rfl rfl rfl (Yld.min2 rfl rfl) ?_ | refine WL.gyes rfl rfl rfl rfl (Yld.pickV rfl rfl rfl) ?_)
    exact WX.end0 rfl ⟨rfl, A, c, hs, I⟩
set_option maxHeartbeats 4000000 in
theorem set_fn {w : World} {v0 : OV} {F : Nat → Prop} {s0 : PS} {gt gs gk : Nat} (h0 : RelD deS w [(v0, F)] [s0]) (order : Int) : ∀ (n : Nat) (s : PS) (t : TS) (A : Option Addr) (c : Nat) (hs : List VH) (w2 : World), dep n s → Reach s0 s → s ≠ .nil → TI w F s0 gt gs gk w2 t A c hs →
    (tellN n order s t).sets.length ≤ 100000 → (tellN n order s t).out.length ≤ 1024 →
    Fn Tryd.prog 34 ⟨[.pointer (some ⟨gt, 0, none⟩), .pointer (some ⟨s.id, 0, none⟩), .int .i64 order]⟩ w2 (fun v w3 => v = .tuple #[] ∧ ∃ A' c' hs', TI w F s0 gt gs gk w3 (tellN n order s t) A' c' hs') := by
  intro n
  induction n with
  | zero =>
    intro s t A c hs w2 hdp hr hn
    cases s with
    | nil => exact absurd rfl hn
    | mk => exact absurd hdp (by simp [dep])
  | succ n ih =>
    intro s t A c hs w2 hdp hr hn I hb1 hb2
    obtain ⟨Ao, co, Ak, ck, Af, cf, ho, hf, hBx, hRo, hro, hoF, hoA, hRk, hRf, hfl, hfA⟩ := SR.out2 (relS h0 hr hn) hn
    have hdf : ∀ f ∈ s.fr, dep n f := by
      cases s with
      | nil => exact absurd rfl hn
      | mk => exact hdp
    have hol : (s.fr.length : Int) ≤ 9223372036854775807 := by
      have h1 := hRf.cap
      have h2 := hRf.max
      rw [hfl] at h1
      simp only [maxLen] at h2
      omega
    refine Fn.enter (by kernel_rfl) Tryd.func34 rfl Tryd.ntmps34 rfl ?_
    repeat refine WC.seq ?_
    refine WC.region ?_
    refine WL.y rfl (Yld.pure tab_ok rfl) ?_
    refine WL.y rfl (Yld.pure tab_ok rfl) ?_
    refine WL.y rfl (Yld.pure tab_ok rfl) ?_
    refine WL.y rfl (Yld.bload tab_ok I.box rfl rfl rfl) ?_
    refine WL.y rfl (Yld.pure tab_ok rfl) ?_
    have hok : okR s0 s.id := ⟨s, hr, hn, rfl⟩
    refine WL.y rfl (Yld.lookW (z := false) (q := s.id) (keyS Tryd.underlying36 (by kernel_rfl) (h0.grown I.gr)) Tryd.underlying75 (fun _ => by kernel_rfl) I.ms rfl rfl hok) ?_
    rw [mget_true]
    refine WL.nil (WX.then_normal ?_)
    refine WC.cond rfl (fun b1 => ?_) (fun b1 => ?_)
    · have b1 := of_decide_eq_true b1
      rw [tellN_succ, if_pos b1]
      repeat (first | refine WC.seq ?_ | refine WC.block ?_ | refine WC.region ?_ | refine WL.nil ?_ | refine WX.then_normal ?_ | refine WC.skip ?_ | refine WC.exit ?_ | refine WC.ret ?_ | refine WX.then_exit ?_ | refine WX.then_ret ?_ | refine WX.block_normal ?_ | refine WX.block_ret ?_ | refine WX.block_same ?_ | refine WX.block_other rfl ?_ | refine WC.label ?_ | refine WC.scope ?_ | refine WX.scope_normal ?_ | refine WX.scope_ret ?_ | refine WX.scope_exit ?_ | refine WL.y rfl (Yld.add rfl rfl (by simp only [In]; omega)) ?_ | refine WL.y rfl (Yld.sub rfl rfl (by simp only [In]; omega)) ?_ | refine WL.y rfl (Yld.mul rfl rfl (by simp only [In]; omega)) ?_ | refine WL.y rfl (Yld.convB tab_ok rfl rfl rfl rfl) ?_ | refine WL.y rfl (Yld.conv tab_ok rfl rfl rfl (by simp only [In]; omega)) ?_ | refine WL.y rfl (Yld.quo rfl rfl (by omega) (by omega) (by simp only [In]; omega)) ?_ | refine WL.y rfl (Yld.rem rfl rfl (by omega) (by omega)) ?_ | refine WL.y rfl (Yld.shl rfl rfl (by omega)) ?_ | refine WL.y rfl (Yld.shr rfl rfl (by omega)) ?_ | refine WL.y rfl (Yld.pure tab_ok rfl) ?_ | refine WL.y rfl (Yld.fld flds_ok rfl rfl rfl) ?_ | refine WL.y rfl (Yld.max2 rfl rfl) ?_ | refine WL.y rfl (Yld.min2 rfl rfl) ?_ | refine WL.y rfl (Yld.pickV rfl rfl rfl) ?_ | refine WL.gno rfl rfl rfl rfl ?_ | refine WL.gyes rfl rfl rfl rfl (Yld.add rfl rfl (by simp only [In]; omega)) ?_ | refine WL.gyes rfl rfl rfl rfl (Yld.sub rfl rfl (by simp only [In]; omega)) ?_ | refine WL.gyes rfl rfl rfl rfl (Yld.mul rfl rfl (by simp only [In]; omega)) ?_ | refine WL.gyes rfl rfl rfl rfl (Yld.convB tab_ok rfl rfl rfl rfl) ?_ | refine WL.gyes rfl rfl rfl rfl (Yld.conv tab_ok rfl rfl rfl (by simp only [In]; omega)) ?_ | refine WL.gyes rfl rfl rfl rfl (Yld.quo rfl rfl (by omega) (by omega) (by simp only [In]; omega)) ?_ | refine WL.gyes rfl rfl rfl rfl (Yld.rem rfl rfl (by omega) (by omega)) ?_ | refine WL.gyes rfl rfl rfl rfl (Yld.shl rfl rfl (by omega)) ?_ | refine WL.gyes rfl rfl rfl rfl (Yld.shr rfl rfl (by omega)) ?_ | refine WL.gyes rfl rfl rfl rfl (Yld.pure tab_ok rfl) ?_ | refine WL.gyes rfl rfl rfl rfl (Yld.fld flds_ok rfl rfl rfl) ?_ | refine WL.gyes rfl rfl rfl rfl (Yld.max2 rfl rfl) ?_ | refine WL.gyes rfl rfl rfl rfl (Yld.min2 rfl rfl) ?_ | refine WL.gyes rfl rfl rfl rfl (Yld.pickV rfl rfl rfl) ?_)
      exact WX.ret0 rfl ⟨rfl, A, c, hs, I⟩
    have b1 := of_decide_eq_false b1
    rw [tellN_succ, if_neg b1] at hb1 hb2 ⊢
    have hle1 := (postT_le order s (midT n order s (preT order s t)))
    have hle0 := (foldT_le (f := fun t f => tellN n order f t) (fun t f => tellN_le n order f t) (if order = 3 then s.fr.reverse else s.fr) (preT order s t))
    have hlep := preT_le order s t
    have hpre_s : (preT order s t).sets.length = t.sets.length + 1 := by
      have key : ∀ (l : List PV) (u : TS), (ownT l u).sets = u.sets := fun l => by
        induction l with
        | nil => intro u; rfl
        | cons x l ihl => intro u; rw [ownT_cons, ihl]; unfold stepT; split <;> rfl
      unfold preT
      split
      · rw [key]; simp
      · simp
    have hb3 : t.sets.length + 1 ≤ 100000 := by
      have h1 := hle1.s
      have h2 : (preT order s t).sets.length ≤ (midT n order s (preT order s t)).sets.length := hle0.s
      omega
    refine WC.skip (WX.then_normal ?_)
    repeat refine WC.seq ?_
    refine WC.region ?_
    refine WL.y rfl (Yld.pure tab_ok rfl) ?_
    refine WL.y rfl (Yld.pure tab_ok rfl) ?_
    refine WL.y rfl (Yld.pure tab_ok rfl) ?_
    refine WL.y rfl (Yld.bload tab_ok I.box rfl rfl rfl) ?_
    refine WL.y rfl (Yld.pure tab_ok rfl) ?_
    refine WL.ef0 (Ef0.putW (v := true) (q := s.id) (keyS Tryd.underlying36 (by kernel_rfl) (h0.grown I.gr)) Tryd.underlying75 I.ms (by simp [maxLen]; omega) rfl rfl hok rfl) ?_
    rintro w3 ⟨hM3, hg3⟩
    rw [mput_true b1] at hM3
    have I1 : TI w F s0 gt gs gk w3 { t with sets := t.sets ++ [s.id] } A c hs := ⟨gr_mod I.gr hg3 (Ge.box I.g2), I.box.go hg3 (dj_of I.d1), I.own.go hg3 (dj_l I.d5), I.rel, I.hd, hM3, I.mkk.go hg3 (dj_of I.d3.symm), I.g1, I.g2, I.g3, I.d1, I.d2, I.d3, I.d4, I.d5, I.d6, I.len⟩
    refine WL.nil (WX.then_normal ?_)
    repeat refine WC.seq ?_
    refine WC.region ?_
    refine WL.y rfl (Yld.pure tab_ok rfl) ?_
    refine WL.y rfl (Yld.pure tab_ok rfl) ?_
    refine WL.nil (WX.then_normal ?_)
    refine WC.midF (fun L' w' => L' = [(0, .pointer (some ⟨gt, 0, none⟩)), (1, .pointer (some ⟨s.id, 0, none⟩)), (2, .int .i64 order)] ∧ ∃ A c hs, TI w F s0 gt gs gk w' (preT order s t) A c hs) ?_ (fun hQ => ?_)
    rotate_left
    · refine WC.cond rfl (fun b2 => ?_) (fun b2 => ?_)
      · have b2 := of_decide_eq_true b2
        have ep : preT order s t = ownT s.own { t with sets := t.sets ++ [s.id] } := by unfold preT; rw [if_pos b2]
        refine WC.region ?_
        refine WL.y rfl (Yld.pure tab_ok rfl) ?_
        refine WL.y rfl (Yld.pure tab_ok rfl) ?_
        refine WL.call rfl rfl (own_fn h0 hr hn false I1 (by
          have h1 := hle1.o
          have h2 : (preT order s t).out.length ≤ (midT n order s (preT order s t)).out.length := hle0.o
          rw [ep] at h2 h1 hb2
          simp only [Bool.false_eq_true, if_false]
          omega)) ?_
        rintro _ w4 ⟨rfl, A4, c4, hs4, I4⟩
        refine WL.nil ?_
        exact WX.weaken (by repeat (first | exact Sub.nil | refine Sub.cons rfl ?_)) (hQ _ _ ⟨rfl, A4, c4, hs4, by rw [ep]; exact I4⟩)
      · have b2 := of_decide_eq_false b2
        have ep : preT order s t = { t with sets := t.sets ++ [s.id] } := by unfold preT; rw [if_neg b2]
        refine WC.skip ?_
        exact WX.weaken (by repeat (first | exact Sub.nil | refine Sub.cons rfl ?_)) (hQ _ _ ⟨rfl, A, c, hs, by rw [ep]; exact I1⟩)
    rintro _ w4 ⟨rfl, A4, c4, hs4, I4⟩
    clear hM3 hg3 I1 I
    refine WX.then_normal ?_
    repeat refine WC.seq ?_
    refine WC.region ?_
    refine WL.y rfl (Yld.pure tab_ok rfl) ?_
    refine WL.y rfl (Yld.pure tab_ok rfl) ?_
    refine WL.y rfl (Yld.fa0 (o := 3) (by kernel_rfl) rfl) ?_
    refine WL.y rfl (Yld.bload tab_ok (hBx.g0 I4.gr) rfl rfl rfl) ?_
    refine WL.y rfl (Yld.pure tab_ok rfl) ?_
    refine WL.y rfl (Yld.pure tab_ok rfl) ?_
    refine WL.nil (WX.then_normal ?_)
    repeat refine WC.seq ?_
    refine WC.block ?_
    generalize hl : (if order = 3 then s.fr.reverse else s.fr) = l at hle0
    have hmid : midT n order s (preT order s t) = l.foldl (fun t f => tellN n order f t) (preT order s t) := by unfold midT; rw [hl]
    have hll : l.length = s.fr.length := by rw [← hl]; split <;> simp
    have hget : ∀ i, i < s.fr.length → l[i]? = s.fr[(if order = 3 then s.fr.length - 1 - i else i)]? := fun i hi => by
      rw [← hl]
      split
      · rw [List.getElem?_reverse (by omega)]
      · rfl
    refine WC.loopF (fun n' L' w' => ∃ (i : Nat) (A : Option Addr) (c : Nat) (hs : List VH), n' = s.fr.length - i ∧ L' = [(0, .pointer (some ⟨gt, 0, none⟩)), (1, .pointer (some ⟨s.id, 0, none⟩)), (2, .int .i64 order), (27, .int .i64 (s.fr.length : Int)), (28, .int .i64 (i : Int))] ∧ TI w F s0 gt gs gk w' ((l.take i).foldl (fun t f => tellN n order f t) (preT order s t)) A c hs ∧ i ≤ s.fr.length) _ _ ⟨0, A4, c4, hs4, rfl, rfl, I4, by omega⟩ (by repeat (first | exact Sub.nil | refine Sub.cons rfl ?_)) ?_
    rintro _ _ w5 ⟨i, A5, c5, hs5, rfl, rfl, I5, hi⟩
    repeat (first | refine WC.seq ?_ | refine WC.block ?_ | refine WC.region ?_ | refine WL.nil ?_ | refine WX.then_normal ?_ | refine WC.skip ?_ | refine WC.exit ?_ | refine WC.ret ?_ | refine WX.then_exit ?_ | refine WX.then_ret ?_ | refine WX.block_normal ?_ | refine WX.block_ret ?_ | refine WX.block_same ?_ | refine WX.block_other rfl ?_ | refine WC.label ?_ | refine WC.scope ?_ | refine WX.scope_normal ?_ | refine WX.scope_ret ?_ | refine WX.scope_exit ?_ | refine WL.y rfl (Yld.add rfl rfl (by simp only [In]; omega)) ?_ | refine WL.y rfl (Yld.sub rfl rfl (by simp only [In]; omega)) ?_ | refine WL.y rfl (Yld.mul rfl rfl (by simp only [In]; omega)) ?_ | refine WL.y rfl (Yld.convB tab_ok rfl rfl rfl rfl) ?_ | refine WL.y rfl (Yld.conv tab_ok rfl rfl rfl (by simp only [In]; omega)) ?_ | refine WL.y rfl (Yld.quo rfl rfl (by omega) (by omega) (by simp only [In]; omega)) ?_ | refine WL.y rfl (Yld.rem rfl rfl (by omega) (by omega)) ?_ | refine WL.y rfl (Yld.shl rfl rfl (by omega)) ?_ | refine WL.y rfl (Yld.shr rfl rfl (by omega)) ?_ | refine WL.y rfl (Yld.pure tab_ok rfl) ?_ | refine WL.y rfl (Yld.fld flds_ok rfl rfl rfl) ?_ | refine WL.y rfl (Yld.max2 rfl rfl) ?_ | refine WL.y rfl (Yld.min2 rfl rfl) ?_ | refine WL.y rfl (Yld.pickV rfl rfl rfl) ?_ | refine WL.gno rfl rfl rfl rfl ?_ | refine WL.gyes rfl rfl rfl rfl (Yld.add rfl rfl (by simp only [In]; omega)) ?_ | refine WL.gyes rfl rfl rfl rfl (Yld.sub rfl rfl (by simp only [In]; omega)) ?_ | refine WL.gyes rfl rfl rfl rfl (Yld.mul rfl rfl (by simp only [In]; omega)) ?_ | refine WL.gyes rfl rfl rfl rfl (Yld.convB tab_ok rfl rfl rfl rfl) ?_ | refine WL.gyes rfl rfl rfl rfl (Yld.conv tab_ok rfl rfl rfl (by simp only [In]; omega)) ?_ | refine WL.gyes rfl rfl rfl rfl (Yld.quo rfl rfl (by omega) (by omega) (by simp only [In]; omega)) ?_ | refine WL.gyes rfl rfl rfl rfl (Yld.rem rfl rfl (by omega) (by omega)) ?_ | refine WL.gyes rfl rfl rfl rfl (Yld.shl rfl rfl (by omega)) ?_ | refine WL.gyes rfl rfl rfl rfl (Yld.shr rfl rfl (by omega)) ?_ | refine WL.gyes rfl rfl rfl rfl (Yld.pure tab_ok rfl) ?_ | refine WL.gyes rfl rfl rfl rfl (Yld.fld flds_ok rfl rfl rfl) ?_ | refine WL.gyes rfl rfl rfl rfl (Yld.max2 rfl rfl) ?_ | refine WL.gyes rfl rfl rfl rfl (Yld.min2 rfl rfl) ?_ | refine WL.gyes rfl rfl rfl rfl (Yld.pickV rfl rfl rfl) ?_)
    refine WC.cond rfl (fun b3 => ?_) (fun b3 => ?_)
    · have b3 := of_decide_eq_true b3
      have hil : i < s.fr.length := by omega
      obtain ⟨kk, hkk⟩ : ∃ kk : Nat, kk = (if order = 3 then s.fr.length - 1 - i else i) := ⟨_, rfl⟩
      have hkl : kk < s.fr.length := by rw [hkk]; split <;> omega
      obtain ⟨f, hf2⟩ : ∃ f, s.fr[kk]? = some f := ⟨_, List.getElem?_eq_getElem hkl⟩
      have hlx : l[i]? = some f := by rw [hget i hil, ← hkk]; exact hf2
      have htk : l.take (i + 1) = l.take i ++ [f] := by rw [List.take_add_one, hlx]; rfl
      have hfm : f ∈ s.fr := List.mem_of_getElem? hf2
      obtain ⟨hfn, hfv⟩ := hfA kk f hf2
      have hstep : (l.take (i + 1)).foldl (fun t f => tellN n order f t) (preT order s t) = tellN n order f ((l.take i).foldl (fun t f => tellN n order f t) (preT order s t)) := by rw [htk, List.foldl_append]; rfl
      have hle2 : TLe (tellN n order f ((l.take i).foldl (fun t f => tellN n order f t) (preT order s t))) (midT n order s (preT order s t)) := by
        rw [← hstep, hmid]
        have : l.foldl (fun t f => tellN n order f t) (preT order s t) = (l.drop (i + 1)).foldl (fun t f => tellN n order f t) ((l.take (i + 1)).foldl (fun t f => tellN n order f t) (preT order s t)) := by rw [← List.foldl_append, List.take_append_drop]
        rw [this]
        exact foldT_le (f := fun t f => tellN n order f t) (fun t f => tellN_le n order f t) _ _
      have hle3 := hle2.trans hle1
      have gr5 := I5.gr
      have hq : ((kk : Int)).toNat = kk := by omega
      have hkf : kk < hf.length := by rw [hfl]; exact hkl
      repeat (first | refine WC.seq ?_ | refine WC.block ?_ | refine WC.region ?_ | refine WL.nil ?_ | refine WX.then_normal ?_ | refine WC.skip ?_ | refine WC.exit ?_ | refine WC.ret ?_ | refine WX.then_exit ?_ | refine WX.then_ret ?_ | refine WX.block_normal ?_ | refine WX.block_ret ?_ | refine WX.block_same ?_ | refine WX.block_other rfl ?_ | refine WC.label ?_ | refine WC.scope ?_ | refine WX.scope_normal ?_ | refine WX.scope_ret ?_ | refine WX.scope_exit ?_ | refine WL.y rfl (Yld.add rfl rfl (by simp only [In]; omega)) ?_ | refine WL.y rfl (Yld.sub rfl rfl (by simp only [In]; omega)) ?_ | refine WL.y rfl (Yld.mul rfl rfl (by simp only [In]; omega)) ?_ | refine WL.y rfl (Yld.convB tab_ok rfl rfl rfl rfl) ?_ | refine WL.y rfl (Yld.conv tab_ok rfl rfl rfl (by simp only [In]; omega)) ?_ | refine WL.y rfl (Yld.quo rfl rfl (by omega) (by omega) (by simp only [In]; omega)) ?_ | refine WL.y rfl (Yld.rem rfl rfl (by omega) (by omega)) ?_ | refine WL.y rfl (Yld.shl rfl rfl (by omega)) ?_ | refine WL.y rfl (Yld.shr rfl rfl (by omega)) ?_ | refine WL.y rfl (Yld.pure tab_ok rfl) ?_ | refine WL.y rfl (Yld.fld flds_ok rfl rfl rfl) ?_ | refine WL.y rfl (Yld.max2 rfl rfl) ?_ | refine WL.y rfl (Yld.min2 rfl rfl) ?_ | refine WL.y rfl (Yld.pickV rfl rfl rfl) ?_ | refine WL.gno rfl rfl rfl rfl ?_ | refine WL.gyes rfl rfl rfl rfl (Yld.add rfl rfl (by simp only [In]; omega)) ?_ | refine WL.gyes rfl rfl rfl rfl (Yld.sub rfl rfl (by simp only [In]; omega)) ?_ | refine WL.gyes rfl rfl rfl rfl (Yld.mul rfl rfl (by simp only [In]; omega)) ?_ | refine WL.gyes rfl rfl rfl rfl (Yld.convB tab_ok rfl rfl rfl rfl) ?_ | refine WL.gyes rfl rfl rfl rfl (Yld.conv tab_ok rfl rfl rfl (by simp only [In]; omega)) ?_ | refine WL.gyes rfl rfl rfl rfl (Yld.quo rfl rfl (by omega) (by omega) (by simp only [In]; omega)) ?_ | refine WL.gyes rfl rfl rfl rfl (Yld.rem rfl rfl (by omega) (by omega)) ?_ | refine WL.gyes rfl rfl rfl rfl (Yld.shl rfl rfl (by omega)) ?_ | refine WL.gyes rfl rfl rfl rfl (Yld.shr rfl rfl (by omega)) ?_ | refine WL.gyes rfl rfl rfl rfl (Yld.pure tab_ok rfl) ?_ | refine WL.gyes rfl rfl rfl rfl (Yld.fld flds_ok rfl rfl rfl) ?_ | refine WL.gyes rfl rfl rfl rfl (Yld.max2 rfl rfl) ?_ | refine WL.gyes rfl rfl rfl rfl (Yld.min2 rfl rfl) ?_ | refine WL.gyes rfl rfl rfl rfl (Yld.pickV rfl rfl rfl) ?_)
      refine WC.midF (fun L' w' => L' = [(0, .pointer (some ⟨gt, 0, none⟩)), (1, .pointer (some ⟨s.id, 0, none⟩)), (2, .int .i64 order), (6, .int .i64 (kk : Int)), (27, .int .i64 (s.fr.length : Int)), (28, .int .i64 (i : Int))] ∧ w5 = w') ?_ (fun hQ => ?_)
      · rintro _ _ ⟨rfl, rfl⟩
        refine WX.then_normal ?_
        refine WC.region ?_
        refine WL.y rfl (Yld.pure tab_ok rfl) ?_
        refine WL.y rfl (Yld.pure tab_ok rfl) ?_
        refine WL.y rfl (Yld.pure tab_ok rfl) ?_
        refine WL.y rfl (Yld.fa0 (o := 3) (by kernel_rfl) rfl) ?_
        refine WL.y rfl (Yld.bload tab_ok (hBx.g0 gr5) rfl rfl rfl) ?_
        refine WL.y rfl (Yld.pure tab_ok rfl) ?_
        refine WL.y rfl (Yld.iaddrW tab_ok (hRf.grown gr5) rfl rfl hfl.symm rfl (by omega) (by omega)) ?_
        rw [hq]
        refine WL.y rfl (Yld.to (v := .pointer (some ⟨f.id, 0, none⟩)) (Yld.iload vh0 tab_ok (hRf.grown gr5) rfl rfl hkf) hfv) ?_
        refine WL.y rfl (Yld.pure tab_ok rfl) ?_
        refine WL.call rfl rfl (ih f _ A5 c5 hs5 w5 (hdf f hfm) (.step hr hfm) hfn I5 (Nat.le_trans hle3.s hb1) (Nat.le_trans hle3.o hb2)) ?_
        rintro _ w6 ⟨rfl, A6, c6, hs6, I6⟩
        rw [← hstep] at I6
        repeat (first | refine WC.seq ?_ | refine WC.block ?_ | refine WC.region ?_ | refine WL.nil ?_ | refine WX.then_normal ?_ | refine WC.skip ?_ | refine WC.exit ?_ | refine WC.ret ?_ | refine WX.then_exit ?_ | refine WX.then_ret ?_ | refine WX.block_normal ?_ | refine WX.block_ret ?_ | refine WX.block_same ?_ | refine WX.block_other rfl ?_ | refine WC.label ?_ | refine WC.scope ?_ | refine WX.scope_normal ?_ | refine WX.scope_ret ?_ | refine WX.scope_exit ?_ | refine WL.y rfl (Yld.add rfl rfl (by simp only [In]; omega)) ?_ | refine WL.y rfl (Yld.sub rfl rfl (by simp only [In]; omega)) ?_ | refine WL.y rfl (Yld.mul rfl rfl (by simp only [In]; omega)) ?_ | refine WL.y rfl (Yld.convB tab_ok rfl rfl rfl rfl) ?_ | refine WL.y rfl (Yld.conv tab_ok rfl rfl rfl (by simp only [In]; omega)) ?_ | refine WL.y rfl (Yld.quo rfl rfl (by omega) (by omega) (by simp only [In]; omega)) ?_ | refine WL.y rfl (Yld.rem rfl rfl (by omega) (by omega)) ?_ | refine WL.y rfl (Yld.shl rfl rfl (by omega)) ?_ | refine WL.y rfl (Yld.shr rfl rfl (by omega)) ?_ | refine WL.y rfl (Yld.pure tab_ok rfl) ?_ | refine WL.y rfl (Yld.fld flds_ok rfl rfl rfl) ?_ | refine WL.y rfl (Yld.max2 rfl rfl) ?_ | refine WL.y rfl (Yld.min2 rfl rfl) ?_ | refine WL.y rfl (Yld.pickV rfl rfl rfl) ?_ | refine WL.gno rfl rfl rfl rfl ?_ | refine WL.gyes rfl rfl rfl rfl (Yld.add rfl rfl (by simp only [In]; omega)) ?_ | refine WL.gyes rfl rfl rfl rfl (Yld.sub rfl rfl (by simp only [In]; omega)) ?_ | refine WL.gyes rfl rfl rfl rfl (Yld.mul rfl rfl (by simp only [In]; omega)) ?_ | refine WL.gyes rfl rfl rfl rfl (Yld.convB tab_ok rfl rfl rfl rfl) ?_ | refine WL.gyes rfl rfl rfl rfl (Yld.conv tab_ok rfl rfl rfl (by simp only [In]; omega)) ?_ | refine WL.gyes rfl rfl rfl rfl (Yld.quo rfl rfl (by omega) (by omega) (by simp only [In]; omega)) ?_ | refine WL.gyes rfl rfl rfl rfl (Yld.rem rfl rfl (by omega) (by omega)) ?_ | refine WL.gyes rfl rfl rfl rfl (Yld.shl rfl rfl (by omega)) ?_ | refine WL.gyes rfl rfl rfl rfl (Yld.shr rfl rfl (by omega)) ?_ | refine WL.gyes rfl rfl rfl rfl (Yld.pure tab_ok rfl) ?_ | refine WL.gyes rfl rfl rfl rfl (Yld.fld flds_ok rfl rfl rfl) ?_ | refine WL.gyes rfl rfl rfl rfl (Yld.max2 rfl rfl) ?_ | refine WL.gyes rfl rfl rfl rfl (Yld.min2 rfl rfl) ?_ | refine WL.gyes rfl rfl rfl rfl (Yld.pickV rfl rfl rfl) ?_)
        exact WX.roundF _ ⟨i + 1, A6, c6, hs6, rfl, rfl, I6, by omega⟩ (by repeat (first | exact Sub.nil | refine Sub.cons rfl ?_)) (by omega)
      · refine WC.cond rfl (fun b4 => ?_) (fun b4 => ?_)
        · have b4 := of_decide_eq_true b4
          rw [if_pos b4] at hkk
          have ek : ((s.fr.length : Int) - 1 - (i : Int)) = (kk : Int) := by omega
          refine WC.region ?_
          refine WL.y rfl (Yld.pure tab_ok rfl) ?_
          refine WL.y rfl (Yld.pure tab_ok rfl) ?_
          refine WL.y rfl (Yld.fa0 (o := 3) (by kernel_rfl) rfl) ?_
          refine WL.y rfl (Yld.bload tab_ok (hBx.g0 gr5) rfl rfl rfl) ?_
          refine WL.y rfl (Yld.pure tab_ok rfl) ?_
          refine WL.y rfl (Yld.sub rfl rfl (by simp only [In]; omega)) ?_
          refine WL.y rfl (Yld.pure tab_ok rfl) ?_
          refine WL.y rfl (Yld.sub rfl rfl (by simp only [In]; omega)) ?_
          rw [ek]
          refine WL.y rfl (Yld.pure tab_ok rfl) ?_
          refine WL.nil ?_
          exact WX.weaken (by repeat (first | exact Sub.nil | refine Sub.cons rfl ?_)) (hQ _ _ ⟨rfl, rfl⟩)
        · have b4 := of_decide_eq_false b4
          rw [if_neg b4] at hkk
          subst hkk
          refine WC.skip ?_
          exact WX.weaken (by repeat (first | exact Sub.nil | refine Sub.cons rfl ?_)) (hQ _ _ ⟨rfl, rfl⟩)
    · have b3 := of_decide_eq_false b3
      obtain rfl : i = s.fr.length := by omega
      rw [← hll, List.take_length, ← hmid] at I5
      refine WC.exit ?_
      refine WX.then_exit ?_
      refine WX.then_exit ?_
      refine WX.block_same (WX.then_normal ?_)
      repeat refine WC.seq ?_
      refine WC.region ?_
      refine WL.y rfl (Yld.pure tab_ok rfl) ?_
      refine WL.y rfl (Yld.pure tab_ok rfl) ?_
      refine WL.nil (WX.then_normal ?_)
      refine WC.cond rfl (fun b4 => ?_) (fun b4 => ?_)
      · have b4 : order ≠ 1 := by simpa using b4
        have ep : postT order s (midT n order s (preT order s t)) = ownT (if decide (order = 3) then s.own.reverse else s.own) (midT n order s (preT order s t)) := by unfold postT; rw [if_neg b4]; simp
        rw [ep] at hb2 ⊢
        refine WC.region ?_
        refine WL.y rfl (Yld.pure tab_ok rfl) ?_
        refine WL.y rfl (Yld.pure tab_ok rfl) ?_
        refine WL.y rfl (Yld.pure tab_ok rfl) ?_
        refine WL.y rfl (Yld.pure tab_ok rfl) ?_
        refine WL.call rfl rfl (own_fn h0 hr hn (decide (order = 3)) I5 hb2) ?_
        rintro _ w6 ⟨rfl, A6, c6, hs6, I6⟩
        repeat (first | refine WC.seq ?_ | refine WC.block ?_ | refine WC.region ?_ | refine WL.nil ?_ | refine WX.then_normal ?_ | refine WC.skip ?_ | refine WC.exit ?_ | refine WC.ret ?_ | refine WX.then_exit ?_ | refine WX.then_ret ?_ | refine WX.block_normal ?_ | refine WX.block_ret ?_ | refine WX.block_same ?_ | refine WX.block_other rfl ?_ | refine WC.label ?_ | refine WC.scope ?_ | refine WX.scope_normal ?_ | refine WX.scope_ret ?_ | refine WX.scope_exit ?_ | refine WL.y rfl (Yld.add rfl rfl (by simp only [In]; omega)) ?_ | refine WL.y rfl (Yld.sub rfl rfl (by simp only [In]; omega)) ?_ | refine WL.y rfl (Yld.mul rfl rfl (by simp only [In]; omega)) ?_ | refine WL.y rfl (Yld.convB tab_ok rfl rfl rfl rfl) ?_ | refine WL.y rfl (Yld.conv tab_ok rfl rfl rfl (by simp only [In]; omega)) ?_ | refine WL.y rfl (Yld.quo rfl rfl (by omega) (by omega) (by simp only [In]; omega)) ?_ | refine WL.y rfl (Yld.rem rfl rfl (by omega) (by omega)) ?_ | refine WL.y rfl (Yld.shl rfl rfl (by omega)) ?_ | refine WL.y rfl (Yld.shr rfl rfl (by omega)) ?_ | refine WL.y rfl (Yld.pure tab_ok rfl) ?_ | refine WL.y rfl (Yld.fld flds_ok rfl rfl rfl) ?_ | refine WL.y rfl (Yld.max2 rfl rfl) ?_ | refine WL.y rfl (Yld.min2 rfl rfl) ?_ | refine WL.y rfl (Yld.pickV rfl rfl rfl) ?_ | refine WL.gno rfl rfl rfl rfl ?_ | refine WL.gyes rfl rfl rfl rfl (Yld.add rfl rfl (by simp only [In]; omega)) ?_ | refine WL.gyes rfl rfl rfl rfl (Yld.sub rfl rfl (by simp only [In]; omega)) ?_ | refine WL.gyes rfl rfl rfl rfl (Yld.mul rfl rfl (by simp only [In]; omega)) ?_ | refine WL.gyes rfl rfl rfl rfl (Yld.convB tab_ok rfl rfl rfl rfl) ?_ | refine WL.gyes rfl rfl rfl rfl (Yld.conv tab_ok rfl rfl rfl (by simp only [In]; omega)) ?_ | refine WL.gyes rfl rfl rfl rfl (Yld.quo rfl rfl (by omega) (by omega) (by simp only [In]; omega)) ?_ | refine WL.gyes rfl rfl rfl rfl (Yld.rem rfl rfl (by omega) (by omega)) ?_ | refine WL.gyes rfl rfl rfl rfl (Yld.shl rfl rfl (by omega)) ?_ | refine WL.gyes rfl rfl rfl rfl (Yld.shr rfl rfl (by omega)) ?_ | refine WL.gyes rfl rfl rfl rfl (Yld.pure tab_ok rfl) ?_ | refine WL.gyes rfl rfl rfl rfl (Yld.fld flds_ok rfl rfl rfl) ?_ | refine WL.gyes rfl rfl rfl rfl (Yld.max2 rfl rfl) ?_ | refine WL.gyes rfl rfl rfl rfl (Yld.min2 rfl rfl) ?_ | refine WL.gyes rfl rfl rfl rfl (Yld.pickV rfl rfl rfl) ?_)
        exact WX.end0 rfl ⟨rfl, A6, c6, hs6, I6⟩
      · have b4 : order = 1 := by simpa using b4
        have ep : postT order s (midT n order s (preT order s t)) = midT n order s (preT order s t) := by unfold postT; rw [if_pos b4]
        rw [ep]
        repeat (first | refine WC.seq ?_ | refine WC.block ?_ | refine WC.region ?_ | refine WL.nil ?_ | refine WX.then_normal ?_ | refine WC.skip ?_ | refine WC.exit ?_ | refine WC.ret ?_ | refine WX.then_exit ?_ | refine WX.then_ret ?_ | refine WX.block_normal ?_ | refine WX.block_ret ?_ | refine WX.block_same ?_ | refine WX.block_other rfl ?_ | refine WC.label ?_ | refine WC.scope ?_ | refine WX.scope_normal ?_ | refine WX.scope_ret ?_ | refine WX.scope_exit ?_ | refine WL.y rfl (Yld.add rfl rfl (by simp only [In]; omega)) ?_ | refine WL.y rfl (Yld.sub rfl rfl (by simp only [In]; omega)) ?_ | refine WL.y rfl (Yld.mul rfl rfl (by simp only [In]; omega)) ?_ | refine WL.y rfl (Yld.convB tab_ok rfl rfl rfl rfl) ?_ | refine WL.y rfl (Yld.conv tab_ok rfl rfl rfl (by simp only [In]; omega)) ?_ | refine WL.y rfl (Yld.quo rfl rfl (by omega) (by omega) (by simp only [In]; omega)) ?_ | refine WL.y rfl (Yld.rem rfl rfl (by omega) (by omega)) ?_ | refine WL.y rfl (Yld.shl rfl rfl (by omega)) ?_ | refine WL.y rfl (Yld.shr rfl rfl (by omega)) ?_ | refine WL.y rfl (Yld.pure tab_ok rfl) ?_ | refine WL.y rfl (Yld.fld flds_ok rfl rfl rfl) ?_ | refine WL.y rfl (Yld.max2 rfl rfl) ?_ | refine WL.y rfl (Yld.min2 rfl rfl) ?_ | refine WL.y rfl (Yld.pickV rfl rfl rfl) ?_ | refine WL.gno rfl rfl rfl rfl ?_ | refine WL.gyes rfl rfl rfl rfl (Yld.add rfl rfl (by simp only [In]; omega)) ?_ | refine WL.gyes rfl rfl rfl rfl (Yld.sub rfl rfl (by simp only [In]; omega)) ?_ | refine WL.gyes rfl rfl rfl rfl (Yld.mul rfl rfl (by simp only [In]; omega)) ?_ | refine WL.gyes rfl rfl rfl rfl (Yld.convB tab_ok rfl rfl rfl rfl) ?_ | refine WL.gyes rfl rfl rfl rfl (Yld.conv tab_ok rfl rfl rfl (by simp only [In]; omega)) ?_ | refine WL.gyes rfl rfl rfl rfl (Yld.quo rfl rfl (by omega) (by omega) (by simp only [In]; omega)) ?_ | refine WL.gyes rfl rfl rfl rfl (Yld.rem rfl rfl (by omega) (by omega)) ?_ | refine WL.gyes rfl rfl rfl rfl (Yld.shl rfl rfl (by omega)) ?_ | refine WL.gyes rfl rfl rfl rfl (Yld.shr rfl rfl (by omega)) ?_ | refine WL.gyes rfl rfl rfl rfl (Yld.pure tab_ok rfl) ?_ | refine WL.gyes rfl rfl rfl rfl (Yld.fld flds_ok rfl rfl rfl) ?_ | refine WL.gyes rfl rfl rfl rfl (Yld.max2 rfl rfl) ?_ | refine WL.gyes rfl rfl rfl rfl (Yld.min2 rfl rfl) ?_ | refine WL.gyes rfl rfl rfl rfl (Yld.pickV rfl rfl rfl) ?_)
        exact WX.end0 rfl ⟨rfl, A5, c5, hs5, I5⟩
theorem SRn.dep {w : World} {F : Nat → Prop} : ∀ {n : Nat} {v : Value} {s : PS}, SRn n w F v s → s ≠ .nil → dep n s
  | n, v, .nil, _, hn => absurd rfl hn
  | 0, v, .mk .., h, _ => h.elim
  | n + 1, v, .mk .., h, _ => by
    obtain ⟨h1, h2, Ao, co, Ak, ck, Af, cf, ho, hf, hB, o1, o2, o3, o4, k1, k2, f1, f2, f3, f4⟩ := h
    intro f hf
    obtain ⟨j, hj, rfl⟩ := List.getElem_of_mem hf
    have := f4 j _ _ (List.getElem?_eq_getElem (by rw [f2]; exact hj)) (List.getElem?_eq_getElem hj)
    exact SRn.dep this.2 this.1
set_option maxHeartbeats 4000000 in
theorem W_pdeps_Set_All {S : List Nat} {w : World} {v_s : OV} {F_s : Nat → Prop} {s : PS} {K : List PV → Er → Prop} (hG : GOK S w) (hS7 : 7 ∈ S) (hs : RelD deS w [(v_s, F_s)] [s]) (H : M_pdeps_Set_All s K) : Fn Tryd.prog 11 ⟨[v_s.1]⟩ w
    (fun v w' => w.grownBy w' none ∧ ∃ (r0 : List PV), ∃ (A_r0 : Option Addr), ∃ (c_r0 : Nat), ∃ (hs_r0 : List VH), ∃ (v_r1 : Value), ∃ (r1 : Er), v = .tuple #[.slice A_r0 r0.length c_r0, v_r1] ∧ Own vv w' w.heap.size 41 A_r0 c_r0 hs_r0 ∧ RelD deV w' hs_r0 r0 ∧ (∀ p : Option Nat, Lt p w.heap.size → DnD deS [(v_s, F_s)] [s] p → DnD deV hs_r0 r0 p) ∧ DnD deV hs_r0 r0 (blk A_r0) ∧ ErrR S w' v_r1 r1 ∧ K r0 r1) := by
  obtain ⟨hne, hK⟩ := H
  have hv : v_s.1 = .pointer (some ⟨s.id, 0, none⟩) := by
    obtain ⟨⟨n, h⟩, _⟩ := hs.one
    rw [h.ptr]
    cases s with
    | nil => exact absurd rfl hne
    | mk => rfl
  have hF := hs.one.2
  obtain ⟨n, hdp⟩ : ∃ n, dep n s := by
    obtain ⟨⟨n, h⟩, _⟩ := hs.one
    exact ⟨n, h.dep hne⟩
  obtain ⟨hb1, hb2, hK⟩ := hK n hdp
  obtain ⟨Ao, co, Ak, ck, Af, cf, ho, hf, hBx, _⟩ := SR.out2 (relS hs .refl hne) hne
  rw [hv]
  refine Fn.enter (by kernel_rfl) Tryd.func11 rfl Tryd.ntmps11 rfl ?_
  repeat (first | refine WC.seq ?_ | refine WC.block ?_ | refine WC.region ?_ | refine WL.nil ?_ | refine WX.then_normal ?_ | refine WC.skip ?_ | refine WC.exit ?_ | refine WC.ret ?_ | refine WX.then_exit ?_ | refine WX.then_ret ?_ | refine WX.block_normal ?_ | refine WX.block_ret ?_ | refine WX.block_same ?_ | refine WX.block_other rfl ?_ | refine WC.label ?_ | refine WC.scope ?_ | refine WX.scope_normal ?_ | refine WX.scope_ret ?_ | refine WX.scope_exit ?_ | refine WL.y rfl (Yld.add rfl rfl (by simp only [In]; omega)) ?_ | refine WL.y rfl (Yld.sub rfl rfl (by simp only [In]; omega)) ?_ | refine WL.y rfl (Yld.mul rfl rfl (by simp only [In]; omega)) ?_ | refine WL.y rfl (Yld.convB tab_ok rfl rfl rfl rfl) ?_ | refine WL.y rfl (Yld.conv tab_ok rfl rfl rfl (by simp only [In]; omega)) ?_ | refine WL.y rfl (Yld.quo rfl rfl (by omega) (by omega) (by simp only [In]; omega)) ?_ | refine WL.y rfl (Yld.rem rfl rfl (by omega) (by omega)) ?_ | refine WL.y rfl (Yld.shl rfl rfl (by omega)) ?_ | refine WL.y rfl (Yld.shr rfl rfl (by omega)) ?_ | refine WL.y rfl (Yld.pure tab_ok rfl) ?_ | refine WL.y rfl (Yld.fld flds_ok rfl rfl rfl) ?_ | refine WL.y rfl (Yld.max2 rfl rfl) ?_ | refine WL.y rfl (Yld.min2 rfl rfl) ?_ | refine WL.y rfl (Yld.pickV rfl rfl rfl) ?_ | refine WL.gno rfl rfl rfl rfl ?_ | refine WL.gyes rfl rfl rfl rfl (Yld.add rfl rfl (by simp only [In]; omega)) ?_ | refine WL.gyes rfl rfl rfl rfl (Yld.sub rfl rfl (by simp only [In]; omega)) ?_ | refine WL.gyes rfl rfl rfl rfl (Yld.mul rfl rfl (by simp only [In]; omega)) ?_ | refine WL.gyes rfl rfl rfl rfl (Yld.convB tab_ok rfl rfl rfl rfl) ?_ | refine WL.gyes rfl rfl rfl rfl (Yld.conv tab_ok rfl rfl rfl (by simp only [In]; omega)) ?_ | refine WL.gyes rfl rfl rfl rfl (Yld.quo rfl rfl (by omega) (by omega) (by simp only [In]; omega)) ?_ | refine WL.gyes rfl rfl rfl rfl (Yld.rem rfl rfl (by omega) (by omega)) ?_ | refine WL.gyes rfl rfl rfl rfl (Yld.shl rfl rfl (by omega)) ?_ | refine WL.gyes rfl rfl rfl rfl (Yld.shr rfl rfl (by omega)) ?_ | refine WL.gyes rfl rfl rfl rfl (Yld.pure tab_ok rfl) ?_ | refine WL.gyes rfl rfl rfl rfl (Yld.fld flds_ok rfl rfl rfl) ?_ | refine WL.gyes rfl rfl rfl rfl (Yld.max2 rfl rfl) ?_ | refine WL.gyes rfl rfl rfl rfl (Yld.min2 rfl rfl) ?_ | refine WL.gyes rfl rfl rfl rfl (Yld.pickV rfl rfl rfl) ?_)
  refine WL.putw wants_none rfl (Eff.makeMap vp (okR s) vB) ?_
  rintro _ w1 ⟨rfl, hM1, hg1⟩
  refine WL.putw wants_none rfl (Eff.makeMap vs okS vB) ?_
  rintro _ w2 ⟨rfl, hM2, hg2⟩
  obtain ⟨gk, hgk⟩ : ∃ g, g = w1.heap.size := ⟨_, rfl⟩
  rw [← hgk] at hM2
  rw [← hgk]
  refine WL.y rfl (Yld.struct (us := [.map (some w.heap.size), .map (some gk), .slice none 0 0]) (vs := [(0, .map (some w.heap.size)), (1, .map (some gk))]) zero78 places78 rfl rfl) ?_
  refine WL.box (us := [.map (some w.heap.size), .map (some gk), .slice none 0 0]) rfl rfl rfl (fun gt w3 hB hg3 hl3 => ?_)
  have hM1' := (hM1.g0 hg2).g0 hg3
  have hM2' := hM2.g0 hg3
  have q1 := hM1.lt
  have q2 := hM2.lt
  have q3 := hg1.size
  have q4 := hg2.size
  have gr3 := gr_trans (gr_trans hg1 hg2) hg3
  have I0 : TI w F_s s gt w.heap.size gk w3 ts0 none 0 [] := ⟨gr3, hB, Own.nil _ _ _ _, RelD.nil, fun h hh => by simp at hh, hM1', hM2', by omega, Nat.le_refl _, by omega, by omega, by omega, by omega, by simp [blk], by simp [blk], by simp [blk], rfl⟩
  refine WL.y rfl (Yld.pure tab_ok rfl) ?_
  refine WL.nil ?_
  repeat (first | refine WL.y rfl (Yld.bload tab_ok (hBx.g0 gr3) rfl rfl rfl) ?_ | refine WL.y rfl (Yld.fa0 (o := 0) (by kernel_rfl) rfl) ?_ | refine WC.seq ?_ | refine WC.block ?_ | refine WC.region ?_ | refine WL.nil ?_ | refine WX.then_normal ?_ | refine WC.skip ?_ | refine WC.exit ?_ | refine WC.ret ?_ | refine WX.then_exit ?_ | refine WX.then_ret ?_ | refine WX.block_normal ?_ | refine WX.block_ret ?_ | refine WX.block_same ?_ | refine WX.block_other rfl ?_ | refine WC.label ?_ | refine WC.scope ?_ | refine WX.scope_normal ?_ | refine WX.scope_ret ?_ | refine WX.scope_exit ?_ | refine WL.y rfl (Yld.add rfl rfl (by simp only [In]; omega)) ?_ | refine WL.y rfl (Yld.sub rfl rfl (by simp only [In]; omega)) ?_ | refine WL.y rfl (Yld.mul rfl rfl (by simp only [In]; omega)) ?_ | refine WL.y rfl (Yld.convB tab_ok rfl rfl rfl rfl) ?_ | refine WL.y rfl (Yld.conv tab_ok rfl rfl rfl (by simp only [In]; omega)) ?_ | refine WL.y rfl (Yld.quo rfl rfl (by omega) (by omega) (by simp only [In]; omega)) ?_ | refine WL.y rfl (Yld.rem rfl rfl (by omega) (by omega)) ?_ | refine WL.y rfl (Yld.shl rfl rfl (by omega)) ?_ | refine WL.y rfl (Yld.shr rfl rfl (by omega)) ?_ | refine WL.y rfl (Yld.pure tab_ok rfl) ?_ | refine WL.y rfl (Yld.fld flds_ok rfl rfl rfl) ?_ | refine WL.y rfl (Yld.max2 rfl rfl) ?_ | refine WL.y rfl (Yld.min2 rfl rfl) ?_ | refine WL.y rfl (Yld.pickV rfl rfl rfl) ?_ | refine WL.gno rfl rfl rfl rfl ?_ | refine WL.gyes rfl rfl rfl rfl (Yld.add rfl rfl (by simp only [In]; omega)) ?_ | refine WL.gyes rfl rfl rfl rfl (Yld.sub rfl rfl (by simp only [In]; omega)) ?_ | refine WL.gyes rfl rfl rfl rfl (Yld.mul rfl rfl (by simp only [In]; omega)) ?_ | refine WL.gyes rfl rfl rfl rfl (Yld.convB tab_ok rfl rfl rfl rfl) ?_ | refine WL.gyes rfl rfl rfl rfl (Yld.conv tab_ok rfl rfl rfl (by simp only [In]; omega)) ?_ | refine WL.gyes rfl rfl rfl rfl (Yld.quo rfl rfl (by omega) (by omega) (by simp only [In]; omega)) ?_ | refine WL.gyes rfl rfl rfl rfl (Yld.rem rfl rfl (by omega) (by omega)) ?_ | refine WL.gyes rfl rfl rfl rfl (Yld.shl rfl rfl (by omega)) ?_ | refine WL.gyes rfl rfl rfl rfl (Yld.shr rfl rfl (by omega)) ?_ | refine WL.gyes rfl rfl rfl rfl (Yld.pure tab_ok rfl) ?_ | refine WL.gyes rfl rfl rfl rfl (Yld.fld flds_ok rfl rfl rfl) ?_ | refine WL.gyes rfl rfl rfl rfl (Yld.max2 rfl rfl) ?_ | refine WL.gyes rfl rfl rfl rfl (Yld.min2 rfl rfl) ?_ | refine WL.gyes rfl rfl rfl rfl (Yld.pickV rfl rfl rfl) ?_)
  refine WL.call rfl rfl (set_fn hs s.order n s ts0 none 0 [] w3 hdp .refl hne I0 hb1 hb2) ?_
  rintro _ w4 ⟨rfl, A, c, hd, I⟩
  have hbx := I.box
  repeat (first | refine WL.y rfl (Yld.bload tab_ok hbx rfl rfl rfl) ?_ | refine WC.seq ?_ | refine WC.block ?_ | refine WC.region ?_ | refine WL.nil ?_ | refine WX.then_normal ?_ | refine WC.skip ?_ | refine WC.exit ?_ | refine WC.ret ?_ | refine WX.then_exit ?_ | refine WX.then_ret ?_ | refine WX.block_normal ?_ | refine WX.block_ret ?_ | refine WX.block_same ?_ | refine WX.block_other rfl ?_ | refine WC.label ?_ | refine WC.scope ?_ | refine WX.scope_normal ?_ | refine WX.scope_ret ?_ | refine WX.scope_exit ?_ | refine WL.y rfl (Yld.add rfl rfl (by simp only [In]; omega)) ?_ | refine WL.y rfl (Yld.sub rfl rfl (by simp only [In]; omega)) ?_ | refine WL.y rfl (Yld.mul rfl rfl (by simp only [In]; omega)) ?_ | refine WL.y rfl (Yld.convB tab_ok rfl rfl rfl rfl) ?_ | refine WL.y rfl (Yld.conv tab_ok rfl rfl rfl (by simp only [In]; omega)) ?_ | refine WL.y rfl (Yld.quo rfl rfl (by omega) (by omega) (by simp only [In]; omega)) ?_ | refine WL.y rfl (Yld.rem rfl rfl (by omega) (by omega)) ?_ | refine WL.y rfl (Yld.shl rfl rfl (by omega)) ?_ | refine WL.y rfl (Yld.shr rfl rfl (by omega)) ?_ | refine WL.y rfl (Yld.pure tab_ok rfl) ?_ | refine WL.y rfl (Yld.fld flds_ok rfl rfl rfl) ?_ | refine WL.y rfl (Yld.max2 rfl rfl) ?_ | refine WL.y rfl (Yld.min2 rfl rfl) ?_ | refine WL.y rfl (Yld.pickV rfl rfl rfl) ?_ | refine WL.gno rfl rfl rfl rfl ?_ | refine WL.gyes rfl rfl rfl rfl (Yld.add rfl rfl (by simp only [In]; omega)) ?_ | refine WL.gyes rfl rfl rfl rfl (Yld.sub rfl rfl (by simp only [In]; omega)) ?_ | refine WL.gyes rfl rfl rfl rfl (Yld.mul rfl rfl (by simp only [In]; omega)) ?_ | refine WL.gyes rfl rfl rfl rfl (Yld.convB tab_ok rfl rfl rfl rfl) ?_ | refine WL.gyes rfl rfl rfl rfl (Yld.conv tab_ok rfl rfl rfl (by simp only [In]; omega)) ?_ | refine WL.gyes rfl rfl rfl rfl (Yld.quo rfl rfl (by omega) (by omega) (by simp only [In]; omega)) ?_ | refine WL.gyes rfl rfl rfl rfl (Yld.rem rfl rfl (by omega) (by omega)) ?_ | refine WL.gyes rfl rfl rfl rfl (Yld.shl rfl rfl (by omega)) ?_ | refine WL.gyes rfl rfl rfl rfl (Yld.shr rfl rfl (by omega)) ?_ | refine WL.gyes rfl rfl rfl rfl (Yld.pure tab_ok rfl) ?_ | refine WL.gyes rfl rfl rfl rfl (Yld.fld flds_ok rfl rfl rfl) ?_ | refine WL.gyes rfl rfl rfl rfl (Yld.max2 rfl rfl) ?_ | refine WL.gyes rfl rfl rfl rfl (Yld.min2 rfl rfl) ?_ | refine WL.gyes rfl rfl rfl rfl (Yld.pickV rfl rfl rfl) ?_)
  refine WC.cond rfl (fun b1 => ?_) (fun b1 => ?_)
  · exact absurd (of_decide_eq_true b1) (by omega)
  have dnp : ∀ p, DnD deS [(v_s, F_s)] [s] p → ∀ (hs' : List VH) (xs : List PV), (∀ h ∈ hs', h.2 = F_s) → DnD deV hs' xs p := fun p hp hs' xs hh i h x hi hx g e hg => by
    rw [hh h (List.mem_of_getElem? hi)] at hg
    exact hp.one g e hg
  have dnA : ∀ A, (∀ g, blk A = some g → w.heap.size ≤ g) → ∀ (hs' : List VH) (xs : List PV), (∀ h ∈ hs', h.2 = F_s) → DnD deV hs' xs (blk A) := fun A hA hs' xs hh i h x hi hx g e hg => by
    rw [hh h (List.mem_of_getElem? hi)] at hg
    have := hF g hg
    have := hA g e
    omega
  have gr4 := I.gr
  repeat (first | refine WL.y rfl (Yld.bload tab_ok (hBx.g0 gr4) rfl rfl rfl) ?_ | refine WL.y rfl (Yld.fa0 (o := 0) (by kernel_rfl) rfl) ?_ | refine WC.seq ?_ | refine WC.block ?_ | refine WC.region ?_ | refine WL.nil ?_ | refine WX.then_normal ?_ | refine WC.skip ?_ | refine WC.exit ?_ | refine WC.ret ?_ | refine WX.then_exit ?_ | refine WX.then_ret ?_ | refine WX.block_normal ?_ | refine WX.block_ret ?_ | refine WX.block_same ?_ | refine WX.block_other rfl ?_ | refine WC.label ?_ | refine WC.scope ?_ | refine WX.scope_normal ?_ | refine WX.scope_ret ?_ | refine WX.scope_exit ?_ | refine WL.y rfl (Yld.add rfl rfl (by simp only [In]; omega)) ?_ | refine WL.y rfl (Yld.sub rfl rfl (by simp only [In]; omega)) ?_ | refine WL.y rfl (Yld.mul rfl rfl (by simp only [In]; omega)) ?_ | refine WL.y rfl (Yld.convB tab_ok rfl rfl rfl rfl) ?_ | refine WL.y rfl (Yld.conv tab_ok rfl rfl rfl (by simp only [In]; omega)) ?_ | refine WL.y rfl (Yld.quo rfl rfl (by omega) (by omega) (by simp only [In]; omega)) ?_ | refine WL.y rfl (Yld.rem rfl rfl (by omega) (by omega)) ?_ | refine WL.y rfl (Yld.shl rfl rfl (by omega)) ?_ | refine WL.y rfl (Yld.shr rfl rfl (by omega)) ?_ | refine WL.y rfl (Yld.pure tab_ok rfl) ?_ | refine WL.y rfl (Yld.fld flds_ok rfl rfl rfl) ?_ | refine WL.y rfl (Yld.max2 rfl rfl) ?_ | refine WL.y rfl (Yld.min2 rfl rfl) ?_ | refine WL.y rfl (Yld.pickV rfl rfl rfl) ?_ | refine WL.gno rfl rfl rfl rfl ?_ | refine WL.gyes rfl rfl rfl rfl (Yld.add rfl rfl (by simp only [In]; omega)) ?_ | refine WL.gyes rfl rfl rfl rfl (Yld.sub rfl rfl (by simp only [In]; omega)) ?_ | refine WL.gyes rfl rfl rfl rfl (Yld.mul rfl rfl (by simp only [In]; omega)) ?_ | refine WL.gyes rfl rfl rfl rfl (Yld.convB tab_ok rfl rfl rfl rfl) ?_ | refine WL.gyes rfl rfl rfl rfl (Yld.conv tab_ok rfl rfl rfl (by simp only [In]; omega)) ?_ | refine WL.gyes rfl rfl rfl rfl (Yld.quo rfl rfl (by omega) (by omega) (by simp only [In]; omega)) ?_ | refine WL.gyes rfl rfl rfl rfl (Yld.rem rfl rfl (by omega) (by omega)) ?_ | refine WL.gyes rfl rfl rfl rfl (Yld.shl rfl rfl (by omega)) ?_ | refine WL.gyes rfl rfl rfl rfl (Yld.shr rfl rfl (by omega)) ?_ | refine WL.gyes rfl rfl rfl rfl (Yld.pure tab_ok rfl) ?_ | refine WL.gyes rfl rfl rfl rfl (Yld.fld flds_ok rfl rfl rfl) ?_ | refine WL.gyes rfl rfl rfl rfl (Yld.max2 rfl rfl) ?_ | refine WL.gyes rfl rfl rfl rfl (Yld.min2 rfl rfl) ?_ | refine WL.gyes rfl rfl rfl rfl (Yld.pickV rfl rfl rfl) ?_)
  refine WC.cond rfl (fun b2 => ?_) (fun b2 => ?_)
  · have b2 := of_decide_eq_true b2
    have ea : allN n s = (tellN n s.order s ts0).out.reverse := by unfold allN; rw [if_pos b2]
    rw [ea] at hK
    have hlen := I.rel.1
    repeat (first | refine WL.y rfl (Yld.bload tab_ok hbx rfl rfl rfl) ?_ | refine WC.seq ?_ | refine WC.block ?_ | refine WC.region ?_ | refine WL.nil ?_ | refine WX.then_normal ?_ | refine WC.skip ?_ | refine WC.exit ?_ | refine WC.ret ?_ | refine WX.then_exit ?_ | refine WX.then_ret ?_ | refine WX.block_normal ?_ | refine WX.block_ret ?_ | refine WX.block_same ?_ | refine WX.block_other rfl ?_ | refine WC.label ?_ | refine WC.scope ?_ | refine WX.scope_normal ?_ | refine WX.scope_ret ?_ | refine WX.scope_exit ?_ | refine WL.y rfl (Yld.add rfl rfl (by simp only [In]; omega)) ?_ | refine WL.y rfl (Yld.sub rfl rfl (by simp only [In]; omega)) ?_ | refine WL.y rfl (Yld.mul rfl rfl (by simp only [In]; omega)) ?_ | refine WL.y rfl (Yld.convB tab_ok rfl rfl rfl rfl) ?_ | refine WL.y rfl (Yld.conv tab_ok rfl rfl rfl (by simp only [In]; omega)) ?_ | refine WL.y rfl (Yld.quo rfl rfl (by omega) (by omega) (by simp only [In]; omega)) ?_ | refine WL.y rfl (Yld.rem rfl rfl (by omega) (by omega)) ?_ | refine WL.y rfl (Yld.shl rfl rfl (by omega)) ?_ | refine WL.y rfl (Yld.shr rfl rfl (by omega)) ?_ | refine WL.y rfl (Yld.pure tab_ok rfl) ?_ | refine WL.y rfl (Yld.fld flds_ok rfl rfl rfl) ?_ | refine WL.y rfl (Yld.max2 rfl rfl) ?_ | refine WL.y rfl (Yld.min2 rfl rfl) ?_ | refine WL.y rfl (Yld.pickV rfl rfl rfl) ?_ | refine WL.gno rfl rfl rfl rfl ?_ | refine WL.gyes rfl rfl rfl rfl (Yld.add rfl rfl (by simp only [In]; omega)) ?_ | refine WL.gyes rfl rfl rfl rfl (Yld.sub rfl rfl (by simp only [In]; omega)) ?_ | refine WL.gyes rfl rfl rfl rfl (Yld.mul rfl rfl (by simp only [In]; omega)) ?_ | refine WL.gyes rfl rfl rfl rfl (Yld.convB tab_ok rfl rfl rfl rfl) ?_ | refine WL.gyes rfl rfl rfl rfl (Yld.conv tab_ok rfl rfl rfl (by simp only [In]; omega)) ?_ | refine WL.gyes rfl rfl rfl rfl (Yld.quo rfl rfl (by omega) (by omega) (by simp only [In]; omega)) ?_ | refine WL.gyes rfl rfl rfl rfl (Yld.rem rfl rfl (by omega) (by omega)) ?_ | refine WL.gyes rfl rfl rfl rfl (Yld.shl rfl rfl (by omega)) ?_ | refine WL.gyes rfl rfl rfl rfl (Yld.shr rfl rfl (by omega)) ?_ | refine WL.gyes rfl rfl rfl rfl (Yld.pure tab_ok rfl) ?_ | refine WL.gyes rfl rfl rfl rfl (Yld.fld flds_ok rfl rfl rfl) ?_ | refine WL.gyes rfl rfl rfl rfl (Yld.max2 rfl rfl) ?_ | refine WL.gyes rfl rfl rfl rfl (Yld.min2 rfl rfl) ?_ | refine WL.gyes rfl rfl rfl rfl (Yld.pickV rfl rfl rfl) ?_)
    have hrev := reverse_fnV A c w.heap.size hd w4 I.own
    rw [hlen] at hrev
    refine WL.call rfl rfl hrev ?_
    rintro _ w5 ⟨rfl, hO5, hg5⟩
    have gr5 : w.grownBy w5 none := gr_mod gr4 hg5 I.own.ge'
    have hb5 := hbx.go hg5 (dj_l I.d4).symm
    repeat (first | refine WL.y rfl (Yld.bload tab_ok hb5 rfl rfl rfl) ?_ | refine WC.seq ?_ | refine WC.block ?_ | refine WC.region ?_ | refine WL.nil ?_ | refine WX.then_normal ?_ | refine WC.skip ?_ | refine WC.exit ?_ | refine WC.ret ?_ | refine WX.then_exit ?_ | refine WX.then_ret ?_ | refine WX.block_normal ?_ | refine WX.block_ret ?_ | refine WX.block_same ?_ | refine WX.block_other rfl ?_ | refine WC.label ?_ | refine WC.scope ?_ | refine WX.scope_normal ?_ | refine WX.scope_ret ?_ | refine WX.scope_exit ?_ | refine WL.y rfl (Yld.add rfl rfl (by simp only [In]; omega)) ?_ | refine WL.y rfl (Yld.sub rfl rfl (by simp only [In]; omega)) ?_ | refine WL.y rfl (Yld.mul rfl rfl (by simp only [In]; omega)) ?_ | refine WL.y rfl (Yld.convB tab_ok rfl rfl rfl rfl) ?_ | refine WL.y rfl (Yld.conv tab_ok rfl rfl rfl (by simp only [In]; omega)) ?_ | refine WL.y rfl (Yld.quo rfl rfl (by omega) (by omega) (by simp only [In]; omega)) ?_ | refine WL.y rfl (Yld.rem rfl rfl (by omega) (by omega)) ?_ | refine WL.y rfl (Yld.shl rfl rfl (by omega)) ?_ | refine WL.y rfl (Yld.shr rfl rfl (by omega)) ?_ | refine WL.y rfl (Yld.pure tab_ok rfl) ?_ | refine WL.y rfl (Yld.fld flds_ok rfl rfl rfl) ?_ | refine WL.y rfl (Yld.max2 rfl rfl) ?_ | refine WL.y rfl (Yld.min2 rfl rfl) ?_ | refine WL.y rfl (Yld.pickV rfl rfl rfl) ?_ | refine WL.gno rfl rfl rfl rfl ?_ | refine WL.gyes rfl rfl rfl rfl (Yld.add rfl rfl (by simp only [In]; omega)) ?_ | refine WL.gyes rfl rfl rfl rfl (Yld.sub rfl rfl (by simp only [In]; omega)) ?_ | refine WL.gyes rfl rfl rfl rfl (Yld.mul rfl rfl (by simp only [In]; omega)) ?_ | refine WL.gyes rfl rfl rfl rfl (Yld.convB tab_ok rfl rfl rfl rfl) ?_ | refine WL.gyes rfl rfl rfl rfl (Yld.conv tab_ok rfl rfl rfl (by simp only [In]; omega)) ?_ | refine WL.gyes rfl rfl rfl rfl (Yld.quo rfl rfl (by omega) (by omega) (by simp only [In]; omega)) ?_ | refine WL.gyes rfl rfl rfl rfl (Yld.rem rfl rfl (by omega) (by omega)) ?_ | refine WL.gyes rfl rfl rfl rfl (Yld.shl rfl rfl (by omega)) ?_ | refine WL.gyes rfl rfl rfl rfl (Yld.shr rfl rfl (by omega)) ?_ | refine WL.gyes rfl rfl rfl rfl (Yld.pure tab_ok rfl) ?_ | refine WL.gyes rfl rfl rfl rfl (Yld.fld flds_ok rfl rfl rfl) ?_ | refine WL.gyes rfl rfl rfl rfl (Yld.max2 rfl rfl) ?_ | refine WL.gyes rfl rfl rfl rfl (Yld.min2 rfl rfl) ?_ | refine WL.gyes rfl rfl rfl rfl (Yld.pickV rfl rfl rfl) ?_)
    have hrel : RelD deV w hd.reverse (tellN n s.order s ts0).out.reverse := ⟨by simp [hlen], fun i h x hh hx => by
      have hi := (List.getElem?_eq_some_iff.1 hh).1
      rw [List.length_reverse] at hi
      rw [List.getElem?_reverse (by omega)] at hh
      rw [List.getElem?_reverse (by omega), ← hlen] at hx
      exact I.rel.2 _ h x hh hx⟩
    refine WX.ret2 rfl rfl rfl ⟨gr5, (tellN n s.order s ts0).out.reverse, A, c, hd.reverse, .nilIface, .ok, by rw [List.length_reverse], hO5, hrel.grown gr5, fun p hp hq => dnp p hq _ _ fun h hh => I.hd h (by simpa using hh), dnA A I.own.ge' _ _ fun h hh => I.hd h (by simpa using hh), rfl, hK⟩
  · have b2 := of_decide_eq_false b2
    have ea : allN n s = (tellN n s.order s ts0).out := by unfold allN; rw [if_neg b2]
    rw [ea] at hK
    repeat (first | refine WL.y rfl (Yld.bload tab_ok hbx rfl rfl rfl) ?_ | refine WC.seq ?_ | refine WC.block ?_ | refine WC.region ?_ | refine WL.nil ?_ | refine WX.then_normal ?_ | refine WC.skip ?_ | refine WC.exit ?_ | refine WC.ret ?_ | refine WX.then_exit ?_ | refine WX.then_ret ?_ | refine WX.block_normal ?_ | refine WX.block_ret ?_ | refine WX.block_same ?_ | refine WX.block_other rfl ?_ | refine WC.label ?_ | refine WC.scope ?_ | refine WX.scope_normal ?_ | refine WX.scope_ret ?_ | refine WX.scope_exit ?_ | refine WL.y rfl (Yld.add rfl rfl (by simp only [In]; omega)) ?_ | refine WL.y rfl (Yld.sub rfl rfl (by simp only [In]; omega)) ?_ | refine WL.y rfl (Yld.mul rfl rfl (by simp only [In]; omega)) ?_ | refine WL.y rfl (Yld.convB tab_ok rfl rfl rfl rfl) ?_ | refine WL.y rfl (Yld.conv tab_ok rfl rfl rfl (by simp only [In]; omega)) ?_ | refine WL.y rfl (Yld.quo rfl rfl (by omega) (by omega) (by simp only [In]; omega)) ?_ | refine WL.y rfl (Yld.rem rfl rfl (by omega) (by omega)) ?_ | refine WL.y rfl (Yld.shl rfl rfl (by omega)) ?_ | refine WL.y rfl (Yld.shr rfl rfl (by omega)) ?_ | refine WL.y rfl (Yld.pure tab_ok rfl) ?_ | refine WL.y rfl (Yld.fld flds_ok rfl rfl rfl) ?_ | refine WL.y rfl (Yld.max2 rfl rfl) ?_ | refine WL.y rfl (Yld.min2 rfl rfl) ?_ | refine WL.y rfl (Yld.pickV rfl rfl rfl) ?_ | refine WL.gno rfl rfl rfl rfl ?_ | refine WL.gyes rfl rfl rfl rfl (Yld.add rfl rfl (by simp only [In]; omega)) ?_ | refine WL.gyes rfl rfl rfl rfl (Yld.sub rfl rfl (by simp only [In]; omega)) ?_ | refine WL.gyes rfl rfl rfl rfl (Yld.mul rfl rfl (by simp only [In]; omega)) ?_ | refine WL.gyes rfl rfl rfl rfl (Yld.convB tab_ok rfl rfl rfl rfl) ?_ | refine WL.gyes rfl rfl rfl rfl (Yld.conv tab_ok rfl rfl rfl (by simp only [In]; omega)) ?_ | refine WL.gyes rfl rfl rfl rfl (Yld.quo rfl rfl (by omega) (by omega) (by simp only [In]; omega)) ?_ | refine WL.gyes rfl rfl rfl rfl (Yld.rem rfl rfl (by omega) (by omega)) ?_ | refine WL.gyes rfl rfl rfl rfl (Yld.shl rfl rfl (by omega)) ?_ | refine WL.gyes rfl rfl rfl rfl (Yld.shr rfl rfl (by omega)) ?_ | refine WL.gyes rfl rfl rfl rfl (Yld.pure tab_ok rfl) ?_ | refine WL.gyes rfl rfl rfl rfl (Yld.fld flds_ok rfl rfl rfl) ?_ | refine WL.gyes rfl rfl rfl rfl (Yld.max2 rfl rfl) ?_ | refine WL.gyes rfl rfl rfl rfl (Yld.min2 rfl rfl) ?_ | refine WL.gyes rfl rfl rfl rfl (Yld.pickV rfl rfl rfl) ?_)
    exact WX.ret2 rfl rfl rfl ⟨gr4, (tellN n s.order s ts0).out, A, c, hd, .nilIface, .ok, rfl, I.own, I.rel.grown gr4, fun p hp hq => dnp p hq _ _ I.hd, dnA A I.own.ge' _ _ I.hd, rfl, hK⟩
end Go.Proofs.YtofenpiiihhigaaDoor


 /- Regions some of whose operations may come in several orders: the floats once, the others order by order, what stands behind once. -/
namespace Go.Proofs.YtofenpiiihhigaaDoor
open Go Go.RowKit
section
variable {P : Program} {N : Nat} {ops : Array Oper} {fl : Nat → Bool} {D : World → Prop} {n g : Nat} {K : Act → World → Prop} {Q : Post} {L : Slots} {w : World} {f : Nat} {listed : Array Bool} {d : Nat} {op : Op} {ty : TypeId} {pos : String} {af : Array Edge} {gd : Option (Nat × Bool)}
structure HeadOk (ops : Array Oper) (n : Nat) : Prop where
  sel : Region.noSelect ops = true
  sink : Region.sinkB .any ops n = true
  chain : Region.chainB .any ops n = true
  lt : n < ops.size
def WA (P : Program) (N : Nat) (ops : Array Oper) (fl : Nat → Bool) (D : World → Prop) (n g : Nat) (K : Act → World → Prop) (f : Nat) (listed : Array Bool) (L : Slots) (w : World) : Prop :=
  HeadOk ops n → HeadInv .any ops n listed → ∀ a w1, Eqv w w1 → D w1 → Has N L a → anyT P .any ops fl D n (fun l' a' w' => Region.seqB .any ops g n l' = true ∧ K a' w') f listed a w1
def WI (P : Program) (N : Nat) (ops : Array Oper) (fl : Nat → Bool) (D : World → Prop) (n g : Nat) (K : Act → World → Prop) (f : Nat) (listed : Array Bool) (L : Slots) (w : World) (i : Nat) : Prop :=
  HeadOk ops n → HeadInv .any ops n (listed.setIfInBounds i true) → ∀ a w1, Eqv w w1 → D w1 → Has N L a → ∃ o, ops[i]? = some o ∧ fl i = false ∧ sRun P ops D o a w1 fun a' w' => anyT P .any ops fl D n (fun l' a' w' => Region.seqB .any ops g n l' = true ∧ K a' w') f (listed.setIfInBounds i true) a' w'
theorem WC.ordersK {i : Nat} {l : List Oper} (n : Nat) (fl : Nat → Bool) (D : World → Prop) (K : Act → World → Prop) (hm : P.follows .mixedOrders = true) (hB : (Region.noSelect l.toArray && (Region.sinkB .any l.toArray n && (Region.chainB .any l.toArray n && Nat.blt n l.length))) = true) (hE : ∀ w', Eqv w w' → D w')
    (h : WA P N l.toArray fl D n (l.length - n) K n (Array.replicate l.length false) L w)
    (ht : ∀ a w', K a w' → wpList P l.toArray Q (l.drop n) a w') : WC P N Q (.region i l.toArray true) L w := fun a wx e ha => by
  simp only [Bool.and_eq_true] at hB
  obtain ⟨hsel, hs, hc, hlt⟩ := hB
  have hn' : n < l.length := by simpa [Nat.blt_eq] using hlt
  refine wp_region_any hm ?_
  have inv0 : HeadInv .any l.toArray n (Array.replicate l.length false) :=
    ⟨by simp, fun j oj _ hl => (by rw [getD_replicate_false] at hl; cases hl), fun t _ ht => getD_in (by simpa using ht) (getD_replicate_false _ _)⟩
  have H := h ⟨hsel, hs, hc, by simpa using hn'⟩ inv0 a { wx with drawn := wx.drawn + 1 } (e.drawn _) (hE _ (e.drawn _)) ha
  have h2 := any_of_anyT (Q' := Q) (g := l.length - n) (fun listed a' w' _ hL => by
    obtain ⟨hq, hK⟩ := hL
    have := wpAny_of_seq (md := .any) (Q' := Q) (l.drop n) n listed a' w' (fun j => by simp [List.getElem?_drop]) (by rw [List.length_drop]; exact hq) (ht a' w' hK)
    rwa [List.length_drop] at this) _ _ _ _ (hE { wx with drawn := wx.drawn + 1 } (e.drawn _)) H
  rw [show n + (l.length - n) = l.length by omega] at h2
  simpa using h2
def EndsF (N : Nat) (F : Slots → World → Prop) (a : Act) (w : World) : Prop := ∃ L w0, F L w0 ∧ Eqv w0 w ∧ Has N L a
theorem WC.ordersF {i : Nat} {l : List Oper} (n : Nat) (fl : Nat → Bool) (D : World → Prop) (F : Slots → World → Prop) (hm : P.follows .mixedOrders = true) (hB : (Region.noSelect l.toArray && (Region.sinkB .any l.toArray n && (Region.chainB .any l.toArray n && Nat.blt n l.length))) = true) (hE : ∀ w', Eqv w w' → D w')
    (ht : ∀ L' w', F L' w' → WL P N l.toArray Q (l.drop n) L' w')
    (h : WA P N l.toArray fl D n (l.length - n) (EndsF N F) n (Array.replicate l.length false) L w) : WC P N Q (.region i l.toArray true) L w :=
  WC.ordersK n fl D _ hm hB hE h fun a w' ⟨L', w0, hI, he, hh⟩ => ht L' w0 hI a w' he hh
theorem WA.doneF {F : Slots → World → Prop} (L' : Slots) (hq : Region.seqB .any ops g n listed = true) (hI : F L' w) (hs : Sub L L') : WA P N ops fl D n g (EndsF N F) 0 listed L w := fun _ _ _ _ e _ ha => ⟨hq, L', w, hI, e, ha.sub hs⟩
theorem WA.y {v : Value} (k : Nat) (ho : ops[k]? = some ⟨some d, op, ty, pos, af, none⟩) (hf : (fl k && ((Region.ready .any ops listed).contains k && (Region.free .any ops listed k && Nat.blt k n))) = true) (hd : Nat.blt d N = true) (hy : ∀ w', D w' → Yld P N w' ⟨some d, op, ty, pos, af, none⟩ L v)
    (h : WA P N ops fl D n g K f (listed.setIfInBounds k true) ((d, v) :: L) w) : WA P N ops fl D n g K (f + 1) listed L w := fun ok inv a w1 e hw ha => by
  simp only [Bool.and_eq_true] at hf
  obtain ⟨hfl, hr, hfr, hkn⟩ := hf
  have hr' : k ∈ Region.ready .any ops listed := by simpa using hr
  have hkn' : k < n := by simpa [Nat.blt_eq] using hkn
  exact float_firstT ho hfl (Region.noSelect_spec ok.sel) ok.sink ok.chain ok.lt hkn' (fun _ _ _ hL => seqB_ready hL.1) f listed a w1 hw inv (Region.free_spec ho hfr) hr'
    (.inl ⟨by simp [Region.wanted], fun w' hw' => hy w' hw' a w' (Eqv.refl _) ha⟩) (h ok (inv.set hr' hkn') _ _ e hw (ha.put hd v))
def AllL {α : Type} (p : α → Prop) : List α → Prop
  | [] => True
  | [x] => p x
  | x :: y :: l => p x ∧ AllL p (y :: l)
theorem AllL.mem {α : Type} {p : α → Prop} : ∀ {l : List α}, AllL p l → ∀ x ∈ l, p x
  | [], _, x, h => by simp at h
  | [y], h, x, hx => by simp at hx; subst hx; exact h
  | y :: z :: l, h, x, hx => by
    rcases List.mem_cons.1 hx with rfl | hx
    · exact h.1
    · exact AllL.mem h.2 x hx
theorem WA.split (is : List Nat) (hr : Region.ready .any ops listed = is) (hc : (!is.isEmpty && is.all fun i => Nat.blt i n) = true) (h : AllL (WI P N ops fl D n g K f listed L w) is) : WA P N ops fl D n g K (f + 1) listed L w := fun ok inv a w1 e hw ha => by
  simp only [Bool.and_eq_true] at hc
  refine ⟨fun h0 => ?_, fun i hi => ?_⟩
  · rw [hr] at h0; subst h0; simp at hc
  · have hi' := hi
    rw [hr] at hi'
    have hin : i < n := by have := List.all_eq_true.1 hc.2 i hi'; simpa [Nat.blt_eq] using this
    obtain ⟨o, ho, hfl, hs⟩ := h.mem i hi' ok (inv.set hi hin) a w1 e hw ha
    exact ⟨hin, o, ho, .inr ⟨hfl, hs⟩⟩
theorem WI.put {i : Nat} {R : Value → World → Prop} (ho : ops[i]? = some ⟨some d, op, ty, pos, af, none⟩) (hf : fl i = false) (hd : Nat.blt d N = true) (hr : Eff P N w ⟨some d, op, ty, pos, af, none⟩ L R) (hD : ∀ v w', R v w' → D w')
    (hk : ∀ v w', R v w' → WA P N ops fl D n g K f (listed.setIfInBounds i true) ((d, v) :: L) w') : WI P N ops fl D n g K f listed L w i := fun ok inv a w1 e hw ha => by
  refine ⟨_, ho, hf, ?_⟩
  unfold sRun
  rw [if_pos (by simp [Region.wanted])]
  obtain ⟨v, w', h, hR⟩ := hr a w1 e ha
  rw [h]
  exact ⟨hD v w' hR, hk v w' hR ok inv _ w' (Eqv.refl _) (hD v w' hR) (ha.put hd v)⟩
theorem WI.eff {i : Nat} {R : World → Prop} (ho : ops[i]? = some ⟨none, op, ty, pos, af, none⟩) (hf : fl i = false) (hr : Ef0 P N w ⟨none, op, ty, pos, af, none⟩ L R) (hD : ∀ w', R w' → D w')
    (hk : ∀ w', R w' → WA P N ops fl D n g K f (listed.setIfInBounds i true) L w') : WI P N ops fl D n g K f listed L w i := fun ok inv a w1 e hw ha => by
  refine ⟨_, ho, hf, ?_⟩
  unfold sRun
  rw [if_pos (by simp [Region.wanted])]
  obtain ⟨w', h, hR⟩ := hr a w1 e ha
  rw [h]
  exact ⟨hD w' hR, hk w' hR ok inv _ w' (Eqv.refl _) (hD w' hR) ha⟩
theorem WI.call {i : Nat} {R : Value → World → Prop} {fn : FuncId} {as_ : List Operand} {ts : Array TypeId} {vs : List Value} (ho : ops[i]? = some ⟨some d, .call ⟨.value (.func fn), ⟨as_⟩, ts⟩, ty, pos, af, gd⟩) (hf : fl i = false) (hg : Wants N ops L gd) (hd : Nat.blt d N = true) (hv : opvs L as_ = some vs) (hc : Fn P fn ⟨vs⟩ w R) (hD : ∀ v w', R v w' → ∀ w2, Eqv w' w2 → D w2)
    (hk : ∀ v w', R v w' → WA P N ops fl D n g K f (listed.setIfInBounds i true) ((d, v) :: L) w') : WI P N ops fl D n g K f listed L w i := fun ok inv a w1 e hw ha => by
  refine ⟨_, ho, hf, ?_⟩
  unfold sRun
  rw [if_pos (Wants.wanted (o := ⟨some d, .call ⟨.value (.func fn), ⟨as_⟩, ts⟩, ty, pos, af, gd⟩) hg ha), run_enter ha hv hc.1]
  refine (hc.2 w1 e).mono ?_
  rintro en w' ⟨v, w0, rfl, h0, hR⟩
  exact ⟨v, rfl, hD v w0 hR w' h0, hk v w0 hR ok inv _ w' h0 (hD v w0 hR w' h0) (ha.put hd v)⟩
end
end Go.Proofs.YtofenpiiihhigaaDoor

 /- A move that floats past the end of a region's head is taken first. -/
namespace Go.Proofs.YtofenpiiihhigaaDoor
open Go Go.RowKit
def Qn (Q : Post) : Post := fun e a w => match e with
  | .normal => Q .normal a w
  | _ => False
def addG (i : Nat) : Nat → List Oper → List Oper
  | _, [] => []
  | k, o :: l => (bif Nat.beq k i then o else ⟨o.dst, o.op, o.type, o.pos, ⟨⟨i, .data⟩ :: o.after.toList⟩, o.guard⟩) :: addG i (k + 1) l
theorem addG_len (i : Nat) : ∀ (l : List Oper) (k : Nat), (addG i k l).length = l.length
  | [], _ => rfl
  | o :: l, k => by simp [addG, addG_len i l (k + 1)]
theorem addG_get (i : Nat) : ∀ (l : List Oper) (k j : Nat), (addG i k l)[j]? = (l[j]?).map fun o => bif Nat.beq (k + j) i then o else ⟨o.dst, o.op, o.type, o.pos, ⟨⟨i, .data⟩ :: o.after.toList⟩, o.guard⟩
  | [], k, j => by simp [addG]
  | o :: l, k, 0 => by simp [addG]
  | o :: l, k, j + 1 => by
    simp only [addG, List.getElem?_cons_succ]
    rw [addG_get i l (k + 1) j, show k + 1 + j = k + (j + 1) by omega]
section
variable {P : Program} {Q : Post} {i : Nat} {l : List Oper}
theorem addG_op {j : Nat} {o : Oper} (h : l[j]? = some o) : ∃ af, (addG i 0 l)[j]? = some ⟨o.dst, o.op, o.type, o.pos, af, o.guard⟩ := by
  rw [addG_get, h, Nat.zero_add]
  cases Nat.beq j i with
  | true => exact ⟨o.after, rfl⟩
  | false => exact ⟨_, rfl⟩
theorem addG_ready {listed : Array Bool} (hl : listed.getD i false = true) (j : Nat) : j ∈ Region.ready .any l.toArray listed ↔ j ∈ Region.ready .any (addG i 0 l).toArray listed := by
  rw [mem_ready, mem_ready]
  refine and_congr_right fun _ => ⟨fun ⟨o, ho, h⟩ => ?_, fun ⟨o, ho, h⟩ => ?_⟩
  · have ho : l[j]? = some o := by simpa using ho
    have hg := addG_get i l 0 j
    rw [ho, Nat.zero_add] at hg
    refine ⟨_, by simpa using hg, fun e he hb => ?_⟩
    cases hq : Nat.beq j i with
    | true => rw [hq] at he; exact h e he hb
    | false =>
      rw [hq] at he
      simp only [cond_false, List.mem_toArray, List.mem_cons] at he
      rcases he with rfl | he
      · exact hl
      · exact h e (by simpa using he) hb
  · have hg := addG_get i l 0 j
    have ho : (addG i 0 l)[j]? = some o := by simpa using ho
    rw [ho] at hg
    obtain ⟨o', ho', e⟩ := Option.map_eq_some_iff.1 hg.symm
    refine ⟨o', by simpa using ho', fun e' he hb => h e' ?_ hb⟩
    rw [← e]
    cases Nat.beq (0 + j) i with
    | true => exact he
    | false => simp only [cond_false, List.mem_toArray, List.mem_cons]; exact .inr (by simpa using he)
theorem qn_out : ¬ LetsOut (Qn Q) := fun ⟨_, _, h⟩ => h
theorem upon_conv {o o' : Oper} {a a' : Act} {K K' : Act → World → Prop} (hd : o'.dst = o.dst) (hk : ∀ u w, K' (a'.put o.dst u) w → K (a.put o.dst u) w) (hdf : ∀ d w, K' ({ a' with defers := d :: a'.defers }.put o.dst undef) w → K ({ a with defers := d :: a.defers }.put o.dst undef) w) :
    ∀ {r : Result Next}, o'.upon P a' K' (Qn Q) r → o.upon P a K Q r := by
  intro r h
  unfold Oper.upon at h ⊢
  rw [hd] at h
  cases r with
  | halt x w => cases x <;> first | exact h.elim | exact h
  | ok x w => cases x with
    | value u => exact hk _ _ h
    | skip => exact hk _ _ h
    | defer d => exact hdf _ _ h
    | enter f args => exact Calls.mono h fun e w'' hh => (by cases e <;> first | exact hk _ _ hh | exact hh.elim | exact absurd hh qn_out)
    | row r args => exact Rows.mono h fun v w' hh => hk _ _ hh
    | _ => exact h
theorem exec_after {ev : Operand → Value} {o : Oper} {af : Array Edge} : execOp ev ⟨o.dst, o.op, o.type, o.pos, af, o.guard⟩ = execOp ev o := by
  unfold execOp
  rfl
theorem hoist_A (hg : ∀ (j : Nat) (o : Oper), l[j]? = some o → o.guard = none) : ∀ (f : Nat) (listed : Array Bool) (a : Act) (w : World), listed.getD i false = true → wpAny P .any (addG i 0 l).toArray (Qn Q) f listed a w → wpAny P .any l.toArray Q f listed a w
  | 0, listed, a, w, hl, h => ⟨by
      have := h.1
      rw [List.eq_nil_iff_forall_not_mem] at this ⊢
      exact fun j hj => this j ((addG_ready hl j).1 hj), h.2⟩
  | f + 1, listed, a, w, hl, h => by
    refine ⟨fun h0 => h.1 ?_, fun j hj => ?_⟩
    · rw [List.eq_nil_iff_forall_not_mem] at h0 ⊢
      exact fun j hj => h0 j ((addG_ready hl j).2 hj)
    · have h2 := h.2 j ((addG_ready hl j).1 hj)
      obtain ⟨_, o, ho, _⟩ := mem_ready.1 hj
      have ho' : l[j]? = some o := by simpa using ho
      obtain ⟨af, hj'⟩ := addG_op (i := i) ho'
      have hgo := hg j o ho'
      have hl' : (listed.setIfInBounds j true).getD i false = true := by
        by_cases e : j = i
        · subst e
          have : j < listed.size := by
            rcases Nat.lt_or_ge j listed.size with q | q
            · exact q
            · simp [Array.getD, Nat.not_lt.2 q] at hl
          simp [Array.getD, this]
        · have hs : i < listed.size := by
            rcases Nat.lt_or_ge i listed.size with q | q
            · exact q
            · simp [Array.getD, Nat.not_lt.2 q] at hl
          have h1 : listed[i]'hs = true := by simpa [Array.getD, hs] using hl
          simp [Array.getD, hs, Array.getElem_setIfInBounds, e, h1]
      unfold wpOp at h2 ⊢
      simp only [ho, List.getElem?_toArray, hj'] at h2 ⊢
      rw [if_pos (by simp [Region.wanted, hgo])] at h2 ⊢
      rcases h2 with h2 | h2
      · refine .inl ?_
        unfold Oper.wp at h2 ⊢
        rw [exec_after] at h2
        exact upon_conv (o' := ⟨o.dst, o.op, o.type, o.pos, af, o.guard⟩) rfl (fun u w => hoist_A hg f _ _ _ hl') (fun d w => hoist_A hg f _ _ _ hl') h2
      · exact absurd h2.2 qn_out
theorem hoist_B {oi : Oper} {v : Value} (hi : l[i]? = some oi) (hsi : ∀ cs b, oi.op ≠ .select cs b) (hsel : ∀ (j : Nat) (o : Oper) cs b, l[j]? = some o → o.op ≠ .select cs b) (hg : ∀ (j : Nat) (o : Oper), l[j]? = some o → o.guard = none) :
    ∀ (f : Nat) (listed : Array Bool) (a : Act) (w : World), (∀ w, (execOp a.eval oi).run P w = .ok (.value v) w) → i ∈ Region.ready .any l.toArray listed →
      (∀ j oj, l[j]? = some oj → j ≠ i → listed.getD j true = false → (∀ e ∈ oj.after, Region.binds .any e = true → e.on ≠ i) → oi.apart l.toArray oj = true) →
      wpAny P .any (addG i 0 l).toArray (Qn Q) f (listed.setIfInBounds i true) (a.put oi.dst v) w → wpAny P .any l.toArray Q (f + 1) listed a w := by
  have hli : ∀ listed : Array Bool, i ∈ Region.ready .any l.toArray listed → (listed.setIfInBounds i true).getD i false = true := fun listed hr => by
    have h1 := (mem_ready.1 hr).1
    have : i < listed.size := by
      rcases Nat.lt_or_ge i listed.size with q | q
      · exact q
      · simp [Array.getD, Nat.not_lt.2 q] at h1
    simp [Array.getD, this]
  intro f
  induction f with
  | zero =>
    intro listed a w hy hr hfree H
    refine ⟨fun h => (by rw [h] at hr; cases hr), fun j hj => ?_⟩
    by_cases hji : j = i
    · subst hji
      unfold wpOp
      simp only [List.getElem?_toArray, hi]
      rw [if_pos (by simp [Region.wanted, hg _ _ hi])]
      refine .inl ?_
      unfold Oper.wp
      rw [hy w]
      exact hoist_A hg 0 _ _ _ (hli _ hr) H
    · have := (addG_ready (l := l) (hli _ hr) j).1 (ready_mono hj hji)
      rw [H.1] at this
      cases this
  | succ f ih =>
    intro listed a w hy hr hfree H
    refine ⟨fun h => (by rw [h] at hr; cases hr), fun j hj => ?_⟩
    by_cases hji : j = i
    · subst hji
      unfold wpOp
      simp only [List.getElem?_toArray, hi]
      rw [if_pos (by simp [Region.wanted, hg _ _ hi])]
      refine .inl ?_
      unfold Oper.wp
      rw [hy w]
      exact hoist_A hg (f + 1) _ _ _ (hli _ hr) H
    · have h2 := H.2 j ((addG_ready (l := l) (hli _ hr) j).1 (ready_mono hj hji))
      obtain ⟨hjun, oj, hoj, hall⟩ := mem_ready.1 hj
      have hoj' : l[j]? = some oj := by simpa using hoj
      obtain ⟨af, hj'⟩ := addG_op (i := i) hoj'
      have hnot : ∀ e ∈ oj.after, Region.binds .any e = true → e.on ≠ i := fun e he hb heq => by
        have := hall e he hb
        rw [heq, getD_both (mem_ready.1 hr).1] at this
        cases this
      have hap := hfree j oj hoj' hji hjun hnot
      obtain ⟨p1, p2, p3⟩ := Oper.apart_spec hap
      have hfree' : ∀ k ok, l[k]? = some ok → k ≠ i → (listed.setIfInBounds j true).getD k true = false → (∀ e ∈ ok.after, Region.binds .any e = true → e.on ≠ i) → oi.apart l.toArray ok = true := fun k ok hk hki hun hno => by
        refine hfree k ok hk hki ?_ hno
        by_cases hjk : j = k
        · subst hjk; exact hjun
        · rw [getD_set_ne true hjk] at hun; exact hun
      have hr' := ready_mono hr (Ne.symm hji)
      have hyp : ∀ b : Act, b.tmps = a.tmps → ∀ u w, (execOp (b.put oj.dst u).eval oi).run P w = .ok (.value v) w := fun b hb u w => by
        rw [execOp_put oi hsi b oj.dst u p3]
        have : b.eval = a.eval := by funext y; cases y <;> simp [Act.eval, hb]
        rw [this]
        exact hy w
      unfold wpOp at h2 ⊢
      simp only [hoj, List.getElem?_toArray, hj'] at h2 ⊢
      rw [if_pos (by simp [Region.wanted, hg _ _ hoj'])] at h2 ⊢
      rcases h2 with h2 | h2
      · refine .inl ?_
        unfold Oper.wp at h2 ⊢
        rw [exec_after, execOp_put oj (fun cs b => hsel j oj cs b hoj') a oi.dst v p1] at h2
        refine upon_conv (o' := ⟨oj.dst, oj.op, oj.type, oj.pos, af, oj.guard⟩) rfl (fun u w' hh => ?_) (fun d w' hh => ?_) h2
        · refine ih _ _ w' (hyp a rfl u) hr' hfree' ?_
          rw [Array.setIfInBounds_comm _ _ hji, ← Act.put_comm a v u p2]
          exact hh
        · refine ih _ _ w' (hyp { a with defers := d :: a.defers } rfl undef) hr' hfree' ?_
          rw [Array.setIfInBounds_comm _ _ hji, ← Act.put_comm { a with defers := d :: a.defers } v undef p2]
          have : ({ a with defers := d :: a.defers } : Act).put oi.dst v = { a.put oi.dst v with defers := d :: (a.put oi.dst v).defers } := by cases oi.dst <;> rfl
          rw [this]
          exact hh
      · exact absurd h2.2 qn_out
end
section
variable {P : Program} {N : Nat} {Q : Post} {L : Slots} {w : World}
/-- the region's operations, in whatever order -/
def WR (P : Program) (N : Nat) (Q : Post) (l : List Oper) (L : Slots) (w : World) : Prop := ∀ a w1, Eqv w w1 → Has N L a → wpAny P .any l.toArray Q l.length (Array.replicate l.length false) a w1
def noGuard (l : List Oper) : Bool := l.all fun o => match o.guard with | none => true | _ => false
theorem WX.qn (h : WX N Q .normal L w) : WX N (Qn Q) .normal L w := h
theorem WC.hoist {id : Nat} {l : List Oper} (i : Nat) {d : Option Tmp} {x : Operand} {ty : TypeId} {pos : String} {af : Array Edge} {v : Value} (hm : P.follows .mixedOrders = true) (hi : l[i]? = some ⟨d, .move x, ty, pos, af, none⟩) (hx : opv L x = some v)
    (hc : (Region.noSelect l.toArray && (noGuard l && ((Region.ready .any l.toArray (Array.replicate l.length false)).contains i && Region.free .any l.toArray (Array.replicate l.length false) i))) = true)
    (h : WR P N (Qn Q) (addG i 0 l) L w) : WC P N Q (.region id l.toArray true) L w := fun a w1 e ha => by
  simp only [Bool.and_eq_true] at hc
  obtain ⟨hs, hg, hr, hf⟩ := hc
  have hsel : ∀ (j : Nat) (o : Oper) cs b, l[j]? = some o → o.op ≠ .select cs b := fun j o cs b hj => Region.noSelect_spec hs j o cs b (by simpa using hj)
  have hgd : ∀ (j : Nat) (o : Oper), l[j]? = some o → o.guard = none := fun j o hj => by
    have := List.all_eq_true.1 hg o (List.mem_of_getElem? hj)
    split at this
    · assumption
    · cases this
  have hr' : i ∈ Region.ready .any l.toArray (Array.replicate l.length false) := by simpa using hr
  refine wp_region_any hm ?_
  have hw : Eqv w { w1 with drawn := w1.drawn + 1 } := e.drawn _
  have H := h a _ hw ha
  have hy : ∀ w, (execOp a.eval ⟨d, .move x, ty, pos, af, none⟩).run P w = .ok (.value v) w := fun w' => Yld.move (P := P) (w := w') (L := L) (N := N) hx a w' (Eqv.refl _) ha
  rw [addG_len] at H
  cases hn : l.length with
  | zero => rw [List.getElem?_eq_none (by omega)] at hi; cases hi
  | succ n =>
    rw [hn] at H
    have hri : i ∈ Region.ready .any (addG i 0 l).toArray (Array.replicate (n + 1) false) := by
      rw [hn] at hr'
      rw [mem_ready] at hr' ⊢
      obtain ⟨q1, o, q2, q3⟩ := hr'
      refine ⟨q1, o, ?_, q3⟩
      have : l[i]? = some o := by simpa using q2
      have hgt := addG_get i l 0 i
      rw [this, Nat.zero_add, Nat.beq_refl] at hgt
      simpa using hgt
    have H2 := H.2 i hri
    have e1 : (addG i 0 l)[i]? = some ⟨d, .move x, ty, pos, af, none⟩ := by
      rw [addG_get, hi, Nat.zero_add, Nat.beq_refl]
      rfl
    unfold wpOp at H2
    simp only [List.getElem?_toArray, e1] at H2
    rw [if_pos (by simp [Region.wanted])] at H2
    rcases H2 with H2 | H2
    · unfold Oper.wp at H2
      rw [hy] at H2
      have := hoist_B (P := P) (Q := Q) hi (by intro cs b e; cases e) hsel hgd n (Array.replicate (n + 1) false) a _ hy (by rw [hn] at hr'; exact hr') (fun j oj hj hne hun hno => Region.free_spec (by simpa using hi) (by rw [hn] at hf; exact hf) j oj (by simpa using hj) hne hun hno) H2
      simpa [hn] using this
    · exact absurd H2.2 qn_out
theorem WR.ordersF {l : List Oper} (n : Nat) (fl : Nat → Bool) (D : World → Prop) (F : Slots → World → Prop) (hB : (Region.noSelect l.toArray && (Region.sinkB .any l.toArray n && (Region.chainB .any l.toArray n && Nat.blt n l.length))) = true) (hE : ∀ w', Eqv w w' → D w')
    (ht : ∀ L' w', F L' w' → WL P N l.toArray Q (l.drop n) L' w')
    (h : WA P N l.toArray fl D n (l.length - n) (EndsF N F) n (Array.replicate l.length false) L w) : WR P N Q l L w := fun a w1 e ha => by
  simp only [Bool.and_eq_true] at hB
  obtain ⟨hsel, hs, hc, hlt⟩ := hB
  have hn' : n < l.length := by simpa [Nat.blt_eq] using hlt
  have inv0 : HeadInv .any l.toArray n (Array.replicate l.length false) :=
    ⟨by simp, fun j oj _ hl => (by rw [getD_replicate_false] at hl; cases hl), fun t _ ht => getD_in (by simpa using ht) (getD_replicate_false _ _)⟩
  have H := h ⟨hsel, hs, hc, by simpa using hn'⟩ inv0 a w1 e (hE _ e) ha
  have h2 := any_of_anyT (Q' := Q) (g := l.length - n) (fun listed a' w' _ hL => by
    obtain ⟨hq, L', w0, hI, he, hh⟩ := hL
    have := wpAny_of_seq (md := .any) (Q' := Q) (l.drop n) n listed a' w' (fun j => by simp [List.getElem?_drop]) (by rw [List.length_drop]; exact hq) (ht L' w0 hI a' w' he hh)
    rwa [List.length_drop] at this) _ _ _ _ (hE _ e) H
  rw [show n + (l.length - n) = l.length by omega] at h2
  exact h2
end
end Go.Proofs.YtofenpiiihhigaaDoor


 /- Printed by a program (wip/vg): what the functions mean, plainly, and their walks. -/
namespace Go.Proofs.YtofenpiiihhigaaDoor
open Go Go.RowKit
attribute [local irreducible] WL WC WX WQ WK WJ Yld Eff Ef0 Fn
def M_deps_New (order : Int) (own : List PV) (from_ : List PS) (K : PS → Er → Prop) : Prop :=
 (own.length ≤ maxLen →
 (from_.length ≤ maxLen →
 ((((decide (order < (1 : Int))) || (decide ((3 : Int) < order))) = true → K PS.nil (Er.e 3)) ∧
 (((decide (order < (1 : Int))) || (decide ((3 : Int) < order))) = false → M_val_Light (4096 : Int) own (fun (t27 : Bool) =>
 (((!t27) = true → K PS.nil (Er.e 7)) ∧
 ((!t27) = false → M_slices_Clone_pdeps_Set_pdeps_Set from_ (fun (t32 : List PS) =>
 Lp4 (fun (t38 : Int) (t341 : List PV) (t342 : List (List UInt8)) (met : List (List UInt8 × Bool)) kont1 => ((t38 < (own.length : Int) → ∃ J1 : (List PV) → (List (List UInt8)) → (List (List UInt8 × Bool)) → Prop, ((0 ≤ t38 ∧ t38 < (own.length : Nat)) ∧
 M_val_Key (own.getD t38.toNat PV.nil) (fun (t440 : List UInt8) (t441 : Er) =>
 ((¬ (t441 = Er.ok) → K PS.nil t441) ∧
 (t441 = Er.ok → (t440.length ≤ maxLen) ∧
 (((!((mget met t440).getD false)) = true → (t440.length ≤ maxLen ∧ met.length < maxLen) ∧
 ∃ J2 : Prop, (((t341.length + (([own.getD t38.toNat PV.nil] : List PV)).length) * 16 ≤ 140737488355328) ∧
 ((t342.length + (([t440] : List (List UInt8))).length) * 16 ≤ 140737488355328) ∧
 J2) ∧
 (J2 → J1 (t341 ++ ([own.getD t38.toNat PV.nil] : List PV)) (t342 ++ ([t440] : List (List UInt8))) (mput met t440 true))) ∧
 ((!((mget met t440).getD false)) = false → J1 t341 t342 met)))))) ∧
 (∀ t3412 : List PV, ∀ t3422 : List (List UInt8), ∀ m : List (List UInt8 × Bool), J1 t3412 t3422 m → (In .i64 (t38 + (1 : Int))) ∧
 kont1 (t38 + (1 : Int)) t3412 t3422 m)) ∧
 (¬ (t38 < (own.length : Int)) → Lp3 (fun (t88 : Int) (t344 : Int) (t345 : Bool) kont2 => ((t88 < (from_.length : Int) → (0 ≤ t88 ∧ t88 < (from_.length : Nat)) ∧
 ((from_.getD t88.toNat PS.nil) ≠ PS.nil) ∧
 (((((!decide (((from_.getD t88.toNat PS.nil).order) = order)) && (!decide (((from_.getD t88.toNat PS.nil).order) = (1 : Int)))) && (!decide (order = (1 : Int)))) = true → K PS.nil (Er.e 3)) ∧
 ((((!decide (((from_.getD t88.toNat PS.nil).order) = order)) && (!decide (((from_.getD t88.toNat PS.nil).order) = (1 : Int)))) && (!decide (order = (1 : Int)))) = false → (In .i64 (((from_.getD t88.toNat PS.nil).deep) + (1 : Int))) ∧
 (In .i64 (t88 + (1 : Int))) ∧
 kont2 (t88 + (1 : Int)) (if t344 < (((from_.getD t88.toNat PS.nil).deep) + (1 : Int)) then ((from_.getD t88.toNat PS.nil).deep) + (1 : Int) else t344) (t345 && ((from_.getD t88.toNat PS.nil).empty))))) ∧
 (¬ (t88 < (from_.length : Int)) → (((decide ((1000 : Int) < t344)) || (decide ((1024 : Int) < (own.length : Int)))) = false → (In .i64 ((1024 : Int) - (own.length : Int)))) ∧
 (((((decide ((1000 : Int) < t344)) || (decide ((1024 : Int) < (own.length : Int)))) || (decide (((1024 : Int) - (own.length : Int)) < (from_.length : Int)))) = true → K PS.nil (Er.e 7)) ∧
 ((((decide ((1000 : Int) < t344)) || (decide ((1024 : Int) < (own.length : Int)))) || (decide (((1024 : Int) - (own.length : Int)) < (from_.length : Int)))) = false → (∀ x ∈ t341, ∃ z, x = PV.int z) ∧
 (t342 = t341.map keyP) ∧
 (∀ x ∈ t32, x ≠ PS.nil) ∧
 ∀ g1 : Nat, M_pdeps_Set_sets (PS.mk g1 order t341 t32 t344 t345) (fun (t157 : List PS) =>
 Lp2 (fun (n : Int) (t159 : Int) kont3 => ((t159 < (t157.length : Int) → (0 ≤ t159 ∧ t159 < (t157.length : Nat)) ∧
 ((t157.getD t159.toNat PS.nil) ≠ PS.nil) ∧
 (In .i64 (n + ((t157.getD t159.toNat PS.nil).own.length : Int))) ∧
 (((1024 : Int) < (n + ((t157.getD t159.toNat PS.nil).own.length : Int)) → K PS.nil (Er.e 7)) ∧
 (¬ ((1024 : Int) < (n + ((t157.getD t159.toNat PS.nil).own.length : Int))) → (In .i64 (t159 + (1 : Int))) ∧
 kont3 (n + ((t157.getD t159.toNat PS.nil).own.length : Int)) (t159 + (1 : Int))))) ∧
 (¬ (t159 < (t157.length : Int)) → K (PS.mk g1 order t341 t32 t344 t345) Er.ok))) (0 : Int) (0 : Int))))))) (0 : Int) (0 : Int) (decide ((t341.length : Int) = (0 : Int)))))) (0 : Int) [] [] ([] : List (List UInt8 × Bool))))))))))

def M_pdeps_Set_Size (s : PS) (K : Int → Prop) : Prop :=
 M_pdeps_Set_sets s (fun (t4 : List PS) =>
 K (t4.length : Int))

def M_pdeps_Set_Empty (s : PS) (K : Bool → Prop) : Prop :=
 (s ≠ PS.nil) ∧
 K s.empty

set_option maxHeartbeats 8000000 in
theorem W_deps_New {S : List Nat} {w : World} {order : Int} {own : List PV} {A_own : Option Addr} {c_own : Nat} {hs_own : List VH} {from_ : List PS} {A_from : Option Addr} {c_from : Nat} {hs_from_ : List VH} {n_own : Nat} {n_from_ : Nat} {K : PS → Er → Prop} (hG : GOK S w) (hS3 : 3 ∈ S) (hS7 : 7 ∈ S) (hown : Rd vv w A_own c_own hs_own) (hn_own : n_own = own.length) (hr_own : RelD deV w hs_own own) (hfrom_ : Rd vv w A_from c_from hs_from_) (hn_from_ : n_from_ = from_.length) (hr_from_ : RelD deS w hs_from_ from_) (H : M_deps_New order own from_ K) : Fn Tryd.prog 16 ⟨[.int .i64 order, .slice A_own n_own c_own, .slice A_from n_from_ c_from]⟩ w (fun v w' => w.grownBy w' none ∧ ∃ (v_r0 : OV), ∃ (F_r0 : Nat → Prop), ∃ (r0 : PS), ∃ (v_r1 : Value), ∃ (r1 : Er), v = .tuple #[v_r0.1, v_r1] ∧ RelD deS w' [(v_r0, F_r0)] [r0] ∧ (∀ p : Option Nat, Lt p w.heap.size → DnD deV hs_own own p → DnD deS hs_from_ from_ p → DnD deS [(v_r0, F_r0)] [r0] p) ∧ (r0 ≠ PS.nil → w.heap.size ≤ r0.id) ∧ ErrR S w' v_r1 r1 ∧ K r0 r1) := by
  subst hn_own
  subst hn_from_
  unfold M_deps_New at H
  refine Fn.enter (by kernel_rfl) Tryd.func16 rfl Tryd.ntmps16 rfl ?_
  replace H := H (by rw [← hr_own.1]; exact Nat.le_trans hown.cap hown.max)
  replace H := H (by rw [← hr_from_.1]; exact Nat.le_trans hfrom_.cap hfrom_.max)
  refine WC.seq ?_
  refine WC.region ?_
  have hv1 : RelD deS w [(pnil, noF)] [PS.nil] := deS_nil
  refine WL.y rfl (Yld.pure tab_ok rfl) ?_
  refine WL.y rfl (Yld.pure tab_ok rfl) ?_
  refine WL.nil (WX.then_normal ?_)
  refine WC.seq ?_
  refine WC.seq ?_
  refine WC.region ?_
  refine WL.y rfl (Yld.pure tab_ok rfl) ?_
  refine WL.y rfl (Yld.pure tab_ok rfl) ?_
  refine WL.y rfl (Yld.pure tab_ok rfl) ?_
  refine WL.midF 3 (fun L' w' => ∃ q1 : Bool, L' = [(24, .bool q1), (0, .int .i64 order), (1, .slice A_own own.length c_own), (2, .slice A_from from_.length c_from)] ∧ ((decide (order < (1 : Int))) || (decide ((3 : Int) < order))) = q1 ∧ w = w') ?_ (fun hQ => ?_)
  · rintro _ _ ⟨q1, rfl, rfl, rfl⟩
    refine WL.nil (WX.then_normal ?_)
    refine WC.cond rfl (fun b1 => ?_) (fun b1 => ?_)
    · replace H := H.1 (b1)
      refine WC.seq ?_
      refine WC.quiet mixed (by kernel_rfl) ?_
      obtain ⟨vE1, _, hE1⟩ := GOK.get hG 3 1 hS3 rfl rfl
      refine WQ.y rfl (Yld.cell tab_ok (ErrR.cell hE1 rfl) rfl rfl) ?_
      have hv2 : RelD deS w [(pnil, noF)] [PS.nil] := deS_nil
      refine WQ.y rfl (Yld.pure tab_ok rfl) ?_
      refine WQ.y rfl (Yld.pure tab_ok rfl) ?_
      refine WQ.nil (WX.then_normal ?_)
      refine WC.ret (WX.then_ret ?_)
      exact WX.ret2 rfl rfl rfl ⟨(gr_refl _ _), pnil, noF, PS.nil, vE1, (Er.e 3), rfl, hv2, (fun p_ hp_ v0_ v1_ => deS_nilD), (fun h_ => absurd rfl h_), hE1, H⟩
    · replace H := H.2 (b1)
      refine WC.skip (WX.then_normal ?_)
      refine WC.seq ?_
      refine WC.seq ?_
      refine WC.region ?_
      refine WL.y rfl (Yld.pure tab_ok rfl) ?_
      refine WL.call rfl rfl (W_val_Light hown rfl hr_own H) ?_
      rintro _ w1 ⟨hg1, t27, rfl, H⟩
      have gr1 := hg1
      refine WL.y rfl (Yld.pure tab_ok rfl) ?_
      refine WL.nil (WX.then_normal ?_)
      refine WC.cond rfl (fun b2 => ?_) (fun b2 => ?_)
      · replace H := H.1 (b2)
        refine WC.seq ?_
        refine WC.quiet mixed (by kernel_rfl) ?_
        obtain ⟨vE2, _, hE2⟩ := GOK.get (hG.grown gr1) 7 0 hS7 rfl rfl
        refine WQ.y rfl (Yld.cell tab_ok (ErrR.cell hE2 rfl) rfl rfl) ?_
        have hv3 : RelD deS w1 [(pnil, noF)] [PS.nil] := deS_nil
        refine WQ.y rfl (Yld.pure tab_ok rfl) ?_
        refine WQ.y rfl (Yld.pure tab_ok rfl) ?_
        refine WQ.nil (WX.then_normal ?_)
        refine WC.ret (WX.then_ret ?_)
        exact WX.ret2 rfl rfl rfl ⟨gr1, pnil, noF, PS.nil, vE2, (Er.e 7), rfl, hv3, (fun p_ hp_ v0_ v1_ => deS_nilD), (fun h_ => absurd rfl h_), hE2, H⟩
      · replace H := H.2 (b2)
        refine WC.skip (WX.then_normal ?_)
        refine WC.seq ?_
        refine WC.region ?_
        refine WL.y rfl (Yld.pure tab_ok rfl) ?_
        refine WL.y rfl (Yld.pure tab_ok rfl) ?_
        refine WL.call rfl rfl (W_slices_Clone_pdeps_Set_pdeps_Set (hfrom_.grown gr1) rfl (hr_from_.grown gr1) H) ?_
        rintro _ w2 ⟨hg2, t32, A_t32, c_t32, hs_t32, rfl, ht32, hr_t32, ho1, dj1, H⟩
        have hb1 := ht32.ge'
        have k1 := ht32.base (fun g hg => Nat.le_trans (size_le gr1) (hb1 g hg))
        have gr2 := gr_trans gr1 hg2
        refine WL.y rfl (Yld.struct (us := [.int .i64 order, .slice none 0 0, .slice none 0 0, .slice A_t32 t32.length c_t32, .int .i64 (0 : Int), .bool true]) zero83 places83 rfl rfl) ?_
        refine WL.box (us := [.int .i64 order, .slice none 0 0, .slice none 0 0, .slice A_t32 t32.length c_t32, .int .i64 (0 : Int), .bool true]) rfl rfl rfl (fun g1 w3 hB1 hg3 hl1 => ?_)
        have gr3 := gr_trans gr2 hg3
        have k2 := k1.grown hg3
        have k3 := hr_t32.grown hg3
        refine WL.y rfl (Yld.pure tab_ok rfl) ?_
        refine WL.nil (WX.then_normal ?_)
        refine WC.seq ?_
        refine WC.region ?_
        refine WL.putw wants_none rfl (Eff.makeMap vs okS vB) ?_
        rintro _ w4 ⟨rfl, hB2, hg4⟩
        obtain ⟨g_met, hl2⟩ : ∃ g, g = w3.heap.size := ⟨_, rfl⟩
        rw [← hl2] at hB2
        rw [← hl2]
        have gr4 := gr_trans gr3 hg4
        have k4 := k2.grown hg4
        have k5 := k3.grown hg4
        have k6 := hB1.g0 hg4
        refine WL.y rfl (Yld.pure tab_ok rfl) ?_
        refine WL.nil (WX.then_normal ?_)
        refine WC.seq ?_
        refine WC.seq ?_
        refine WC.region ?_
        refine WL.y rfl (Yld.pure tab_ok rfl) ?_
        refine WL.y rfl (Yld.pure tab_ok rfl) ?_
        refine WL.y rfl (Yld.pure tab_ok rfl) ?_
        refine WL.nil (WX.then_normal ?_)
        refine WC.block ?_
        obtain ⟨I1, mu1, h0_1, HR1⟩ := H
        refine WC.loopF (fun n' L' w' => ∃ (t38 : Int), ∃ (t341 : List PV), ∃ (A_t341 : Option Addr), ∃ (c_t341 : Nat), ∃ (n_t341 : Nat), ∃ (hs_t341 : List VH), ∃ (t342 : List (List UInt8)), ∃ (A_t342 : Option Addr), ∃ (c_t342 : Nat), ∃ (n_t342 : Nat), ∃ (met : List (List UInt8 × Bool)), n' = mu1 t38 t341 t342 met ∧ L' = [(0, .int .i64 order), (1, .slice A_own own.length c_own), (2, .slice A_from from_.length c_from), (8, .pointer (some ⟨g1, 0, none⟩)), (9, .map (some g_met)), (36, .slice A_own own.length c_own), (37, .int .i64 (own.length : Int)), (38, .int .i64 t38)] ∧ I1 t38 t341 t342 met ∧ n_t341 = t341.length ∧ n_t342 = t342.length ∧ w.grownBy w' none ∧ Own vv w' w.heap.size 36 A_t32 c_t32 hs_t32 ∧ RelD deS w' hs_t32 t32 ∧ Bl w' g1 83 [.int .i64 order, .slice A_t341 n_t341 c_t341, .slice A_t342 n_t342 c_t342, .slice A_t32 t32.length c_t32, .int .i64 (0 : Int), .bool true] ∧ MapB vs okS vB w' g_met met ∧ Own vv w' w.heap.size 41 A_t341 c_t341 hs_t341 ∧ RelD deV w' hs_t341 t341 ∧ Own vs w' w.heap.size 9 A_t342 c_t342 t342 ∧ Dj (blk A_t32) (some g1) ∧ Dj (blk A_t32) (some g_met) ∧ Dj (blk A_t32) (blk A_t341) ∧ Dj (blk A_t32) (blk A_t342) ∧ DnD deS hs_t32 t32 (blk A_t32) ∧ DnD deS hs_t32 t32 (some g1) ∧ DnD deS hs_t32 t32 (some g_met) ∧ DnD deS hs_t32 t32 (blk A_t341) ∧ DnD deS hs_t32 t32 (blk A_t342) ∧ Dj (some g1) (some g_met) ∧ Dj (some g1) (blk A_t341) ∧ Dj (some g1) (blk A_t342) ∧ Dj (some g_met) (blk A_t341) ∧ Dj (some g_met) (blk A_t342) ∧ Dj (blk A_t341) (blk A_t342) ∧ DnD deV hs_t341 t341 (blk A_t32) ∧ DnD deV hs_t341 t341 (some g1) ∧ DnD deV hs_t341 t341 (some g_met) ∧ DnD deV hs_t341 t341 (blk A_t341) ∧ DnD deV hs_t341 t341 (blk A_t342) ∧ OrD (fun p => DnD deV hs_own own p ∧ DnD deS hs_from_ from_ p) deV hs_t341 t341 w.heap.size) _ _ ⟨(0 : Int), [], none, 0, 0, [], [], none, 0, 0, ([] : List (List UInt8 × Bool)), rfl, rfl, h0_1, rfl, rfl, gr4, k4, k5, k6, hB2, (Own.nil vv w4 w.heap.size 41), (RelD.nil (d := deV) (w := w4)), (Own.nil vs w4 w.heap.size 9), (Dj.new k1.lt' (Ge.box hl1)), (Dj.new k2.lt' (Ge.box (Nat.le_of_eq hl2.symm))), Dj.nr, Dj.nr, dj1, (hr_t32.new (Ge.box hl1)), (k3.new (Ge.box (Nat.le_of_eq hl2.symm))), (DnD.none k5), (DnD.none k5), (Dj.new hB1.lt' (Ge.box (Nat.le_of_eq hl2.symm))), Dj.nr, Dj.nr, Dj.nr, Dj.nr, Dj.nl, DnD.nil, DnD.nil, DnD.nil, DnD.nil, DnD.nil, (fun p_ hp_ q_ => (DnD.nil (d := deV)))⟩ (by repeat (first | exact Sub.nil | refine Sub.cons rfl ?_)) ?_
        clear h0_1
        rintro _ _ w5 ⟨t38, t341, A_t341, c_t341, n_t341, hs_t341, t342, A_t342, c_t342, n_t342, met, rfl, rfl, hI1, rfl, rfl, gr5, k7, k8, k9, k10, k11, k12, k13, dj2, dj3, dj4, dj5, dj6, dj7, dj8, dj9, dj10, dj11, dj12, dj13, dj14, dj15, dj16, dj17, dj18, dj19, dj20, dj21, or1⟩
        have H := HR1 t38 t341 t342 met hI1
        refine WC.seq ?_
        refine WC.region ?_
        refine WL.y rfl (Yld.pure tab_ok rfl) ?_
        refine WL.nil (WX.then_normal ?_)
        refine WC.seq ?_
        refine WC.cond rfl (fun b3 => ?_) (fun b3 => ?_)
        · replace H := H.1 (of_decide_eq_true b3)
          refine WC.skip (WX.then_normal ?_)
          refine WC.seq ?_
          obtain ⟨J1, H, hJ1⟩ := H
          refine WC.midF (fun L' w' => ∃ (t3412 : List PV), ∃ (A_t3412 : Option Addr), ∃ (c_t3412 : Nat), ∃ (n_t3412 : Nat), ∃ (hs_t3412 : List VH), ∃ (t3422 : List (List UInt8)), ∃ (A_t3422 : Option Addr), ∃ (c_t3422 : Nat), ∃ (n_t3422 : Nat), ∃ (m : List (List UInt8 × Bool)), L' = [(0, .int .i64 order), (1, .slice A_own own.length c_own), (2, .slice A_from from_.length c_from), (8, .pointer (some ⟨g1, 0, none⟩)), (9, .map (some g_met)), (36, .slice A_own own.length c_own), (37, .int .i64 (own.length : Int)), (38, .int .i64 t38)] ∧ J1 t3412 t3422 m ∧ n_t3412 = t3412.length ∧ n_t3422 = t3422.length ∧ w.grownBy w' none ∧ Own vv w' w.heap.size 36 A_t32 c_t32 hs_t32 ∧ RelD deS w' hs_t32 t32 ∧ Bl w' g1 83 [.int .i64 order, .slice A_t3412 n_t3412 c_t3412, .slice A_t3422 n_t3422 c_t3422, .slice A_t32 t32.length c_t32, .int .i64 (0 : Int), .bool true] ∧ MapB vs okS vB w' g_met m ∧ Own vv w' w.heap.size 41 A_t3412 c_t3412 hs_t3412 ∧ RelD deV w' hs_t3412 t3412 ∧ Own vs w' w.heap.size 9 A_t3422 c_t3422 t3422 ∧ Dj (blk A_t32) (some g1) ∧ Dj (blk A_t32) (some g_met) ∧ Dj (blk A_t32) (blk A_t3412) ∧ Dj (blk A_t32) (blk A_t3422) ∧ DnD deS hs_t32 t32 (blk A_t32) ∧ DnD deS hs_t32 t32 (some g1) ∧ DnD deS hs_t32 t32 (some g_met) ∧ DnD deS hs_t32 t32 (blk A_t3412) ∧ DnD deS hs_t32 t32 (blk A_t3422) ∧ Dj (some g1) (some g_met) ∧ Dj (some g1) (blk A_t3412) ∧ Dj (some g1) (blk A_t3422) ∧ Dj (some g_met) (blk A_t3412) ∧ Dj (some g_met) (blk A_t3422) ∧ Dj (blk A_t3412) (blk A_t3422) ∧ DnD deV hs_t3412 t3412 (blk A_t32) ∧ DnD deV hs_t3412 t3412 (some g1) ∧ DnD deV hs_t3412 t3412 (some g_met) ∧ DnD deV hs_t3412 t3412 (blk A_t3412) ∧ DnD deV hs_t3412 t3412 (blk A_t3422) ∧ OrD (fun p => DnD deV hs_own own p ∧ DnD deS hs_from_ from_ p) deV hs_t3412 t3412 w.heap.size) ?_ (fun hQ => ?_)
          · clear H
            rintro _ w6 ⟨t3412, A_t3412, c_t3412, n_t3412, hs_t3412, t3422, A_t3422, c_t3422, n_t3422, m, rfl, H, rfl, rfl, gr6, k14, k15, k16, k17, k18, k19, k20, dj22, dj23, dj24, dj25, dj26, dj27, dj28, dj29, dj30, dj31, dj32, dj33, dj34, dj35, dj36, dj37, dj38, dj39, dj40, dj41, or2⟩
            replace H := hJ1 t3412 t3422 m H
            refine WX.then_normal ?_
            refine WC.region ?_
            obtain ⟨h1, H⟩ := H
            refine WL.y rfl (Yld.add rfl rfl h1) ?_
            refine WL.y rfl (Yld.pure tab_ok rfl) ?_
            refine WL.nil ?_
            exact WX.roundF _ ⟨t38 + (1 : Int), t3412, A_t3412, c_t3412, t3412.length, hs_t3412, t3422, A_t3422, c_t3422, t3422.length, m, rfl, rfl, H.1, rfl, rfl, gr6, k14, k15, k16, k17, k18, k19, k20, dj22, dj23, dj24, dj25, dj26, dj27, dj28, dj29, dj30, dj31, dj32, dj33, dj34, dj35, dj36, dj37, dj38, dj39, dj40, dj41, or2⟩ (by repeat (first | exact Sub.nil | refine Sub.cons rfl ?_)) H.2
          · clear hJ1
            refine WC.block ?_
            refine WC.seq ?_
            refine WC.region ?_
            obtain ⟨h2, H⟩ := H
            refine WL.y rfl (Yld.iaddrW tab_ok (hown.grown gr5) rfl rfl hr_own.1.symm rfl h2.1 h2.2) ?_
            obtain ⟨⟨v_el, F_el⟩, eh1, hR1⟩ := RelD.at (hr_own.grown gr5) vh0 PV.nil (j := t38.toNat) (Nat.lt_of_lt_of_eq (iltN h2 hr_own.1.symm) (hr_own.grown gr5).1)
            have hv4 : RelD deV w5 [(v_el, F_el)] [own.getD t38.toNat PV.nil] := RelD.cons hR1 RelD.nil
            refine WL.y rfl (Yld.to (v := v_el.1) (Yld.iload vh0 tab_ok (hown.grown gr5) rfl rfl (iltN h2 hr_own.1.symm)) (congrArg vv eh1)) ?_
            refine WL.y rfl (Yld.pure tab_ok rfl) ?_
            refine WL.nil (WX.then_normal ?_)
            refine WC.seq ?_
            refine WC.region ?_
            refine WL.y rfl (Yld.pure tab_ok rfl) ?_
            refine WL.call rfl rfl (W_val_Key (hG.grown gr5) hS3 hS7 hv4 H) ?_
            rintro _ w7 ⟨hg5, t440, v_t441, t441, rfl, ht441, H⟩
            have gr7 := gr_trans gr5 hg5
            have k21 := k7.grown hg5
            have k22 := k8.grown hg5
            have k23 := k9.g0 hg5
            have k24 := k10.g0 hg5
            have k25 := k11.grown hg5
            have k26 := k12.grown hg5
            have k27 := k13.grown hg5
            have k28 := hv4.grown hg5
            refine WL.y rfl (Yld.pure tab_ok rfl) ?_
            refine WL.y rfl (Yld.pure tab_ok rfl) ?_
            refine WL.y rfl (Yld.pure tab_ok rfl) ?_
            refine WL.y rfl (Yld.pure tab_ok rfl) ?_
            refine WL.y rfl (Yld.pure tab_ok rfl) ?_
            refine WL.nil (WX.then_normal ?_)
            refine WC.seq ?_
            refine WC.seq ?_
            refine WC.region ?_
            refine WL.y rfl (Yld.pure tab_ok rfl) ?_
            refine WL.y rfl (Yld.errneq Tryd.underlying34 ht441 rfl) ?_
            refine WL.nil (WX.then_normal ?_)
            refine WC.cond rfl (fun b4 => ?_) (fun b4 => ?_)
            · replace H := H.1 (nd_true b4)
              refine WC.seq ?_
              refine WC.region ?_
              refine WL.y rfl (Yld.pure tab_ok rfl) ?_
              have hv5 : RelD deS w7 [(pnil, noF)] [PS.nil] := deS_nil
              refine WL.y rfl (Yld.pure tab_ok rfl) ?_
              refine WL.y rfl (Yld.pure tab_ok rfl) ?_
              refine WL.nil (WX.then_normal ?_)
              refine WC.ret (WX.then_ret (WX.block_ret (WX.then_ret (WX.then_ret (WX.block_ret (WX.then_ret ?_))))))
              exact WX.ret2 rfl rfl rfl ⟨gr7, pnil, noF, PS.nil, v_t441, t441, rfl, hv5, (fun p_ hp_ v0_ v1_ => deS_nilD), (fun h_ => absurd rfl h_), ht441, H⟩
            · replace H := H.2 (nd_false b4)
              refine WC.skip (WX.then_normal ?_)
              refine WC.seq ?_
              refine WC.region ?_
              refine WL.y rfl (Yld.pure tab_ok rfl) ?_
              refine WL.y rfl (Yld.pure tab_ok rfl) ?_
              obtain ⟨h3, H⟩ := H
              refine WL.y rfl (Yld.look (z := false) (keyF_s Tryd.underlying9) Tryd.underlying76 (fun _ => by kernel_rfl) k24 rfl rfl h3) ?_
              refine WL.y rfl (Yld.pure tab_ok rfl) ?_
              refine WL.nil (WX.then_normal ?_)
              refine WC.cond rfl (fun b5 => ?_) (fun b5 => ?_)
              · replace H := H.1 (b5)
                refine WC.seq ?_
                refine WC.region ?_
                refine WL.y rfl (Yld.pure tab_ok rfl) ?_
                refine WL.y rfl (Yld.pure tab_ok rfl) ?_
                obtain ⟨h4, H⟩ := H
                refine WL.ef0 (Ef0.mapPut (keyF_s Tryd.underlying9) Tryd.underlying76 k24 h4.2 rfl rfl h4.1 rfl) ?_
                rintro w8 ⟨hB3, hg6⟩
                have gr8 := gr_mod gr7 hg6 (Ge.le (Ge.box (Nat.le_of_eq hl2.symm)) (size_le gr3))
                have k29 := k21.go hg6 dj3
                have k30 := k22.go hg6 dj8
                have k31 := k23.go hg6 dj11
                have k32 := k25.go hg6 dj14.symm
                have k33 := k26.go hg6 dj19
                have k34 := k27.go hg6 dj15.symm
                have k35 := k28.go hg6 (DnD.cons (DnD.at (hr_own.new (Ge.le (Ge.box (Nat.le_of_eq hl2.symm)) (size_le gr3))) (hr_own.grown gr5).1 (Nat.lt_of_lt_of_eq (iltN h2 hr_own.1.symm) (hr_own.grown gr5).1) eh1) DnD.nil)
                refine WL.nil (WX.then_normal ?_)
                obtain ⟨J2, H, hJ2⟩ := H
                refine WC.hoist 1 mixed rfl rfl (by kernel_rfl) ?_
                refine WR.ordersF 16 (fun k => !(Nat.beq k 7 || Nat.beq k 8 || Nat.beq k 14 || Nat.beq k 15)) (fun w' => GrL [(blk A_t341), (blk A_t342)] w8 w') (fun L' w' => ∃ (A_t64 : Option Addr), ∃ (c_t64 : Nat), ∃ (A_t71 : Option Addr), ∃ (c_t71 : Nat), L' = [(0, .int .i64 order), (1, .slice A_own own.length c_own), (2, .slice A_from from_.length c_from), (8, .pointer (some ⟨g1, 0, none⟩)), (9, .map (some g_met)), (36, .slice A_own own.length c_own), (37, .int .i64 (own.length : Int)), (38, .int .i64 t38), (56, .pointer (some ⟨g1, 0, none⟩)), (57, .pointer (some ⟨g1, 0, none⟩)), (64, .slice A_t64 ((t341 ++ ([own.getD t38.toNat PV.nil] : List PV)).length) c_t64), (71, .slice A_t71 ((t342 ++ ([t440] : List (List UInt8))).length) c_t71)] ∧ J2 ∧ w.grownBy w' none ∧ Own vv w' w.heap.size 36 A_t32 c_t32 hs_t32 ∧ RelD deS w' hs_t32 t32 ∧ Bl w' g1 83 [.int .i64 order, .slice A_t341 t341.length c_t341, .slice A_t342 t342.length c_t342, .slice A_t32 t32.length c_t32, .int .i64 (0 : Int), .bool true] ∧ MapB vs okS vB w' g_met (mput met t440 true) ∧ RelD deV w' hs_t341 t341 ∧ Own vv w' w.heap.size 41 A_t64 c_t64 (hs_t341 ++ ([(v_el, F_el)] : List VH)) ∧ RelD deV w' (hs_t341 ++ ([(v_el, F_el)] : List VH)) (t341 ++ ([own.getD t38.toNat PV.nil] : List PV)) ∧ Own vs w' w.heap.size 9 A_t71 c_t71 (t342 ++ ([t440] : List (List UInt8))) ∧ Dj (blk A_t32) (blk A_t64) ∧ Dj (blk A_t32) (blk A_t71) ∧ DnD deS hs_t32 t32 (blk A_t64) ∧ DnD deS hs_t32 t32 (blk A_t71) ∧ Dj (some g1) (blk A_t64) ∧ Dj (some g1) (blk A_t71) ∧ Dj (some g_met) (blk A_t64) ∧ Dj (some g_met) (blk A_t71) ∧ DnD deV hs_t341 t341 (blk A_t64) ∧ DnD deV hs_t341 t341 (blk A_t71) ∧ Dj (blk A_t64) (blk A_t71) ∧ DnD deV (hs_t341 ++ ([(v_el, F_el)] : List VH)) (t341 ++ ([own.getD t38.toNat PV.nil] : List PV)) (blk A_t32) ∧ DnD deV (hs_t341 ++ ([(v_el, F_el)] : List VH)) (t341 ++ ([own.getD t38.toNat PV.nil] : List PV)) (some g1) ∧ DnD deV (hs_t341 ++ ([(v_el, F_el)] : List VH)) (t341 ++ ([own.getD t38.toNat PV.nil] : List PV)) (some g_met) ∧ DnD deV (hs_t341 ++ ([(v_el, F_el)] : List VH)) (t341 ++ ([own.getD t38.toNat PV.nil] : List PV)) (blk A_t64) ∧ DnD deV (hs_t341 ++ ([(v_el, F_el)] : List VH)) (t341 ++ ([own.getD t38.toNat PV.nil] : List PV)) (blk A_t71) ∧ OrD (fun p => DnD deV hs_own own p ∧ DnD deS hs_from_ from_ p) deV (hs_t341 ++ ([(v_el, F_el)] : List VH)) (t341 ++ ([own.getD t38.toNat PV.nil] : List PV)) w.heap.size) (by kernel_rfl) (fun w' h => GrL.eqv (GrL.refl _) h) ?_ ?_
                · clear H
                  rintro _ w9 ⟨A_t64, c_t64, A_t71, c_t71, rfl, H, gr9, k36, k37, k38, k39, k40, k41, k42, k43, dj42, dj43, dj44, dj45, dj46, dj47, dj48, dj49, dj50, dj51, dj52, dj53, dj54, dj55, dj56, dj57, or3⟩
                  replace H := hJ2  H
                  refine WL.y rfl (Yld.pure tab_ok rfl) ?_
                  refine WL.y rfl (Yld.fa0 (o := 1) (by kernel_rfl) rfl) ?_
                  refine WL.store1 one32 rfl rfl rfl k38 (by simp) (fun w10 hB5 hg7 => ?_)
                  have hB4 : Bl w10 g1 83 [.int .i64 order, .slice A_t64 ((t341 ++ ([own.getD t38.toNat PV.nil] : List PV)).length) c_t64, .slice A_t342 t342.length c_t342, .slice A_t32 t32.length c_t32, .int .i64 (0 : Int), .bool true] := hB5
                  have gr10 := gr_mod gr9 hg7 (Ge.le (Ge.box hl1) (size_le gr2))
                  have k44 := k36.go hg7 dj2
                  have k45 := k37.go hg7 dj7
                  have k46 := k39.go hg7 dj11.symm
                  have k47 := k41.go hg7 dj46.symm
                  have k48 := k42.go hg7 dj54
                  have k49 := k43.go hg7 dj47.symm
                  refine WL.y rfl (Yld.pure tab_ok rfl) ?_
                  refine WL.y rfl (Yld.fa0 (o := 2) (by kernel_rfl) rfl) ?_
                  refine WL.store1 one38 rfl rfl rfl hB4 (by simp) (fun w11 hB7 hg8 => ?_)
                  have hB6 : Bl w11 g1 83 [.int .i64 order, .slice A_t64 ((t341 ++ ([own.getD t38.toNat PV.nil] : List PV)).length) c_t64, .slice A_t71 ((t342 ++ ([t440] : List (List UInt8))).length) c_t71, .slice A_t32 t32.length c_t32, .int .i64 (0 : Int), .bool true] := hB7
                  have gr11 := gr_mod gr10 hg8 (Ge.le (Ge.box hl1) (size_le gr2))
                  have k50 := k44.go hg8 dj2
                  have k51 := k45.go hg8 dj7
                  have k52 := k46.go hg8 dj11.symm
                  have k53 := k47.go hg8 dj46.symm
                  have k54 := k48.go hg8 dj54
                  have k55 := k49.go hg8 dj47.symm
                  refine WL.nil (WX.qn (WX.block_normal ?_))
                  exact WX.weaken (by repeat (first | exact Sub.nil | refine Sub.cons rfl ?_)) (hQ _ _ ⟨t341 ++ ([own.getD t38.toNat PV.nil] : List PV), A_t64, c_t64, (t341 ++ ([own.getD t38.toNat PV.nil] : List PV)).length, hs_t341 ++ ([(v_el, F_el)] : List VH), t342 ++ ([t440] : List (List UInt8)), A_t71, c_t71, (t342 ++ ([t440] : List (List UInt8))).length, mput met t440 true, rfl, H, rfl, rfl, gr11, k50, k51, hB6, k52, k53, k54, k55, dj2, dj3, dj42, dj43, dj6, dj7, dj8, dj44, dj45, dj11, dj46, dj47, dj48, dj49, dj52, dj53, dj54, dj55, dj56, dj57, or3⟩)
                · clear hJ2
                  refine WA.y 1 rfl (by kernel_rfl) rfl (fun w' hw' => Yld.pure tab_ok rfl) ?_
                  refine WA.y 0 rfl (by kernel_rfl) rfl (fun w' hw' => Yld.pure tab_ok rfl) ?_
                  refine WA.y 2 rfl (by kernel_rfl) rfl (fun w' hw' => Yld.pure tab_ok rfl) ?_
                  refine WA.y 3 rfl (by kernel_rfl) rfl (fun w' hw' => Yld.pure tab_ok rfl) ?_
                  refine WA.y 4 rfl (by kernel_rfl) rfl (fun w' hw' => Yld.fa0 (o := 1) (by kernel_rfl) rfl) ?_
                  refine WA.y 5 rfl (by kernel_rfl) rfl (fun w' hw' => Yld.bload tab_ok (Bl.goL k31 hw' (apC dj12 (apC dj13 apN))) rfl rfl rfl) ?_
                  refine WA.y 6 rfl (by kernel_rfl) rfl (fun w' hw' => Yld.pure tab_ok rfl) ?_
                  refine WA.y 9 rfl (by kernel_rfl) rfl (fun w' hw' => Yld.pure tab_ok rfl) ?_
                  refine WA.y 10 rfl (by kernel_rfl) rfl (fun w' hw' => Yld.pure tab_ok rfl) ?_
                  refine WA.y 11 rfl (by kernel_rfl) rfl (fun w' hw' => Yld.fa0 (o := 2) (by kernel_rfl) rfl) ?_
                  refine WA.y 12 rfl (by kernel_rfl) rfl (fun w' hw' => Yld.bload tab_ok (Bl.goL k31 hw' (apC dj12 (apC dj13 apN))) rfl rfl rfl) ?_
                  refine WA.y 13 rfl (by kernel_rfl) rfl (fun w' hw' => Yld.pure tab_ok rfl) ?_
                  refine WA.split [7, 14] (by kernel_rfl) (by kernel_rfl) ⟨?_, ?_⟩
                  · refine WI.put rfl rfl rfl (Eff.lit (us := [v_el.1]) tab_ok rfl rfl (all1c v_el.2 all1n) rfl (by omega)) (fun v w' ⟨_, _, h⟩ => GrL.add0 (GrL.refl _) h) ?_
                    rintro _ w12 ⟨rfl, hB8, hg9⟩
                    obtain ⟨g2, hl3⟩ : ∃ g, g = w8.heap.size := ⟨_, rfl⟩
                    rw [← hl3] at hB8
                    rw [← hl3]
                    have hO1 : Own vv w12 w.heap.size 41 (some ⟨g2, 0, none⟩) 1 ([(v_el, F_el)] : List VH) := Own.ofBl hB8 (Nat.le_trans (size_le gr8) (Nat.le_of_eq hl3.symm)) (by simp [maxLen]) rfl
                    have gr12 := gr_trans gr8 hg9
                    have k56 := k29.grown hg9
                    have k57 := k30.grown hg9
                    have k58 := k31.g0 hg9
                    have k59 := hB3.g0 hg9
                    have k60 := k32.grown hg9
                    have k61 := k33.grown hg9
                    have k62 := k34.grown hg9
                    have k63 := k35.grown hg9
                    have hr1 : RelD deV w12 ([(v_el, F_el)] : List VH) ([own.getD t38.toNat PV.nil] : List PV) := (RelD.cons (RelD.one k63) RelD.nil)
                    have nd1 : OrD (fun p => DnD deV hs_own own p ∧ DnD deS hs_from_ from_ p) deV ([(v_el, F_el)] : List VH) ([own.getD t38.toNat PV.nil] : List PV) w.heap.size := (OrD.cons (d := deV) (fun p_ hp_ q_ => (DnD.one (DnD.cons (DnD.at (q_.1) (hr_own.grown gr5).1 (Nat.lt_of_lt_of_eq (iltN h2 hr_own.1.symm) (hr_own.grown gr5).1) eh1) DnD.nil))) (fun _ _ _ => DnD.nil))
                    have dj58 : DnD deV ([(v_el, F_el)] : List VH) ([own.getD t38.toNat PV.nil] : List PV) (blk A_t32) := (DnD.cons (d := deV) (DnD.one (DnD.cons (DnD.at (hr_own.new k7.ge') (hr_own.grown gr5).1 (Nat.lt_of_lt_of_eq (iltN h2 hr_own.1.symm) (hr_own.grown gr5).1) eh1) DnD.nil)) DnD.nil)
                    have dj59 : DnD deV ([(v_el, F_el)] : List VH) ([own.getD t38.toNat PV.nil] : List PV) (some g1) := (DnD.cons (d := deV) (DnD.one (DnD.cons (DnD.at (hr_own.new (Ge.le (Ge.box hl1) (size_le gr2))) (hr_own.grown gr5).1 (Nat.lt_of_lt_of_eq (iltN h2 hr_own.1.symm) (hr_own.grown gr5).1) eh1) DnD.nil)) DnD.nil)
                    have dj60 : DnD deV ([(v_el, F_el)] : List VH) ([own.getD t38.toNat PV.nil] : List PV) (some g_met) := (DnD.cons (d := deV) (DnD.one (DnD.cons (DnD.at (hr_own.new (Ge.le (Ge.box (Nat.le_of_eq hl2.symm)) (size_le gr3))) (hr_own.grown gr5).1 (Nat.lt_of_lt_of_eq (iltN h2 hr_own.1.symm) (hr_own.grown gr5).1) eh1) DnD.nil)) DnD.nil)
                    have dj61 : DnD deV ([(v_el, F_el)] : List VH) ([own.getD t38.toNat PV.nil] : List PV) (blk A_t341) := (DnD.cons (d := deV) (DnD.one (DnD.cons (DnD.at (hr_own.new k11.ge') (hr_own.grown gr5).1 (Nat.lt_of_lt_of_eq (iltN h2 hr_own.1.symm) (hr_own.grown gr5).1) eh1) DnD.nil)) DnD.nil)
                    have dj62 : DnD deV ([(v_el, F_el)] : List VH) ([own.getD t38.toNat PV.nil] : List PV) (blk A_t342) := (DnD.cons (d := deV) (DnD.one (DnD.cons (DnD.at (hr_own.new k13.ge') (hr_own.grown gr5).1 (Nat.lt_of_lt_of_eq (iltN h2 hr_own.1.symm) (hr_own.grown gr5).1) eh1) DnD.nil)) DnD.nil)
                    have dj63 : DnD deV ([(v_el, F_el)] : List VH) ([own.getD t38.toNat PV.nil] : List PV) (blk (some ⟨g2, 0, none⟩)) := (DnD.cons (d := deV) (DnD.one (k35.new (Ge.box (Nat.le_of_eq hl3.symm)))) DnD.nil)
                    have gt1 : GrL [(blk A_t341), (blk A_t342)] w8 w12 := GrL.add0 (GrL.refl _) hg9
                    refine WA.split [8, 14] (by kernel_rfl) (by kernel_rfl) ⟨?_, ?_⟩
                    · obtain ⟨h5, H⟩ := H
                      have h6 : ((hs_t341 : List VH).length + ([(v_el, F_el)] : List VH).length) * 16 ≤ 140737488355328 := by rw [k61.1, hr1.1]; exact h5
                      refine WI.put rfl rfl rfl (Eff.append tab_ok rfl One.vv k60 rfl k12.1.symm hO1.rd rfl rfl h6 (applen h6) (size_le gr12)) (fun v w' ⟨_, _, _, _, h, _⟩ => GrL.mod gt1 h (InP.mem (List.Mem.head _))) ?_
                      rintro _ w13 ⟨A_t642, c_t642, rfl, hO2, hg10, hk1⟩
                      have el1 : (hs_t341 ++ ([(v_el, F_el)] : List VH)).length = (t341 ++ ([own.getD t38.toNat PV.nil] : List PV)).length := by rw [List.length_append, List.length_append, k61.1, hr1.1]
                      rw [el1]
                      have gr13 := gr_mod gr12 hg10 k60.ge'
                      have k64 := k56.go hg10 dj4
                      have k65 := k57.go hg10 dj9
                      have k66 := k58.go hg10 dj12
                      have k67 := k59.go hg10 dj14
                      have k68 := k61.go hg10 dj20
                      have k69 := k62.go hg10 dj16.symm
                      have k70 := k63.go hg10 (DnD.cons (DnD.at (hr_own.new k11.ge') (hr_own.grown gr5).1 (Nat.lt_of_lt_of_eq (iltN h2 hr_own.1.symm) (hr_own.grown gr5).1) eh1) DnD.nil)
                      have k71 := hO1.go hg10 ((Dj.new k32.lt' (Ge.box (Nat.le_of_eq hl3.symm))).symm)
                      have k72 := hr1.go hg10 dj61
                      have hr2 : RelD deV w13 (hs_t341 ++ ([(v_el, F_el)] : List VH)) (t341 ++ ([own.getD t38.toNat PV.nil] : List PV)) := RelD.append k68 k72
                      have nd2 : OrD (fun p => DnD deV hs_own own p ∧ DnD deS hs_from_ from_ p) deV (hs_t341 ++ ([(v_el, F_el)] : List VH)) (t341 ++ ([own.getD t38.toNat PV.nil] : List PV)) w.heap.size := OrD.append k61.1 or1 nd1
                      have dj64 : DnD deV (hs_t341 ++ ([(v_el, F_el)] : List VH)) (t341 ++ ([own.getD t38.toNat PV.nil] : List PV)) (blk A_t32) := (DnD.append k61.1 dj17 dj58)
                      have dj65 : DnD deV (hs_t341 ++ ([(v_el, F_el)] : List VH)) (t341 ++ ([own.getD t38.toNat PV.nil] : List PV)) (some g1) := (DnD.append k61.1 dj18 dj59)
                      have dj66 : DnD deV (hs_t341 ++ ([(v_el, F_el)] : List VH)) (t341 ++ ([own.getD t38.toNat PV.nil] : List PV)) (some g_met) := (DnD.append k61.1 dj19 dj60)
                      have dj67 : DnD deV (hs_t341 ++ ([(v_el, F_el)] : List VH)) (t341 ++ ([own.getD t38.toNat PV.nil] : List PV)) (blk A_t342) := (DnD.append k61.1 dj21 dj62)
                      have dj68 : DnD deV (hs_t341 ++ ([(v_el, F_el)] : List VH)) (t341 ++ ([own.getD t38.toNat PV.nil] : List PV)) (blk (some ⟨g2, 0, none⟩)) := (DnD.append k61.1 (k33.new (Ge.box (Nat.le_of_eq hl3.symm))) dj63)
                      have dj69 : DnD deV (hs_t341 ++ ([(v_el, F_el)] : List VH)) (t341 ++ ([own.getD t38.toNat PV.nil] : List PV)) (blk A_t642) := (DnD.append k61.1 (RelD.app k61 dj20 hk1) (RelD.app hr1 dj61 hk1))
                      have gt2 : GrL [(blk A_t341), (blk A_t342)] w8 w13 := GrL.mod gt1 hg10 (InP.mem (List.Mem.head _))
                      refine WA.split [14] (by kernel_rfl) (by kernel_rfl) ?_
                      · refine WI.put rfl rfl rfl (Eff.lit tab_ok rfl rfl (all1c rfl all1n) rfl (by omega)) (fun v w' ⟨_, _, h⟩ => GrL.add0 gt2 h) ?_
                        rintro _ w14 ⟨rfl, hB9, hg11⟩
                        obtain ⟨g_t70, hl4⟩ : ∃ g, g = w13.heap.size := ⟨_, rfl⟩
                        rw [← hl4] at hB9
                        rw [← hl4]
                        have hO3 : Own vs w14 w.heap.size 9 (some ⟨g_t70, 0, none⟩) 1 ([t440] : List (List UInt8)) := Own.ofBl hB9 (Nat.le_trans (size_le gr13) (Nat.le_of_eq hl4.symm)) (by simp [maxLen]) rfl
                        have gr14 := gr_trans gr13 hg11
                        have k73 := k64.grown hg11
                        have k74 := k65.grown hg11
                        have k75 := k66.g0 hg11
                        have k76 := k67.g0 hg11
                        have k77 := k68.grown hg11
                        have k78 := k69.grown hg11
                        have k79 := k70.grown hg11
                        have k80 := k71.grown hg11
                        have k81 := k72.grown hg11
                        have k82 := hO2.grown hg11
                        have k83 := hr2.grown hg11
                        have gt3 : GrL [(blk A_t341), (blk A_t342)] w8 w14 := GrL.add0 gt2 hg11
                        refine WA.split [15] (by kernel_rfl) (by kernel_rfl) ?_
                        · obtain ⟨h7, H⟩ := H
                          refine WI.put rfl rfl rfl (Eff.append tab_ok rfl One.s k78 rfl rfl hO3.rd rfl rfl h7 (applen h7) (size_le gr14)) (fun v w' ⟨_, _, _, _, h, _⟩ => GrL.mod gt3 h (InP.mem (List.Mem.tail _ (List.Mem.head _)))) ?_
                          rintro _ w15 ⟨A_t712, c_t712, rfl, hO4, hg12, hk2⟩
                          have gr15 := gr_mod gr14 hg12 k78.ge'
                          have k84 := k73.go hg12 dj5
                          have k85 := k74.go hg12 dj10
                          have k86 := k75.go hg12 dj13
                          have k87 := k76.go hg12 dj15
                          have k88 := k77.go hg12 dj21
                          have k89 := k79.go hg12 (DnD.cons (DnD.at (hr_own.new k13.ge') (hr_own.grown gr5).1 (Nat.lt_of_lt_of_eq (iltN h2 hr_own.1.symm) (hr_own.grown gr5).1) eh1) DnD.nil)
                          have k90 := k80.go hg12 ((Dj.new k34.lt' (Ge.box (Nat.le_of_eq hl3.symm))).symm)
                          have k91 := k81.go hg12 dj62
                          have k92 := k82.go hg12 (Dj.app dj16 k62.lt' hk1)
                          have k93 := k83.go hg12 dj67
                          have k94 := hO3.go hg12 ((Dj.new k69.lt' (Ge.box (Nat.le_of_eq hl4.symm))).symm)
                          have gt4 : GrL [(blk A_t341), (blk A_t342)] w8 w15 := GrL.mod gt3 hg12 (InP.mem (List.Mem.tail _ (List.Mem.head _)))
                          exact WA.doneF _ (by kernel_rfl) ⟨A_t642, c_t642, A_t712, c_t712, rfl, H, gr15, k84, k85, k86, k87, k88, k92, k93, hO4, (Dj.app dj4.symm k56.lt' hk1).symm, (Dj.app dj5.symm k73.lt' hk2).symm, (RelD.app k57 dj9 hk1), (RelD.app k74 dj10 hk2), (Dj.app dj12.symm k58.lt' hk1).symm, (Dj.app dj13.symm k75.lt' hk2).symm, (Dj.app dj14.symm k59.lt' hk1).symm, (Dj.app dj15.symm k76.lt' hk2).symm, (RelD.app k61 dj20 hk1), (RelD.app k77 dj21 hk2), (Dj.app (Dj.app dj16 k62.lt' hk1).symm k82.lt' hk2).symm, dj64, dj65, dj66, dj69, (RelD.app k83 dj67 hk2), nd2⟩ (by repeat (first | exact Sub.nil | refine Sub.cons rfl ?_))
                    · refine WI.put rfl rfl rfl (Eff.lit tab_ok rfl rfl (all1c rfl all1n) rfl (by omega)) (fun v w' ⟨_, _, h⟩ => GrL.add0 gt1 h) ?_
                      rintro _ w16 ⟨rfl, hB10, hg13⟩
                      obtain ⟨g_t702, hl5⟩ : ∃ g, g = w12.heap.size := ⟨_, rfl⟩
                      rw [← hl5] at hB10
                      rw [← hl5]
                      have hO5 : Own vs w16 w.heap.size 9 (some ⟨g_t702, 0, none⟩) 1 ([t440] : List (List UInt8)) := Own.ofBl hB10 (Nat.le_trans (size_le gr12) (Nat.le_of_eq hl5.symm)) (by simp [maxLen]) rfl
                      have gr16 := gr_trans gr12 hg13
                      have k95 := k56.grown hg13
                      have k96 := k57.grown hg13
                      have k97 := k58.g0 hg13
                      have k98 := k59.g0 hg13
                      have k99 := k60.grown hg13
                      have k100 := k61.grown hg13
                      have k101 := k62.grown hg13
                      have k102 := k63.grown hg13
                      have k103 := hO1.grown hg13
                      have k104 := hr1.grown hg13
                      have gt5 : GrL [(blk A_t341), (blk A_t342)] w8 w16 := GrL.add0 gt1 hg13
                      refine WA.split [8] (by kernel_rfl) (by kernel_rfl) ?_
                      · obtain ⟨h8, H⟩ := H
                        have h9 : ((hs_t341 : List VH).length + ([(v_el, F_el)] : List VH).length) * 16 ≤ 140737488355328 := by rw [k100.1, k104.1]; exact h8
                        refine WI.put rfl rfl rfl (Eff.append tab_ok rfl One.vv k99 rfl k12.1.symm k103.rd rfl rfl h9 (applen h9) (size_le gr16)) (fun v w' ⟨_, _, _, _, h, _⟩ => GrL.mod gt5 h (InP.mem (List.Mem.head _))) ?_
                        rintro _ w17 ⟨A_t643, c_t643, rfl, hO6, hg14, hk3⟩
                        have el2 : (hs_t341 ++ ([(v_el, F_el)] : List VH)).length = (t341 ++ ([own.getD t38.toNat PV.nil] : List PV)).length := by rw [List.length_append, List.length_append, k100.1, k104.1]
                        rw [el2]
                        have gr17 := gr_mod gr16 hg14 k99.ge'
                        have k105 := k95.go hg14 dj4
                        have k106 := k96.go hg14 dj9
                        have k107 := k97.go hg14 dj12
                        have k108 := k98.go hg14 dj14
                        have k109 := k100.go hg14 dj20
                        have k110 := k101.go hg14 dj16.symm
                        have k111 := k102.go hg14 (DnD.cons (DnD.at (hr_own.new k11.ge') (hr_own.grown gr5).1 (Nat.lt_of_lt_of_eq (iltN h2 hr_own.1.symm) (hr_own.grown gr5).1) eh1) DnD.nil)
                        have k112 := k103.go hg14 ((Dj.new k32.lt' (Ge.box (Nat.le_of_eq hl3.symm))).symm)
                        have k113 := k104.go hg14 dj61
                        have k114 := hO5.go hg14 ((Dj.new k60.lt' (Ge.box (Nat.le_of_eq hl5.symm))).symm)
                        have hr3 : RelD deV w17 (hs_t341 ++ ([(v_el, F_el)] : List VH)) (t341 ++ ([own.getD t38.toNat PV.nil] : List PV)) := RelD.append k109 k113
                        have nd3 : OrD (fun p => DnD deV hs_own own p ∧ DnD deS hs_from_ from_ p) deV (hs_t341 ++ ([(v_el, F_el)] : List VH)) (t341 ++ ([own.getD t38.toNat PV.nil] : List PV)) w.heap.size := OrD.append k100.1 or1 nd1
                        have dj70 : DnD deV (hs_t341 ++ ([(v_el, F_el)] : List VH)) (t341 ++ ([own.getD t38.toNat PV.nil] : List PV)) (blk A_t32) := (DnD.append k100.1 dj17 dj58)
                        have dj71 : DnD deV (hs_t341 ++ ([(v_el, F_el)] : List VH)) (t341 ++ ([own.getD t38.toNat PV.nil] : List PV)) (some g1) := (DnD.append k100.1 dj18 dj59)
                        have dj72 : DnD deV (hs_t341 ++ ([(v_el, F_el)] : List VH)) (t341 ++ ([own.getD t38.toNat PV.nil] : List PV)) (some g_met) := (DnD.append k100.1 dj19 dj60)
                        have dj73 : DnD deV (hs_t341 ++ ([(v_el, F_el)] : List VH)) (t341 ++ ([own.getD t38.toNat PV.nil] : List PV)) (blk A_t342) := (DnD.append k100.1 dj21 dj62)
                        have dj74 : DnD deV (hs_t341 ++ ([(v_el, F_el)] : List VH)) (t341 ++ ([own.getD t38.toNat PV.nil] : List PV)) (blk (some ⟨g2, 0, none⟩)) := (DnD.append k100.1 (k33.new (Ge.box (Nat.le_of_eq hl3.symm))) dj63)
                        have dj75 : DnD deV (hs_t341 ++ ([(v_el, F_el)] : List VH)) (t341 ++ ([own.getD t38.toNat PV.nil] : List PV)) (blk (some ⟨g_t702, 0, none⟩)) := (DnD.append k100.1 (k61.new (Ge.box (Nat.le_of_eq hl5.symm))) (hr1.new (Ge.box (Nat.le_of_eq hl5.symm))))
                        have dj76 : DnD deV (hs_t341 ++ ([(v_el, F_el)] : List VH)) (t341 ++ ([own.getD t38.toNat PV.nil] : List PV)) (blk A_t643) := (DnD.append k100.1 (RelD.app k100 dj20 hk3) (RelD.app k104 dj61 hk3))
                        have gt6 : GrL [(blk A_t341), (blk A_t342)] w8 w17 := GrL.mod gt5 hg14 (InP.mem (List.Mem.head _))
                        refine WA.split [15] (by kernel_rfl) (by kernel_rfl) ?_
                        · obtain ⟨h10, H⟩ := H
                          refine WI.put rfl rfl rfl (Eff.append tab_ok rfl One.s k110 rfl rfl k114.rd rfl rfl h10 (applen h10) (size_le gr17)) (fun v w' ⟨_, _, _, _, h, _⟩ => GrL.mod gt6 h (InP.mem (List.Mem.tail _ (List.Mem.head _)))) ?_
                          rintro _ w18 ⟨A_t713, c_t713, rfl, hO7, hg15, hk4⟩
                          have gr18 := gr_mod gr17 hg15 k110.ge'
                          have k115 := k105.go hg15 dj5
                          have k116 := k106.go hg15 dj10
                          have k117 := k107.go hg15 dj13
                          have k118 := k108.go hg15 dj15
                          have k119 := k109.go hg15 dj21
                          have k120 := k111.go hg15 (DnD.cons (DnD.at (hr_own.new k13.ge') (hr_own.grown gr5).1 (Nat.lt_of_lt_of_eq (iltN h2 hr_own.1.symm) (hr_own.grown gr5).1) eh1) DnD.nil)
                          have k121 := k112.go hg15 ((Dj.new k34.lt' (Ge.box (Nat.le_of_eq hl3.symm))).symm)
                          have k122 := k113.go hg15 dj62
                          have k123 := k114.go hg15 ((Dj.new k62.lt' (Ge.box (Nat.le_of_eq hl5.symm))).symm)
                          have k124 := hO6.go hg15 (Dj.app dj16 k101.lt' hk3)
                          have k125 := hr3.go hg15 dj73
                          have gt7 : GrL [(blk A_t341), (blk A_t342)] w8 w18 := GrL.mod gt6 hg15 (InP.mem (List.Mem.tail _ (List.Mem.head _)))
                          exact WA.doneF _ (by kernel_rfl) ⟨A_t643, c_t643, A_t713, c_t713, rfl, H, gr18, k115, k116, k117, k118, k119, k124, k125, hO7, (Dj.app dj4.symm k95.lt' hk3).symm, (Dj.app dj5.symm k105.lt' hk4).symm, (RelD.app k96 dj9 hk3), (RelD.app k106 dj10 hk4), (Dj.app dj12.symm k97.lt' hk3).symm, (Dj.app dj13.symm k107.lt' hk4).symm, (Dj.app dj14.symm k98.lt' hk3).symm, (Dj.app dj15.symm k108.lt' hk4).symm, (RelD.app k100 dj20 hk3), (RelD.app k109 dj21 hk4), (Dj.app (Dj.app dj16 k101.lt' hk3).symm hO6.lt' hk4).symm, dj70, dj71, dj72, dj76, (RelD.app hr3 dj73 hk4), nd3⟩ (by repeat (first | exact Sub.nil | refine Sub.cons rfl ?_))
                  · refine WI.put rfl rfl rfl (Eff.lit tab_ok rfl rfl (all1c rfl all1n) rfl (by omega)) (fun v w' ⟨_, _, h⟩ => GrL.add0 (GrL.refl _) h) ?_
                    rintro _ w19 ⟨rfl, hB11, hg16⟩
                    obtain ⟨g_t703, hl6⟩ : ∃ g, g = w8.heap.size := ⟨_, rfl⟩
                    rw [← hl6] at hB11
                    rw [← hl6]
                    have hO8 : Own vs w19 w.heap.size 9 (some ⟨g_t703, 0, none⟩) 1 ([t440] : List (List UInt8)) := Own.ofBl hB11 (Nat.le_trans (size_le gr8) (Nat.le_of_eq hl6.symm)) (by simp [maxLen]) rfl
                    have gr19 := gr_trans gr8 hg16
                    have k126 := k29.grown hg16
                    have k127 := k30.grown hg16
                    have k128 := k31.g0 hg16
                    have k129 := hB3.g0 hg16
                    have k130 := k32.grown hg16
                    have k131 := k33.grown hg16
                    have k132 := k34.grown hg16
                    have k133 := k35.grown hg16
                    have gt8 : GrL [(blk A_t341), (blk A_t342)] w8 w19 := GrL.add0 (GrL.refl _) hg16
                    refine WA.split [7] (by kernel_rfl) (by kernel_rfl) ?_
                    · refine WI.put rfl rfl rfl (Eff.lit (us := [v_el.1]) tab_ok rfl rfl (all1c v_el.2 all1n) rfl (by omega)) (fun v w' ⟨_, _, h⟩ => GrL.add0 gt8 h) ?_
                      rintro _ w20 ⟨rfl, hB12, hg17⟩
                      obtain ⟨g3, hl7⟩ : ∃ g, g = w19.heap.size := ⟨_, rfl⟩
                      rw [← hl7] at hB12
                      rw [← hl7]
                      have hO9 : Own vv w20 w.heap.size 41 (some ⟨g3, 0, none⟩) 1 ([(v_el, F_el)] : List VH) := Own.ofBl hB12 (Nat.le_trans (size_le gr19) (Nat.le_of_eq hl7.symm)) (by simp [maxLen]) rfl
                      have gr20 := gr_trans gr19 hg17
                      have k134 := k126.grown hg17
                      have k135 := k127.grown hg17
                      have k136 := k128.g0 hg17
                      have k137 := k129.g0 hg17
                      have k138 := k130.grown hg17
                      have k139 := k131.grown hg17
                      have k140 := k132.grown hg17
                      have k141 := k133.grown hg17
                      have k142 := hO8.grown hg17
                      have hr4 : RelD deV w20 ([(v_el, F_el)] : List VH) ([own.getD t38.toNat PV.nil] : List PV) := (RelD.cons (RelD.one k141) RelD.nil)
                      have nd4 : OrD (fun p => DnD deV hs_own own p ∧ DnD deS hs_from_ from_ p) deV ([(v_el, F_el)] : List VH) ([own.getD t38.toNat PV.nil] : List PV) w.heap.size := (OrD.cons (d := deV) (fun p_ hp_ q_ => (DnD.one (DnD.cons (DnD.at (q_.1) (hr_own.grown gr5).1 (Nat.lt_of_lt_of_eq (iltN h2 hr_own.1.symm) (hr_own.grown gr5).1) eh1) DnD.nil))) (fun _ _ _ => DnD.nil))
                      have dj77 : DnD deV ([(v_el, F_el)] : List VH) ([own.getD t38.toNat PV.nil] : List PV) (blk A_t32) := (DnD.cons (d := deV) (DnD.one (DnD.cons (DnD.at (hr_own.new k7.ge') (hr_own.grown gr5).1 (Nat.lt_of_lt_of_eq (iltN h2 hr_own.1.symm) (hr_own.grown gr5).1) eh1) DnD.nil)) DnD.nil)
                      have dj78 : DnD deV ([(v_el, F_el)] : List VH) ([own.getD t38.toNat PV.nil] : List PV) (some g1) := (DnD.cons (d := deV) (DnD.one (DnD.cons (DnD.at (hr_own.new (Ge.le (Ge.box hl1) (size_le gr2))) (hr_own.grown gr5).1 (Nat.lt_of_lt_of_eq (iltN h2 hr_own.1.symm) (hr_own.grown gr5).1) eh1) DnD.nil)) DnD.nil)
                      have dj79 : DnD deV ([(v_el, F_el)] : List VH) ([own.getD t38.toNat PV.nil] : List PV) (some g_met) := (DnD.cons (d := deV) (DnD.one (DnD.cons (DnD.at (hr_own.new (Ge.le (Ge.box (Nat.le_of_eq hl2.symm)) (size_le gr3))) (hr_own.grown gr5).1 (Nat.lt_of_lt_of_eq (iltN h2 hr_own.1.symm) (hr_own.grown gr5).1) eh1) DnD.nil)) DnD.nil)
                      have dj80 : DnD deV ([(v_el, F_el)] : List VH) ([own.getD t38.toNat PV.nil] : List PV) (blk A_t341) := (DnD.cons (d := deV) (DnD.one (DnD.cons (DnD.at (hr_own.new k11.ge') (hr_own.grown gr5).1 (Nat.lt_of_lt_of_eq (iltN h2 hr_own.1.symm) (hr_own.grown gr5).1) eh1) DnD.nil)) DnD.nil)
                      have dj81 : DnD deV ([(v_el, F_el)] : List VH) ([own.getD t38.toNat PV.nil] : List PV) (blk A_t342) := (DnD.cons (d := deV) (DnD.one (DnD.cons (DnD.at (hr_own.new k13.ge') (hr_own.grown gr5).1 (Nat.lt_of_lt_of_eq (iltN h2 hr_own.1.symm) (hr_own.grown gr5).1) eh1) DnD.nil)) DnD.nil)
                      have dj82 : DnD deV ([(v_el, F_el)] : List VH) ([own.getD t38.toNat PV.nil] : List PV) (blk (some ⟨g_t703, 0, none⟩)) := (DnD.cons (d := deV) (DnD.one (k35.new (Ge.box (Nat.le_of_eq hl6.symm)))) DnD.nil)
                      have dj83 : DnD deV ([(v_el, F_el)] : List VH) ([own.getD t38.toNat PV.nil] : List PV) (blk (some ⟨g3, 0, none⟩)) := (DnD.cons (d := deV) (DnD.one (k133.new (Ge.box (Nat.le_of_eq hl7.symm)))) DnD.nil)
                      have gt9 : GrL [(blk A_t341), (blk A_t342)] w8 w20 := GrL.add0 gt8 hg17
                      refine WA.split [8] (by kernel_rfl) (by kernel_rfl) ?_
                      · obtain ⟨h11, H⟩ := H
                        have h12 : ((hs_t341 : List VH).length + ([(v_el, F_el)] : List VH).length) * 16 ≤ 140737488355328 := by rw [k139.1, hr4.1]; exact h11
                        refine WI.put rfl rfl rfl (Eff.append tab_ok rfl One.vv k138 rfl k12.1.symm hO9.rd rfl rfl h12 (applen h12) (size_le gr20)) (fun v w' ⟨_, _, _, _, h, _⟩ => GrL.mod gt9 h (InP.mem (List.Mem.head _))) ?_
                        rintro _ w21 ⟨A_t644, c_t644, rfl, hO10, hg18, hk5⟩
                        have el3 : (hs_t341 ++ ([(v_el, F_el)] : List VH)).length = (t341 ++ ([own.getD t38.toNat PV.nil] : List PV)).length := by rw [List.length_append, List.length_append, k139.1, hr4.1]
                        rw [el3]
                        have gr21 := gr_mod gr20 hg18 k138.ge'
                        have k143 := k134.go hg18 dj4
                        have k144 := k135.go hg18 dj9
                        have k145 := k136.go hg18 dj12
                        have k146 := k137.go hg18 dj14
                        have k147 := k139.go hg18 dj20
                        have k148 := k140.go hg18 dj16.symm
                        have k149 := k141.go hg18 (DnD.cons (DnD.at (hr_own.new k11.ge') (hr_own.grown gr5).1 (Nat.lt_of_lt_of_eq (iltN h2 hr_own.1.symm) (hr_own.grown gr5).1) eh1) DnD.nil)
                        have k150 := k142.go hg18 ((Dj.new k32.lt' (Ge.box (Nat.le_of_eq hl6.symm))).symm)
                        have k151 := hO9.go hg18 ((Dj.new k130.lt' (Ge.box (Nat.le_of_eq hl7.symm))).symm)
                        have k152 := hr4.go hg18 dj80
                        have hr5 : RelD deV w21 (hs_t341 ++ ([(v_el, F_el)] : List VH)) (t341 ++ ([own.getD t38.toNat PV.nil] : List PV)) := RelD.append k147 k152
                        have nd5 : OrD (fun p => DnD deV hs_own own p ∧ DnD deS hs_from_ from_ p) deV (hs_t341 ++ ([(v_el, F_el)] : List VH)) (t341 ++ ([own.getD t38.toNat PV.nil] : List PV)) w.heap.size := OrD.append k139.1 or1 nd4
                        have dj84 : DnD deV (hs_t341 ++ ([(v_el, F_el)] : List VH)) (t341 ++ ([own.getD t38.toNat PV.nil] : List PV)) (blk A_t32) := (DnD.append k139.1 dj17 dj77)
                        have dj85 : DnD deV (hs_t341 ++ ([(v_el, F_el)] : List VH)) (t341 ++ ([own.getD t38.toNat PV.nil] : List PV)) (some g1) := (DnD.append k139.1 dj18 dj78)
                        have dj86 : DnD deV (hs_t341 ++ ([(v_el, F_el)] : List VH)) (t341 ++ ([own.getD t38.toNat PV.nil] : List PV)) (some g_met) := (DnD.append k139.1 dj19 dj79)
                        have dj87 : DnD deV (hs_t341 ++ ([(v_el, F_el)] : List VH)) (t341 ++ ([own.getD t38.toNat PV.nil] : List PV)) (blk A_t342) := (DnD.append k139.1 dj21 dj81)
                        have dj88 : DnD deV (hs_t341 ++ ([(v_el, F_el)] : List VH)) (t341 ++ ([own.getD t38.toNat PV.nil] : List PV)) (blk (some ⟨g_t703, 0, none⟩)) := (DnD.append k139.1 (k33.new (Ge.box (Nat.le_of_eq hl6.symm))) dj82)
                        have dj89 : DnD deV (hs_t341 ++ ([(v_el, F_el)] : List VH)) (t341 ++ ([own.getD t38.toNat PV.nil] : List PV)) (blk (some ⟨g3, 0, none⟩)) := (DnD.append k139.1 (k131.new (Ge.box (Nat.le_of_eq hl7.symm))) dj83)
                        have dj90 : DnD deV (hs_t341 ++ ([(v_el, F_el)] : List VH)) (t341 ++ ([own.getD t38.toNat PV.nil] : List PV)) (blk A_t644) := (DnD.append k139.1 (RelD.app k139 dj20 hk5) (RelD.app hr4 dj80 hk5))
                        have gt10 : GrL [(blk A_t341), (blk A_t342)] w8 w21 := GrL.mod gt9 hg18 (InP.mem (List.Mem.head _))
                        refine WA.split [15] (by kernel_rfl) (by kernel_rfl) ?_
                        · obtain ⟨h13, H⟩ := H
                          refine WI.put rfl rfl rfl (Eff.append tab_ok rfl One.s k148 rfl rfl k150.rd rfl rfl h13 (applen h13) (size_le gr21)) (fun v w' ⟨_, _, _, _, h, _⟩ => GrL.mod gt10 h (InP.mem (List.Mem.tail _ (List.Mem.head _)))) ?_
                          rintro _ w22 ⟨A_t714, c_t714, rfl, hO11, hg19, hk6⟩
                          have gr22 := gr_mod gr21 hg19 k148.ge'
                          have k153 := k143.go hg19 dj5
                          have k154 := k144.go hg19 dj10
                          have k155 := k145.go hg19 dj13
                          have k156 := k146.go hg19 dj15
                          have k157 := k147.go hg19 dj21
                          have k158 := k149.go hg19 (DnD.cons (DnD.at (hr_own.new k13.ge') (hr_own.grown gr5).1 (Nat.lt_of_lt_of_eq (iltN h2 hr_own.1.symm) (hr_own.grown gr5).1) eh1) DnD.nil)
                          have k159 := k150.go hg19 ((Dj.new k34.lt' (Ge.box (Nat.le_of_eq hl6.symm))).symm)
                          have k160 := k151.go hg19 ((Dj.new k132.lt' (Ge.box (Nat.le_of_eq hl7.symm))).symm)
                          have k161 := k152.go hg19 dj81
                          have k162 := hO10.go hg19 (Dj.app dj16 k140.lt' hk5)
                          have k163 := hr5.go hg19 dj87
                          have gt11 : GrL [(blk A_t341), (blk A_t342)] w8 w22 := GrL.mod gt10 hg19 (InP.mem (List.Mem.tail _ (List.Mem.head _)))
                          exact WA.doneF _ (by kernel_rfl) ⟨A_t644, c_t644, A_t714, c_t714, rfl, H, gr22, k153, k154, k155, k156, k157, k162, k163, hO11, (Dj.app dj4.symm k134.lt' hk5).symm, (Dj.app dj5.symm k143.lt' hk6).symm, (RelD.app k135 dj9 hk5), (RelD.app k144 dj10 hk6), (Dj.app dj12.symm k136.lt' hk5).symm, (Dj.app dj13.symm k145.lt' hk6).symm, (Dj.app dj14.symm k137.lt' hk5).symm, (Dj.app dj15.symm k146.lt' hk6).symm, (RelD.app k139 dj20 hk5), (RelD.app k147 dj21 hk6), (Dj.app (Dj.app dj16 k140.lt' hk5).symm hO10.lt' hk6).symm, dj84, dj85, dj86, dj90, (RelD.app hr5 dj87 hk6), nd5⟩ (by repeat (first | exact Sub.nil | refine Sub.cons rfl ?_))
              · replace H := H.2 (b5)
                refine WC.skip (WX.block_normal ?_)
                exact WX.weaken (by repeat (first | exact Sub.nil | refine Sub.cons rfl ?_)) (hQ _ _ ⟨t341, A_t341, c_t341, t341.length, hs_t341, t342, A_t342, c_t342, t342.length, met, rfl, H, rfl, rfl, gr7, k21, k22, k23, k24, k25, k26, k27, dj2, dj3, dj4, dj5, dj6, dj7, dj8, dj9, dj10, dj11, dj12, dj13, dj14, dj15, dj16, dj17, dj18, dj19, dj20, dj21, or1⟩)
        · replace H := H.2 (of_decide_eq_false b3)
          refine WC.exit (WX.then_exit (WX.then_exit (WX.block_same (WX.then_normal ?_))))
          refine WC.seq ?_
          refine WC.region ?_
          refine WL.y rfl (Yld.pure tab_ok rfl) ?_
          refine WL.y rfl (Yld.pure tab_ok rfl) ?_
          refine WL.y rfl (Yld.pure tab_ok rfl) ?_
          refine WL.y rfl (Yld.fa0 (o := 1) (by kernel_rfl) rfl) ?_
          refine WL.y rfl (Yld.bload tab_ok k9 rfl rfl rfl) ?_
          refine WL.y rfl (Yld.pure tab_ok rfl) ?_
          refine WL.y rfl (Yld.pure tab_ok rfl) ?_
          refine WL.y rfl (Yld.pure tab_ok rfl) ?_
          refine WL.y rfl (Yld.fa0 (o := 5) (by kernel_rfl) rfl) ?_
          refine WL.store1 one4 rfl rfl rfl k9 (by simp) (fun w23 hB14 hg20 => ?_)
          have hB13 : Bl w23 g1 83 [.int .i64 order, .slice A_t341 t341.length c_t341, .slice A_t342 t342.length c_t342, .slice A_t32 t32.length c_t32, .int .i64 (0 : Int), .bool (decide ((t341.length : Int) = (0 : Int)))] := hB14
          have gr23 := gr_mod gr5 hg20 (Ge.le (Ge.box hl1) (size_le gr2))
          have k164 := k7.go hg20 dj2
          have k165 := k8.go hg20 dj7
          have k166 := k11.go hg20 dj12.symm
          have k167 := k12.go hg20 dj18
          have k168 := k13.go hg20 dj13.symm
          refine WL.nil (WX.then_normal ?_)
          refine WC.seq ?_
          refine WC.seq ?_
          refine WC.region ?_
          refine WL.y rfl (Yld.pure tab_ok rfl) ?_
          refine WL.y rfl (Yld.pure tab_ok rfl) ?_
          refine WL.y rfl (Yld.pure tab_ok rfl) ?_
          refine WL.nil (WX.then_normal ?_)
          refine WC.block ?_
          obtain ⟨I2, mu2, h0_2, HR2⟩ := H
          refine WC.loopF (fun n' L' w' => ∃ (t88 : Int), ∃ (t344 : Int), ∃ (t345 : Bool), n' = mu2 t88 t344 t345 ∧ L' = [(0, .int .i64 order), (1, .slice A_own own.length c_own), (2, .slice A_from from_.length c_from), (8, .pointer (some ⟨g1, 0, none⟩)), (86, .slice A_from from_.length c_from), (87, .int .i64 (from_.length : Int)), (88, .int .i64 t88)] ∧ I2 t88 t344 t345 ∧ w.grownBy w' none ∧ Own vv w' w.heap.size 36 A_t32 c_t32 hs_t32 ∧ RelD deS w' hs_t32 t32 ∧ Bl w' g1 83 [.int .i64 order, .slice A_t341 t341.length c_t341, .slice A_t342 t342.length c_t342, .slice A_t32 t32.length c_t32, .int .i64 t344, .bool t345] ∧ Own vv w' w.heap.size 41 A_t341 c_t341 hs_t341 ∧ RelD deV w' hs_t341 t341 ∧ Own vs w' w.heap.size 9 A_t342 c_t342 t342 ∧ Dj (blk A_t32) (some g1) ∧ Dj (blk A_t32) (blk A_t341) ∧ Dj (blk A_t32) (blk A_t342) ∧ DnD deS hs_t32 t32 (blk A_t32) ∧ DnD deS hs_t32 t32 (some g1) ∧ DnD deS hs_t32 t32 (blk A_t341) ∧ DnD deS hs_t32 t32 (blk A_t342) ∧ Dj (some g1) (blk A_t341) ∧ Dj (some g1) (blk A_t342) ∧ Dj (blk A_t341) (blk A_t342) ∧ DnD deV hs_t341 t341 (blk A_t32) ∧ DnD deV hs_t341 t341 (some g1) ∧ DnD deV hs_t341 t341 (blk A_t341) ∧ DnD deV hs_t341 t341 (blk A_t342) ∧ OrD (fun p => DnD deV hs_own own p ∧ DnD deS hs_from_ from_ p) deV hs_t341 t341 w.heap.size) _ _ ⟨(0 : Int), (0 : Int), decide ((t341.length : Int) = (0 : Int)), rfl, rfl, h0_2, gr23, k164, k165, hB13, k166, k167, k168, dj2, dj4, dj5, dj6, dj7, dj9, dj10, dj12, dj13, dj16, dj17, dj18, dj20, dj21, or1⟩ (by repeat (first | exact Sub.nil | refine Sub.cons rfl ?_)) ?_
          clear h0_2
          rintro _ _ w24 ⟨t88, t344, t345, rfl, rfl, hI2, gr24, k169, k170, k171, k172, k173, k174, dj91, dj92, dj93, dj94, dj95, dj96, dj97, dj98, dj99, dj100, dj101, dj102, dj103, dj104, or4⟩
          have H := HR2 t88 t344 t345 hI2
          refine WC.seq ?_
          refine WC.region ?_
          refine WL.y rfl (Yld.pure tab_ok rfl) ?_
          refine WL.nil (WX.then_normal ?_)
          refine WC.seq ?_
          refine WC.cond rfl (fun b6 => ?_) (fun b6 => ?_)
          · replace H := H.1 (of_decide_eq_true b6)
            refine WC.skip (WX.then_normal ?_)
            refine WC.seq ?_
            refine WC.block ?_
            refine WC.seq ?_
            refine WC.region ?_
            obtain ⟨h14, H⟩ := H
            refine WL.y rfl (Yld.iaddrW tab_ok (hfrom_.grown gr24) rfl rfl hr_from_.1.symm rfl h14.1 h14.2) ?_
            obtain ⟨⟨v_el2, F_el2⟩, eh2, hR2⟩ := RelD.at (hr_from_.grown gr24) vh0 PS.nil (j := t88.toNat) (Nat.lt_of_lt_of_eq (iltN h14 hr_from_.1.symm) (hr_from_.grown gr24).1)
            have hv6 : RelD deS w24 [(v_el2, F_el2)] [from_.getD t88.toNat PS.nil] := RelD.cons hR2 RelD.nil
            refine WL.y rfl (Yld.to (v := v_el2.1) (Yld.iload vh0 tab_ok (hfrom_.grown gr24) rfl rfl (iltN h14 hr_from_.1.symm)) (congrArg vv eh2)) ?_
            refine WL.y rfl (Yld.pure tab_ok rfl) ?_
            refine WL.nil (WX.then_normal ?_)
            refine WC.seq ?_
            refine WC.seq ?_
            refine WC.region ?_
            obtain ⟨h15, H⟩ := H
            obtain ⟨A_own2, c_own2, A_keys, c_keys, A_fr, c_fr, ho, hf, hv7, hB15, hR3, hr6, hR4, hR5, hr7, hd1, hd2, hd3, hd4, hd5, hd6⟩ := SR.out hv6 h15
            refine WL.y rfl (Yld.pure tab_ok rfl) ?_
            refine WL.y rfl (nilpV hv7 rfl) ?_
            refine WL.y rfl (Yld.fa0 (o := 0) (by kernel_rfl) rfl) ?_
            refine WL.y rfl (Yld.bload tab_ok hB15 rfl rfl rfl) ?_
            refine WL.y rfl (Yld.pure tab_ok rfl) ?_
            refine WL.y rfl (Yld.pure tab_ok rfl) ?_
            refine WL.y rfl (Yld.pure tab_ok rfl) ?_
            refine WL.midF 6 (fun L' w' => ∃ q2 : Bool, L' = [(104, .bool q2), (0, .int .i64 order), (1, .slice A_own own.length c_own), (2, .slice A_from from_.length c_from), (8, .pointer (some ⟨g1, 0, none⟩)), (15, v_el2.1), (86, .slice A_from from_.length c_from), (87, .int .i64 (from_.length : Int)), (88, .int .i64 t88)] ∧ ((!decide (((from_.getD t88.toNat PS.nil).order) = order)) && (!decide (((from_.getD t88.toNat PS.nil).order) = (1 : Int)))) = q2 ∧ w24 = w') ?_ (fun hQ => ?_)
            · rintro _ _ ⟨q2, rfl, rfl, rfl⟩
              refine WL.y rfl (Yld.pure tab_ok rfl) ?_
              refine WL.midF 3 (fun L' w' => ∃ q3 : Bool, L' = [(108, .bool q3), (0, .int .i64 order), (1, .slice A_own own.length c_own), (2, .slice A_from from_.length c_from), (8, .pointer (some ⟨g1, 0, none⟩)), (15, v_el2.1), (86, .slice A_from from_.length c_from), (87, .int .i64 (from_.length : Int)), (88, .int .i64 t88)] ∧ (((!decide (((from_.getD t88.toNat PS.nil).order) = order)) && (!decide (((from_.getD t88.toNat PS.nil).order) = (1 : Int)))) && (!decide (order = (1 : Int)))) = q3 ∧ w24 = w') ?_ (fun hQ => ?_)
              · rintro _ _ ⟨q3, rfl, rfl, rfl⟩
                refine WL.nil (WX.then_normal ?_)
                refine WC.cond rfl (fun b7 => ?_) (fun b7 => ?_)
                · replace H := H.1 (b7)
                  refine WC.seq ?_
                  refine WC.quiet mixed (by kernel_rfl) ?_
                  obtain ⟨vE3, _, hE3⟩ := GOK.get (hG.grown gr24) 3 1 hS3 rfl rfl
                  refine WQ.y rfl (Yld.cell tab_ok (ErrR.cell hE3 rfl) rfl rfl) ?_
                  have hv8 : RelD deS w24 [(pnil, noF)] [PS.nil] := deS_nil
                  refine WQ.y rfl (Yld.pure tab_ok rfl) ?_
                  refine WQ.y rfl (Yld.pure tab_ok rfl) ?_
                  refine WQ.nil (WX.then_normal ?_)
                  refine WC.ret (WX.then_ret (WX.block_ret (WX.then_ret (WX.then_ret (WX.block_ret (WX.then_ret ?_))))))
                  exact WX.ret2 rfl rfl rfl ⟨gr24, pnil, noF, PS.nil, vE3, (Er.e 3), rfl, hv8, (fun p_ hp_ v0_ v1_ => deS_nilD), (fun h_ => absurd rfl h_), hE3, H⟩
                · replace H := H.2 (b7)
                  refine WC.skip (WX.then_normal ?_)
                  refine WC.seq ?_
                  refine WC.chainF (fun k => !(Nat.beq k 13)) (LD [4, 8] (fun w' => Bl w' g1 83 [.int .i64 order, .slice A_t341 t341.length c_t341, .slice A_t342 t342.length c_t342, .slice A_t32 t32.length c_t32, .int .i64 t344, .bool t345] ∧ Bl w' (from_.getD t88.toNat PS.nil).id 83 [.int .i64 ((from_.getD t88.toNat PS.nil).order), .slice A_own2 ((from_.getD t88.toNat PS.nil).own.length) c_own2, .slice A_keys (((from_.getD t88.toNat PS.nil).own.map keyP).length) c_keys, .slice A_fr ((from_.getD t88.toNat PS.nil).fr.length) c_fr, .int .i64 ((from_.getD t88.toNat PS.nil).deep), .bool ((from_.getD t88.toNat PS.nil).empty)])) mixed (by kernel_rfl) (fun k w' h _ => ⟨(bl_eqv h k171), (bl_eqv h hB15)⟩) ?_
                  refine WJ.y rfl rfl (fun w' hw' => Yld.pure tab_ok rfl) ?_
                  refine WJ.y rfl rfl (fun w' hw' => Yld.pure tab_ok rfl) ?_
                  refine WJ.y rfl rfl (fun w' hw' => Yld.pure tab_ok rfl) ?_
                  refine WJ.y rfl rfl (fun w' hw' => Yld.fa0 (o := 4) (by kernel_rfl) rfl) ?_
                  refine WJ.y rfl rfl (fun w' hw' => Yld.bload tab_ok (hw' rfl).1 rfl rfl rfl) ?_
                  refine WJ.y rfl rfl (fun w' hw' => Yld.pure tab_ok rfl) ?_
                  refine WJ.y rfl rfl (fun w' hw' => nilpV hv7 rfl) ?_
                  refine WJ.y rfl rfl (fun w' hw' => Yld.fa0 (o := 4) (by kernel_rfl) rfl) ?_
                  refine WJ.y rfl rfl (fun w' hw' => Yld.bload tab_ok (hw' rfl).2 rfl rfl rfl) ?_
                  obtain ⟨h16, H⟩ := H
                  refine WJ.y rfl rfl (fun w' hw' => Yld.add rfl rfl h16) ?_
                  refine WJ.y rfl rfl (fun w' hw' => Yld.max2 rfl rfl) ?_
                  refine WJ.y rfl rfl (fun w' hw' => Yld.pure tab_ok rfl) ?_
                  refine WJ.y rfl rfl (fun w' hw' => Yld.fa0 (o := 4) (by kernel_rfl) rfl) ?_
                  refine WJ.eff rfl (Ef0.store1 one3 rfl rfl rfl k171 (by simp)) (fun w' h => DD.past (by kernel_rfl)) ?_
                  rintro w25 ⟨hB17, hg21⟩
                  have hB16 : Bl w25 g1 83 [.int .i64 order, .slice A_t341 t341.length c_t341, .slice A_t342 t342.length c_t342, .slice A_t32 t32.length c_t32, .int .i64 (if t344 < (((from_.getD t88.toNat PS.nil).deep) + (1 : Int)) then ((from_.getD t88.toNat PS.nil).deep) + (1 : Int) else t344), .bool t345] := hB17
                  have gr25 := gr_mod gr24 hg21 (Ge.le (Ge.box hl1) (size_le gr2))
                  have k175 := k169.go hg21 dj91
                  have k176 := k170.go hg21 dj95
                  have k177 := k172.go hg21 dj98.symm
                  have k178 := k173.go hg21 dj102
                  have k179 := k174.go hg21 dj99.symm
                  have k180 := hv6.go hg21 (DnD.cons (DnD.at (hr_from_.new (Ge.le (Ge.box hl1) (size_le gr2))) (hr_from_.grown gr24).1 (Nat.lt_of_lt_of_eq (iltN h14 hr_from_.1.symm) (hr_from_.grown gr24).1) eh2) DnD.nil)
                  have k181 := hR3.go hg21 (hd2 _ (DnD.cons (DnD.at (hr_from_.new (Ge.le (Ge.box hl1) (size_le gr2))) (hr_from_.grown gr24).1 (Nat.lt_of_lt_of_eq (iltN h14 hr_from_.1.symm) (hr_from_.grown gr24).1) eh2) DnD.nil))
                  have k182 := hr6.go hg21 (hd3 _ (DnD.cons (DnD.at (hr_from_.new (Ge.le (Ge.box hl1) (size_le gr2))) (hr_from_.grown gr24).1 (Nat.lt_of_lt_of_eq (iltN h14 hr_from_.1.symm) (hr_from_.grown gr24).1) eh2) DnD.nil))
                  have k183 := hR4.go hg21 (hd4 _ (DnD.cons (DnD.at (hr_from_.new (Ge.le (Ge.box hl1) (size_le gr2))) (hr_from_.grown gr24).1 (Nat.lt_of_lt_of_eq (iltN h14 hr_from_.1.symm) (hr_from_.grown gr24).1) eh2) DnD.nil))
                  have k184 := hR5.go hg21 (hd5 _ (DnD.cons (DnD.at (hr_from_.new (Ge.le (Ge.box hl1) (size_le gr2))) (hr_from_.grown gr24).1 (Nat.lt_of_lt_of_eq (iltN h14 hr_from_.1.symm) (hr_from_.grown gr24).1) eh2) DnD.nil))
                  have k185 := hr7.go hg21 (hd6 _ (DnD.cons (DnD.at (hr_from_.new (Ge.le (Ge.box hl1) (size_le gr2))) (hr_from_.grown gr24).1 (Nat.lt_of_lt_of_eq (iltN h14 hr_from_.1.symm) (hr_from_.grown gr24).1) eh2) DnD.nil))
                  have k186 := hB15.go hg21 (hd1 _ (DnD.cons (DnD.at (hr_from_.new (Ge.le (Ge.box hl1) (size_le gr2))) (hr_from_.grown gr24).1 (Nat.lt_of_lt_of_eq (iltN h14 hr_from_.1.symm) (hr_from_.grown gr24).1) eh2) DnD.nil))
                  refine WJ.nil (WX.then_normal ?_)
                  refine WC.region ?_
                  refine WL.y rfl (Yld.pure tab_ok rfl) ?_
                  refine WL.y rfl (Yld.pure tab_ok rfl) ?_
                  refine WL.y rfl (Yld.pure tab_ok rfl) ?_
                  refine WL.y rfl (Yld.fa0 (o := 5) (by kernel_rfl) rfl) ?_
                  refine WL.y rfl (Yld.bload tab_ok hB16 rfl rfl rfl) ?_
                  refine WL.y rfl (Yld.pure tab_ok rfl) ?_
                  refine WL.midF 5 (fun L' w' => ∃ q4 : Bool, L' = [(133, .bool q4), (0, .int .i64 order), (1, .slice A_own own.length c_own), (2, .slice A_from from_.length c_from), (8, .pointer (some ⟨g1, 0, none⟩)), (86, .slice A_from from_.length c_from), (87, .int .i64 (from_.length : Int)), (88, .int .i64 t88), (123, .pointer (some ⟨g1, 0, none⟩))] ∧ (t345 && ((from_.getD t88.toNat PS.nil).empty)) = q4 ∧ w25 = w') ?_ (fun hQ => ?_)
                  · rintro _ _ ⟨q4, rfl, rfl, rfl⟩
                    refine WL.y rfl (Yld.pure tab_ok rfl) ?_
                    refine WL.y rfl (Yld.fa0 (o := 5) (by kernel_rfl) rfl) ?_
                    refine WL.store1 one4 rfl rfl rfl hB16 (by simp) (fun w26 hB19 hg22 => ?_)
                    have hB18 : Bl w26 g1 83 [.int .i64 order, .slice A_t341 t341.length c_t341, .slice A_t342 t342.length c_t342, .slice A_t32 t32.length c_t32, .int .i64 (if t344 < (((from_.getD t88.toNat PS.nil).deep) + (1 : Int)) then ((from_.getD t88.toNat PS.nil).deep) + (1 : Int) else t344), .bool (t345 && ((from_.getD t88.toNat PS.nil).empty))] := hB19
                    have gr26 := gr_mod gr25 hg22 (Ge.le (Ge.box hl1) (size_le gr2))
                    have k187 := k175.go hg22 dj91
                    have k188 := k176.go hg22 dj95
                    have k189 := k177.go hg22 dj98.symm
                    have k190 := k178.go hg22 dj102
                    have k191 := k179.go hg22 dj99.symm
                    refine WL.nil (WX.block_normal (WX.then_normal ?_))
                    refine WC.region ?_
                    obtain ⟨h17, H⟩ := H
                    refine WL.y rfl (Yld.add rfl rfl h17) ?_
                    refine WL.y rfl (Yld.pure tab_ok rfl) ?_
                    refine WL.nil ?_
                    exact WX.roundF _ ⟨t88 + (1 : Int), (if t344 < (((from_.getD t88.toNat PS.nil).deep) + (1 : Int)) then ((from_.getD t88.toNat PS.nil).deep) + (1 : Int) else t344), t345 && ((from_.getD t88.toNat PS.nil).empty), rfl, rfl, H.1, gr26, k187, k188, hB18, k189, k190, k191, dj91, dj92, dj93, dj94, dj95, dj96, dj97, dj98, dj99, dj100, dj101, dj102, dj103, dj104, or4⟩ (by repeat (first | exact Sub.nil | refine Sub.cons rfl ?_)) H.2
                  · clear H
                    rcases Bool.eq_false_or_eq_true (t345) with b8 | b8
                    · refine WL.gyes rfl rfl (okb b8) rfl (Yld.pure tab_ok rfl) ?_
                      refine WL.gyes rfl rfl (okb b8) rfl (nilpV hv7 rfl) ?_
                      refine WL.gyes rfl rfl (okb b8) rfl (Yld.fa0 (o := 5) (by kernel_rfl) rfl) ?_
                      refine WL.gyes rfl rfl (okb b8) rfl (Yld.bload tab_ok k186 rfl rfl rfl) ?_
                      refine WL.y rfl (Yld.pickT (okb b8) rfl) ?_
                      exact WL.weaken (by repeat (first | exact Sub.nil | refine Sub.cons rfl ?_)) (hQ _ _ ⟨(from_.getD t88.toNat PS.nil).empty, rfl, by rw [b8] <;> rfl, rfl⟩)
                    · refine WL.gno rfl rfl (okb b8) rfl ?_
                      refine WL.gno rfl rfl (okb b8) rfl ?_
                      refine WL.gno rfl rfl (okb b8) rfl ?_
                      refine WL.gno rfl rfl (okb b8) rfl ?_
                      refine WL.y rfl (Yld.pickF (okb b8) rfl) ?_
                      exact WL.weaken (by repeat (first | exact Sub.nil | refine Sub.cons rfl ?_)) (hQ _ _ ⟨false, rfl, by rw [b8] <;> rfl, rfl⟩)
              · clear H
                rcases Bool.eq_false_or_eq_true ((!decide (((from_.getD t88.toNat PS.nil).order) = order)) && (!decide (((from_.getD t88.toNat PS.nil).order) = (1 : Int)))) with b9 | b9
                · refine WL.gyes rfl rfl (okb b9) rfl (Yld.pure tab_ok rfl) ?_
                  refine WL.gyes rfl rfl (okb b9) rfl (Yld.pure tab_ok rfl) ?_
                  refine WL.y rfl (Yld.pickT (okb b9) rfl) ?_
                  exact WL.weaken (by repeat (first | exact Sub.nil | refine Sub.cons rfl ?_)) (hQ _ _ ⟨!decide (order = (1 : Int)), rfl, by rw [b9] <;> rfl, rfl⟩)
                · refine WL.gno rfl rfl (okb b9) rfl ?_
                  refine WL.gno rfl rfl (okb b9) rfl ?_
                  refine WL.y rfl (Yld.pickF (okb b9) rfl) ?_
                  exact WL.weaken (by repeat (first | exact Sub.nil | refine Sub.cons rfl ?_)) (hQ _ _ ⟨false, rfl, by rw [b9] <;> rfl, rfl⟩)
            · clear H
              rcases Bool.eq_false_or_eq_true (!decide (((from_.getD t88.toNat PS.nil).order) = order)) with b10 | b10
              · refine WL.gyes rfl rfl (okb b10) rfl (Yld.pure tab_ok rfl) ?_
                refine WL.gyes rfl rfl (okb b10) rfl (nilpV hv7 rfl) ?_
                refine WL.gyes rfl rfl (okb b10) rfl (Yld.fa0 (o := 0) (by kernel_rfl) rfl) ?_
                refine WL.gyes rfl rfl (okb b10) rfl (Yld.bload tab_ok hB15 rfl rfl rfl) ?_
                refine WL.gyes rfl rfl (okb b10) rfl (Yld.pure tab_ok rfl) ?_
                refine WL.y rfl (Yld.pickT (okb b10) rfl) ?_
                exact WL.weaken (by repeat (first | exact Sub.nil | refine Sub.cons rfl ?_)) (hQ _ _ ⟨!decide (((from_.getD t88.toNat PS.nil).order) = (1 : Int)), rfl, by rw [b10] <;> rfl, rfl⟩)
              · refine WL.gno rfl rfl (okb b10) rfl ?_
                refine WL.gno rfl rfl (okb b10) rfl ?_
                refine WL.gno rfl rfl (okb b10) rfl ?_
                refine WL.gno rfl rfl (okb b10) rfl ?_
                refine WL.gno rfl rfl (okb b10) rfl ?_
                refine WL.y rfl (Yld.pickF (okb b10) rfl) ?_
                exact WL.weaken (by repeat (first | exact Sub.nil | refine Sub.cons rfl ?_)) (hQ _ _ ⟨false, rfl, by rw [b10] <;> rfl, rfl⟩)
          · replace H := H.2 (of_decide_eq_false b6)
            refine WC.exit (WX.then_exit (WX.then_exit (WX.block_same (WX.then_normal ?_))))
            refine WC.seq ?_
            refine WC.seq ?_
            refine WC.region ?_
            refine WL.y rfl (Yld.pure tab_ok rfl) ?_
            refine WL.y rfl (Yld.pure tab_ok rfl) ?_
            refine WL.y rfl (Yld.fa0 (o := 4) (by kernel_rfl) rfl) ?_
            refine WL.y rfl (Yld.bload tab_ok k171 rfl rfl rfl) ?_
            refine WL.y rfl (Yld.pure tab_ok rfl) ?_
            refine WL.y rfl (Yld.pure tab_ok rfl) ?_
            refine WL.midF 4 (fun L' w' => ∃ q5 : Bool, L' = [(146, .bool q5), (1, .slice A_own own.length c_own), (2, .slice A_from from_.length c_from), (8, .pointer (some ⟨g1, 0, none⟩))] ∧ ((decide ((1000 : Int) < t344)) || (decide ((1024 : Int) < (own.length : Int)))) = q5 ∧ w24 = w') ?_ (fun hQ => ?_)
            · rintro _ _ ⟨q5, rfl, rfl, rfl⟩
              refine WL.y rfl (Yld.pure tab_ok rfl) ?_
              obtain ⟨h18, H⟩ := H
              refine WL.midF 7 (fun L' w' => ∃ q6 : Bool, L' = [(154, .bool q6), (8, .pointer (some ⟨g1, 0, none⟩))] ∧ (((decide ((1000 : Int) < t344)) || (decide ((1024 : Int) < (own.length : Int)))) || (decide (((1024 : Int) - (own.length : Int)) < (from_.length : Int)))) = q6 ∧ w24 = w') ?_ (fun hQ => ?_)
              · rintro _ _ ⟨q6, rfl, rfl, rfl⟩
                refine WL.nil (WX.then_normal ?_)
                refine WC.cond rfl (fun b11 => ?_) (fun b11 => ?_)
                · replace H := H.1 (b11)
                  refine WC.seq ?_
                  refine WC.quiet mixed (by kernel_rfl) ?_
                  obtain ⟨vE4, _, hE4⟩ := GOK.get (hG.grown gr24) 7 0 hS7 rfl rfl
                  refine WQ.y rfl (Yld.cell tab_ok (ErrR.cell hE4 rfl) rfl rfl) ?_
                  have hv9 : RelD deS w24 [(pnil, noF)] [PS.nil] := deS_nil
                  refine WQ.y rfl (Yld.pure tab_ok rfl) ?_
                  refine WQ.y rfl (Yld.pure tab_ok rfl) ?_
                  refine WQ.nil (WX.then_normal ?_)
                  refine WC.ret (WX.then_ret ?_)
                  exact WX.ret2 rfl rfl rfl ⟨gr24, pnil, noF, PS.nil, vE4, (Er.e 7), rfl, hv9, (fun p_ hp_ v0_ v1_ => deS_nilD), (fun h_ => absurd rfl h_), hE4, H⟩
                · replace H := H.2 (b11)
                  refine WC.skip (WX.then_normal ?_)
                  refine WC.seq ?_
                  refine WC.region ?_
                  refine WL.y rfl (Yld.pure tab_ok rfl) ?_
                  refine WL.nil (WX.then_normal ?_)
                  refine WC.seq ?_
                  refine WC.seq ?_
                  refine WC.region ?_
                  refine WL.y rfl (Yld.pure tab_ok rfl) ?_
                  obtain ⟨h19, H⟩ := H
                  obtain ⟨h20, H⟩ := H
                  obtain ⟨h21, H⟩ := H
                  replace H := H g1
                  have hp1 := deS_pack (order := order) (deep := t344) (empty := t345) (ho := hs_t341) (hf := hs_t32) (own := t341) (fr := t32) (keys := t342) k171 k172.rd k173 h19 h20 k174.rd k169.rd k170 h21 k172.lt' k174.lt' k169.lt'
                  refine WL.call rfl rfl (W_pdeps_Set_sets hp1.1 H) ?_
                  rintro _ w27 ⟨hg23, t157, A_t157, c_t157, hs_t157, rfl, ht157, hr_t157, ho2, dj105, H⟩
                  have hb2 := ht157.ge'
                  have k192 := ht157.base (fun g hg => Nat.le_trans (size_le gr24) (hb2 g hg))
                  have gr27 := gr_trans gr24 hg23
                  have k193 := hp1.1.grown hg23
                  refine WL.y rfl (Yld.pure tab_ok rfl) ?_
                  refine WL.y rfl (Yld.pure tab_ok rfl) ?_
                  refine WL.nil (WX.then_normal ?_)
                  refine WC.block ?_
                  obtain ⟨I3, mu3, h0_3, HR3⟩ := H
                  refine WC.loopF (fun n' L' w' => ∃ (n : Int), ∃ (t159 : Int), n' = mu3 n t159 ∧ L' = [(8, .pointer (some ⟨g1, 0, none⟩)), (16, .int .i64 n), (157, .slice A_t157 t157.length c_t157), (158, .int .i64 (t157.length : Int)), (159, .int .i64 t159)] ∧ I3 n t159 ∧ w27 = w') _ _ ⟨(0 : Int), (0 : Int), rfl, rfl, h0_3, rfl⟩ (by repeat (first | exact Sub.nil | refine Sub.cons rfl ?_)) ?_
                  clear h0_3
                  rintro _ _ _ ⟨n, t159, rfl, rfl, hI3, rfl⟩
                  have H := HR3 n t159 hI3
                  refine WC.seq ?_
                  refine WC.region ?_
                  refine WL.y rfl (Yld.pure tab_ok rfl) ?_
                  refine WL.nil (WX.then_normal ?_)
                  refine WC.seq ?_
                  refine WC.cond rfl (fun b12 => ?_) (fun b12 => ?_)
                  · replace H := H.1 (of_decide_eq_true b12)
                    refine WC.skip (WX.then_normal ?_)
                    refine WC.seq ?_
                    refine WC.block ?_
                    refine WC.seq ?_
                    refine WC.region ?_
                    obtain ⟨h22, H⟩ := H
                    refine WL.y rfl (Yld.iaddrW tab_ok k192.rd rfl rfl hr_t157.1.symm rfl h22.1 h22.2) ?_
                    obtain ⟨⟨v_el3, F_el3⟩, eh3, hR6⟩ := RelD.at hr_t157 vh0 PS.nil (j := t159.toNat) (Nat.lt_of_lt_of_eq (iltN h22 hr_t157.1.symm) hr_t157.1)
                    have hv10 : RelD deS w27 [(v_el3, F_el3)] [t157.getD t159.toNat PS.nil] := RelD.cons hR6 RelD.nil
                    refine WL.y rfl (Yld.to (v := v_el3.1) (Yld.iload vh0 tab_ok k192.rd rfl rfl (iltN h22 hr_t157.1.symm)) (congrArg vv eh3)) ?_
                    refine WL.y rfl (Yld.pure tab_ok rfl) ?_
                    refine WL.nil (WX.then_normal ?_)
                    refine WC.seq ?_
                    refine WC.region ?_
                    refine WL.y rfl (Yld.pure tab_ok rfl) ?_
                    refine WL.y rfl (Yld.pure tab_ok rfl) ?_
                    obtain ⟨h23, H⟩ := H
                    obtain ⟨A_own3, c_own3, A_keys2, c_keys2, A_fr2, c_fr2, ho2, hf2, hv11, hB20, hR7, hr8, hR8, hR9, hr9, hd7, hd8, hd9, hd10, hd11, hd12⟩ := SR.out hv10 h23
                    refine WL.y rfl (nilpV hv11 rfl) ?_
                    refine WL.y rfl (Yld.fa0 (o := 1) (by kernel_rfl) rfl) ?_
                    refine WL.y rfl (Yld.bload tab_ok hB20 rfl rfl rfl) ?_
                    refine WL.y rfl (Yld.pure tab_ok rfl) ?_
                    obtain ⟨h24, H⟩ := H
                    refine WL.y rfl (Yld.add rfl rfl h24) ?_
                    refine WL.y rfl (Yld.pure tab_ok rfl) ?_
                    refine WL.nil (WX.then_normal ?_)
                    refine WC.seq ?_
                    refine WC.region ?_
                    refine WL.y rfl (Yld.pure tab_ok rfl) ?_
                    refine WL.y rfl (Yld.pure tab_ok rfl) ?_
                    refine WL.nil (WX.then_normal ?_)
                    refine WC.cond rfl (fun b13 => ?_) (fun b13 => ?_)
                    · replace H := H.1 (of_decide_eq_true b13)
                      refine WC.seq ?_
                      refine WC.quiet mixed (by kernel_rfl) ?_
                      obtain ⟨vE5, _, hE5⟩ := GOK.get (hG.grown gr27) 7 0 hS7 rfl rfl
                      refine WQ.y rfl (Yld.cell tab_ok (ErrR.cell hE5 rfl) rfl rfl) ?_
                      have hv12 : RelD deS w27 [(pnil, noF)] [PS.nil] := deS_nil
                      refine WQ.y rfl (Yld.pure tab_ok rfl) ?_
                      refine WQ.y rfl (Yld.pure tab_ok rfl) ?_
                      refine WQ.nil (WX.then_normal ?_)
                      refine WC.ret (WX.block_ret (WX.then_ret (WX.then_ret (WX.block_ret (WX.then_ret ?_)))))
                      exact WX.ret2 rfl rfl rfl ⟨gr27, pnil, noF, PS.nil, vE5, (Er.e 7), rfl, hv12, (fun p_ hp_ v0_ v1_ => deS_nilD), (fun h_ => absurd rfl h_), hE5, H⟩
                    · replace H := H.2 (of_decide_eq_false b13)
                      refine WC.skip (WX.block_normal (WX.then_normal ?_))
                      refine WC.region ?_
                      obtain ⟨h25, H⟩ := H
                      refine WL.y rfl (Yld.add rfl rfl h25) ?_
                      refine WL.y rfl (Yld.pure tab_ok rfl) ?_
                      refine WL.nil ?_
                      exact WX.roundF _ ⟨n + ((t157.getD t159.toNat PS.nil).own.length : Int), t159 + (1 : Int), rfl, rfl, H.1, rfl⟩ (by repeat (first | exact Sub.nil | refine Sub.cons rfl ?_)) H.2
                  · replace H := H.2 (of_decide_eq_false b12)
                    refine WC.exit (WX.then_exit (WX.then_exit (WX.block_same (WX.then_normal ?_))))
                    refine WC.seq ?_
                    refine WC.region ?_
                    refine WL.y rfl (Yld.pure tab_ok rfl) ?_
                    refine WL.y rfl (Yld.pure tab_ok rfl) ?_
                    refine WL.y rfl (Yld.pure tab_ok rfl) ?_
                    refine WL.nil (WX.then_normal ?_)
                    refine WC.ret ?_
                    exact WX.ret2 rfl rfl rfl ⟨gr27, (ovP g1), (FS g1 A_t341 A_t342 A_t32 hs_t341 hs_t32), (PS.mk g1 order t341 t32 t344 t345), .nilIface, Er.ok, rfl, k193, (fun p_ hp_ v0_ v1_ => have q_ := And.intro v0_ v1_; hp1.2 _ (Dj.new hp_ (Ge.le (Ge.box hl1) (size_le gr2))).symm (Dj.new hp_ k172.ge').symm (Dj.new hp_ k174.ge').symm (Dj.new hp_ k169.ge').symm (or4 p_ hp_ q_) (ho1 p_ (fun g_ e_ => Nat.lt_of_lt_of_le (hp_ g_ e_) (size_le gr1)) (q_.2))), (fun _ => ((Ge.le (Ge.box hl1) (size_le gr2))) _ rfl), (ErrR.okR (S := S) (w := w27)), H⟩
              · clear H
                rcases Bool.eq_false_or_eq_true ((decide ((1000 : Int) < t344)) || (decide ((1024 : Int) < (own.length : Int)))) with b14 | b14
                · refine WL.gno rfl rfl (okb b14) rfl ?_
                  refine WL.gno rfl rfl (okb b14) rfl ?_
                  refine WL.gno rfl rfl (okb b14) rfl ?_
                  refine WL.gno rfl rfl (okb b14) rfl ?_
                  refine WL.gno rfl rfl (okb b14) rfl ?_
                  refine WL.gno rfl rfl (okb b14) rfl ?_
                  refine WL.y rfl (Yld.pickT (okb b14) rfl) ?_
                  exact WL.weaken (by repeat (first | exact Sub.nil | refine Sub.cons rfl ?_)) (hQ _ _ ⟨true, rfl, by rw [b14] <;> rfl, rfl⟩)
                · refine WL.gyes rfl rfl (okb b14) rfl (Yld.pure tab_ok rfl) ?_
                  refine WL.gyes rfl rfl (okb b14) rfl (Yld.pure tab_ok rfl) ?_
                  refine WL.gyes rfl rfl (okb b14) rfl (Yld.pure tab_ok rfl) ?_
                  refine WL.gyes rfl rfl (okb b14) rfl (Yld.pure tab_ok rfl) ?_
                  refine WL.gyes rfl rfl (okb b14) rfl (Yld.sub rfl rfl (h18 b14)) ?_
                  refine WL.gyes rfl rfl (okb b14) rfl (Yld.pure tab_ok rfl) ?_
                  refine WL.y rfl (Yld.pickF (okb b14) rfl) ?_
                  exact WL.weaken (by repeat (first | exact Sub.nil | refine Sub.cons rfl ?_)) (hQ _ _ ⟨decide (((1024 : Int) - (own.length : Int)) < (from_.length : Int)), rfl, by rw [b14] <;> rfl, rfl⟩)
            · clear H
              rcases Bool.eq_false_or_eq_true (decide ((1000 : Int) < t344)) with b15 | b15
              · refine WL.gno rfl rfl (okb b15) rfl ?_
                refine WL.gno rfl rfl (okb b15) rfl ?_
                refine WL.gno rfl rfl (okb b15) rfl ?_
                refine WL.y rfl (Yld.pickT (okb b15) rfl) ?_
                exact WL.weaken (by repeat (first | exact Sub.nil | refine Sub.cons rfl ?_)) (hQ _ _ ⟨true, rfl, by rw [b15] <;> rfl, rfl⟩)
              · refine WL.gyes rfl rfl (okb b15) rfl (Yld.pure tab_ok rfl) ?_
                refine WL.gyes rfl rfl (okb b15) rfl (Yld.pure tab_ok rfl) ?_
                refine WL.gyes rfl rfl (okb b15) rfl (Yld.pure tab_ok rfl) ?_
                refine WL.y rfl (Yld.pickF (okb b15) rfl) ?_
                exact WL.weaken (by repeat (first | exact Sub.nil | refine Sub.cons rfl ?_)) (hQ _ _ ⟨decide ((1024 : Int) < (own.length : Int)), rfl, by rw [b15] <;> rfl, rfl⟩)
  · clear H
    rcases Bool.eq_false_or_eq_true (decide (order < (1 : Int))) with b16 | b16
    · refine WL.gno rfl rfl (okb b16) rfl ?_
      refine WL.gno rfl rfl (okb b16) rfl ?_
      refine WL.y rfl (Yld.pickT (okb b16) rfl) ?_
      exact WL.weaken (by repeat (first | exact Sub.nil | refine Sub.cons rfl ?_)) (hQ _ _ ⟨true, rfl, by rw [b16] <;> rfl, rfl⟩)
    · refine WL.gyes rfl rfl (okb b16) rfl (Yld.pure tab_ok rfl) ?_
      refine WL.gyes rfl rfl (okb b16) rfl (Yld.pure tab_ok rfl) ?_
      refine WL.y rfl (Yld.pickF (okb b16) rfl) ?_
      exact WL.weaken (by repeat (first | exact Sub.nil | refine Sub.cons rfl ?_)) (hQ _ _ ⟨decide ((3 : Int) < order), rfl, by rw [b16] <;> rfl, rfl⟩)

set_option maxHeartbeats 8000000 in
theorem W_pdeps_Set_Size {w : World} {v_s : OV} {F_s : Nat → Prop} {s : PS} {K : Int → Prop} (hs : RelD deS w [(v_s, F_s)] [s]) (H : M_pdeps_Set_Size s K) : Fn Tryd.prog 18 ⟨[v_s.1]⟩ w (fun v w' => w.grownBy w' none ∧ ∃ (r : Int), v = .int .i64 r ∧ K r) := by
  unfold M_pdeps_Set_Size at H
  refine Fn.enter (by kernel_rfl) Tryd.func18 rfl Tryd.ntmps18 rfl ?_
  refine WC.seq ?_
  refine WC.region ?_
  refine WL.y rfl (Yld.pure tab_ok rfl) ?_
  refine WL.nil (WX.then_normal ?_)
  refine WC.seq ?_
  refine WC.region ?_
  refine WL.y rfl (Yld.pure tab_ok rfl) ?_
  refine WL.call rfl rfl (W_pdeps_Set_sets hs H) ?_
  rintro _ w1 ⟨hg1, t4, A_t4, c_t4, hs_t4, rfl, ht4, hr_t4, ho1, dj1, H⟩
  have hb1 := ht4.ge'
  have k1 := ht4.base (fun g hg => Nat.le_trans (Nat.le_refl _) (hb1 g hg))
  have gr1 := hg1
  refine WL.y rfl (Yld.pure tab_ok rfl) ?_
  refine WL.y rfl (Yld.pure tab_ok rfl) ?_
  refine WL.nil (WX.then_normal ?_)
  refine WC.ret ?_
  exact WX.ret1 rfl rfl ⟨gr1, (t4.length : Int), rfl, H⟩

set_option maxHeartbeats 8000000 in
theorem W_pdeps_Set_Empty {w : World} {v_s : OV} {F_s : Nat → Prop} {s : PS} {K : Bool → Prop} (hs : RelD deS w [(v_s, F_s)] [s]) (H : M_pdeps_Set_Empty s K) : Fn Tryd.prog 19 ⟨[v_s.1]⟩ w (fun v w' => w = w' ∧ ∃ (r : Bool), v = .bool r ∧ K r) := by
  unfold M_pdeps_Set_Empty at H
  refine Fn.enter (by kernel_rfl) Tryd.func19 rfl Tryd.ntmps19 rfl ?_
  refine WC.seq ?_
  refine WC.region ?_
  refine WL.y rfl (Yld.pure tab_ok rfl) ?_
  refine WL.nil (WX.then_normal ?_)
  refine WC.seq ?_
  refine WC.region ?_
  refine WL.y rfl (Yld.pure tab_ok rfl) ?_
  obtain ⟨h1, H⟩ := H
  obtain ⟨A_own, c_own, A_keys, c_keys, A_fr, c_fr, ho, hf, hv1, hB1, hR1, hr1, hR2, hR3, hr2, hd1, hd2, hd3, hd4, hd5, hd6⟩ := SR.out hs h1
  refine WL.y rfl (nilpV hv1 rfl) ?_
  refine WL.y rfl (Yld.fa0 (o := 5) (by kernel_rfl) rfl) ?_
  refine WL.y rfl (Yld.bload tab_ok hB1 rfl rfl rfl) ?_
  refine WL.y rfl (Yld.pure tab_ok rfl) ?_
  refine WL.nil (WX.then_normal ?_)
  refine WC.ret ?_
  exact WX.ret1 rfl rfl ⟨rfl, s.empty, rfl, H⟩

end Go.Proofs.YtofenpiiihhigaaDoor

 /- Printed by a program (wip/vg): what the functions mean, plainly, and their walks. -/
namespace Go.Proofs.YtofenpiiihhigaaDoor
open Go Go.RowKit
attribute [local irreducible] WL WC WX WQ WK WJ Yld Eff Ef0 Fn
def M_smithysee_Alike (a : Er) (b : Er) (K : Bool → Prop) : Prop :=
 ((((decide (a = Er.ok)) || (decide (b = Er.ok))) = true → K ((decide (a = Er.ok)) && (decide (b = Er.ok)))) ∧
 (((decide (a = Er.ok)) || (decide (b = Er.ok))) = false → (¬ (a = Er.ok ∧ b = Er.ok) ∧ ((∀ p n, a ≠ Er.at_ p n) ∨ ∀ p n, b ≠ Er.at_ p n)) ∧
 K (decide (a = b))))

def M_smithyref_None (K : Int → Bool → Int → Bool → (List UInt8) → Prop) : Prop :=
 K (0 : Int) false (0 : Int) false ([] : List UInt8)

def M_smithyref_Bare (code : Int) (K : Int → Bool → Int → Bool → (List UInt8) → Prop) : Prop :=
 K code false (0 : Int) false ([] : List UInt8)

def M_smithyref_Placed (code : Int) (pos : Int) (K : Int → Bool → Int → Bool → (List UInt8) → Prop) : Prop :=
 ((code = (0 : Int) → M_smithyref_None (fun (t7_Code : Int) (t7_Placed : Bool) (t7_Pos : Int) (t7_Filed : Bool) (t7_File : List UInt8) =>
 K t7_Code t7_Placed t7_Pos t7_Filed t7_File)) ∧
 (¬ (code = (0 : Int)) → K code true pos false ([] : List UInt8)))

def M_smithyref_SameFault (a_Code : Int) (a_Placed : Bool) (a_Pos : Int) (a_Filed : Bool) (a_File : List UInt8) (b_Code : Int) (b_Placed : Bool) (b_Pos : Int) (b_Filed : Bool) (b_File : List UInt8) (K : Bool → Prop) : Prop :=
 K (((((decide (a_Code = b_Code)) && (a_Placed == b_Placed)) && (decide (a_Pos = b_Pos))) && (a_Filed == b_Filed)) && (decide (a_File = b_File)))

set_option maxHeartbeats 8000000 in
theorem W_smithysee_Alike {S : List Nat} {w : World} {v_a : Value} {a : Er} {v_b : Value} {b : Er} {K : Bool → Prop} (ha : ErrR S w v_a a) (hb : ErrR S w v_b b) (H : M_smithysee_Alike a b K) : Fn Tryd.prog 99 ⟨[v_a, v_b]⟩ w (fun v w' => w = w' ∧ ∃ (r : Bool), v = .bool r ∧ K r) := by
  unfold M_smithysee_Alike at H
  refine Fn.enter (by kernel_rfl) Tryd.func99 rfl Tryd.ntmps99 rfl ?_
  refine WC.seq ?_
  refine WC.region ?_
  refine WL.y rfl (Yld.pure tab_ok rfl) ?_
  refine WL.nil (WX.then_normal ?_)
  refine WC.seq ?_
  refine WC.seq ?_
  refine WC.region ?_
  refine WL.y rfl (Yld.pure tab_ok rfl) ?_
  refine WL.y rfl (Yld.erreql Tryd.underlying34 ha rfl) ?_
  refine WL.y rfl (Yld.pure tab_ok rfl) ?_
  refine WL.midF 3 (fun L' w' => ∃ q1 : Bool, L' = [(10, .bool q1), (0, v_a), (1, v_b)] ∧ ((decide (a = Er.ok)) || (decide (b = Er.ok))) = q1 ∧ w = w') ?_ (fun hQ => ?_)
  · rintro _ _ ⟨q1, rfl, rfl, rfl⟩
    refine WL.nil (WX.then_normal ?_)
    refine WC.cond rfl (fun b1 => ?_) (fun b1 => ?_)
    · replace H := H.1 (b1)
      refine WC.seq ?_
      refine WC.region ?_
      refine WL.y rfl (Yld.pure tab_ok rfl) ?_
      refine WL.y rfl (Yld.erreql Tryd.underlying34 ha rfl) ?_
      refine WL.y rfl (Yld.pure tab_ok rfl) ?_
      refine WL.midF 3 (fun L' w' => ∃ q2 : Bool, L' = [(16, .bool q2)] ∧ ((decide (a = Er.ok)) && (decide (b = Er.ok))) = q2 ∧ w = w') ?_ (fun hQ => ?_)
      · rintro _ _ ⟨q2, rfl, rfl, rfl⟩
        refine WL.y rfl (Yld.pure tab_ok rfl) ?_
        refine WL.nil (WX.then_normal ?_)
        refine WC.ret (WX.then_ret ?_)
        exact WX.ret1 rfl rfl ⟨rfl, (decide (a = Er.ok)) && (decide (b = Er.ok)), rfl, H⟩
      · clear H
        rcases Bool.eq_false_or_eq_true (decide (a = Er.ok)) with b2 | b2
        · refine WL.gyes rfl rfl (okb b2) rfl (Yld.pure tab_ok rfl) ?_
          refine WL.gyes rfl rfl (okb b2) rfl (Yld.erreql Tryd.underlying34 hb rfl) ?_
          refine WL.y rfl (Yld.pickT (okb b2) rfl) ?_
          exact WL.weaken (by repeat (first | exact Sub.nil | refine Sub.cons rfl ?_)) (hQ _ _ ⟨decide (b = Er.ok), rfl, by rw [b2] <;> rfl, rfl⟩)
        · refine WL.gno rfl rfl (okb b2) rfl ?_
          refine WL.gno rfl rfl (okb b2) rfl ?_
          refine WL.y rfl (Yld.pickF (okb b2) rfl) ?_
          exact WL.weaken (by repeat (first | exact Sub.nil | refine Sub.cons rfl ?_)) (hQ _ _ ⟨false, rfl, by rw [b2] <;> rfl, rfl⟩)
    · replace H := H.2 (b1)
      refine WC.skip (WX.then_normal ?_)
      refine WC.seq ?_
      refine WC.region ?_
      refine WL.y rfl (Yld.pure tab_ok rfl) ?_
      refine WL.y rfl (Yld.pure tab_ok rfl) ?_
      obtain ⟨h1, H⟩ := H
      refine WL.y rfl (Yld.erreqA ha hb h1 rfl rfl) ?_
      refine WL.y rfl (Yld.pure tab_ok rfl) ?_
      refine WL.nil (WX.then_normal ?_)
      refine WC.ret ?_
      exact WX.ret1 rfl rfl ⟨rfl, decide (a = b), rfl, H⟩
  · clear H
    rcases Bool.eq_false_or_eq_true (decide (a = Er.ok)) with b3 | b3
    · refine WL.gno rfl rfl (okb b3) rfl ?_
      refine WL.gno rfl rfl (okb b3) rfl ?_
      refine WL.y rfl (Yld.pickT (okb b3) rfl) ?_
      exact WL.weaken (by repeat (first | exact Sub.nil | refine Sub.cons rfl ?_)) (hQ _ _ ⟨true, rfl, by rw [b3] <;> rfl, rfl⟩)
    · refine WL.gyes rfl rfl (okb b3) rfl (Yld.pure tab_ok rfl) ?_
      refine WL.gyes rfl rfl (okb b3) rfl (Yld.erreql Tryd.underlying34 hb rfl) ?_
      refine WL.y rfl (Yld.pickF (okb b3) rfl) ?_
      exact WL.weaken (by repeat (first | exact Sub.nil | refine Sub.cons rfl ?_)) (hQ _ _ ⟨decide (b = Er.ok), rfl, by rw [b3] <;> rfl, rfl⟩)

set_option maxHeartbeats 8000000 in
theorem W_smithyref_None {w : World} {K : Int → Bool → Int → Bool → (List UInt8) → Prop} (H : M_smithyref_None  K) : Fn Tryd.prog 78 ⟨[]⟩ w (fun v w' => w.grownBy w' none ∧ ∃ (r_Code : Int), ∃ (r_Placed : Bool), ∃ (r_Pos : Int), ∃ (r_Filed : Bool), ∃ (r_File : List UInt8), v = .agg ⟨[.int .i64 r_Code, .bool r_Placed, .int .i64 r_Pos, .bool r_Filed, vs r_File]⟩ ∧ K r_Code r_Placed r_Pos r_Filed r_File) := by
  unfold M_smithyref_None at H
  refine Fn.enter (by kernel_rfl) Tryd.func78 rfl Tryd.ntmps78 rfl ?_
  refine WC.seq ?_
  refine WC.region ?_
  refine WL.alloc rfl zero104 (fun g1 w1 hB1 hg1 hl1 => ?_)
  have gr1 := hg1
  refine WL.nil (WX.then_normal ?_)
  refine WC.seq ?_
  refine WC.region ?_
  refine WL.y rfl (Yld.struct (us := [.int .i64 (0 : Int), .bool false, .int .i64 (0 : Int), .bool false, vs ([] : List UInt8)]) zero104 places104 rfl rfl) ?_
  refine WL.storeW (vs := [.int .i64 (0 : Int), .bool false, .int .i64 (0 : Int), .bool false, vs ([] : List UInt8)]) tab_ok rfl rfl rfl (all1c rfl (all1c rfl (all1c rfl (all1c rfl (all1c rfl all1n))))) hB1 rfl rfl (fun w2 hB2 hg2 => ?_)
  have gr2 := gr_mod gr1 hg2 (Ge.le (Ge.box hl1) (Nat.le_refl _))
  refine WL.nil (WX.then_normal ?_)
  refine WC.ret ?_
  exact WX.retc tab_ok rfl rfl rfl hB2 rfl ⟨gr2, (0 : Int), false, (0 : Int), false, ([] : List UInt8), rfl, H⟩

set_option maxHeartbeats 8000000 in
theorem W_smithyref_Bare {w : World} {code : Int} {K : Int → Bool → Int → Bool → (List UInt8) → Prop} (H : M_smithyref_Bare code K) : Fn Tryd.prog 45 ⟨[.int .i64 code]⟩ w (fun v w' => w.grownBy w' none ∧ ∃ (r_Code : Int), ∃ (r_Placed : Bool), ∃ (r_Pos : Int), ∃ (r_Filed : Bool), ∃ (r_File : List UInt8), v = .agg ⟨[.int .i64 r_Code, .bool r_Placed, .int .i64 r_Pos, .bool r_Filed, vs r_File]⟩ ∧ K r_Code r_Placed r_Pos r_Filed r_File) := by
  unfold M_smithyref_Bare at H
  refine Fn.enter (by kernel_rfl) Tryd.func45 rfl Tryd.ntmps45 rfl ?_
  refine WC.seq ?_
  refine WC.region ?_
  refine WL.alloc rfl zero104 (fun g1 w1 hB1 hg1 hl1 => ?_)
  have gr1 := hg1
  refine WL.nil (WX.then_normal ?_)
  refine WC.seq ?_
  refine WC.region ?_
  refine WL.y rfl (Yld.pure tab_ok rfl) ?_
  refine WL.y rfl (Yld.struct (us := [.int .i64 code, .bool false, .int .i64 (0 : Int), .bool false, vs ([] : List UInt8)]) zero104 places104 rfl rfl) ?_
  refine WL.storeW (vs := [.int .i64 code, .bool false, .int .i64 (0 : Int), .bool false, vs ([] : List UInt8)]) tab_ok rfl rfl rfl (all1c rfl (all1c rfl (all1c rfl (all1c rfl (all1c rfl all1n))))) hB1 rfl rfl (fun w2 hB2 hg2 => ?_)
  have gr2 := gr_mod gr1 hg2 (Ge.le (Ge.box hl1) (Nat.le_refl _))
  refine WL.nil (WX.then_normal ?_)
  refine WC.ret ?_
  exact WX.retc tab_ok rfl rfl rfl hB2 rfl ⟨gr2, code, false, (0 : Int), false, ([] : List UInt8), rfl, H⟩

set_option maxHeartbeats 8000000 in
theorem W_smithyref_Placed {w : World} {code : Int} {pos : Int} {K : Int → Bool → Int → Bool → (List UInt8) → Prop} (H : M_smithyref_Placed code pos K) : Fn Tryd.prog 91 ⟨[.int .i64 code, .int .i64 pos]⟩ w (fun v w' => w.grownBy w' none ∧ ∃ (r_Code : Int), ∃ (r_Placed : Bool), ∃ (r_Pos : Int), ∃ (r_Filed : Bool), ∃ (r_File : List UInt8), v = .agg ⟨[.int .i64 r_Code, .bool r_Placed, .int .i64 r_Pos, .bool r_Filed, vs r_File]⟩ ∧ K r_Code r_Placed r_Pos r_Filed r_File) := by
  unfold M_smithyref_Placed at H
  refine Fn.enter (by kernel_rfl) Tryd.func91 rfl Tryd.ntmps91 rfl ?_
  refine WC.seq ?_
  refine WC.region ?_
  refine WL.alloc rfl zero104 (fun g1 w1 hB1 hg1 hl1 => ?_)
  have gr1 := hg1
  refine WL.nil (WX.then_normal ?_)
  refine WC.seq ?_
  refine WC.seq ?_
  refine WC.region ?_
  refine WL.y rfl (Yld.pure tab_ok rfl) ?_
  refine WL.y rfl (Yld.pure tab_ok rfl) ?_
  refine WL.nil (WX.then_normal ?_)
  refine WC.cond rfl (fun b1 => ?_) (fun b1 => ?_)
  · replace H := H.1 (of_decide_eq_true b1)
    refine WC.seq ?_
    refine WC.region ?_
    refine WL.call rfl rfl (W_smithyref_None H) ?_
    rintro _ w2 ⟨hg2, t7_Code, t7_Placed, t7_Pos, t7_Filed, t7_File, rfl, H⟩
    have gr2 := gr_trans gr1 hg2
    have k1 := hB1.g0 hg2
    refine WL.storeW (vs := [.int .i64 t7_Code, .bool t7_Placed, .int .i64 t7_Pos, .bool t7_Filed, vs t7_File]) tab_ok rfl rfl rfl (all1c rfl (all1c rfl (all1c rfl (all1c rfl (all1c rfl all1n))))) k1 rfl rfl (fun w3 hB2 hg3 => ?_)
    have gr3 := gr_mod gr2 hg3 (Ge.le (Ge.box hl1) (Nat.le_refl _))
    refine WL.nil (WX.then_normal ?_)
    refine WC.ret (WX.then_ret ?_)
    exact WX.retc tab_ok rfl rfl rfl hB2 rfl ⟨gr3, t7_Code, t7_Placed, t7_Pos, t7_Filed, t7_File, rfl, H⟩
  · replace H := H.2 (of_decide_eq_false b1)
    refine WC.skip (WX.then_normal ?_)
    refine WC.seq ?_
    refine WC.region ?_
    refine WL.y rfl (Yld.pure tab_ok rfl) ?_
    refine WL.y rfl (Yld.pure tab_ok rfl) ?_
    refine WL.y rfl (Yld.struct (us := [.int .i64 code, .bool true, .int .i64 pos, .bool false, vs ([] : List UInt8)]) zero104 places104 rfl rfl) ?_
    refine WL.storeW (vs := [.int .i64 code, .bool true, .int .i64 pos, .bool false, vs ([] : List UInt8)]) tab_ok rfl rfl rfl (all1c rfl (all1c rfl (all1c rfl (all1c rfl (all1c rfl all1n))))) hB1 rfl rfl (fun w4 hB3 hg4 => ?_)
    have gr4 := gr_mod gr1 hg4 (Ge.le (Ge.box hl1) (Nat.le_refl _))
    refine WL.nil (WX.then_normal ?_)
    refine WC.ret ?_
    exact WX.retc tab_ok rfl rfl rfl hB3 rfl ⟨gr4, code, true, pos, false, ([] : List UInt8), rfl, H⟩

set_option maxHeartbeats 8000000 in
theorem W_smithyref_SameFault {w : World} {a_Code : Int} {a_Placed : Bool} {a_Pos : Int} {a_Filed : Bool} {a_File : List UInt8} {b_Code : Int} {b_Placed : Bool} {b_Pos : Int} {b_Filed : Bool} {b_File : List UInt8} {K : Bool → Prop} (H : M_smithyref_SameFault a_Code a_Placed a_Pos a_Filed a_File b_Code b_Placed b_Pos b_Filed b_File K) : Fn Tryd.prog 67 ⟨[.agg ⟨[.int .i64 a_Code, .bool a_Placed, .int .i64 a_Pos, .bool a_Filed, vs a_File]⟩, .agg ⟨[.int .i64 b_Code, .bool b_Placed, .int .i64 b_Pos, .bool b_Filed, vs b_File]⟩]⟩ w (fun v w' => w.grownBy w' none ∧ ∃ (r : Bool), v = .bool r ∧ K r) := by
  unfold M_smithyref_SameFault at H
  refine Fn.enter (by kernel_rfl) Tryd.func67 rfl Tryd.ntmps67 rfl ?_
  refine WC.seq ?_
  refine WC.region ?_
  refine WL.box (us := [.int .i64 a_Code, .bool a_Placed, .int .i64 a_Pos, .bool a_Filed, vs a_File]) rfl rfl rfl (fun g1 w1 hB1 hg1 hl1 => ?_)
  have gr1 := hg1
  refine WL.box (us := [.int .i64 b_Code, .bool b_Placed, .int .i64 b_Pos, .bool b_Filed, vs b_File]) rfl rfl rfl (fun g2 w2 hB2 hg2 hl2 => ?_)
  have gr2 := gr_trans gr1 hg2
  have k1 := hB1.g0 hg2
  refine WL.y rfl (Yld.pure tab_ok rfl) ?_
  refine WL.nil (WX.then_normal ?_)
  refine WC.seq ?_
  refine WC.region ?_
  refine WL.y rfl (Yld.pure tab_ok rfl) ?_
  refine WL.y rfl (Yld.bload tab_ok k1 rfl rfl rfl) ?_
  refine WL.y rfl (Yld.pure tab_ok rfl) ?_
  refine WL.y rfl (Yld.bload tab_ok hB2 rfl rfl rfl) ?_
  refine WL.y rfl (Yld.pure tab_ok rfl) ?_
  refine WL.y rfl (Yld.pure tab_ok rfl) ?_
  refine WL.midF 6 (fun L' w' => ∃ q1 : Bool, L' = [(16, .bool q1), (2, .pointer (some ⟨g1, 0, none⟩)), (3, .pointer (some ⟨g2, 0, none⟩))] ∧ ((decide (a_Code = b_Code)) && (a_Placed == b_Placed)) = q1 ∧ w2 = w') ?_ (fun hQ => ?_)
  · rintro _ _ ⟨q1, rfl, rfl, rfl⟩
    refine WL.y rfl (Yld.pure tab_ok rfl) ?_
    refine WL.midF 6 (fun L' w' => ∃ q2 : Bool, L' = [(23, .bool q2), (2, .pointer (some ⟨g1, 0, none⟩)), (3, .pointer (some ⟨g2, 0, none⟩))] ∧ (((decide (a_Code = b_Code)) && (a_Placed == b_Placed)) && (decide (a_Pos = b_Pos))) = q2 ∧ w2 = w') ?_ (fun hQ => ?_)
    · rintro _ _ ⟨q2, rfl, rfl, rfl⟩
      refine WL.y rfl (Yld.pure tab_ok rfl) ?_
      refine WL.midF 6 (fun L' w' => ∃ q3 : Bool, L' = [(30, .bool q3), (2, .pointer (some ⟨g1, 0, none⟩)), (3, .pointer (some ⟨g2, 0, none⟩))] ∧ ((((decide (a_Code = b_Code)) && (a_Placed == b_Placed)) && (decide (a_Pos = b_Pos))) && (a_Filed == b_Filed)) = q3 ∧ w2 = w') ?_ (fun hQ => ?_)
      · rintro _ _ ⟨q3, rfl, rfl, rfl⟩
        refine WL.y rfl (Yld.pure tab_ok rfl) ?_
        refine WL.midF 6 (fun L' w' => ∃ q4 : Bool, L' = [(37, .bool q4)] ∧ (((((decide (a_Code = b_Code)) && (a_Placed == b_Placed)) && (decide (a_Pos = b_Pos))) && (a_Filed == b_Filed)) && (decide (a_File = b_File))) = q4 ∧ w2 = w') ?_ (fun hQ => ?_)
        · rintro _ _ ⟨q4, rfl, rfl, rfl⟩
          refine WL.y rfl (Yld.pure tab_ok rfl) ?_
          refine WL.nil (WX.then_normal ?_)
          refine WC.ret ?_
          exact WX.ret1 rfl rfl ⟨gr2, ((((decide (a_Code = b_Code)) && (a_Placed == b_Placed)) && (decide (a_Pos = b_Pos))) && (a_Filed == b_Filed)) && (decide (a_File = b_File)), rfl, H⟩
        · clear H
          rcases Bool.eq_false_or_eq_true ((((decide (a_Code = b_Code)) && (a_Placed == b_Placed)) && (decide (a_Pos = b_Pos))) && (a_Filed == b_Filed)) with b1 | b1
          · refine WL.gyes rfl rfl (okb b1) rfl (Yld.pure tab_ok rfl) ?_
            refine WL.gyes rfl rfl (okb b1) rfl (Yld.bload tab_ok k1 rfl rfl rfl) ?_
            refine WL.gyes rfl rfl (okb b1) rfl (Yld.pure tab_ok rfl) ?_
            refine WL.gyes rfl rfl (okb b1) rfl (Yld.bload tab_ok hB2 rfl rfl rfl) ?_
            refine WL.gyes rfl rfl (okb b1) rfl (Yld.pure tab_ok rfl) ?_
            refine WL.y rfl (Yld.pickT (okb b1) rfl) ?_
            exact WL.weaken (by repeat (first | exact Sub.nil | refine Sub.cons rfl ?_)) (hQ _ _ ⟨decide (a_File = b_File), rfl, by rw [b1] <;> rfl, rfl⟩)
          · refine WL.gno rfl rfl (okb b1) rfl ?_
            refine WL.gno rfl rfl (okb b1) rfl ?_
            refine WL.gno rfl rfl (okb b1) rfl ?_
            refine WL.gno rfl rfl (okb b1) rfl ?_
            refine WL.gno rfl rfl (okb b1) rfl ?_
            refine WL.y rfl (Yld.pickF (okb b1) rfl) ?_
            exact WL.weaken (by repeat (first | exact Sub.nil | refine Sub.cons rfl ?_)) (hQ _ _ ⟨false, rfl, by rw [b1] <;> rfl, rfl⟩)
      · clear H
        rcases Bool.eq_false_or_eq_true (((decide (a_Code = b_Code)) && (a_Placed == b_Placed)) && (decide (a_Pos = b_Pos))) with b2 | b2
        · refine WL.gyes rfl rfl (okb b2) rfl (Yld.pure tab_ok rfl) ?_
          refine WL.gyes rfl rfl (okb b2) rfl (Yld.bload tab_ok k1 rfl rfl rfl) ?_
          refine WL.gyes rfl rfl (okb b2) rfl (Yld.pure tab_ok rfl) ?_
          refine WL.gyes rfl rfl (okb b2) rfl (Yld.bload tab_ok hB2 rfl rfl rfl) ?_
          refine WL.gyes rfl rfl (okb b2) rfl (Yld.beql Tryd.underlying4 rfl rfl) ?_
          refine WL.y rfl (Yld.pickT (okb b2) rfl) ?_
          exact WL.weaken (by repeat (first | exact Sub.nil | refine Sub.cons rfl ?_)) (hQ _ _ ⟨a_Filed == b_Filed, rfl, by rw [b2] <;> rfl, rfl⟩)
        · refine WL.gno rfl rfl (okb b2) rfl ?_
          refine WL.gno rfl rfl (okb b2) rfl ?_
          refine WL.gno rfl rfl (okb b2) rfl ?_
          refine WL.gno rfl rfl (okb b2) rfl ?_
          refine WL.gno rfl rfl (okb b2) rfl ?_
          refine WL.y rfl (Yld.pickF (okb b2) rfl) ?_
          exact WL.weaken (by repeat (first | exact Sub.nil | refine Sub.cons rfl ?_)) (hQ _ _ ⟨false, rfl, by rw [b2] <;> rfl, rfl⟩)
    · clear H
      rcases Bool.eq_false_or_eq_true ((decide (a_Code = b_Code)) && (a_Placed == b_Placed)) with b3 | b3
      · refine WL.gyes rfl rfl (okb b3) rfl (Yld.pure tab_ok rfl) ?_
        refine WL.gyes rfl rfl (okb b3) rfl (Yld.bload tab_ok k1 rfl rfl rfl) ?_
        refine WL.gyes rfl rfl (okb b3) rfl (Yld.pure tab_ok rfl) ?_
        refine WL.gyes rfl rfl (okb b3) rfl (Yld.bload tab_ok hB2 rfl rfl rfl) ?_
        refine WL.gyes rfl rfl (okb b3) rfl (Yld.pure tab_ok rfl) ?_
        refine WL.y rfl (Yld.pickT (okb b3) rfl) ?_
        exact WL.weaken (by repeat (first | exact Sub.nil | refine Sub.cons rfl ?_)) (hQ _ _ ⟨decide (a_Pos = b_Pos), rfl, by rw [b3] <;> rfl, rfl⟩)
      · refine WL.gno rfl rfl (okb b3) rfl ?_
        refine WL.gno rfl rfl (okb b3) rfl ?_
        refine WL.gno rfl rfl (okb b3) rfl ?_
        refine WL.gno rfl rfl (okb b3) rfl ?_
        refine WL.gno rfl rfl (okb b3) rfl ?_
        refine WL.y rfl (Yld.pickF (okb b3) rfl) ?_
        exact WL.weaken (by repeat (first | exact Sub.nil | refine Sub.cons rfl ?_)) (hQ _ _ ⟨false, rfl, by rw [b3] <;> rfl, rfl⟩)
  · clear H
    rcases Bool.eq_false_or_eq_true (decide (a_Code = b_Code)) with b4 | b4
    · refine WL.gyes rfl rfl (okb b4) rfl (Yld.pure tab_ok rfl) ?_
      refine WL.gyes rfl rfl (okb b4) rfl (Yld.bload tab_ok k1 rfl rfl rfl) ?_
      refine WL.gyes rfl rfl (okb b4) rfl (Yld.pure tab_ok rfl) ?_
      refine WL.gyes rfl rfl (okb b4) rfl (Yld.bload tab_ok hB2 rfl rfl rfl) ?_
      refine WL.gyes rfl rfl (okb b4) rfl (Yld.beql Tryd.underlying4 rfl rfl) ?_
      refine WL.y rfl (Yld.pickT (okb b4) rfl) ?_
      exact WL.weaken (by repeat (first | exact Sub.nil | refine Sub.cons rfl ?_)) (hQ _ _ ⟨a_Placed == b_Placed, rfl, by rw [b4] <;> rfl, rfl⟩)
    · refine WL.gno rfl rfl (okb b4) rfl ?_
      refine WL.gno rfl rfl (okb b4) rfl ?_
      refine WL.gno rfl rfl (okb b4) rfl ?_
      refine WL.gno rfl rfl (okb b4) rfl ?_
      refine WL.gno rfl rfl (okb b4) rfl ?_
      refine WL.y rfl (Yld.pickF (okb b4) rfl) ?_
      exact WL.weaken (by repeat (first | exact Sub.nil | refine Sub.cons rfl ?_)) (hQ _ _ ⟨false, rfl, by rw [b4] <;> rfl, rfl⟩)

end Go.Proofs.YtofenpiiihhigaaDoor

 /- smithysee.sentinel: the number of one of api's variables. -/
namespace Go.Proofs.YtofenpiiihhigaaDoor
open Go Go.RowKit
attribute [local irreducible] WL WC WX WQ WK WJ Yld Eff Ef0 Fn
theorem Rd.ofBlV {w : World} {g m : Nat} {e : TypeId} {us : List Value} (h : Bl w g e us) (hm : us.length = m) (hx : m ≤ maxLen) : Rd (fun v => v) w (some ⟨g, 0, none⟩) m us := ⟨by omega, hx, fun _ => ⟨_, rfl, fun j x hj => by
  have := h.cell j
  rw [hj] at this
  cases j with
  | zero => simpa [Addr.add] using this
  | succ j => simpa [Addr.add] using this⟩⟩
def errsV (S : List Nat) (w : World) (us : List Value) : Prop := us.length = 17 ∧ ∀ n, n < 17 → ErrR S w (us.getD n .nilIface) (.e n)
theorem sentinels_fn {S : List Nat} {w : World} (hG : GOK S w) (hS : ∀ n, n < 17 → n ∈ S) : Fn Tryd.prog 98 ⟨[]⟩ w fun v w' => w.grownBy w' none ∧ ∃ g us, v = .slice (some ⟨g, 0, none⟩) 17 17 ∧ Bl w' g 34 us ∧ errsV S w' us := by
  refine Fn.enter (by kernel_rfl) Tryd.func98 rfl Tryd.ntmps98 rfl ?_
  obtain ⟨v0, hc0, hE0⟩ := hG.get 0 2 (hS 0 (by omega)) rfl rfl
  obtain ⟨v1, hc1, hE1⟩ := hG.get 1 3 (hS 1 (by omega)) rfl rfl
  obtain ⟨v2, hc2, hE2⟩ := hG.get 2 4 (hS 2 (by omega)) rfl rfl
  obtain ⟨v3, hc3, hE3⟩ := hG.get 3 1 (hS 3 (by omega)) rfl rfl
  obtain ⟨v4, hc4, hE4⟩ := hG.get 4 5 (hS 4 (by omega)) rfl rfl
  obtain ⟨v5, hc5, hE5⟩ := hG.get 5 6 (hS 5 (by omega)) rfl rfl
  obtain ⟨v6, hc6, hE6⟩ := hG.get 6 7 (hS 6 (by omega)) rfl rfl
  obtain ⟨v7, hc7, hE7⟩ := hG.get 7 0 (hS 7 (by omega)) rfl rfl
  obtain ⟨v8, hc8, hE8⟩ := hG.get 8 8 (hS 8 (by omega)) rfl rfl
  obtain ⟨v9, hc9, hE9⟩ := hG.get 9 9 (hS 9 (by omega)) rfl rfl
  obtain ⟨v10, hc10, hE10⟩ := hG.get 10 10 (hS 10 (by omega)) rfl rfl
  obtain ⟨v11, hc11, hE11⟩ := hG.get 11 11 (hS 11 (by omega)) rfl rfl
  obtain ⟨v12, hc12, hE12⟩ := hG.get 12 12 (hS 12 (by omega)) rfl rfl
  obtain ⟨v13, hc13, hE13⟩ := hG.get 13 13 (hS 13 (by omega)) rfl rfl
  obtain ⟨v14, hc14, hE14⟩ := hG.get 14 14 (hS 14 (by omega)) rfl rfl
  obtain ⟨v15, hc15, hE15⟩ := hG.get 15 15 (hS 15 (by omega)) rfl rfl
  obtain ⟨v16, hc16, hE16⟩ := hG.get 16 16 (hS 16 (by omega)) rfl rfl
  repeat (first | refine WL.y rfl (Yld.cell tab_ok hc0 rfl rfl) ?_ | refine WL.y rfl (Yld.cell tab_ok hc1 rfl rfl) ?_ | refine WL.y rfl (Yld.cell tab_ok hc2 rfl rfl) ?_ | refine WL.y rfl (Yld.cell tab_ok hc3 rfl rfl) ?_ | refine WL.y rfl (Yld.cell tab_ok hc4 rfl rfl) ?_ | refine WL.y rfl (Yld.cell tab_ok hc5 rfl rfl) ?_ | refine WL.y rfl (Yld.cell tab_ok hc6 rfl rfl) ?_ | refine WL.y rfl (Yld.cell tab_ok hc7 rfl rfl) ?_ | refine WL.y rfl (Yld.cell tab_ok hc8 rfl rfl) ?_ | refine WL.y rfl (Yld.cell tab_ok hc9 rfl rfl) ?_ | refine WL.y rfl (Yld.cell tab_ok hc10 rfl rfl) ?_ | refine WL.y rfl (Yld.cell tab_ok hc11 rfl rfl) ?_ | refine WL.y rfl (Yld.cell tab_ok hc12 rfl rfl) ?_ | refine WL.y rfl (Yld.cell tab_ok hc13 rfl rfl) ?_ | refine WL.y rfl (Yld.cell tab_ok hc14 rfl rfl) ?_ | refine WL.y rfl (Yld.cell tab_ok hc15 rfl rfl) ?_ | refine WL.y rfl (Yld.cell tab_ok hc16 rfl rfl) ?_ | refine WC.seq ?_ | refine WC.block ?_ | refine WC.region ?_ | refine WL.nil ?_ | refine WX.then_normal ?_ | refine WC.skip ?_ | refine WC.exit ?_ | refine WC.ret ?_ | refine WX.then_exit ?_ | refine WX.then_ret ?_ | refine WX.block_normal ?_ | refine WX.block_ret ?_ | refine WX.block_same ?_ | refine WX.block_other rfl ?_ | refine WC.label ?_ | refine WC.scope ?_ | refine WX.scope_normal ?_ | refine WX.scope_ret ?_ | refine WX.scope_exit ?_ | refine WL.y rfl (Yld.add rfl rfl (by simp only [In]; omega)) ?_ | refine WL.y rfl (Yld.sub rfl rfl (by simp only [In]; omega)) ?_ | refine WL.y rfl (Yld.mul rfl rfl (by simp only [In]; omega)) ?_ | refine WL.y rfl (Yld.convB tab_ok rfl rfl rfl rfl) ?_ | refine WL.y rfl (Yld.conv tab_ok rfl rfl rfl (by simp only [In]; omega)) ?_ | refine WL.y rfl (Yld.quo rfl rfl (by omega) (by omega) (by simp only [In]; omega)) ?_ | refine WL.y rfl (Yld.rem rfl rfl (by omega) (by omega)) ?_ | refine WL.y rfl (Yld.shl rfl rfl (by omega)) ?_ | refine WL.y rfl (Yld.shr rfl rfl (by omega)) ?_ | refine WL.y rfl (Yld.pure tab_ok rfl) ?_ | refine WL.y rfl (Yld.fld flds_ok rfl rfl rfl) ?_ | refine WL.y rfl (Yld.max2 rfl rfl) ?_ | refine WL.y rfl (Yld.min2 rfl rfl) ?_ | refine WL.y rfl (Yld.pickV rfl rfl rfl) ?_ | refine WL.gno rfl rfl rfl rfl ?_ | refine WL.gyes rfl rfl rfl rfl (Yld.add rfl rfl (by simp only [In]; omega)) ?_ | refine WL.gyes rfl rfl rfl rfl (Yld.sub rfl rfl (by simp only [In]; omega)) ?_ | refine WL.gyes rfl rfl rfl rfl (Yld.mul rfl rfl (by simp only [In]; omega)) ?_ | refine WL.gyes rfl rfl rfl rfl (Yld.convB tab_ok rfl rfl rfl rfl) ?_ | refine WL.gyes rfl rfl rfl rfl (Yld.conv tab_ok rfl rfl rfl (by simp only [In]; omega)) ?_ | refine WL.gyes rfl rfl rfl rfl (Yld.quo rfl rfl (by omega) (by omega) (by simp only [In]; omega)) ?_ | refine WL.gyes rfl rfl rfl rfl (Yld.rem rfl rfl (by omega) (by omega)) ?_ | refine WL.gyes rfl rfl rfl rfl (Yld.shl rfl rfl (by omega)) ?_ | refine WL.gyes rfl rfl rfl rfl (Yld.shr rfl rfl (by omega)) ?_ | refine WL.gyes rfl rfl rfl rfl (Yld.pure tab_ok rfl) ?_ | refine WL.gyes rfl rfl rfl rfl (Yld.fld flds_ok rfl rfl rfl) ?_ | refine WL.gyes rfl rfl rfl rfl (Yld.max2 rfl rfl) ?_ | refine WL.gyes rfl rfl rfl rfl (Yld.min2 rfl rfl) ?_ | refine WL.gyes rfl rfl rfl rfl (Yld.pickV rfl rfl rfl) ?_ | refine WL.gun rfl rfl rfl rfl ?_)
  refine WL.lit tab_ok rfl rfl rfl (all1c (ErrR.one hE0) (all1c (ErrR.one hE1) (all1c (ErrR.one hE2) (all1c (ErrR.one hE3) (all1c (ErrR.one hE4) (all1c (ErrR.one hE5) (all1c (ErrR.one hE6) (all1c (ErrR.one hE7) (all1c (ErrR.one hE8) (all1c (ErrR.one hE9) (all1c (ErrR.one hE10) (all1c (ErrR.one hE11) (all1c (ErrR.one hE12) (all1c (ErrR.one hE13) (all1c (ErrR.one hE14) (all1c (ErrR.one hE15) (all1c (ErrR.one hE16) all1n))))))))))))))))) rfl (by omega) (fun g w' hB hg hl => ?_)
  repeat (first | refine WC.seq ?_ | refine WC.block ?_ | refine WC.region ?_ | refine WL.nil ?_ | refine WX.then_normal ?_ | refine WC.skip ?_ | refine WC.exit ?_ | refine WC.ret ?_ | refine WX.then_exit ?_ | refine WX.then_ret ?_ | refine WX.block_normal ?_ | refine WX.block_ret ?_ | refine WX.block_same ?_ | refine WX.block_other rfl ?_ | refine WC.label ?_ | refine WC.scope ?_ | refine WX.scope_normal ?_ | refine WX.scope_ret ?_ | refine WX.scope_exit ?_ | refine WL.y rfl (Yld.add rfl rfl (by simp only [In]; omega)) ?_ | refine WL.y rfl (Yld.sub rfl rfl (by simp only [In]; omega)) ?_ | refine WL.y rfl (Yld.mul rfl rfl (by simp only [In]; omega)) ?_ | refine WL.y rfl (Yld.convB tab_ok rfl rfl rfl rfl) ?_ | refine WL.y rfl (Yld.conv tab_ok rfl rfl rfl (by simp only [In]; omega)) ?_ | refine WL.y rfl (Yld.quo rfl rfl (by omega) (by omega) (by simp only [In]; omega)) ?_ | refine WL.y rfl (Yld.rem rfl rfl (by omega) (by omega)) ?_ | refine WL.y rfl (Yld.shl rfl rfl (by omega)) ?_ | refine WL.y rfl (Yld.shr rfl rfl (by omega)) ?_ | refine WL.y rfl (Yld.pure tab_ok rfl) ?_ | refine WL.y rfl (Yld.fld flds_ok rfl rfl rfl) ?_ | refine WL.y rfl (Yld.max2 rfl rfl) ?_ | refine WL.y rfl (Yld.min2 rfl rfl) ?_ | refine WL.y rfl (Yld.pickV rfl rfl rfl) ?_ | refine WL.gno rfl rfl rfl rfl ?_ | refine WL.gyes rfl rfl rfl rfl (Yld.add rfl rfl (by simp only [In]; omega)) ?_ | refine WL.gyes rfl rfl rfl rfl (Yld.sub rfl rfl (by simp only [In]; omega)) ?_ | refine WL.gyes rfl rfl rfl rfl (Yld.mul rfl rfl (by simp only [In]; omega)) ?_ | refine WL.gyes rfl rfl rfl rfl (Yld.convB tab_ok rfl rfl rfl rfl) ?_ | refine WL.gyes rfl rfl rfl rfl (Yld.conv tab_ok rfl rfl rfl (by simp only [In]; omega)) ?_ | refine WL.gyes rfl rfl rfl rfl (Yld.quo rfl rfl (by omega) (by omega) (by simp only [In]; omega)) ?_ | refine WL.gyes rfl rfl rfl rfl (Yld.rem rfl rfl (by omega) (by omega)) ?_ | refine WL.gyes rfl rfl rfl rfl (Yld.shl rfl rfl (by omega)) ?_ | refine WL.gyes rfl rfl rfl rfl (Yld.shr rfl rfl (by omega)) ?_ | refine WL.gyes rfl rfl rfl rfl (Yld.pure tab_ok rfl) ?_ | refine WL.gyes rfl rfl rfl rfl (Yld.fld flds_ok rfl rfl rfl) ?_ | refine WL.gyes rfl rfl rfl rfl (Yld.max2 rfl rfl) ?_ | refine WL.gyes rfl rfl rfl rfl (Yld.min2 rfl rfl) ?_ | refine WL.gyes rfl rfl rfl rfl (Yld.pickV rfl rfl rfl) ?_ | refine WL.gun rfl rfl rfl rfl ?_)
  refine WX.ret1 rfl rfl ⟨hg, g, _, rfl, hB, rfl, fun n hn => ?_⟩
  match n, hn with
  | 0, _ => exact hE0.grown hg
  | 1, _ => exact hE1.grown hg
  | 2, _ => exact hE2.grown hg
  | 3, _ => exact hE3.grown hg
  | 4, _ => exact hE4.grown hg
  | 5, _ => exact hE5.grown hg
  | 6, _ => exact hE6.grown hg
  | 7, _ => exact hE7.grown hg
  | 8, _ => exact hE8.grown hg
  | 9, _ => exact hE9.grown hg
  | 10, _ => exact hE10.grown hg
  | 11, _ => exact hE11.grown hg
  | 12, _ => exact hE12.grown hg
  | 13, _ => exact hE13.grown hg
  | 14, _ => exact hE14.grown hg
  | 15, _ => exact hE15.grown hg
  | 16, _ => exact hE16.grown hg
  | n + 17, hn => omega
def sentV : Er → Int
  | .ok => -1
  | .e n => 101 + n
  | .at_ _ _ => -1
def M_smithysee_sentinel (e : Er) (K : Int → Prop) : Prop := K (sentV e)
theorem W_smithysee_sentinel {S : List Nat} {w : World} {v : Value} {e : Er} {K : Int → Prop} (hG : GOK S w) (hS0 : 0 ∈ S) (hS1 : 1 ∈ S) (hS2 : 2 ∈ S) (hS3 : 3 ∈ S) (hS4 : 4 ∈ S) (hS5 : 5 ∈ S) (hS6 : 6 ∈ S) (hS7 : 7 ∈ S) (hS8 : 8 ∈ S) (hS9 : 9 ∈ S) (hS10 : 10 ∈ S) (hS11 : 11 ∈ S) (hS12 : 12 ∈ S) (hS13 : 13 ∈ S) (hS14 : 14 ∈ S) (hS15 : 15 ∈ S) (hS16 : 16 ∈ S) (hE : ErrR S w v e) (H : M_smithysee_sentinel e K) : Fn Tryd.prog 90 ⟨[v]⟩ w (fun r w' => w.grownBy w' none ∧ ∃ n : Int, r = .int .i64 n ∧ K n) := by
  have hS : ∀ n, n < 17 → n ∈ S := fun n hn => by
    match n, hn with
    | 0, _ => exact hS0
    | 1, _ => exact hS1
    | 2, _ => exact hS2
    | 3, _ => exact hS3
    | 4, _ => exact hS4
    | 5, _ => exact hS5
    | 6, _ => exact hS6
    | 7, _ => exact hS7
    | 8, _ => exact hS8
    | 9, _ => exact hS9
    | 10, _ => exact hS10
    | 11, _ => exact hS11
    | 12, _ => exact hS12
    | 13, _ => exact hS13
    | 14, _ => exact hS14
    | 15, _ => exact hS15
    | 16, _ => exact hS16
    | n + 17, hn => omega
  unfold M_smithysee_sentinel at H
  refine Fn.enter (by kernel_rfl) Tryd.func90 rfl Tryd.ntmps90 rfl ?_
  repeat (first | refine WC.seq ?_ | refine WC.block ?_ | refine WC.region ?_ | refine WL.nil ?_ | refine WX.then_normal ?_ | refine WC.skip ?_ | refine WC.exit ?_ | refine WC.ret ?_ | refine WX.then_exit ?_ | refine WX.then_ret ?_ | refine WX.block_normal ?_ | refine WX.block_ret ?_ | refine WX.block_same ?_ | refine WX.block_other rfl ?_ | refine WC.label ?_ | refine WC.scope ?_ | refine WX.scope_normal ?_ | refine WX.scope_ret ?_ | refine WX.scope_exit ?_ | refine WL.y rfl (Yld.add rfl rfl (by simp only [In]; omega)) ?_ | refine WL.y rfl (Yld.sub rfl rfl (by simp only [In]; omega)) ?_ | refine WL.y rfl (Yld.mul rfl rfl (by simp only [In]; omega)) ?_ | refine WL.y rfl (Yld.convB tab_ok rfl rfl rfl rfl) ?_ | refine WL.y rfl (Yld.conv tab_ok rfl rfl rfl (by simp only [In]; omega)) ?_ | refine WL.y rfl (Yld.quo rfl rfl (by omega) (by omega) (by simp only [In]; omega)) ?_ | refine WL.y rfl (Yld.rem rfl rfl (by omega) (by omega)) ?_ | refine WL.y rfl (Yld.shl rfl rfl (by omega)) ?_ | refine WL.y rfl (Yld.shr rfl rfl (by omega)) ?_ | refine WL.y rfl (Yld.pure tab_ok rfl) ?_ | refine WL.y rfl (Yld.fld flds_ok rfl rfl rfl) ?_ | refine WL.y rfl (Yld.max2 rfl rfl) ?_ | refine WL.y rfl (Yld.min2 rfl rfl) ?_ | refine WL.y rfl (Yld.pickV rfl rfl rfl) ?_ | refine WL.gno rfl rfl rfl rfl ?_ | refine WL.gyes rfl rfl rfl rfl (Yld.add rfl rfl (by simp only [In]; omega)) ?_ | refine WL.gyes rfl rfl rfl rfl (Yld.sub rfl rfl (by simp only [In]; omega)) ?_ | refine WL.gyes rfl rfl rfl rfl (Yld.mul rfl rfl (by simp only [In]; omega)) ?_ | refine WL.gyes rfl rfl rfl rfl (Yld.convB tab_ok rfl rfl rfl rfl) ?_ | refine WL.gyes rfl rfl rfl rfl (Yld.conv tab_ok rfl rfl rfl (by simp only [In]; omega)) ?_ | refine WL.gyes rfl rfl rfl rfl (Yld.quo rfl rfl (by omega) (by omega) (by simp only [In]; omega)) ?_ | refine WL.gyes rfl rfl rfl rfl (Yld.rem rfl rfl (by omega) (by omega)) ?_ | refine WL.gyes rfl rfl rfl rfl (Yld.shl rfl rfl (by omega)) ?_ | refine WL.gyes rfl rfl rfl rfl (Yld.shr rfl rfl (by omega)) ?_ | refine WL.gyes rfl rfl rfl rfl (Yld.pure tab_ok rfl) ?_ | refine WL.gyes rfl rfl rfl rfl (Yld.fld flds_ok rfl rfl rfl) ?_ | refine WL.gyes rfl rfl rfl rfl (Yld.max2 rfl rfl) ?_ | refine WL.gyes rfl rfl rfl rfl (Yld.min2 rfl rfl) ?_ | refine WL.gyes rfl rfl rfl rfl (Yld.pickV rfl rfl rfl) ?_ | refine WL.gun rfl rfl rfl rfl ?_)
  refine WL.call rfl rfl (sentinels_fn hG hS) ?_
  rintro _ w1 ⟨hg1, g, us, rfl, hB, hlen, hus⟩
  have hR := Rd.ofBlV hB hlen (by simp [maxLen])
  have hE1 := hE.grown hg1
  repeat (first | refine WC.seq ?_ | refine WC.block ?_ | refine WC.region ?_ | refine WL.nil ?_ | refine WX.then_normal ?_ | refine WC.skip ?_ | refine WC.exit ?_ | refine WC.ret ?_ | refine WX.then_exit ?_ | refine WX.then_ret ?_ | refine WX.block_normal ?_ | refine WX.block_ret ?_ | refine WX.block_same ?_ | refine WX.block_other rfl ?_ | refine WC.label ?_ | refine WC.scope ?_ | refine WX.scope_normal ?_ | refine WX.scope_ret ?_ | refine WX.scope_exit ?_ | refine WL.y rfl (Yld.add rfl rfl (by simp only [In]; omega)) ?_ | refine WL.y rfl (Yld.sub rfl rfl (by simp only [In]; omega)) ?_ | refine WL.y rfl (Yld.mul rfl rfl (by simp only [In]; omega)) ?_ | refine WL.y rfl (Yld.convB tab_ok rfl rfl rfl rfl) ?_ | refine WL.y rfl (Yld.conv tab_ok rfl rfl rfl (by simp only [In]; omega)) ?_ | refine WL.y rfl (Yld.quo rfl rfl (by omega) (by omega) (by simp only [In]; omega)) ?_ | refine WL.y rfl (Yld.rem rfl rfl (by omega) (by omega)) ?_ | refine WL.y rfl (Yld.shl rfl rfl (by omega)) ?_ | refine WL.y rfl (Yld.shr rfl rfl (by omega)) ?_ | refine WL.y rfl (Yld.pure tab_ok rfl) ?_ | refine WL.y rfl (Yld.fld flds_ok rfl rfl rfl) ?_ | refine WL.y rfl (Yld.max2 rfl rfl) ?_ | refine WL.y rfl (Yld.min2 rfl rfl) ?_ | refine WL.y rfl (Yld.pickV rfl rfl rfl) ?_ | refine WL.gno rfl rfl rfl rfl ?_ | refine WL.gyes rfl rfl rfl rfl (Yld.add rfl rfl (by simp only [In]; omega)) ?_ | refine WL.gyes rfl rfl rfl rfl (Yld.sub rfl rfl (by simp only [In]; omega)) ?_ | refine WL.gyes rfl rfl rfl rfl (Yld.mul rfl rfl (by simp only [In]; omega)) ?_ | refine WL.gyes rfl rfl rfl rfl (Yld.convB tab_ok rfl rfl rfl rfl) ?_ | refine WL.gyes rfl rfl rfl rfl (Yld.conv tab_ok rfl rfl rfl (by simp only [In]; omega)) ?_ | refine WL.gyes rfl rfl rfl rfl (Yld.quo rfl rfl (by omega) (by omega) (by simp only [In]; omega)) ?_ | refine WL.gyes rfl rfl rfl rfl (Yld.rem rfl rfl (by omega) (by omega)) ?_ | refine WL.gyes rfl rfl rfl rfl (Yld.shl rfl rfl (by omega)) ?_ | refine WL.gyes rfl rfl rfl rfl (Yld.shr rfl rfl (by omega)) ?_ | refine WL.gyes rfl rfl rfl rfl (Yld.pure tab_ok rfl) ?_ | refine WL.gyes rfl rfl rfl rfl (Yld.fld flds_ok rfl rfl rfl) ?_ | refine WL.gyes rfl rfl rfl rfl (Yld.max2 rfl rfl) ?_ | refine WL.gyes rfl rfl rfl rfl (Yld.min2 rfl rfl) ?_ | refine WL.gyes rfl rfl rfl rfl (Yld.pickV rfl rfl rfl) ?_ | refine WL.gun rfl rfl rfl rfl ?_)
  refine WC.loopF (fun n' L' w' => ∃ i : Nat, n' = 17 - i ∧ L' = [(4, vi i), (3, .slice (some ⟨g, 0, none⟩) 17 17), (0, v)] ∧ i ≤ 17 ∧ (∀ j, j < i → e ≠ .e j) ∧ w1 = w') _ _ ⟨0, rfl, rfl, by omega, fun j hj => by omega, rfl⟩ (by repeat (first | exact Sub.nil | refine Sub.cons rfl ?_)) ?_
  rintro _ _ _ ⟨i, rfl, rfl, hi, hne, rfl⟩
  repeat (first | refine WC.seq ?_ | refine WC.block ?_ | refine WC.region ?_ | refine WL.nil ?_ | refine WX.then_normal ?_ | refine WC.skip ?_ | refine WC.exit ?_ | refine WC.ret ?_ | refine WX.then_exit ?_ | refine WX.then_ret ?_ | refine WX.block_normal ?_ | refine WX.block_ret ?_ | refine WX.block_same ?_ | refine WX.block_other rfl ?_ | refine WC.label ?_ | refine WC.scope ?_ | refine WX.scope_normal ?_ | refine WX.scope_ret ?_ | refine WX.scope_exit ?_ | refine WL.y rfl (Yld.add rfl rfl (by simp only [In]; omega)) ?_ | refine WL.y rfl (Yld.sub rfl rfl (by simp only [In]; omega)) ?_ | refine WL.y rfl (Yld.mul rfl rfl (by simp only [In]; omega)) ?_ | refine WL.y rfl (Yld.convB tab_ok rfl rfl rfl rfl) ?_ | refine WL.y rfl (Yld.conv tab_ok rfl rfl rfl (by simp only [In]; omega)) ?_ | refine WL.y rfl (Yld.quo rfl rfl (by omega) (by omega) (by simp only [In]; omega)) ?_ | refine WL.y rfl (Yld.rem rfl rfl (by omega) (by omega)) ?_ | refine WL.y rfl (Yld.shl rfl rfl (by omega)) ?_ | refine WL.y rfl (Yld.shr rfl rfl (by omega)) ?_ | refine WL.y rfl (Yld.pure tab_ok rfl) ?_ | refine WL.y rfl (Yld.fld flds_ok rfl rfl rfl) ?_ | refine WL.y rfl (Yld.max2 rfl rfl) ?_ | refine WL.y rfl (Yld.min2 rfl rfl) ?_ | refine WL.y rfl (Yld.pickV rfl rfl rfl) ?_ | refine WL.gno rfl rfl rfl rfl ?_ | refine WL.gyes rfl rfl rfl rfl (Yld.add rfl rfl (by simp only [In]; omega)) ?_ | refine WL.gyes rfl rfl rfl rfl (Yld.sub rfl rfl (by simp only [In]; omega)) ?_ | refine WL.gyes rfl rfl rfl rfl (Yld.mul rfl rfl (by simp only [In]; omega)) ?_ | refine WL.gyes rfl rfl rfl rfl (Yld.convB tab_ok rfl rfl rfl rfl) ?_ | refine WL.gyes rfl rfl rfl rfl (Yld.conv tab_ok rfl rfl rfl (by simp only [In]; omega)) ?_ | refine WL.gyes rfl rfl rfl rfl (Yld.quo rfl rfl (by omega) (by omega) (by simp only [In]; omega)) ?_ | refine WL.gyes rfl rfl rfl rfl (Yld.rem rfl rfl (by omega) (by omega)) ?_ | refine WL.gyes rfl rfl rfl rfl (Yld.shl rfl rfl (by omega)) ?_ | refine WL.gyes rfl rfl rfl rfl (Yld.shr rfl rfl (by omega)) ?_ | refine WL.gyes rfl rfl rfl rfl (Yld.pure tab_ok rfl) ?_ | refine WL.gyes rfl rfl rfl rfl (Yld.fld flds_ok rfl rfl rfl) ?_ | refine WL.gyes rfl rfl rfl rfl (Yld.max2 rfl rfl) ?_ | refine WL.gyes rfl rfl rfl rfl (Yld.min2 rfl rfl) ?_ | refine WL.gyes rfl rfl rfl rfl (Yld.pickV rfl rfl rfl) ?_ | refine WL.gun rfl rfl rfl rfl ?_)
  refine WC.cond rfl (fun h => ?_) (fun h => ?_)
  · simp only [decide_eq_true_eq] at h
    have hi' : i < 17 := by omega
    repeat (first | refine WL.y rfl (Yld.iaddrN tab_ok hR rfl rfl hlen.symm rfl (by omega)) ?_ | refine WL.y rfl (Yld.iload .nilIface tab_ok hR rfl rfl (by omega)) ?_ | refine WC.seq ?_ | refine WC.block ?_ | refine WC.region ?_ | refine WL.nil ?_ | refine WX.then_normal ?_ | refine WC.skip ?_ | refine WC.exit ?_ | refine WC.ret ?_ | refine WX.then_exit ?_ | refine WX.then_ret ?_ | refine WX.block_normal ?_ | refine WX.block_ret ?_ | refine WX.block_same ?_ | refine WX.block_other rfl ?_ | refine WC.label ?_ | refine WC.scope ?_ | refine WX.scope_normal ?_ | refine WX.scope_ret ?_ | refine WX.scope_exit ?_ | refine WL.y rfl (Yld.add rfl rfl (by simp only [In]; omega)) ?_ | refine WL.y rfl (Yld.sub rfl rfl (by simp only [In]; omega)) ?_ | refine WL.y rfl (Yld.mul rfl rfl (by simp only [In]; omega)) ?_ | refine WL.y rfl (Yld.convB tab_ok rfl rfl rfl rfl) ?_ | refine WL.y rfl (Yld.conv tab_ok rfl rfl rfl (by simp only [In]; omega)) ?_ | refine WL.y rfl (Yld.quo rfl rfl (by omega) (by omega) (by simp only [In]; omega)) ?_ | refine WL.y rfl (Yld.rem rfl rfl (by omega) (by omega)) ?_ | refine WL.y rfl (Yld.shl rfl rfl (by omega)) ?_ | refine WL.y rfl (Yld.shr rfl rfl (by omega)) ?_ | refine WL.y rfl (Yld.pure tab_ok rfl) ?_ | refine WL.y rfl (Yld.fld flds_ok rfl rfl rfl) ?_ | refine WL.y rfl (Yld.max2 rfl rfl) ?_ | refine WL.y rfl (Yld.min2 rfl rfl) ?_ | refine WL.y rfl (Yld.pickV rfl rfl rfl) ?_ | refine WL.gno rfl rfl rfl rfl ?_ | refine WL.gyes rfl rfl rfl rfl (Yld.add rfl rfl (by simp only [In]; omega)) ?_ | refine WL.gyes rfl rfl rfl rfl (Yld.sub rfl rfl (by simp only [In]; omega)) ?_ | refine WL.gyes rfl rfl rfl rfl (Yld.mul rfl rfl (by simp only [In]; omega)) ?_ | refine WL.gyes rfl rfl rfl rfl (Yld.convB tab_ok rfl rfl rfl rfl) ?_ | refine WL.gyes rfl rfl rfl rfl (Yld.conv tab_ok rfl rfl rfl (by simp only [In]; omega)) ?_ | refine WL.gyes rfl rfl rfl rfl (Yld.quo rfl rfl (by omega) (by omega) (by simp only [In]; omega)) ?_ | refine WL.gyes rfl rfl rfl rfl (Yld.rem rfl rfl (by omega) (by omega)) ?_ | refine WL.gyes rfl rfl rfl rfl (Yld.shl rfl rfl (by omega)) ?_ | refine WL.gyes rfl rfl rfl rfl (Yld.shr rfl rfl (by omega)) ?_ | refine WL.gyes rfl rfl rfl rfl (Yld.pure tab_ok rfl) ?_ | refine WL.gyes rfl rfl rfl rfl (Yld.fld flds_ok rfl rfl rfl) ?_ | refine WL.gyes rfl rfl rfl rfl (Yld.max2 rfl rfl) ?_ | refine WL.gyes rfl rfl rfl rfl (Yld.min2 rfl rfl) ?_ | refine WL.gyes rfl rfl rfl rfl (Yld.pickV rfl rfl rfl) ?_ | refine WL.gun rfl rfl rfl rfl ?_)
    refine WL.call rfl rfl (W_smithysee_Alike (K := fun b => b = decide (e = .e i)) hE1 (hus i hi') ?_) ?_
    · unfold M_smithysee_Alike
      cases e <;> simp
    rintro _ _ ⟨rfl, b, rfl, hb⟩
    subst hb
    refine WL.nil ?_
    repeat (first | refine WC.seq ?_ | refine WC.block ?_ | refine WC.region ?_ | refine WL.nil ?_ | refine WX.then_normal ?_ | refine WC.skip ?_ | refine WC.exit ?_ | refine WC.ret ?_ | refine WX.then_exit ?_ | refine WX.then_ret ?_ | refine WX.block_normal ?_ | refine WX.block_ret ?_ | refine WX.block_same ?_ | refine WX.block_other rfl ?_ | refine WC.label ?_ | refine WC.scope ?_ | refine WX.scope_normal ?_ | refine WX.scope_ret ?_ | refine WX.scope_exit ?_ | refine WL.y rfl (Yld.add rfl rfl (by simp only [In]; omega)) ?_ | refine WL.y rfl (Yld.sub rfl rfl (by simp only [In]; omega)) ?_ | refine WL.y rfl (Yld.mul rfl rfl (by simp only [In]; omega)) ?_ | refine WL.y rfl (Yld.convB tab_ok rfl rfl rfl rfl) ?_ | refine WL.y rfl (Yld.conv tab_ok rfl rfl rfl (by simp only [In]; omega)) ?_ | refine WL.y rfl (Yld.quo rfl rfl (by omega) (by omega) (by simp only [In]; omega)) ?_ | refine WL.y rfl (Yld.rem rfl rfl (by omega) (by omega)) ?_ | refine WL.y rfl (Yld.shl rfl rfl (by omega)) ?_ | refine WL.y rfl (Yld.shr rfl rfl (by omega)) ?_ | refine WL.y rfl (Yld.pure tab_ok rfl) ?_ | refine WL.y rfl (Yld.fld flds_ok rfl rfl rfl) ?_ | refine WL.y rfl (Yld.max2 rfl rfl) ?_ | refine WL.y rfl (Yld.min2 rfl rfl) ?_ | refine WL.y rfl (Yld.pickV rfl rfl rfl) ?_ | refine WL.gno rfl rfl rfl rfl ?_ | refine WL.gyes rfl rfl rfl rfl (Yld.add rfl rfl (by simp only [In]; omega)) ?_ | refine WL.gyes rfl rfl rfl rfl (Yld.sub rfl rfl (by simp only [In]; omega)) ?_ | refine WL.gyes rfl rfl rfl rfl (Yld.mul rfl rfl (by simp only [In]; omega)) ?_ | refine WL.gyes rfl rfl rfl rfl (Yld.convB tab_ok rfl rfl rfl rfl) ?_ | refine WL.gyes rfl rfl rfl rfl (Yld.conv tab_ok rfl rfl rfl (by simp only [In]; omega)) ?_ | refine WL.gyes rfl rfl rfl rfl (Yld.quo rfl rfl (by omega) (by omega) (by simp only [In]; omega)) ?_ | refine WL.gyes rfl rfl rfl rfl (Yld.rem rfl rfl (by omega) (by omega)) ?_ | refine WL.gyes rfl rfl rfl rfl (Yld.shl rfl rfl (by omega)) ?_ | refine WL.gyes rfl rfl rfl rfl (Yld.shr rfl rfl (by omega)) ?_ | refine WL.gyes rfl rfl rfl rfl (Yld.pure tab_ok rfl) ?_ | refine WL.gyes rfl rfl rfl rfl (Yld.fld flds_ok rfl rfl rfl) ?_ | refine WL.gyes rfl rfl rfl rfl (Yld.max2 rfl rfl) ?_ | refine WL.gyes rfl rfl rfl rfl (Yld.min2 rfl rfl) ?_ | refine WL.gyes rfl rfl rfl rfl (Yld.pickV rfl rfl rfl) ?_ | refine WL.gun rfl rfl rfl rfl ?_)
    refine WC.cond rfl (fun h2 => ?_) (fun h2 => ?_)
    · have h3 : e = .e i := of_decide_eq_true h2
      subst h3
      repeat (first | refine WC.seq ?_ | refine WC.block ?_ | refine WC.region ?_ | refine WL.nil ?_ | refine WX.then_normal ?_ | refine WC.skip ?_ | refine WC.exit ?_ | refine WC.ret ?_ | refine WX.then_exit ?_ | refine WX.then_ret ?_ | refine WX.block_normal ?_ | refine WX.block_ret ?_ | refine WX.block_same ?_ | refine WX.block_other rfl ?_ | refine WC.label ?_ | refine WC.scope ?_ | refine WX.scope_normal ?_ | refine WX.scope_ret ?_ | refine WX.scope_exit ?_ | refine WL.y rfl (Yld.add rfl rfl (by simp only [In]; omega)) ?_ | refine WL.y rfl (Yld.sub rfl rfl (by simp only [In]; omega)) ?_ | refine WL.y rfl (Yld.mul rfl rfl (by simp only [In]; omega)) ?_ | refine WL.y rfl (Yld.convB tab_ok rfl rfl rfl rfl) ?_ | refine WL.y rfl (Yld.conv tab_ok rfl rfl rfl (by simp only [In]; omega)) ?_ | refine WL.y rfl (Yld.quo rfl rfl (by omega) (by omega) (by simp only [In]; omega)) ?_ | refine WL.y rfl (Yld.rem rfl rfl (by omega) (by omega)) ?_ | refine WL.y rfl (Yld.shl rfl rfl (by omega)) ?_ | refine WL.y rfl (Yld.shr rfl rfl (by omega)) ?_ | refine WL.y rfl (Yld.pure tab_ok rfl) ?_ | refine WL.y rfl (Yld.fld flds_ok rfl rfl rfl) ?_ | refine WL.y rfl (Yld.max2 rfl rfl) ?_ | refine WL.y rfl (Yld.min2 rfl rfl) ?_ | refine WL.y rfl (Yld.pickV rfl rfl rfl) ?_ | refine WL.gno rfl rfl rfl rfl ?_ | refine WL.gyes rfl rfl rfl rfl (Yld.add rfl rfl (by simp only [In]; omega)) ?_ | refine WL.gyes rfl rfl rfl rfl (Yld.sub rfl rfl (by simp only [In]; omega)) ?_ | refine WL.gyes rfl rfl rfl rfl (Yld.mul rfl rfl (by simp only [In]; omega)) ?_ | refine WL.gyes rfl rfl rfl rfl (Yld.convB tab_ok rfl rfl rfl rfl) ?_ | refine WL.gyes rfl rfl rfl rfl (Yld.conv tab_ok rfl rfl rfl (by simp only [In]; omega)) ?_ | refine WL.gyes rfl rfl rfl rfl (Yld.quo rfl rfl (by omega) (by omega) (by simp only [In]; omega)) ?_ | refine WL.gyes rfl rfl rfl rfl (Yld.rem rfl rfl (by omega) (by omega)) ?_ | refine WL.gyes rfl rfl rfl rfl (Yld.shl rfl rfl (by omega)) ?_ | refine WL.gyes rfl rfl rfl rfl (Yld.shr rfl rfl (by omega)) ?_ | refine WL.gyes rfl rfl rfl rfl (Yld.pure tab_ok rfl) ?_ | refine WL.gyes rfl rfl rfl rfl (Yld.fld flds_ok rfl rfl rfl) ?_ | refine WL.gyes rfl rfl rfl rfl (Yld.max2 rfl rfl) ?_ | refine WL.gyes rfl rfl rfl rfl (Yld.min2 rfl rfl) ?_ | refine WL.gyes rfl rfl rfl rfl (Yld.pickV rfl rfl rfl) ?_ | refine WL.gun rfl rfl rfl rfl ?_)
      exact WX.ret1 rfl rfl ⟨hg1, _, rfl, H⟩
    · have h3 : e ≠ .e i := of_decide_eq_false h2
      repeat (first | refine WC.seq ?_ | refine WC.block ?_ | refine WC.region ?_ | refine WL.nil ?_ | refine WX.then_normal ?_ | refine WC.skip ?_ | refine WC.exit ?_ | refine WC.ret ?_ | refine WX.then_exit ?_ | refine WX.then_ret ?_ | refine WX.block_normal ?_ | refine WX.block_ret ?_ | refine WX.block_same ?_ | refine WX.block_other rfl ?_ | refine WC.label ?_ | refine WC.scope ?_ | refine WX.scope_normal ?_ | refine WX.scope_ret ?_ | refine WX.scope_exit ?_ | refine WL.y rfl (Yld.add rfl rfl (by simp only [In]; omega)) ?_ | refine WL.y rfl (Yld.sub rfl rfl (by simp only [In]; omega)) ?_ | refine WL.y rfl (Yld.mul rfl rfl (by simp only [In]; omega)) ?_ | refine WL.y rfl (Yld.convB tab_ok rfl rfl rfl rfl) ?_ | refine WL.y rfl (Yld.conv tab_ok rfl rfl rfl (by simp only [In]; omega)) ?_ | refine WL.y rfl (Yld.quo rfl rfl (by omega) (by omega) (by simp only [In]; omega)) ?_ | refine WL.y rfl (Yld.rem rfl rfl (by omega) (by omega)) ?_ | refine WL.y rfl (Yld.shl rfl rfl (by omega)) ?_ | refine WL.y rfl (Yld.shr rfl rfl (by omega)) ?_ | refine WL.y rfl (Yld.pure tab_ok rfl) ?_ | refine WL.y rfl (Yld.fld flds_ok rfl rfl rfl) ?_ | refine WL.y rfl (Yld.max2 rfl rfl) ?_ | refine WL.y rfl (Yld.min2 rfl rfl) ?_ | refine WL.y rfl (Yld.pickV rfl rfl rfl) ?_ | refine WL.gno rfl rfl rfl rfl ?_ | refine WL.gyes rfl rfl rfl rfl (Yld.add rfl rfl (by simp only [In]; omega)) ?_ | refine WL.gyes rfl rfl rfl rfl (Yld.sub rfl rfl (by simp only [In]; omega)) ?_ | refine WL.gyes rfl rfl rfl rfl (Yld.mul rfl rfl (by simp only [In]; omega)) ?_ | refine WL.gyes rfl rfl rfl rfl (Yld.convB tab_ok rfl rfl rfl rfl) ?_ | refine WL.gyes rfl rfl rfl rfl (Yld.conv tab_ok rfl rfl rfl (by simp only [In]; omega)) ?_ | refine WL.gyes rfl rfl rfl rfl (Yld.quo rfl rfl (by omega) (by omega) (by simp only [In]; omega)) ?_ | refine WL.gyes rfl rfl rfl rfl (Yld.rem rfl rfl (by omega) (by omega)) ?_ | refine WL.gyes rfl rfl rfl rfl (Yld.shl rfl rfl (by omega)) ?_ | refine WL.gyes rfl rfl rfl rfl (Yld.shr rfl rfl (by omega)) ?_ | refine WL.gyes rfl rfl rfl rfl (Yld.pure tab_ok rfl) ?_ | refine WL.gyes rfl rfl rfl rfl (Yld.fld flds_ok rfl rfl rfl) ?_ | refine WL.gyes rfl rfl rfl rfl (Yld.max2 rfl rfl) ?_ | refine WL.gyes rfl rfl rfl rfl (Yld.min2 rfl rfl) ?_ | refine WL.gyes rfl rfl rfl rfl (Yld.pickV rfl rfl rfl) ?_ | refine WL.gun rfl rfl rfl rfl ?_)
      refine WX.roundF _ ⟨i + 1, rfl, rfl, by omega, fun j hj => ?_, rfl⟩ (by repeat (first | exact Sub.nil | refine Sub.cons rfl ?_)) (by omega)
      rcases Nat.lt_or_ge j i with hji | hji
      · exact hne j hji
      · obtain rfl : j = i := by omega
        exact h3
  · simp only [decide_eq_false_iff_not] at h
    repeat (first | refine WC.seq ?_ | refine WC.block ?_ | refine WC.region ?_ | refine WL.nil ?_ | refine WX.then_normal ?_ | refine WC.skip ?_ | refine WC.exit ?_ | refine WC.ret ?_ | refine WX.then_exit ?_ | refine WX.then_ret ?_ | refine WX.block_normal ?_ | refine WX.block_ret ?_ | refine WX.block_same ?_ | refine WX.block_other rfl ?_ | refine WC.label ?_ | refine WC.scope ?_ | refine WX.scope_normal ?_ | refine WX.scope_ret ?_ | refine WX.scope_exit ?_ | refine WL.y rfl (Yld.add rfl rfl (by simp only [In]; omega)) ?_ | refine WL.y rfl (Yld.sub rfl rfl (by simp only [In]; omega)) ?_ | refine WL.y rfl (Yld.mul rfl rfl (by simp only [In]; omega)) ?_ | refine WL.y rfl (Yld.convB tab_ok rfl rfl rfl rfl) ?_ | refine WL.y rfl (Yld.conv tab_ok rfl rfl rfl (by simp only [In]; omega)) ?_ | refine WL.y rfl (Yld.quo rfl rfl (by omega) (by omega) (by simp only [In]; omega)) ?_ | refine WL.y rfl (Yld.rem rfl rfl (by omega) (by omega)) ?_ | refine WL.y rfl (Yld.shl rfl rfl (by omega)) ?_ | refine WL.y rfl (Yld.shr rfl rfl (by omega)) ?_ | refine WL.y rfl (Yld.pure tab_ok rfl) ?_ | refine WL.y rfl (Yld.fld flds_ok rfl rfl rfl) ?_ | refine WL.y rfl (Yld.max2 rfl rfl) ?_ | refine WL.y rfl (Yld.min2 rfl rfl) ?_ | refine WL.y rfl (Yld.pickV rfl rfl rfl) ?_ | refine WL.gno rfl rfl rfl rfl ?_ | refine WL.gyes rfl rfl rfl rfl (Yld.add rfl rfl (by simp only [In]; omega)) ?_ | refine WL.gyes rfl rfl rfl rfl (Yld.sub rfl rfl (by simp only [In]; omega)) ?_ | refine WL.gyes rfl rfl rfl rfl (Yld.mul rfl rfl (by simp only [In]; omega)) ?_ | refine WL.gyes rfl rfl rfl rfl (Yld.convB tab_ok rfl rfl rfl rfl) ?_ | refine WL.gyes rfl rfl rfl rfl (Yld.conv tab_ok rfl rfl rfl (by simp only [In]; omega)) ?_ | refine WL.gyes rfl rfl rfl rfl (Yld.quo rfl rfl (by omega) (by omega) (by simp only [In]; omega)) ?_ | refine WL.gyes rfl rfl rfl rfl (Yld.rem rfl rfl (by omega) (by omega)) ?_ | refine WL.gyes rfl rfl rfl rfl (Yld.shl rfl rfl (by omega)) ?_ | refine WL.gyes rfl rfl rfl rfl (Yld.shr rfl rfl (by omega)) ?_ | refine WL.gyes rfl rfl rfl rfl (Yld.pure tab_ok rfl) ?_ | refine WL.gyes rfl rfl rfl rfl (Yld.fld flds_ok rfl rfl rfl) ?_ | refine WL.gyes rfl rfl rfl rfl (Yld.max2 rfl rfl) ?_ | refine WL.gyes rfl rfl rfl rfl (Yld.min2 rfl rfl) ?_ | refine WL.gyes rfl rfl rfl rfl (Yld.pickV rfl rfl rfl) ?_ | refine WL.gun rfl rfl rfl rfl ?_)
    refine WX.ret1 rfl rfl ⟨hg1, _, rfl, ?_⟩
    have : sentV e = -1 := by
      cases e with
      | e n =>
        by_cases hn : n < 17
        · exact absurd rfl (hne n (by omega))
        · exact absurd (ErV.lt hE.1) hn
      | ok => rfl
      | at_ p n => rfl
    rw [this] at H
    exact H
end Go.Proofs.YtofenpiiihhigaaDoor


 /- Printed by a program (wip/vg): what the functions mean, plainly, and their walks. -/
namespace Go.Proofs.YtofenpiiihhigaaDoor
open Go Go.RowKit
attribute [local irreducible] WL WC WX WQ WK WJ Yld Eff Ef0 Fn
def M_smithysee_placed (e : Er) (K : Int → Bool → Int → Bool → (List UInt8) → Prop) : Prop :=
 ((∀ (pos : Int) (n : Nat), e = Er.at_ pos n → (((Er.e n) = Er.ok → M_smithyref_Bare (-1 : Int) (fun (t24_Code : Int) (t24_Placed : Bool) (t24_Pos : Int) (t24_Filed : Bool) (t24_File : List UInt8) =>
 K t24_Code t24_Placed t24_Pos t24_Filed t24_File)) ∧
 (¬ ((Er.e n) = Er.ok) → M_smithysee_sentinel (Er.e n) (fun (t29 : Int) =>
 M_smithyref_Placed t29 pos (fun (t34_Code : Int) (t34_Placed : Bool) (t34_Pos : Int) (t34_Filed : Bool) (t34_File : List UInt8) =>
 K t34_Code t34_Placed t34_Pos t34_Filed t34_File))))) ∧
 ((∀ p n, e ≠ Er.at_ p n) → M_smithysee_sentinel e (fun (t13 : Int) =>
 M_smithyref_Bare t13 (fun (t14_Code : Int) (t14_Placed : Bool) (t14_Pos : Int) (t14_Filed : Bool) (t14_File : List UInt8) =>
 K t14_Code t14_Placed t14_Pos t14_Filed t14_File))))

def M_smithysee_Fault (e : Er) (K : Int → Bool → Int → Bool → (List UInt8) → Prop) : Prop :=
 ((e = Er.ok → M_smithyref_None (fun (t8_Code : Int) (t8_Placed : Bool) (t8_Pos : Int) (t8_Filed : Bool) (t8_File : List UInt8) =>
 K t8_Code t8_Placed t8_Pos t8_Filed t8_File)) ∧
 (¬ (e = Er.ok) → M_smithysee_placed e (fun (t17_Code : Int) (t17_Placed : Bool) (t17_Pos : Int) (t17_Filed : Bool) (t17_File : List UInt8) =>
 K t17_Code t17_Placed t17_Pos t17_Filed t17_File)))

def M_smithysee_Same (e : Er) (f_Code : Int) (f_Placed : Bool) (f_Pos : Int) (f_Filed : Bool) (f_File : List UInt8) (K : Bool → Prop) : Prop :=
 M_smithysee_Fault e (fun (t6_Code : Int) (t6_Placed : Bool) (t6_Pos : Int) (t6_Filed : Bool) (t6_File : List UInt8) =>
 M_smithyref_SameFault t6_Code t6_Placed t6_Pos t6_Filed t6_File f_Code f_Placed f_Pos f_Filed f_File (fun (t4 : Bool) =>
 K t4))

def M_smithysee_Is (e : Er) (code : Int) (K : Bool → Prop) : Prop :=
 M_smithyref_Bare code (fun (t7_Code : Int) (t7_Placed : Bool) (t7_Pos : Int) (t7_Filed : Bool) (t7_File : List UInt8) =>
 M_smithysee_Same e t7_Code t7_Placed t7_Pos t7_Filed t7_File (fun (t4 : Bool) =>
 K t4))

set_option maxHeartbeats 8000000 in
theorem W_smithysee_placed {S : List Nat} {w : World} {v_e : Value} {e : Er} {K : Int → Bool → Int → Bool → (List UInt8) → Prop} (hG : GOK S w) (hS0 : 0 ∈ S) (hS1 : 1 ∈ S) (hS2 : 2 ∈ S) (hS3 : 3 ∈ S) (hS4 : 4 ∈ S) (hS5 : 5 ∈ S) (hS6 : 6 ∈ S) (hS7 : 7 ∈ S) (hS8 : 8 ∈ S) (hS9 : 9 ∈ S) (hS10 : 10 ∈ S) (hS11 : 11 ∈ S) (hS12 : 12 ∈ S) (hS13 : 13 ∈ S) (hS14 : 14 ∈ S) (hS15 : 15 ∈ S) (hS16 : 16 ∈ S) (he : ErrR S w v_e e) (H : M_smithysee_placed e K) : Fn Tryd.prog 79 ⟨[v_e]⟩ w (fun v w' => w.grownBy w' none ∧ ∃ (r_Code : Int), ∃ (r_Placed : Bool), ∃ (r_Pos : Int), ∃ (r_Filed : Bool), ∃ (r_File : List UInt8), v = .agg ⟨[.int .i64 r_Code, .bool r_Placed, .int .i64 r_Pos, .bool r_Filed, vs r_File]⟩ ∧ K r_Code r_Placed r_Pos r_Filed r_File) := by
  unfold M_smithysee_placed at H
  refine Fn.enter (by kernel_rfl) Tryd.func79 rfl Tryd.ntmps79 rfl ?_
  refine WC.seq ?_
  refine WC.region ?_
  refine WL.alloc rfl zero104 (fun g1 w1 hB1 hg1 hl1 => ?_)
  have gr1 := hg1
  refine WL.nil (WX.then_normal ?_)
  refine WC.seq ?_
  refine WC.region ?_
  refine WL.y rfl (Yld.pure tab_ok rfl) ?_
  rcases Er.atCases e with ⟨pos, n, he1⟩ | he1
  · replace H := H.1 pos n he1
    obtain ⟨b1, vE1, hv1, hB2, hE1⟩ := ErrR.atOut (he1 ▸ (he.grown gr1))
    refine WL.y rfl (Yld.assertYes Tryd.underlying180 rfl hv1) ?_
    refine WL.y rfl (Yld.pure tab_ok rfl) ?_
    refine WL.y rfl (Yld.pure tab_ok rfl) ?_
    refine WL.y rfl (Yld.pure tab_ok rfl) ?_
    refine WL.y rfl (Yld.pure tab_ok rfl) ?_
    refine WL.y rfl (Yld.pure tab_ok rfl) ?_
    refine WL.nil (WX.then_normal ?_)
    refine WC.seq ?_
    refine WC.seq ?_
    refine WC.region ?_
    refine WL.y rfl (Yld.pure tab_ok rfl) ?_
    refine WL.y rfl (Yld.pure tab_ok rfl) ?_
    refine WL.nil (WX.then_normal ?_)
    refine WC.cond rfl (fun h => by cases h) (fun _ => ?_)
    refine WC.skip (WX.then_normal ?_)
    refine WC.seq ?_
    refine WC.seq ?_
    refine WC.region ?_
    refine WL.y rfl (Yld.pure tab_ok rfl) ?_
    refine WL.y rfl (Yld.peqnil Tryd.underlying180 rfl rfl) ?_
    refine WL.y rfl (Yld.pure tab_ok rfl) ?_
    refine WL.midF 6 (fun L' w' => ∃ q1 : Bool, L' = [(23, .bool q1), (2, .pointer (some ⟨g1, 0, none⟩)), (3, .pointer (some ⟨b1, 0, none⟩))] ∧ (decide ((Er.e n) = Er.ok)) = q1 ∧ w1 = w') ?_ (fun hQ => ?_)
    · rintro _ _ ⟨q1, rfl, rfl, rfl⟩
      refine WL.nil (WX.then_normal ?_)
      refine WC.cond rfl (fun b2 => ?_) (fun b2 => ?_)
      · replace H := H.1 (of_decide_eq_true b2)
        refine WC.seq ?_
        refine WC.region ?_
        refine WL.call rfl rfl (W_smithyref_Bare H) ?_
        rintro _ w2 ⟨hg2, t24_Code, t24_Placed, t24_Pos, t24_Filed, t24_File, rfl, H⟩
        have gr2 := gr_trans gr1 hg2
        have k1 := hB1.g0 hg2
        refine WL.storeW (vs := [.int .i64 t24_Code, .bool t24_Placed, .int .i64 t24_Pos, .bool t24_Filed, vs t24_File]) tab_ok rfl rfl rfl (all1c rfl (all1c rfl (all1c rfl (all1c rfl (all1c rfl all1n))))) k1 rfl rfl (fun w3 hB3 hg3 => ?_)
        have gr3 := gr_mod gr2 hg3 (Ge.le (Ge.box hl1) (Nat.le_refl _))
        refine WL.nil (WX.then_normal ?_)
        refine WC.ret (WX.then_ret ?_)
        exact WX.retc tab_ok rfl rfl rfl hB3 rfl ⟨gr3, t24_Code, t24_Placed, t24_Pos, t24_Filed, t24_File, rfl, H⟩
      · replace H := H.2 (of_decide_eq_false b2)
        refine WC.skip (WX.then_normal ?_)
        refine WC.seq ?_
        refine WC.chainF (fun k => !(Nat.beq k 4 || Nat.beq k 9 || Nat.beq k 10)) (LD [3, 8] (fun w' => Bl w' b1 184 [.int .i64 pos, vE1])) mixed (by kernel_rfl) (fun k w' h _ => (bl_eqv h hB2)) ?_
        refine WJ.y rfl rfl (fun w' hw' => Yld.pure tab_ok rfl) ?_
        refine WJ.y rfl rfl (fun w' hw' => Yld.pure tab_ok rfl) ?_
        refine WJ.y rfl rfl (fun w' hw' => Yld.pure tab_ok rfl) ?_
        refine WJ.y rfl rfl (fun w' hw' => Yld.bload tab_ok (hw' rfl) rfl rfl rfl) ?_
        refine WJ.call rfl (wants_none) rfl rfl (W_smithysee_sentinel (hG.grown gr1) hS0 hS1 hS2 hS3 hS4 hS5 hS6 hS7 hS8 hS9 hS10 hS11 hS12 hS13 hS14 hS15 hS16 hE1 H) (fun v w' h w2 e => DD.keep (Bl.g0 hB2 (gr_eqv h.1 e))) ?_
        rintro _ w4 ⟨hg4, t29, rfl, H⟩
        have gr4 := gr_trans gr1 hg4
        have k2 := hB1.g0 hg4
        have k3 := hE1.grown hg4
        have k4 := hB2.g0 hg4
        refine WJ.y rfl rfl (fun w' hw' => Yld.pure tab_ok rfl) ?_
        refine WJ.y rfl rfl (fun w' hw' => Yld.pure tab_ok rfl) ?_
        refine WJ.y rfl rfl (fun w' hw' => Yld.pure tab_ok rfl) ?_
        refine WJ.y rfl rfl (fun w' hw' => Yld.bload tab_ok (hw' rfl) rfl rfl rfl) ?_
        refine WJ.call rfl (wants_none) rfl rfl (W_smithyref_Placed H) (fun v w' h w2 e => DD.keep (Bl.g0 k4 (gr_eqv h.1 e))) ?_
        rintro _ w5 ⟨hg5, t34_Code, t34_Placed, t34_Pos, t34_Filed, t34_File, rfl, H⟩
        have gr5 := gr_trans gr4 hg5
        have k5 := k2.g0 hg5
        have k6 := k4.g0 hg5
        refine WJ.eff rfl (Ef0.storeW (vs := [.int .i64 t34_Code, .bool t34_Placed, .int .i64 t34_Pos, .bool t34_Filed, vs t34_File]) tab_ok rfl rfl rfl (all1c rfl (all1c rfl (all1c rfl (all1c rfl (all1c rfl all1n))))) k5 rfl rfl) (fun w' h => DD.past (by kernel_rfl)) ?_
        rintro w6 ⟨hB4, hg6⟩
        have gr6 := gr_mod gr5 hg6 (Ge.le (Ge.box hl1) (Nat.le_refl _))
        refine WJ.nil (WX.then_normal ?_)
        refine WC.ret ?_
        exact WX.retc tab_ok rfl rfl rfl hB4 rfl ⟨gr6, t34_Code, t34_Placed, t34_Pos, t34_Filed, t34_File, rfl, H⟩
    · clear H
      refine WL.gyes rfl rfl (rfl) rfl (Yld.pure tab_ok rfl) ?_
      refine WL.gyes rfl rfl (rfl) rfl (Yld.pure tab_ok rfl) ?_
      refine WL.gyes rfl rfl (rfl) rfl (Yld.pure tab_ok rfl) ?_
      refine WL.gyes rfl rfl (rfl) rfl (Yld.bload tab_ok hB2 rfl rfl rfl) ?_
      refine WL.gyes rfl rfl (rfl) rfl (Yld.erreql Tryd.underlying34 hE1 rfl) ?_
      refine WL.y rfl (Yld.pickF (rfl) rfl) ?_
      exact WL.weaken (by repeat (first | exact Sub.nil | refine Sub.cons rfl ?_)) (hQ _ _ ⟨decide ((Er.e n) = Er.ok), rfl, rfl, rfl⟩)
  · replace H := H.2 he1
    refine WL.y rfl (Yld.assertNo Tryd.underlying180 (fun _ => by kernel_rfl) (he.grown gr1) rfl rfl (.inr he1)) ?_
    refine WL.y rfl (Yld.pure tab_ok rfl) ?_
    refine WL.y rfl (Yld.pure tab_ok rfl) ?_
    refine WL.y rfl (Yld.pure tab_ok rfl) ?_
    refine WL.y rfl (Yld.pure tab_ok rfl) ?_
    refine WL.y rfl (Yld.pure tab_ok rfl) ?_
    refine WL.nil (WX.then_normal ?_)
    refine WC.seq ?_
    refine WC.seq ?_
    refine WC.region ?_
    refine WL.y rfl (Yld.pure tab_ok rfl) ?_
    refine WL.y rfl (Yld.pure tab_ok rfl) ?_
    refine WL.nil (WX.then_normal ?_)
    refine WC.cond rfl (fun _ => ?_) (fun h => by cases h)
    refine WC.seq ?_
    refine WC.region ?_
    refine WL.y rfl (Yld.pure tab_ok rfl) ?_
    refine WL.call rfl rfl (W_smithysee_sentinel (hG.grown gr1) hS0 hS1 hS2 hS3 hS4 hS5 hS6 hS7 hS8 hS9 hS10 hS11 hS12 hS13 hS14 hS15 hS16 (he.grown gr1) H) ?_
    rintro _ w7 ⟨hg7, t13, rfl, H⟩
    have gr7 := gr_trans gr1 hg7
    have k8 := hB1.g0 hg7
    refine WL.call rfl rfl (W_smithyref_Bare H) ?_
    rintro _ w8 ⟨hg8, t14_Code, t14_Placed, t14_Pos, t14_Filed, t14_File, rfl, H⟩
    have gr8 := gr_trans gr7 hg8
    have k9 := k8.g0 hg8
    refine WL.storeW (vs := [.int .i64 t14_Code, .bool t14_Placed, .int .i64 t14_Pos, .bool t14_Filed, vs t14_File]) tab_ok rfl rfl rfl (all1c rfl (all1c rfl (all1c rfl (all1c rfl (all1c rfl all1n))))) k9 rfl rfl (fun w9 hB5 hg9 => ?_)
    have gr9 := gr_mod gr8 hg9 (Ge.le (Ge.box hl1) (Nat.le_refl _))
    refine WL.nil (WX.then_normal ?_)
    refine WC.ret (WX.then_ret ?_)
    exact WX.retc tab_ok rfl rfl rfl hB5 rfl ⟨gr9, t14_Code, t14_Placed, t14_Pos, t14_Filed, t14_File, rfl, H⟩

set_option maxHeartbeats 8000000 in
theorem W_smithysee_Fault {S : List Nat} {w : World} {v_e : Value} {e : Er} {K : Int → Bool → Int → Bool → (List UInt8) → Prop} (hG : GOK S w) (hS0 : 0 ∈ S) (hS1 : 1 ∈ S) (hS2 : 2 ∈ S) (hS3 : 3 ∈ S) (hS4 : 4 ∈ S) (hS5 : 5 ∈ S) (hS6 : 6 ∈ S) (hS7 : 7 ∈ S) (hS8 : 8 ∈ S) (hS9 : 9 ∈ S) (hS10 : 10 ∈ S) (hS11 : 11 ∈ S) (hS12 : 12 ∈ S) (hS13 : 13 ∈ S) (hS14 : 14 ∈ S) (hS15 : 15 ∈ S) (hS16 : 16 ∈ S) (he : ErrR S w v_e e) (H : M_smithysee_Fault e K) : Fn Tryd.prog 68 ⟨[v_e]⟩ w (fun v w' => w.grownBy w' none ∧ ∃ (r_Code : Int), ∃ (r_Placed : Bool), ∃ (r_Pos : Int), ∃ (r_Filed : Bool), ∃ (r_File : List UInt8), v = .agg ⟨[.int .i64 r_Code, .bool r_Placed, .int .i64 r_Pos, .bool r_Filed, vs r_File]⟩ ∧ K r_Code r_Placed r_Pos r_Filed r_File) := by
  unfold M_smithysee_Fault at H
  refine Fn.enter (by kernel_rfl) Tryd.func68 rfl Tryd.ntmps68 rfl ?_
  refine WC.seq ?_
  refine WC.region ?_
  refine WL.alloc rfl zero104 (fun g1 w1 hB1 hg1 hl1 => ?_)
  have gr1 := hg1
  refine WL.nil (WX.then_normal ?_)
  refine WC.seq ?_
  refine WC.seq ?_
  refine WC.region ?_
  refine WL.y rfl (Yld.pure tab_ok rfl) ?_
  refine WL.y rfl (Yld.erreql Tryd.underlying34 (he.grown gr1) rfl) ?_
  refine WL.nil (WX.then_normal ?_)
  refine WC.cond rfl (fun b1 => ?_) (fun b1 => ?_)
  · replace H := H.1 (of_decide_eq_true b1)
    refine WC.seq ?_
    refine WC.region ?_
    refine WL.call rfl rfl (W_smithyref_None H) ?_
    rintro _ w2 ⟨hg2, t8_Code, t8_Placed, t8_Pos, t8_Filed, t8_File, rfl, H⟩
    have gr2 := gr_trans gr1 hg2
    have k1 := hB1.g0 hg2
    refine WL.storeW (vs := [.int .i64 t8_Code, .bool t8_Placed, .int .i64 t8_Pos, .bool t8_Filed, vs t8_File]) tab_ok rfl rfl rfl (all1c rfl (all1c rfl (all1c rfl (all1c rfl (all1c rfl all1n))))) k1 rfl rfl (fun w3 hB2 hg3 => ?_)
    have gr3 := gr_mod gr2 hg3 (Ge.le (Ge.box hl1) (Nat.le_refl _))
    refine WL.nil (WX.then_normal ?_)
    refine WC.ret (WX.then_ret ?_)
    exact WX.retc tab_ok rfl rfl rfl hB2 rfl ⟨gr3, t8_Code, t8_Placed, t8_Pos, t8_Filed, t8_File, rfl, H⟩
  · replace H := H.2 (of_decide_eq_false b1)
    refine WC.skip (WX.then_normal ?_)
    refine WC.seq ?_
    refine WC.region ?_
    refine WL.y rfl (Yld.pure tab_ok rfl) ?_
    refine WL.y rfl (Yld.assertNo Tryd.underlying172 (fun _ => by kernel_rfl) (he.grown gr1) rfl rfl (.inl rfl)) ?_
    refine WL.y rfl (Yld.pure tab_ok rfl) ?_
    refine WL.y rfl (Yld.pure tab_ok rfl) ?_
    refine WL.y rfl (Yld.pure tab_ok rfl) ?_
    refine WL.y rfl (Yld.pure tab_ok rfl) ?_
    refine WL.y rfl (Yld.pure tab_ok rfl) ?_
    refine WL.nil (WX.then_normal ?_)
    refine WC.seq ?_
    refine WC.seq ?_
    refine WC.region ?_
    refine WL.y rfl (Yld.pure tab_ok rfl) ?_
    refine WL.y rfl (Yld.pure tab_ok rfl) ?_
    refine WL.nil (WX.then_normal ?_)
    refine WC.cond rfl (fun _ => ?_) (fun h => by cases h)
    refine WC.seq ?_
    refine WC.region ?_
    refine WL.y rfl (Yld.pure tab_ok rfl) ?_
    refine WL.call rfl rfl (W_smithysee_placed (hG.grown gr1) hS0 hS1 hS2 hS3 hS4 hS5 hS6 hS7 hS8 hS9 hS10 hS11 hS12 hS13 hS14 hS15 hS16 (he.grown gr1) H) ?_
    rintro _ w4 ⟨hg4, t17_Code, t17_Placed, t17_Pos, t17_Filed, t17_File, rfl, H⟩
    have gr4 := gr_trans gr1 hg4
    have k2 := hB1.g0 hg4
    refine WL.storeW (vs := [.int .i64 t17_Code, .bool t17_Placed, .int .i64 t17_Pos, .bool t17_Filed, vs t17_File]) tab_ok rfl rfl rfl (all1c rfl (all1c rfl (all1c rfl (all1c rfl (all1c rfl all1n))))) k2 rfl rfl (fun w5 hB3 hg5 => ?_)
    have gr5 := gr_mod gr4 hg5 (Ge.le (Ge.box hl1) (Nat.le_refl _))
    refine WL.nil (WX.then_normal ?_)
    refine WC.ret (WX.then_ret ?_)
    exact WX.retc tab_ok rfl rfl rfl hB3 rfl ⟨gr5, t17_Code, t17_Placed, t17_Pos, t17_Filed, t17_File, rfl, H⟩

set_option maxHeartbeats 8000000 in
theorem W_smithysee_Same {S : List Nat} {w : World} {v_e : Value} {e : Er} {f_Code : Int} {f_Placed : Bool} {f_Pos : Int} {f_Filed : Bool} {f_File : List UInt8} {K : Bool → Prop} (hG : GOK S w) (hS0 : 0 ∈ S) (hS1 : 1 ∈ S) (hS2 : 2 ∈ S) (hS3 : 3 ∈ S) (hS4 : 4 ∈ S) (hS5 : 5 ∈ S) (hS6 : 6 ∈ S) (hS7 : 7 ∈ S) (hS8 : 8 ∈ S) (hS9 : 9 ∈ S) (hS10 : 10 ∈ S) (hS11 : 11 ∈ S) (hS12 : 12 ∈ S) (hS13 : 13 ∈ S) (hS14 : 14 ∈ S) (hS15 : 15 ∈ S) (hS16 : 16 ∈ S) (he : ErrR S w v_e e) (H : M_smithysee_Same e f_Code f_Placed f_Pos f_Filed f_File K) : Fn Tryd.prog 44 ⟨[v_e, .agg ⟨[.int .i64 f_Code, .bool f_Placed, .int .i64 f_Pos, .bool f_Filed, vs f_File]⟩]⟩ w (fun v w' => w.grownBy w' none ∧ ∃ (r : Bool), v = .bool r ∧ K r) := by
  unfold M_smithysee_Same at H
  refine Fn.enter (by kernel_rfl) Tryd.func44 rfl Tryd.ntmps44 rfl ?_
  refine WC.seq ?_
  refine WC.region ?_
  refine WL.box (us := [.int .i64 f_Code, .bool f_Placed, .int .i64 f_Pos, .bool f_Filed, vs f_File]) rfl rfl rfl (fun g1 w1 hB1 hg1 hl1 => ?_)
  have gr1 := hg1
  refine WL.y rfl (Yld.pure tab_ok rfl) ?_
  refine WL.nil (WX.then_normal ?_)
  refine WC.seq ?_
  refine WC.chainF (fun k => !(Nat.beq k 1 || Nat.beq k 3)) (LD [2] (fun w' => Bl w' g1 104 [.int .i64 f_Code, .bool f_Placed, .int .i64 f_Pos, .bool f_Filed, vs f_File])) mixed (by kernel_rfl) (fun k w' h _ => (bl_eqv h hB1)) ?_
  refine WJ.y rfl rfl (fun w' hw' => Yld.pure tab_ok rfl) ?_
  refine WJ.call rfl (wants_none) rfl rfl (W_smithysee_Fault (hG.grown gr1) hS0 hS1 hS2 hS3 hS4 hS5 hS6 hS7 hS8 hS9 hS10 hS11 hS12 hS13 hS14 hS15 hS16 (he.grown gr1) H) (fun v w' h w2 e => DD.keep (Bl.g0 hB1 (gr_eqv h.1 e))) ?_
  rintro _ w2 ⟨hg2, t6_Code, t6_Placed, t6_Pos, t6_Filed, t6_File, rfl, H⟩
  have gr2 := gr_trans gr1 hg2
  have k1 := hB1.g0 hg2
  refine WJ.y rfl rfl (fun w' hw' => Yld.bagg (vs := [.int .i64 f_Code, .bool f_Placed, .int .i64 f_Pos, .bool f_Filed, vs f_File]) tab_ok (hw' rfl) rfl rfl rfl rfl) ?_
  refine WJ.call rfl (wants_none) rfl rfl (W_smithyref_SameFault H) (fun v w' h w2 e => DD.keep (Bl.g0 k1 (gr_eqv h.1 e))) ?_
  rintro _ w3 ⟨hg3, t4, rfl, H⟩
  have gr3 := gr_trans gr2 hg3
  have k2 := k1.g0 hg3
  refine WJ.y rfl rfl (fun w' hw' => Yld.pure tab_ok rfl) ?_
  refine WJ.nil (WX.then_normal ?_)
  refine WC.ret ?_
  exact WX.ret1 rfl rfl ⟨gr3, t4, rfl, H⟩

set_option maxHeartbeats 8000000 in
theorem W_smithysee_Is {S : List Nat} {w : World} {v_e : Value} {e : Er} {code : Int} {K : Bool → Prop} (hG : GOK S w) (hS0 : 0 ∈ S) (hS1 : 1 ∈ S) (hS2 : 2 ∈ S) (hS3 : 3 ∈ S) (hS4 : 4 ∈ S) (hS5 : 5 ∈ S) (hS6 : 6 ∈ S) (hS7 : 7 ∈ S) (hS8 : 8 ∈ S) (hS9 : 9 ∈ S) (hS10 : 10 ∈ S) (hS11 : 11 ∈ S) (hS12 : 12 ∈ S) (hS13 : 13 ∈ S) (hS14 : 14 ∈ S) (hS15 : 15 ∈ S) (hS16 : 16 ∈ S) (he : ErrR S w v_e e) (H : M_smithysee_Is e code K) : Fn Tryd.prog 21 ⟨[v_e, .int .i64 code]⟩ w (fun v w' => w.grownBy w' none ∧ ∃ (r : Bool), v = .bool r ∧ K r) := by
  unfold M_smithysee_Is at H
  refine Fn.enter (by kernel_rfl) Tryd.func21 rfl Tryd.ntmps21 rfl ?_
  refine WC.seq ?_
  refine WC.region ?_
  refine WL.y rfl (Yld.pure tab_ok rfl) ?_
  refine WL.nil (WX.then_normal ?_)
  refine WC.seq ?_
  refine WC.region ?_
  refine WL.y rfl (Yld.pure tab_ok rfl) ?_
  refine WL.y rfl (Yld.pure tab_ok rfl) ?_
  refine WL.call rfl rfl (W_smithyref_Bare H) ?_
  rintro _ w1 ⟨hg1, t7_Code, t7_Placed, t7_Pos, t7_Filed, t7_File, rfl, H⟩
  have gr1 := hg1
  refine WL.call rfl rfl (W_smithysee_Same (hG.grown gr1) hS0 hS1 hS2 hS3 hS4 hS5 hS6 hS7 hS8 hS9 hS10 hS11 hS12 hS13 hS14 hS15 hS16 (he.grown gr1) H) ?_
  rintro _ w2 ⟨hg2, t4, rfl, H⟩
  have gr2 := gr_trans gr1 hg2
  refine WL.y rfl (Yld.pure tab_ok rfl) ?_
  refine WL.nil (WX.then_normal ?_)
  refine WC.ret ?_
  exact WX.ret1 rfl rfl ⟨gr2, t4, rfl, H⟩

end Go.Proofs.YtofenpiiihhigaaDoor

 /- Printed by a program (wip/vg): elements of several cells. -/
namespace Go.Proofs.YtofenpiiihhigaaDoor
open Go Go.RowKit

end Go.Proofs.YtofenpiiihhigaaDoor

 /- Printed by a program (wip/vg): elements that hold slices. -/
namespace Go.Proofs.YtofenpiiihhigaaDoor
open Go Go.RowKit
abbrev de28 : DE (Int × Hdr × Hdr) (Int × List Int × List Int) := (DE.pr (DE.flat Int) (DE.pr (DE.sl vi) (DE.sl vi)))
def encH28 (h : Int × Hdr × Hdr) : List Value := [.int .i64 h.1, vh h.2.1, vh h.2.2]
theorem encH28_ok : OneK 3 encH28 := ⟨by omega, fun _ => rfl, fun _ => (all1c rfl (all1c rfl (all1c rfl all1n)))⟩
theorem ow22 : ckOwK Tryd.prog 22 28 3 56 = true := by kernel_rfl
end Go.Proofs.YtofenpiiihhigaaDoor

 