/- Texts of this claim, joined by a program: DwC, Ord, Hoist, GDn, GSa, Sent, GSb, GLd, See. -/
import Derived.Test.YtofenpiiihhigaaDoorJ3
/- What a set tells: own, set, All (by hand). -/
namespace Go.Proofs.YtofenpiiihhigaaDoor
open Go Go.RowKit
/-! ## plainly -/
def stepT (t : TS) (v : PV) : TS := if keyP v ∈ t.keys then t else { t with keys := t.keys ++ [keyP v], out := t.out ++ [v] }
theorem ownT_cons (v : PV) (l : List PV) (t : TS) : ownT (v :: l) t = ownT l (stepT t v) := by
  rw [ownT]; rfl
theorem ownT_push : ∀ (l : List PV) (v : PV) (t : TS), ownT (l ++ [v]) t = stepT (ownT l t) v
  | [], v, t => by rw [List.nil_append, ownT_cons]; rfl
  | u :: l, v, t => by rw [List.cons_append, ownT_cons, ownT_cons, ownT_push l v]
structure TLe (a b : TS) : Prop where
  s : a.sets.length ≤ b.sets.length
  k : a.keys.length ≤ b.keys.length
  o : a.out.length ≤ b.out.length
theorem TLe.refl (a : TS) : TLe a a := ⟨Nat.le_refl _, Nat.le_refl _, Nat.le_refl _⟩
theorem TLe.trans {a b c : TS} (h : TLe a b) (k : TLe b c) : TLe a c := ⟨Nat.le_trans h.s k.s, Nat.le_trans h.k k.k, Nat.le_trans h.o k.o⟩
theorem stepT_le (t : TS) (v : PV) : TLe t (stepT t v) := by
  unfold stepT
  split
  · exact .refl _
  · exact ⟨Nat.le_refl _, by simp, by simp⟩
theorem ownT_le : ∀ (l : List PV) (t : TS), TLe t (ownT l t)
  | [], t => .refl t
  | v :: l, t => by rw [ownT_cons]; exact (stepT_le t v).trans (ownT_le l _)
theorem foldT_le {α : Type} {f : TS → α → TS} (h : ∀ t x, TLe t (f t x)) : ∀ (l : List α) (t : TS), TLe t (l.foldl f t)
  | [], t => .refl _
  | x :: l, t => (h t x).trans (foldT_le h l _)
def preT (o : Int) (s : PS) (t : TS) : TS := if o = 1 then ownT s.own { t with sets := t.sets ++ [s.id] } else { t with sets := t.sets ++ [s.id] }
def midT (n : Nat) (o : Int) (s : PS) (t : TS) : TS := (if o = 3 then s.fr.reverse else s.fr).foldl (fun t f => tellN n o f t) t
def postT (o : Int) (s : PS) (t : TS) : TS := if o = 1 then t else ownT (if o = 3 then s.own.reverse else s.own) t
theorem tellN_succ (n : Nat) (o : Int) (s : PS) (t : TS) : tellN (n + 1) o s t = if s.id ∈ t.sets then t else postT o s (midT n o s (preT o s t)) := rfl
theorem preT_le (o : Int) (s : PS) (t : TS) : TLe t (preT o s t) := by
  have h1 : TLe t { t with sets := t.sets ++ [s.id] } := ⟨by simp, Nat.le_refl _, Nat.le_refl _⟩
  unfold preT
  split
  · exact h1.trans (ownT_le _ _)
  · exact h1
theorem postT_le (o : Int) (s : PS) (t : TS) : TLe t (postT o s t) := by
  unfold postT
  split
  · exact .refl _
  · exact ownT_le _ _
theorem tellN_le : ∀ (n : Nat) (o : Int) (s : PS) (t : TS), TLe t (tellN n o s t)
  | 0, _, _, t => .refl t
  | n + 1, o, s, t => by
    rw [tellN_succ]
    split
    · exact .refl _
    · exact ((preT_le o s t).trans (foldT_le (f := fun t f => tellN n o f t) (fun t f => tellN_le n o f t) _ _)).trans (postT_le o s _)
theorem mget_true {κ : Type} [DecidableEq κ] (l : List κ) (q : κ) : (mget (l.map fun x => (x, true)) q).getD false = decide (q ∈ l) := by
  induction l with
  | nil => simp [mget]
  | cons x l ih =>
    simp only [List.map_cons, mget]
    split
    · rename_i h; simp [h]
    · rename_i h
      rw [ih]
      congr 1
      simp [Ne.symm h]
theorem mput_true {κ : Type} [DecidableEq κ] {l : List κ} {q : κ} (h : q ∉ l) : mput (l.map fun x => (x, true)) q true = (l ++ [q]).map fun x => (x, true) := by
  rw [mput_new, List.map_append]
  · rfl
  · rw [mget_none]
    intro p hp e
    obtain ⟨y, hy, rfl⟩ := List.mem_map.1 hp
    exact h (e ▸ hy)
theorem keyP_len {w : World} {v : OV} {F : Nat → Prop} {z : Int} (h : AI w F v.1 z) : (keyP (.int z)).length ≤ maxLen := by
  obtain ⟨a, b, _, hN, _⟩ := h
  obtain ⟨neg, A, c, l, _, _, hD, _, hl, _, hz⟩ := hN
  have h1 := val_lt' hD
  have h2 : (1000000000 : Nat) ^ l.length ≤ 1000000000 ^ 3 := Nat.pow_le_pow_right (by omega) hl
  have h3 : z.natAbs < 10 ^ 27 := by
    have : z.natAbs = val l := by
      rw [hz]
      cases neg <;> simp
    rw [this]
    omega
  have h4 := dd_len 27 z.natAbs h3
  have h5 : (txt z).length ≤ 30 := by
    unfold txt
    split
    · simp
    · split <;> simp <;> omega
  simp [keyP, maxLen]
  omega
attribute [local irreducible] WL WC WX WQ WK WJ Yld Eff Ef0 Fn
/-! ## in the world -/
theorem SR.out2 {w : World} {v : OV} {F : Nat → Prop} {s : PS} (h : RelD deS w [(v, F)] [s]) (hs : s ≠ .nil) : ∃ Ao co Ak ck Af cf, ∃ ho hf : List VH,
    Bl w s.id 83 [.int .i64 s.order, .slice Ao s.own.length co, .slice Ak (s.own.map keyP).length ck, .slice Af s.fr.length cf, .int .i64 s.deep, .bool s.empty] ∧
    Rd vv w Ao co ho ∧ RelD deV w ho s.own ∧ (∀ h ∈ ho, h.2 = F) ∧ (∀ (i : Nat) (x : PV), s.own[i]? = some x → ∃ z h, x = .int z ∧ ho[i]? = some h ∧ AI w F h.1.1 z) ∧ Rd vs w Ak ck (s.own.map keyP) ∧ Rd vv w Af cf hf ∧ hf.length = s.fr.length ∧
    (∀ (i : Nat) (x : PS), s.fr[i]? = some x → x ≠ .nil ∧ vv (hf.getD i vh0) = .pointer (some ⟨x.id, 0, none⟩)) := by
  cases s with
  | nil => exact absurd rfl hs
  | mk id order own fr deep empty =>
    obtain ⟨⟨n, h⟩, hF⟩ := h.one
    cases n with
    | zero => exact h.elim
    | succ n =>
      obtain ⟨h1, h2, Ao, co, Ak, ck, Af, cf, ho, hf, hB, o1, o2, o3, o4, k1, k2, f1, f2, f3, f4⟩ := h
      refine ⟨Ao, co, Ak, ck, Af, cf, ho.map fun h => ((h.1, F) : VH), hf, by simpa [PS.own, PS.fr, PS.id, PS.order, PS.deep, PS.empty] using hB, o1.frm F, RelD.frm (d := deV) o2 (fun i h x hh hx => ?_), fun h hh => ?_, fun i x hx => ?_, k1, f1, f2, fun i x hx => ?_⟩
      · obtain ⟨z, rfl, hz⟩ := o4 i h x hh hx
        exact ⟨hz, hF⟩
      · obtain ⟨y, _, rfl⟩ := List.mem_map.1 hh
        rfl
      · have hi : i < ho.length := by rw [o2]; exact (List.getElem?_eq_some_iff.1 hx).1
        obtain ⟨z, e, hz⟩ := o4 i _ x (List.getElem?_eq_getElem hi) hx
        exact ⟨z, (ho[i].1, F), e, by rw [List.getElem?_map, List.getElem?_eq_getElem hi]; rfl, hz⟩
      · have hi : i < hf.length := by rw [f2]; exact (List.getElem?_eq_some_iff.1 hx).1
        have := f4 i _ x (List.getElem?_eq_getElem hi) hx
        refine ⟨this.1, ?_⟩
        have e := this.2.ptr
        cases x with
        | nil => exact absurd rfl this.1
        | mk => simp only [List.getD, List.getElem?_eq_getElem hi, vv]; exact e
/-- a teller's box, and what hangs on it; w: the world in which the sets lay at first, s0: the set that is told -/
structure TI (w : World) (F : Nat → Prop) (s0 : PS) (gt gs gk : Nat) (w2 : World) (t : TS) (A : Option Addr) (c : Nat) (hs : List VH) : Prop where
  gr : w.grownBy w2 none
  box : Bl w2 gt 78 [.map (some gs), .map (some gk), .slice A t.out.length c]
  own : Own vv w2 w.heap.size 41 A c hs
  rel : RelD deV w hs t.out
  hd : ∀ h ∈ hs, h.2 = F
  ms : MapB vp (okR s0) vB w2 gs (t.sets.map fun x => (x, true))
  mkk : MapB vs okS vB w2 gk (t.keys.map fun x => (x, true))
  g1 : w.heap.size ≤ gt
  g2 : w.heap.size ≤ gs
  g3 : w.heap.size ≤ gk
  d1 : gt ≠ gs
  d2 : gt ≠ gk
  d3 : gs ≠ gk
  d4 : blk A ≠ some gt
  d5 : blk A ≠ some gs
  d6 : blk A ≠ some gk
  len : t.keys.length = t.out.length
theorem dj_of {a b : Nat} (h : a ≠ b) : Dj (some a) (some b) := fun _ e e2 => h (by injection e with e; injection e2 with e2; omega)
theorem dj_l {A : Option Addr} {b : Nat} (h : blk A ≠ some b) : Dj (blk A) (some b) := fun g e e2 => h (by rw [e, e2])
set_option maxHeartbeats 4000000 in
theorem own_fn {w w2 : World} {v0 : OV} {F : Nat → Prop} {s0 s : PS} {gt gs gk : Nat} {t : TS} {A : Option Addr} {c : Nat} {hs : List VH} (h0 : RelD deS w [(v0, F)] [s0]) (hr : Reach s0 s) (hn : s ≠ .nil) (back : Bool) (I : TI w F s0 gt gs gk w2 t A c hs)
    (hb : (ownT (if back then s.own.reverse else s.own) t).out.length ≤ 1024) :
    Fn Tryd.prog 57 ⟨[.pointer (some ⟨gt, 0, none⟩), .pointer (some ⟨s.id, 0, none⟩), .bool back]⟩ w2 (fun v w3 => v = .tuple #[] ∧ ∃ A' c' hs', TI w F s0 gt gs gk w3 (ownT (if back then s.own.reverse else s.own) t) A' c' hs') := by
  obtain ⟨Ao, co, Ak, ck, Af, cf, ho, hf, hBx, hRo, hro, hoF, hoA, hRk, _⟩ := SR.out2 (relS h0 hr hn) hn
  generalize hl : (if back then s.own.reverse else s.own) = l at hb ⊢
  have hll : l.length = s.own.length := by rw [← hl]; cases back <;> simp
  have hget : ∀ i, i < s.own.length → l[i]? = s.own[(if back then s.own.length - 1 - i else i)]? := fun i hi => by
    rw [← hl]
    cases back
    · rfl
    · simp only [if_true]
      rw [List.getElem?_reverse (by omega)]
  have hol : (s.own.length : Int) ≤ 9223372036854775807 := by
    have h1 := hRo.cap
    have h2 := hRo.max
    rw [hro.1] at h1
    simp only [maxLen] at h2
    omega
  refine Fn.enter (by kernel_rfl) Tryd.func57 rfl Tryd.ntmps57 rfl ?_
  refine WC.seq ?_
  refine WC.region ?_
  refine WL.y rfl (Yld.pure tab_ok rfl) ?_
  refine WL.y rfl (Yld.pure tab_ok rfl) ?_
  refine WL.y rfl (Yld.fa0 (o := 1) (by kernel_rfl) rfl) ?_
  refine WL.y rfl (Yld.bload tab_ok (hBx.g0 I.gr) rfl rfl rfl) ?_
  repeat (first | refine WC.seq ?_ | refine WC.block ?_ | refine WC.region ?_ | refine WL.nil ?_ | refine WX.then_normal ?_ | refine WC.skip ?_ | refine WC.exit ?_ | refine WC.ret ?_ | refine WX.then_exit ?_ | refine WX.then_ret ?_ | refine WX.block_normal ?_ | refine WX.block_ret ?_ | refine WX.block_same ?_ | refine WX.block_other rfl ?_ | refine WC.label ?_ | refine WC.scope ?_ | refine WX.scope_normal ?_ | refine WX.scope_ret ?_ | refine WX.scope_exit ?_ | refine WL.y rfl (Yld.add rfl rfl (by simp only [In]; omega)) ?_ | refine WL.y rfl (Yld.sub rfl rfl (by simp only [In]; omega)) ?_ | refine WL.y rfl (Yld.mul rfl rfl (by simp only [In]; omega)) ?_ | refine WL.y rfl (Yld.convB tab_ok rfl rfl rfl rfl) ?_ | refine WL.y rfl (Yld.conv tab_ok rfl rfl rfl (by simp only [In]; omega)) ?_ | refine WL.y rfl (Yld.quo rfl rfl (by omega) (by omega) (by simp only [In]; omega)) ?_ | refine WL.y rfl (Yld.rem rfl rfl (by omega) (by omega)) ?_ | refine WL.y rfl (Yld.shl rfl rfl (by omega)) ?_ | refine WL.y rfl (Yld.shr rfl rfl (by omega)) ?_ | refine WL.y rfl (Yld.pure tab_ok rfl) ?_ | refine WL.y rfl (Yld.fld flds_ok rfl rfl rfl) ?_ | refine WL.y rfl (Yld.max2 rfl rfl) ?_ | refine WL.y rfl (Yld.min2 rfl rfl) ?_ | refine WL.y rfl (Yld.pickV rfl rfl rfl) ?_ | refine WL.gno rfl rfl rfl rfl ?_ | refine WL.gyes rfl rfl rfl rfl (Yld.add rfl rfl (by simp only [In]; omega)) ?_ | refine WL.gyes rfl rfl rfl rfl (Yld.sub rfl rfl (by simp only [In]; omega)) ?_ | refine WL.gyes rfl rfl rfl rfl (Yld.mul rfl rfl (by simp only [In]; omega)) ?_ | refine WL.gyes rfl rfl rfl rfl (Yld.convB tab_ok rfl rfl rfl rfl) ?_ | refine WL.gyes rfl rfl rfl rfl (Yld.conv tab_ok rfl rfl rfl (by simp only [In]; omega)) ?_ | refine WL.gyes rfl rfl rfl rfl (Yld.quo rfl rfl (by omega) (by omega) (by simp only [In]; omega)) ?_ | refine WL.gyes rfl rfl rfl rfl (Yld.rem rfl rfl (by omega) (by omega)) ?_ | refine WL.gyes rfl rfl rfl rfl (Yld.shl rfl rfl (by omega)) ?_ | refine WL.gyes rfl rfl rfl rfl (Yld.shr rfl rfl (by omega)) ?_ | refine WL.gyes rfl rfl rfl rfl (Yld.pure tab_ok rfl) ?_ | refine WL.gyes rfl rfl rfl rfl (Yld.fld flds_ok rfl rfl rfl) ?_ | refine WL.gyes rfl rfl rfl rfl (Yld.max2 rfl rfl) ?_ | refine WL.gyes rfl rfl rfl rfl (Yld.min2 rfl rfl) ?_ | refine WL.gyes rfl rfl rfl rfl (Yld.pickV rfl rfl rfl) ?_)
  refine WC.loopF (fun n' L' w' => ∃ (i : Nat) (A : Option Addr) (c : Nat) (hs : List VH), n' = s.own.length - i ∧ L' = [(0, .pointer (some ⟨gt, 0, none⟩)), (1, .pointer (some ⟨s.id, 0, none⟩)), (2, .bool back), (11, .int .i64 (s.own.length : Int)), (12, .int .i64 (i : Int))] ∧ TI w F s0 gt gs gk w' (ownT (l.take i) t) A c hs ∧ i ≤ s.own.length) _ _ ⟨0, A, c, hs, rfl, rfl, I, by omega⟩ (by repeat (first | exact Sub.nil | refine Sub.cons rfl ?_)) ?_
  rintro _ _ w4 ⟨i, A, c, hs, rfl, rfl, I, hi⟩
  repeat (first | refine WC.seq ?_ | refine WC.block ?_ | refine WC.region ?_ | refine WL.nil ?_ | refine WX.then_normal ?_ | refine WC.skip ?_ | refine WC.exit ?_ | refine WC.ret ?_ | refine WX.then_exit ?_ | refine WX.then_ret ?_ | refine WX.block_normal ?_ | refine WX.block_ret ?_ | refine WX.block_same ?_ | refine WX.block_other rfl ?_ | refine WC.label ?_ | refine WC.scope ?_ | refine WX.scope_normal ?_ | refine WX.scope_ret ?_ | refine WX.scope_exit ?_ | refine WL.y rfl (Yld.add rfl rfl (by simp only [In]; omega)) ?_ | refine WL.y rfl (Yld.sub rfl rfl (by simp only [In]; omega)) ?_ | refine WL.y rfl (Yld.mul rfl rfl (by simp only [In]; omega)) ?_ | refine WL.y rfl (Yld.convB tab_ok rfl rfl rfl rfl) ?_ | refine WL.y rfl (Yld.conv tab_ok rfl rfl rfl (by simp only [In]; omega)) ?_ | refine WL.y rfl (Yld.quo rfl rfl (by omega) (by omega) (by simp only [In]; omega)) ?_ | refine WL.y rfl (Yld.rem rfl rfl (by omega) (by omega)) ?_ | refine WL.y rfl (Yld.shl rfl rfl (by omega)) ?_ | refine WL.y rfl (Yld.shr rfl rfl (by omega)) ?_ | refine WL.y rfl (Yld.pure tab_ok rfl) ?_ | refine WL.y rfl (Yld.fld flds_ok rfl rfl rfl) ?_ | refine WL.y rfl (Yld.max2 rfl rfl) ?_ | refine WL.y rfl (Yld.min2 rfl rfl) ?_ | refine WL.y rfl (Yld.pickV rfl rfl rfl) ?_ | refine WL.gno rfl rfl rfl rfl ?_ | refine WL.gyes rfl rfl rfl rfl (Yld.add rfl rfl (by simp only [In]; omega)) ?_ | refine WL.gyes rfl rfl rfl rfl (Yld.sub rfl rfl (by simp only [In]; omega)) ?_ | refine WL.gyes rfl rfl rfl rfl (Yld.mul rfl rfl (by simp only [In]; omega)) ?_ | refine WL.gyes rfl rfl rfl rfl (Yld.convB tab_ok rfl rfl rfl rfl) ?_ | refine WL.gyes rfl rfl rfl rfl (Yld.conv tab_ok rfl rfl rfl (by simp only [In]; omega)) ?_ | refine WL.gyes rfl rfl rfl rfl (Yld.quo rfl rfl (by omega) (by omega) (by simp only [In]; omega)) ?_ | refine WL.gyes rfl rfl rfl rfl (Yld.rem rfl rfl (by omega) (by omega)) ?_ | refine WL.gyes rfl rfl rfl rfl (Yld.shl rfl rfl (by omega)) ?_ | refine WL.gyes rfl rfl rfl rfl (Yld.shr rfl rfl (by omega)) ?_ | refine WL.gyes rfl rfl rfl rfl (Yld.pure tab_ok rfl) ?_ | refine WL.gyes rfl rfl rfl rfl (Yld.fld flds_ok rfl rfl rfl) ?_ | refine WL.gyes rfl rfl rfl rfl (Yld.max2 rfl rfl) ?_ | refine WL.gyes rfl rfl rfl rfl (Yld.min2 rfl rfl) ?_ | refine WL.gyes rfl rfl rfl rfl (Yld.pickV rfl rfl rfl) ?_)
  refine WC.cond rfl (fun b1 => ?_) (fun b1 => ?_)
  · have b1 := of_decide_eq_true b1
    have hil : i < s.own.length := by omega
    obtain ⟨kk, hkk⟩ : ∃ kk : Nat, kk = (if back then s.own.length - 1 - i else i) := ⟨_, rfl⟩
    have hkl : kk < s.own.length := by rw [hkk]; split <;> omega
    obtain ⟨x, hx⟩ : ∃ x, s.own[kk]? = some x := ⟨_, List.getElem?_eq_getElem hkl⟩
    have hlx : l[i]? = some x := by rw [hget i hil, ← hkk]; exact hx
    have htk : l.take (i + 1) = l.take i ++ [x] := by rw [List.take_add_one, hlx]; rfl
    have hstep : ownT (l.take (i + 1)) t = stepT (ownT (l.take i) t) x := by rw [htk, ownT_push]
    have hle : TLe (stepT (ownT (l.take i) t) x) (ownT l t) := by
      rw [← hstep]
      have : ownT l t = ownT (l.drop (i + 1)) (ownT (l.take (i + 1)) t) := by
        have key : ∀ (a b : List PV) (t : TS), ownT (a ++ b) t = ownT b (ownT a t) := fun a => by
          induction a with
          | nil => intro b t; rfl
          | cons u a ih => intro b t; rw [List.cons_append, ownT_cons, ownT_cons, ih]
        rw [← key, List.take_append_drop]
      rw [this]
      exact ownT_le _ _
    have hobound := Nat.le_trans hle.o hb
    obtain ⟨z, hh, rfl, hhk, hAI⟩ := hoA kk x hx
    have hklen : (keyP (.int z)).length ≤ maxLen := keyP_len (v := hh.1) hAI
    have gr4 := I.gr
    have hRk4 := hRk.grown gr4
    have hkl2 : kk < (s.own.map keyP).length := by simpa using hkl
    have hkg : (s.own.map keyP).getD kk [] = keyP (.int z) := by simp [List.getD, hx]
    refine WC.skip (WX.then_normal ?_)
    refine WC.seq ?_
    refine WC.block ?_
    refine WC.seq ?_
    repeat (first | refine WC.seq ?_ | refine WC.block ?_ | refine WC.region ?_ | refine WL.nil ?_ | refine WX.then_normal ?_ | refine WC.skip ?_ | refine WC.exit ?_ | refine WC.ret ?_ | refine WX.then_exit ?_ | refine WX.then_ret ?_ | refine WX.block_normal ?_ | refine WX.block_ret ?_ | refine WX.block_same ?_ | refine WX.block_other rfl ?_ | refine WC.label ?_ | refine WC.scope ?_ | refine WX.scope_normal ?_ | refine WX.scope_ret ?_ | refine WX.scope_exit ?_ | refine WL.y rfl (Yld.add rfl rfl (by simp only [In]; omega)) ?_ | refine WL.y rfl (Yld.sub rfl rfl (by simp only [In]; omega)) ?_ | refine WL.y rfl (Yld.mul rfl rfl (by simp only [In]; omega)) ?_ | refine WL.y rfl (Yld.convB tab_ok rfl rfl rfl rfl) ?_ | refine WL.y rfl (Yld.conv tab_ok rfl rfl rfl (by simp only [In]; omega)) ?_ | refine WL.y rfl (Yld.quo rfl rfl (by omega) (by omega) (by simp only [In]; omega)) ?_ | refine WL.y rfl (Yld.rem rfl rfl (by omega) (by omega)) ?_ | refine WL.y rfl (Yld.shl rfl rfl (by omega)) ?_ | refine WL.y rfl (Yld.shr rfl rfl (by omega)) ?_ | refine WL.y rfl (Yld.pure tab_ok rfl) ?_ | refine WL.y rfl (Yld.fld flds_ok rfl rfl rfl) ?_ | refine WL.y rfl (Yld.max2 rfl rfl) ?_ | refine WL.y rfl (Yld.min2 rfl rfl) ?_ | refine WL.y rfl (Yld.pickV rfl rfl rfl) ?_ | refine WL.gno rfl rfl rfl rfl ?_ | refine WL.gyes rfl rfl rfl rfl (Yld.add rfl rfl (by simp only [In]; omega)) ?_ | refine WL.gyes rfl rfl rfl rfl (Yld.sub rfl rfl (by simp only [In]; omega)) ?_ | refine WL.gyes rfl rfl rfl rfl (Yld.mul rfl rfl (by simp only [In]; omega)) ?_ | refine WL.gyes rfl rfl rfl rfl (Yld.convB tab_ok rfl rfl rfl rfl) ?_ | refine WL.gyes rfl rfl rfl rfl (Yld.conv tab_ok rfl rfl rfl (by simp only [In]; omega)) ?_ | refine WL.gyes rfl rfl rfl rfl (Yld.quo rfl rfl (by omega) (by omega) (by simp only [In]; omega)) ?_ | refine WL.gyes rfl rfl rfl rfl (Yld.rem rfl rfl (by omega) (by omega)) ?_ | refine WL.gyes rfl rfl rfl rfl (Yld.shl rfl rfl (by omega)) ?_ | refine WL.gyes rfl rfl rfl rfl (Yld.shr rfl rfl (by omega)) ?_ | refine WL.gyes rfl rfl rfl rfl (Yld.pure tab_ok rfl) ?_ | refine WL.gyes rfl rfl rfl rfl (Yld.fld flds_ok rfl rfl rfl) ?_ | refine WL.gyes rfl rfl rfl rfl (Yld.max2 rfl rfl) ?_ | refine WL.gyes rfl rfl rfl rfl (Yld.min2 rfl rfl) ?_ | refine WL.gyes rfl rfl rfl rfl (Yld.pickV rfl rfl rfl) ?_)
    refine WC.midF (fun L' w' => L' = [(0, .pointer (some ⟨gt, 0, none⟩)), (1, .pointer (some ⟨s.id, 0, none⟩)), (2, .bool back), (6, .int .i64 (kk : Int)), (11, .int .i64 (s.own.length : Int)), (12, .int .i64 (i : Int))] ∧ w4 = w') ?_ (fun hQ => ?_)
    · rintro _ _ ⟨rfl, rfl⟩
      refine WX.then_normal ?_
      refine WC.seq ?_
      have hq : ((kk : Int)).toNat = kk := by omega
      refine WC.quiet mixed (by kernel_rfl) ?_
      refine WQ.y rfl (Yld.pure tab_ok rfl) ?_
      refine WQ.y rfl (Yld.pure tab_ok rfl) ?_
      refine WQ.y rfl (Yld.pure tab_ok rfl) ?_
      refine WQ.y rfl (Yld.bload tab_ok I.box rfl rfl rfl) ?_
      refine WQ.y rfl (Yld.pure tab_ok rfl) ?_
      refine WQ.y rfl (Yld.pure tab_ok rfl) ?_
      refine WQ.y rfl (Yld.fa0 (o := 2) (by kernel_rfl) rfl) ?_
      refine WQ.y rfl (Yld.bload tab_ok (hBx.g0 gr4) rfl rfl rfl) ?_
      refine WQ.y rfl (Yld.pure tab_ok rfl) ?_
      refine WQ.y rfl (Yld.iaddrW tab_ok hRk4 rfl rfl rfl rfl (by omega) (by simp; omega)) ?_
      rw [hq]
      refine WQ.y rfl (Yld.to (v := vs (keyP (.int z))) (Yld.iload [] tab_ok hRk4 rfl rfl hkl2) (by rw [hkg])) ?_
      refine WQ.y rfl (Yld.look (z := false) (keyF_s Tryd.underlying9) Tryd.underlying76 (fun _ => by kernel_rfl) I.mkk rfl rfl hklen) ?_
      rw [mget_true]
      refine WQ.y rfl (Yld.pure tab_ok rfl) ?_
      refine WQ.nil (WX.then_normal ?_)
      refine WC.cond rfl (fun b2 => ?_) (fun b2 => ?_)
      · have hnot : keyP (.int z) ∉ (ownT (l.take i) t).keys := by simpa using b2
        have hst : stepT (ownT (l.take i) t) (.int z) = { ownT (l.take i) t with keys := (ownT (l.take i) t).keys ++ [keyP (.int z)], out := (ownT (l.take i) t).out ++ [.int z] } := by unfold stepT; rw [if_neg hnot]
        rw [hst] at hobound
        rw [hst] at hstep
        generalize ownT (l.take i) t = u at *
        simp only [List.length_append, List.length_cons, List.length_nil] at hobound
        have hkl3 := I.len
        refine WC.seq ?_
        refine WC.chainF (fun k => !(Nat.beq k 11)) (LD [3, 7, 10] (fun w' => Bl w' gt 78 [.map (some gs), .map (some gk), .slice A u.out.length c] ∧ Bl w' s.id 83 [.int .i64 s.order, .slice Ao s.own.length co, .slice Ak (s.own.map keyP).length ck, .slice Af s.fr.length cf, .int .i64 s.deep, .bool s.empty] ∧ Rd vs w' Ak ck (s.own.map keyP))) mixed (by kernel_rfl) (fun k w' h _ => ⟨bl_eqv h I.box, bl_eqv h (hBx.g0 gr4), rd_eqv h hRk4⟩) ?_
        refine WJ.y rfl rfl (fun w' hw' => Yld.pure tab_ok rfl) ?_
        refine WJ.y rfl rfl (fun w' hw' => Yld.pure tab_ok rfl) ?_
        refine WJ.y rfl rfl (fun w' hw' => Yld.pure tab_ok rfl) ?_
        refine WJ.y rfl rfl (fun w' hw' => Yld.bload tab_ok (hw' rfl).1 rfl rfl rfl) ?_
        refine WJ.y rfl rfl (fun w' hw' => Yld.pure tab_ok rfl) ?_
        refine WJ.y rfl rfl (fun w' hw' => Yld.pure tab_ok rfl) ?_
        refine WJ.y rfl rfl (fun w' hw' => Yld.fa0 (o := 2) (by kernel_rfl) rfl) ?_
        refine WJ.y rfl rfl (fun w' hw' => Yld.bload tab_ok (hw' rfl).2.1 rfl rfl rfl) ?_
        refine WJ.y rfl rfl (fun w' hw' => Yld.pure tab_ok rfl) ?_
        refine WJ.y rfl rfl (fun w' hw' => Yld.iaddrW tab_ok hRk4 rfl rfl rfl rfl (by omega) (by simp; omega)) ?_
        rw [hq]
        refine WJ.y rfl rfl (fun w' hw' => Yld.to (v := vs (keyP (.int z))) (Yld.iload [] tab_ok (hw' rfl).2.2 rfl rfl hkl2) (by rw [hkg])) ?_
        refine WJ.eff rfl (Ef0.mapPut (v := true) (keyF_s Tryd.underlying9) Tryd.underlying76 I.mkk (by simp [maxLen]; omega) rfl rfl hklen rfl) (fun w' h => DD.past (by kernel_rfl)) ?_
        rintro w5 ⟨hM5, hg5⟩
        rw [mput_true hnot] at hM5
        have gr5 : w.grownBy w5 none := gr_mod gr4 hg5 (Ge.box I.g3)
        have hB5 := I.box.go hg5 (dj_of I.d2)
        have hO5 := I.own.go hg5 (dj_l I.d6)
        have hS5 := I.ms.go hg5 (dj_of I.d3)
        have hRo5 := hRo.grown gr5
        have hkl4 : kk < ho.length := by rw [hro.1]; exact hkl
        have hhg : vv (ho.getD kk vh0) = vv hh := by simp [List.getD, hhk]
        refine WJ.nil (WX.then_normal ?_)
        refine WC.chainF (fun k => !(Nat.beq k 12 || Nat.beq k 13 || Nat.beq k 16)) (LD [4, 8, 11] (fun w' => Bl w' gt 78 [.map (some gs), .map (some gk), .slice A u.out.length c] ∧ Bl w' s.id 83 [.int .i64 s.order, .slice Ao s.own.length co, .slice Ak (s.own.map keyP).length ck, .slice Af s.fr.length cf, .int .i64 s.deep, .bool s.empty] ∧ Rd vv w' Ao co ho)) mixed (by kernel_rfl) (fun k w' h _ => ⟨bl_eqv h hB5, bl_eqv h (hBx.g0 gr5), rd_eqv h hRo5⟩) ?_
        refine WJ.y rfl rfl (fun w' hw' => Yld.pure tab_ok rfl) ?_
        refine WJ.y rfl rfl (fun w' hw' => Yld.pure tab_ok rfl) ?_
        refine WJ.y rfl rfl (fun w' hw' => Yld.pure tab_ok rfl) ?_
        refine WJ.y rfl rfl (fun w' hw' => Yld.pure tab_ok rfl) ?_
        refine WJ.y rfl rfl (fun w' hw' => Yld.bload tab_ok (hw' rfl).1 rfl rfl rfl) ?_
        refine WJ.y rfl rfl (fun w' hw' => Yld.pure tab_ok rfl) ?_
        refine WJ.y rfl rfl (fun w' hw' => Yld.pure tab_ok rfl) ?_
        refine WJ.y rfl rfl (fun w' hw' => Yld.fa0 (o := 1) (by kernel_rfl) rfl) ?_
        refine WJ.y rfl rfl (fun w' hw' => Yld.bload tab_ok (hw' rfl).2.1 rfl rfl rfl) ?_
        refine WJ.y rfl rfl (fun w' hw' => Yld.pure tab_ok rfl) ?_
        refine WJ.y rfl rfl (fun w' hw' => Yld.iaddrW tab_ok hRo5 rfl rfl hro.1.symm rfl (by omega) (by omega)) ?_
        rw [hq]
        refine WJ.y rfl rfl (fun w' hw' => Yld.to (v := vv hh) (Yld.iload vh0 tab_ok (hw' rfl).2.2 rfl rfl hkl4) hhg) ?_
        refine WJ.putw rfl wants_none rfl (Eff.lit (us := [vv hh]) tab_ok rfl rfl (all1c hh.1.2 all1n) rfl (by omega)) (fun v w' ⟨_, _, h⟩ => DD.keep ⟨hB5.g0 h, (hBx.g0 gr5).g0 h, hRo5.grown h⟩) ?_
        rintro _ w6 ⟨rfl, hB6, hg6⟩
        have gr6 := gr_trans gr5 hg6
        have hL6 : Own vv w6 w.heap.size 41 (some ⟨w5.heap.size, 0, none⟩) 1 [hh] := Own.ofBl hB6 gr5.size (by simp [maxLen]) rfl
        have hO6 := hO5.grown hg6
        have hrl := I.rel.1
        refine WJ.putw rfl wants_none rfl (Eff.append tab_ok rfl One.vv hO6 rfl hrl.symm hL6.rd rfl rfl (by rw [hrl]; simp; omega) (by rw [hrl]; simp [maxLen]; omega) gr6.size) (fun v w' h => DD.past (by kernel_rfl)) ?_
        rintro _ w7 ⟨A7, c7, rfl, hO7, hg7, hk7⟩
        have gr7 : w.grownBy w7 none := gr_mod gr6 hg7 hO6.ge'
        have el : (hs ++ [hh]).length = (u.out ++ [PV.int z]).length := by simp [hrl]
        rw [el]
        have hB7 := (hB5.g0 hg6).go hg7 (dj_l I.d4).symm
        have hM7 := (hM5.g0 hg6).go hg7 (dj_l I.d6).symm
        have hS7 := (hS5.g0 hg6).go hg7 (dj_l I.d5).symm
        have b4 : ∀ q, q < w6.heap.size → blk A ≠ some q → blk A7 ≠ some q := fun q hq hne e => by
          rcases hk7 q e with h | h
          · exact hne h
          · omega
        refine WJ.y rfl rfl (fun w' hw' => Yld.pure tab_ok rfl) ?_
        refine WJ.y rfl rfl (fun w' hw' => Yld.pure tab_ok rfl) ?_
        refine WJ.eff rfl (Ef0.store1 one32 rfl rfl rfl hB7 (by simp)) (fun w' h => DD.past (by kernel_rfl)) ?_
        rintro w8 ⟨hB8, hg8⟩
        have gr8 : w.grownBy w8 none := gr_mod gr7 hg8 (Ge.box I.g1)
        have q1 := (hB5.g0 hg6).lt
        have q2 := (hM5.g0 hg6).lt
        have q3 := (hS5.g0 hg6).lt
        refine WJ.nil ?_
        repeat (first | refine WC.seq ?_ | refine WC.block ?_ | refine WC.region ?_ | refine WL.nil ?_ | refine WX.then_normal ?_ | refine WC.skip ?_ | refine WC.exit ?_ | refine WC.ret ?_ | refine WX.then_exit ?_ | refine WX.then_ret ?_ | refine WX.block_normal ?_ | refine WX.block_ret ?_ | refine WX.block_same ?_ | refine WX.block_other rfl ?_ | refine WC.label ?_ | refine WC.scope ?_ | refine WX.scope_normal ?_ | refine WX.scope_ret ?_ | refine WX.scope_exit ?_ | refine WL.y rfl (Yld.add rfl rfl (by simp only [In]; omega)) ?_ | refine WL.y rfl (Yld.sub rfl rfl (by simp only [In]; omega)) ?_ | refine WL.y rfl (Yld.mul rfl rfl (by simp only [In]; omega)) ?_ | refine WL.y rfl (Yld.convB tab_ok rfl rfl rfl rfl) ?_ | refine WL.y rfl (Yld.conv tab_ok rfl rfl rfl (by simp only [In]; omega)) ?_ | refine WL.y rfl (Yld.quo rfl rfl (by omega) (by omega) (by simp only [In]; omega)) ?_ | refine WL.y rfl (Yld.rem rfl rfl (by omega) (by omega)) ?_ | refine WL.y rfl (Yld.shl rfl rfl (by omega)) ?_ | refine WL.y rfl (Yld.shr rfl rfl (by omega)) ?_ | refine WL.y rfl (Yld.pure tab_ok rfl) ?_ | refine WL.y rfl (Yld.fld flds_ok rfl rfl rfl) ?_ | refine WL.y rfl (Yld.max2 rfl rfl) ?_ | refine WL.y rfl (Yld.min2 rfl rfl) ?_ | refine WL.y rfl (Yld.pickV rfl rfl rfl) ?_ | refine WL.gno rfl rfl rfl rfl ?_ | refine WL.gyes rfl rfl rfl rfl (Yld.add rfl rfl (by simp only [In]; omega)) ?_ | refine WL.gyes rfl rfl rfl rfl (Yld.sub rfl rfl (by simp only [In]; omega)) ?_ | refine WL.gyes rfl rfl rfl rfl (Yld.mul rfl rfl (by simp only [In]; omega)) ?_ | refine WL.gyes rfl rfl rfl rfl (Yld.convB tab_ok rfl rfl rfl rfl) ?_ | refine WL.gyes rfl rfl rfl rfl (Yld.conv tab_ok rfl rfl rfl (by simp only [In]; omega)) ?_ | refine WL.gyes rfl rfl rfl rfl (Yld.quo rfl rfl (by omega) (by omega) (by simp only [In]; omega)) ?_ | refine WL.gyes rfl rfl rfl rfl (Yld.rem rfl rfl (by omega) (by omega)) ?_ | refine WL.gyes rfl rfl rfl rfl (Yld.shl rfl rfl (by omega)) ?_ | refine WL.gyes rfl rfl rfl rfl (Yld.shr rfl rfl (by omega)) ?_ | refine WL.gyes rfl rfl rfl rfl (Yld.pure tab_ok rfl) ?_ | refine WL.gyes rfl rfl rfl rfl (Yld.fld flds_ok rfl rfl rfl) ?_ | refine WL.gyes rfl rfl rfl rfl (Yld.max2 rfl rfl) ?_ | refine WL.gyes rfl rfl rfl rfl (Yld.min2 rfl rfl) ?_ | refine WL.gyes rfl rfl rfl rfl (Yld.pickV rfl rfl rfl) ?_)
        refine WX.roundF _ ⟨i + 1, A7, c7, hs ++ [hh], rfl, rfl, ?_, by omega⟩ (by repeat (first | exact Sub.nil | refine Sub.cons rfl ?_)) (by omega)
        rw [hstep]
        exact ⟨gr8, hB8, hO7.go hg8 (dj_l (b4 gt q1 I.d4)), I.rel.append (RelD.cons ⟨AI.mono hAI (fun g hg => by rw [hoF hh (List.mem_of_getElem? hhk)]; exact hg), fun g hg => by rw [hoF hh (List.mem_of_getElem? hhk)] at hg; exact h0.one.2 g hg⟩ RelD.nil), fun h hm => by
          rcases List.mem_append.1 hm with hm | hm
          · exact I.hd h hm
          · simp at hm; subst hm; exact hoF h (List.mem_of_getElem? hhk), hS7.go hg8 (dj_of I.d1.symm), hM7.go hg8 (dj_of I.d2.symm), I.g1, I.g2, I.g3, I.d1, I.d2, I.d3, b4 gt q1 I.d4, b4 gs q3 I.d5, b4 gk q2 I.d6, by simp [I.len]⟩
      · have hin : keyP (.int z) ∈ (ownT (l.take i) t).keys := by simpa using b2
        have hst : stepT (ownT (l.take i) t) (.int z) = ownT (l.take i) t := by unfold stepT; rw [if_pos hin]
        repeat (first | refine WC.seq ?_ | refine WC.block ?_ | refine WC.region ?_ | refine WL.nil ?_ | refine WX.then_normal ?_ | refine WC.skip ?_ | refine WC.exit ?_ | refine WC.ret ?_ | refine WX.then_exit ?_ | refine WX.then_ret ?_ | refine WX.block_normal ?_ | refine WX.block_ret ?_ | refine WX.block_same ?_ | refine WX.block_other rfl ?_ | refine WC.label ?_ | refine WC.scope ?_ | refine WX.scope_normal ?_ | refine WX.scope_ret ?_ | refine WX.scope_exit ?_ | refine WL.y rfl (Yld.add rfl rfl (by simp only [In]; omega)) ?_ | refine WL.y rfl (Yld.sub rfl rfl (by simp only [In]; omega)) ?_ | refine WL.y rfl (Yld.mul rfl rfl (by simp only [In]; omega)) ?_ | refine WL.y rfl (Yld.convB tab_ok rfl rfl rfl rfl) ?_ | refine WL.y rfl (Yld.conv tab_ok rfl rfl rfl (by simp only [In]; omega)) ?_ | refine WL.y rfl (Yld.quo rfl rfl (by omega) (by omega) (by simp only [In]; omega)) ?_ | refine WL.y rfl (Yld.rem rfl rfl (by omega) (by omega)) ?_ | refine WL.y rfl (Yld.shl rfl rfl (by omega)) ?_ | refine WL.y rfl (Yld.shr rfl rfl (by omega)) ?_ | refine WL.y rfl (Yld.pure tab_ok rfl) ?_ | refine WL.y rfl (Yld.fld flds_ok rfl rfl rfl) ?_ | refine WL.y rfl (Yld.max2 rfl rfl) ?_ | refine WL.y rfl (Yld.min2 rfl rfl) ?_ | refine WL.y rfl (Yld.pickV rfl rfl rfl) ?_ | refine WL.gno rfl rfl rfl rfl ?_ | refine WL.gyes rfl rfl rfl rfl (Yld.add rfl rfl (by simp only [In]; omega)) ?_ | refine WL.gyes rfl rfl rfl rfl (Yld.sub rfl rfl (by simp only [In]; omega)) ?_ | refine WL.gyes rfl rfl rfl rfl (Yld.mul rfl rfl (by simp only [In]; omega)) ?_ | refine WL.gyes rfl rfl rfl rfl (Yld.convB tab_ok rfl rfl rfl rfl) ?_ | refine WL.gyes rfl rfl rfl rfl (Yld.conv tab_ok rfl rfl rfl (by simp only [In]; omega)) ?_ | refine WL.gyes rfl rfl rfl rfl (Yld.quo rfl rfl (by omega) (by omega) (by simp only [In]; omega)) ?_ | refine WL.gyes rfl rfl rfl rfl (Yld.rem rfl rfl (by omega) (by omega)) ?_ | refine WL.gyes rfl rfl rfl rfl (Yld.shl rfl rfl (by omega)) ?_ | refine WL.gyes rfl rfl rfl rfl (Yld.shr rfl rfl (by omega)) ?_ | refine WL.gyes rfl rfl rfl rfl (Yld.pure tab_ok rfl) ?_ | refine WL.gyes rfl rfl rfl rfl (Yld.fld flds_ok rfl rfl rfl) ?_ | refine WL.gyes rfl rfl rfl rfl (Yld.max2 rfl rfl) ?_ | refine WL.gyes rfl rfl rfl rfl (Yld.min2 rfl rfl) ?_ | refine WL.gyes rfl rfl rfl rfl (Yld.pickV rfl rfl rfl) ?_)
        refine WX.roundF _ ⟨i + 1, A, c, hs, rfl, rfl, ?_, by omega⟩ (by repeat (first | exact Sub.nil | refine Sub.cons rfl ?_)) (by omega)
        rw [hstep, hst]
        exact I
    · cases back
      · refine WC.cond rfl (fun h => by cases h) (fun _ => ?_)
        simp only [Bool.false_eq_true, if_false] at hkk
        subst hkk
        refine WC.skip ?_
        exact WX.weaken (by repeat (first | exact Sub.nil | refine Sub.cons rfl ?_)) (hQ _ _ ⟨rfl, rfl⟩)
      · refine WC.cond rfl (fun _ => ?_) (fun h => by cases h)
        simp only [if_true] at hkk
        have ek : ((s.own.length : Int) - 1 - (i : Int)) = (kk : Int) := by omega
        refine WC.region ?_
        refine WL.y rfl (Yld.pure tab_ok rfl) ?_
        refine WL.y rfl (Yld.pure tab_ok rfl) ?_
        refine WL.y rfl (Yld.fa0 (o := 1) (by kernel_rfl) rfl) ?_
        refine WL.y rfl (Yld.bload tab_ok (hBx.g0 gr4) rfl rfl rfl) ?_
        refine WL.y rfl (Yld.pure tab_ok rfl) ?_
        refine WL.y rfl (Yld.sub rfl rfl (by simp only [In]; omega)) ?_
        refine WL.y rfl (Yld.pure tab_ok rfl) ?_
        refine WL.y rfl (Yld.sub rfl rfl (by simp only [In]; omega)) ?_
        rw [ek]
        refine WL.y rfl (Yld.pure tab_ok rfl) ?_
        refine WL.nil ?_
        exact WX.weaken (by repeat (first | exact Sub.nil | refine Sub.cons rfl ?_)) (hQ _ _ ⟨rfl, rfl⟩)
  · have b1 := of_decide_eq_false b1
    obtain rfl : i = s.own.length := by omega
    rw [← hll, List.take_length] at I
    repeat (first | refine WC.seq ?_ | refine WC.block ?_ | refine WC.region ?_ | refine WL.nil ?_ | refine WX.then_normal ?_ | refine WC.skip ?_ | refine WC.exit ?_ | refine WC.ret ?_ | refine WX.then_exit ?_ | refine WX.then_ret ?_ | refine WX.block_normal ?_ | refine WX.block_ret ?_ | refine WX.block_same ?_ | refine WX.block_other rfl ?_ | refine WC.label ?_ | refine WC.scope ?_ | refine WX.scope_normal ?_ | refine WX.scope_ret ?_ | refine WX.scope_exit ?_ | refine WL.y rfl (Yld.add rfl rfl (by simp only [In]; omega)) ?_ | refine WL.y rfl (Yld.sub rfl rfl (by simp only [In]; omega)) ?_ | refine WL.y rfl (Yld.mul rfl rfl (by simp only [In]; omega)) ?_ | refine WL.y rfl (Yld.convB tab_ok rfl rfl rfl rfl) ?_ | refine WL.y rfl (Yld.conv tab_ok rfl rfl rfl (by simp only [In]; omega)) ?_ | refine WL.y rfl (Yld.quo rfl rfl (by omega) (by omega) (by simp only [In]; omega)) ?_ | refine WL.y rfl (Yld.rem rfl rfl (by omega) (by omega)) ?_ | refine WL.y rfl (Yld.shl rfl rfl (by omega)) ?_ | refine WL.y rfl (Yld.shr rfl rfl (by omega)) ?_ | refine WL.y rfl (Yld.pure tab_ok rfl) ?_ | refine WL.y rfl (Yld.fld flds_ok rfl rfl rfl) ?_ | refine WL.y rfl (Yld.max2 rfl rfl) ?_ | refine WL.y rfl (Yld.min2 rfl rfl) ?_ | refine WL.y rfl (Yld.pickV rfl rfl rfl) ?_ | refine WL.gno rfl rfl rfl rfl ?_ | refine WL.gyes rfl rfl rfl rfl (Yld.add rfl rfl (by simp only [In]; omega)) ?_ | refine WL.gyes rfl rfl rfl rfl (Yld.sub rfl rfl (by simp only [In]; omega)) ?_ | refine WL.gyes rfl rfl rfl rfl (Yld.mul rfl rfl (by simp only [In]; omega)) ?_ | refine WL.gyes rfl rfl rfl rfl (Yld.convB tab_ok rfl rfl rfl rfl) ?_ | refine WL.gyes rfl rfl rfl rfl (Yld.conv tab_ok rfl rfl rfl (by simp only [In]; omega)) ?_ | refine WL.gyes rfl rfl rfl rfl (Yld.quo rfl rfl (by omega) (by omega) (by simp only [In]; omega)) ?_ | refine WL.gyes rfl rfl rfl rfl (Yld.rem rfl rfl (by omega) (by omega)) ?_ | refine WL.gyes rfl rfl rfl rfl (Yld.shl rfl rfl (by omega)) ?_ | refine WL.gyes rfl rfl rfl rfl (Yld.shr rfl rfl (by omega)) ?_ | refine WL.gyes rfl rfl rfl rfl (Yld.pure tab_ok rfl) ?_ | refine WL.gyes rfl rfl rfl rfl (Yld.fld flds_ok rfl rfl rfl) ?_ | refine WL.gyes rfl rfl rfl rfl (Yld.max2 rfl rfl) ?_ | refine WL.gyes rfl rfl rfl rfl (Yld.min2 rfl rfl) ?_ | refine WL.gyes rfl rfl rfl rfl (Yld.pickV rfl rfl rfl) ?_)
    exact WX.end0 rfl ⟨rfl, A, c, hs, I⟩
set_option maxHeartbeats 4000000 in
theorem set_fn {w : World} {v0 : OV} {F : Nat → Prop} {s0 : PS} {gt gs gk : Nat} (h0 : RelD deS w [(v0, F)] [s0]) (order : Int) : ∀ (n : Nat) (s : PS) (t : TS) (A : Option Addr) (c : Nat) (hs : List VH) (w2 : World), dep n s → Reach s0 s → s ≠ .nil → TI w F s0 gt gs gk w2 t A c hs →
    (tellN n order s t).sets.length ≤ 100000 → (tellN n order s t).out.length ≤ 1024 →
    Fn Tryd.prog 34 ⟨[.pointer (some ⟨gt, 0, none⟩), .pointer (some ⟨s.id, 0, none⟩), .int .i64 order]⟩ w2 (fun v w3 => v = .tuple #[] ∧ ∃ A' c' hs', TI w F s0 gt gs gk w3 (tellN n order s t) A' c' hs') := by
  intro n
  induction n with
  | zero =>
    intro s t A c hs w2 hdp hr hn
    cases s with
    | nil => exact absurd rfl hn
    | mk => exact absurd hdp (by simp [dep])
  | succ n ih =>
    intro s t A c hs w2 hdp hr hn I hb1 hb2
    obtain ⟨Ao, co, Ak, ck, Af, cf, ho, hf, hBx, hRo, hro, hoF, hoA, hRk, hRf, hfl, hfA⟩ := SR.out2 (relS h0 hr hn) hn
    have hdf : ∀ f ∈ s.fr, dep n f := by
      cases s with
      | nil => exact absurd rfl hn
      | mk => exact hdp
    have hol : (s.fr.length : Int) ≤ 9223372036854775807 := by
      have h1 := hRf.cap
      have h2 := hRf.max
      rw [hfl] at h1
      simp only [maxLen] at h2
      omega
    refine Fn.enter (by kernel_rfl) Tryd.func34 rfl Tryd.ntmps34 rfl ?_
    repeat refine WC.seq ?_
    refine WC.region ?_
    refine WL.y rfl (Yld.pure tab_ok rfl) ?_
    refine WL.y rfl (Yld.pure tab_ok rfl) ?_
    refine WL.y rfl (Yld.pure tab_ok rfl) ?_
    refine WL.y rfl (Yld.bload tab_ok I.box rfl rfl rfl) ?_
    refine WL.y rfl (Yld.pure tab_ok rfl) ?_
    have hok : okR s0 s.id := ⟨s, hr, hn, rfl⟩
    refine WL.y rfl (Yld.lookW (z := false) (q := s.id) (keyS Tryd.underlying36 (by kernel_rfl) (h0.grown I.gr)) Tryd.underlying75 (fun _ => by kernel_rfl) I.ms rfl rfl hok) ?_
    rw [mget_true]
    refine WL.nil (WX.then_normal ?_)
    refine WC.cond rfl (fun b1 => ?_) (fun b1 => ?_)
    · have b1 := of_decide_eq_true b1
      rw [tellN_succ, if_pos b1]
      repeat (first | refine WC.seq ?_ | refine WC.block ?_ | refine WC.region ?_ | refine WL.nil ?_ | refine WX.then_normal ?_ | refine WC.skip ?_ | refine WC.exit ?_ | refine WC.ret ?_ | refine WX.then_exit ?_ | refine WX.then_ret ?_ | refine WX.block_normal ?_ | refine WX.block_ret ?_ | refine WX.block_same ?_ | refine WX.block_other rfl ?_ | refine WC.label ?_ | refine WC.scope ?_ | refine WX.scope_normal ?_ | refine WX.scope_ret ?_ | refine WX.scope_exit ?_ | refine WL.y rfl (Yld.add rfl rfl (by simp only [In]; omega)) ?_ | refine WL.y rfl (Yld.sub rfl rfl (by simp only [In]; omega)) ?_ | refine WL.y rfl (Yld.mul rfl rfl (by simp only [In]; omega)) ?_ | refine WL.y rfl (Yld.convB tab_ok rfl rfl rfl rfl) ?_ | refine WL.y rfl (Yld.conv tab_ok rfl rfl rfl (by simp only [In]; omega)) ?_ | refine WL.y rfl (Yld.quo rfl rfl (by omega) (by omega) (by simp only [In]; omega)) ?_ | refine WL.y rfl (Yld.rem rfl rfl (by omega) (by omega)) ?_ | refine WL.y rfl (Yld.shl rfl rfl (by omega)) ?_ | refine WL.y rfl (Yld.shr rfl rfl (by omega)) ?_ | refine WL.y rfl (Yld.pure tab_ok rfl) ?_ | refine WL.y rfl (Yld.fld flds_ok rfl rfl rfl) ?_ | refine WL.y rfl (Yld.max2 rfl rfl) ?_ | refine WL.y rfl (Yld.min2 rfl rfl) ?_ | refine WL.y rfl (Yld.pickV rfl rfl rfl) ?_ | refine WL.gno rfl rfl rfl rfl ?_ | refine WL.gyes rfl rfl rfl rfl (Yld.add rfl rfl (by simp only [In]; omega)) ?_ | refine WL.gyes rfl rfl rfl rfl (Yld.sub rfl rfl (by simp only [In]; omega)) ?_ | refine WL.gyes rfl rfl rfl rfl (Yld.mul rfl rfl (by simp only [In]; omega)) ?_ | refine WL.gyes rfl rfl rfl rfl (Yld.convB tab_ok rfl rfl rfl rfl) ?_ | refine WL.gyes rfl rfl rfl rfl (Yld.conv tab_ok rfl rfl rfl (by simp only [In]; omega)) ?_ | refine WL.gyes rfl rfl rfl rfl (Yld.quo rfl rfl (by omega) (by omega) (by simp only [In]; omega)) ?_ | refine WL.gyes rfl rfl rfl rfl (Yld.rem rfl rfl (by omega) (by omega)) ?_ | refine WL.gyes rfl rfl rfl rfl (Yld.shl rfl rfl (by omega)) ?_ | refine WL.gyes rfl rfl rfl rfl (Yld.shr rfl rfl (by omega)) ?_ | refine WL.gyes rfl rfl rfl rfl (Yld.pure tab_ok rfl) ?_ | refine WL.gyes rfl rfl rfl rfl (Yld.fld flds_ok rfl rfl rfl) ?_ | refine WL.gyes rfl rfl rfl rfl (Yld.max2 rfl rfl) ?_ | refine WL.gyes rfl rfl rfl rfl (Yld.min2 rfl rfl) ?_ | refine WL.gyes rfl rfl rfl rfl (Yld.pickV rfl rfl rfl) ?_)
      exact WX.ret0 rfl ⟨rfl, A, c, hs, I⟩
    have b1 := of_decide_eq_false b1
    rw [tellN_succ, if_neg b1] at hb1 hb2 ⊢
    have hle1 := (postT_le order s (midT n order s (preT order s t)))
    have hle0 := (foldT_le (f := fun t f => tellN n order f t) (fun t f => tellN_le n order f t) (if order = 3 then s.fr.reverse else s.fr) (preT order s t))
    have hlep := preT_le order s t
    have hpre_s : (preT order s t).sets.length = t.sets.length + 1 := by
      have key : ∀ (l : List PV) (u : TS), (ownT l u).sets = u.sets := fun l => by
        induction l with
        | nil => intro u; rfl
        | cons x l ihl => intro u; rw [ownT_cons, ihl]; unfold stepT; split <;> rfl
      unfold preT
      split
      · rw [key]; simp
      · simp
    have hb3 : t.sets.length + 1 ≤ 100000 := by
      have h1 := hle1.s
      have h2 : (preT order s t).sets.length ≤ (midT n order s (preT order s t)).sets.length := hle0.s
      omega
    refine WC.skip (WX.then_normal ?_)
    repeat refine WC.seq ?_
    refine WC.region ?_
    refine WL.y rfl (Yld.pure tab_ok rfl) ?_
    refine WL.y rfl (Yld.pure tab_ok rfl) ?_
    refine WL.y rfl (Yld.pure tab_ok rfl) ?_
    refine WL.y rfl (Yld.bload tab_ok I.box rfl rfl rfl) ?_
    refine WL.y rfl (Yld.pure tab_ok rfl) ?_
    refine WL.ef0 (Ef0.putW (v := true) (q := s.id) (keyS Tryd.underlying36 (by kernel_rfl) (h0.grown I.gr)) Tryd.underlying75 I.ms (by simp [maxLen]; omega) rfl rfl hok rfl) ?_
    rintro w3 ⟨hM3, hg3⟩
    rw [mput_true b1] at hM3
    have I1 : TI w F s0 gt gs gk w3 { t with sets := t.sets ++ [s.id] } A c hs := ⟨gr_mod I.gr hg3 (Ge.box I.g2), I.box.go hg3 (dj_of I.d1), I.own.go hg3 (dj_l I.d5), I.rel, I.hd, hM3, I.mkk.go hg3 (dj_of I.d3.symm), I.g1, I.g2, I.g3, I.d1, I.d2, I.d3, I.d4, I.d5, I.d6, I.len⟩
    refine WL.nil (WX.then_normal ?_)
    repeat refine WC.seq ?_
    refine WC.region ?_
    refine WL.y rfl (Yld.pure tab_ok rfl) ?_
    refine WL.y rfl (Yld.pure tab_ok rfl) ?_
    refine WL.nil (WX.then_normal ?_)
    refine WC.midF (fun L' w' => L' = [(0, .pointer (some ⟨gt, 0, none⟩)), (1, .pointer (some ⟨s.id, 0, none⟩)), (2, .int .i64 order)] ∧ ∃ A c hs, TI w F s0 gt gs gk w' (preT order s t) A c hs) ?_ (fun hQ => ?_)
    rotate_left
    · refine WC.cond rfl (fun b2 => ?_) (fun b2 => ?_)
      · have b2 := of_decide_eq_true b2
        have ep : preT order s t = ownT s.own { t with sets := t.sets ++ [s.id] } := by unfold preT; rw [if_pos b2]
        refine WC.region ?_
        refine WL.y rfl (Yld.pure tab_ok rfl) ?_
        refine WL.y rfl (Yld.pure tab_ok rfl) ?_
        refine WL.call rfl rfl (own_fn h0 hr hn false I1 (by
          have h1 := hle1.o
          have h2 : (preT order s t).out.length ≤ (midT n order s (preT order s t)).out.length := hle0.o
          rw [ep] at h2 h1 hb2
          simp only [Bool.false_eq_true, if_false]
          omega)) ?_
        rintro _ w4 ⟨rfl, A4, c4, hs4, I4⟩
        refine WL.nil ?_
        exact WX.weaken (by repeat (first | exact Sub.nil | refine Sub.cons rfl ?_)) (hQ _ _ ⟨rfl, A4, c4, hs4, by rw [ep]; exact I4⟩)
      · have b2 := of_decide_eq_false b2
        have ep : preT order s t = { t with sets := t.sets ++ [s.id] } := by unfold preT; rw [if_neg b2]
        refine WC.skip ?_
        exact WX.weaken (by repeat (first | exact Sub.nil | refine Sub.cons rfl ?_)) (hQ _ _ ⟨rfl, A, c, hs, by rw [ep]; exact I1⟩)
    rintro _ w4 ⟨rfl, A4, c4, hs4, I4⟩
    clear hM3 hg3 I1 I
    refine WX.then_normal ?_
    repeat refine WC.seq ?_
    refine WC.region ?_
    refine WL.y rfl (Yld.pure tab_ok rfl) ?_
    refine WL.y rfl (Yld.pure tab_ok rfl) ?_
    refine WL.y rfl (Yld.fa0 (o := 3) (by kernel_rfl) rfl) ?_
    refine WL.y rfl (Yld.bload tab_ok (hBx.g0 I4.gr) rfl rfl rfl) ?_
    refine WL.y rfl (Yld.pure tab_ok rfl) ?_
    refine WL.y rfl (Yld.pure tab_ok rfl) ?_
    refine WL.nil (WX.then_normal ?_)
    repeat refine WC.seq ?_
    refine WC.block ?_
    generalize hl : (if order = 3 then s.fr.reverse else s.fr) = l at hle0
    have hmid : midT n order s (preT order s t) = l.foldl (fun t f => tellN n order f t) (preT order s t) := by unfold midT; rw [hl]
    have hll : l.length = s.fr.length := by rw [← hl]; split <;> simp
    have hget : ∀ i, i < s.fr.length → l[i]? = s.fr[(if order = 3 then s.fr.length - 1 - i else i)]? := fun i hi => by
      rw [← hl]
      split
      · rw [List.getElem?_reverse (by omega)]
      · rfl
    refine WC.loopF (fun n' L' w' => ∃ (i : Nat) (A : Option Addr) (c : Nat) (hs : List VH), n' = s.fr.length - i ∧ L' = [(0, .pointer (some ⟨gt, 0, none⟩)), (1, .pointer (some ⟨s.id, 0, none⟩)), (2, .int .i64 order), (27, .int .i64 (s.fr.length : Int)), (28, .int .i64 (i : Int))] ∧ TI w F s0 gt gs gk w' ((l.take i).foldl (fun t f => tellN n order f t) (preT order s t)) A c hs ∧ i ≤ s.fr.length) _ _ ⟨0, A4, c4, hs4, rfl, rfl, I4, by omega⟩ (by repeat (first | exact Sub.nil | refine Sub.cons rfl ?_)) ?_
    rintro _ _ w5 ⟨i, A5, c5, hs5, rfl, rfl, I5, hi⟩
    repeat (first | refine WC.seq ?_ | refine WC.block ?_ | refine WC.region ?_ | refine WL.nil ?_ | refine WX.then_normal ?_ | refine WC.skip ?_ | refine WC.exit ?_ | refine WC.ret ?_ | refine WX.then_exit ?_ | refine WX.then_ret ?_ | refine WX.block_normal ?_ | refine WX.block_ret ?_ | refine WX.block_same ?_ | refine WX.block_other rfl ?_ | refine WC.label ?_ | refine WC.scope ?_ | refine WX.scope_normal ?_ | refine WX.scope_ret ?_ | refine WX.scope_exit ?_ | refine WL.y rfl (Yld.add rfl rfl (by simp only [In]; omega)) ?_ | refine WL.y rfl (Yld.sub rfl rfl (by simp only [In]; omega)) ?_ | refine WL.y rfl (Yld.mul rfl rfl (by simp only [In]; omega)) ?_ | refine WL.y rfl (Yld.convB tab_ok rfl rfl rfl rfl) ?_ | refine WL.y rfl (Yld.conv tab_ok rfl rfl rfl (by simp only [In]; omega)) ?_ | refine WL.y rfl (Yld.quo rfl rfl (by omega) (by omega) (by simp only [In]; omega)) ?_ | refine WL.y rfl (Yld.rem rfl rfl (by omega) (by omega)) ?_ | refine WL.y rfl (Yld.shl rfl rfl (by omega)) ?_ | refine WL.y rfl (Yld.shr rfl rfl (by omega)) ?_ | refine WL.y rfl (Yld.pure tab_ok rfl) ?_ | refine WL.y rfl (Yld.fld flds_ok rfl rfl rfl) ?_ | refine WL.y rfl (Yld.max2 rfl rfl) ?_ | refine WL.y rfl (Yld.min2 rfl rfl) ?_ | refine WL.y rfl (Yld.pickV rfl rfl rfl) ?_ | refine WL.gno rfl rfl rfl rfl ?_ | refine WL.gyes rfl rfl rfl rfl (Yld.add rfl rfl (by simp only [In]; omega)) ?_ | refine WL.gyes rfl rfl rfl rfl (Yld.sub rfl rfl (by simp only [In]; omega)) ?_ | refine WL.gyes rfl rfl rfl rfl (Yld.mul rfl rfl (by simp only [In]; omega)) ?_ | refine WL.gyes rfl rfl rfl rfl (Yld.convB tab_ok rfl rfl rfl rfl) ?_ | refine WL.gyes rfl rfl rfl rfl (Yld.conv tab_ok rfl rfl rfl (by simp only [In]; omega)) ?_ | refine WL.gyes rfl rfl rfl rfl (Yld.quo rfl rfl (by omega) (by omega) (by simp only [In]; omega)) ?_ | refine WL.gyes rfl rfl rfl rfl (Yld.rem rfl rfl (by omega) (by omega)) ?_ | refine WL.gyes rfl rfl rfl rfl (Yld.shl rfl rfl (by omega)) ?_ | refine WL.gyes rfl rfl rfl rfl (Yld.shr rfl rfl (by omega)) ?_ | refine WL.gyes rfl rfl rfl rfl (Yld.pure tab_ok rfl) ?_ | refine WL.gyes rfl rfl rfl rfl (Yld.fld flds_ok rfl rfl rfl) ?_ | refine WL.gyes rfl rfl rfl rfl (Yld.max2 rfl rfl) ?_ | refine WL.gyes rfl rfl rfl rfl (Yld.min2 rfl rfl) ?_ | refine WL.gyes rfl rfl rfl rfl (Yld.pickV rfl rfl rfl) ?_)
    refine WC.cond rfl (fun b3 => ?_) (fun b3 => ?_)
    · have b3 := of_decide_eq_true b3
      have hil : i < s.fr.length := by omega
      obtain ⟨kk, hkk⟩ : ∃ kk : Nat, kk = (if order = 3 then s.fr.length - 1 - i else i) := ⟨_, rfl⟩
      have hkl : kk < s.fr.length := by rw [hkk]; split <;> omega
      obtain ⟨f, hf2⟩ : ∃ f, s.fr[kk]? = some f := ⟨_, List.getElem?_eq_getElem hkl⟩
      have hlx : l[i]? = some f := by rw [hget i hil, ← hkk]; exact hf2
      have htk : l.take (i + 1) = l.take i ++ [f] := by rw [List.take_add_one, hlx]; rfl
      have hfm : f ∈ s.fr := List.mem_of_getElem? hf2
      obtain ⟨hfn, hfv⟩ := hfA kk f hf2
      have hstep : (l.take (i + 1)).foldl (fun t f => tellN n order f t) (preT order s t) = tellN n order f ((l.take i).foldl (fun t f => tellN n order f t) (preT order s t)) := by rw [htk, List.foldl_append]; rfl
      have hle2 : TLe (tellN n order f ((l.take i).foldl (fun t f => tellN n order f t) (preT order s t))) (midT n order s (preT order s t)) := by
        rw [← hstep, hmid]
        have : l.foldl (fun t f => tellN n order f t) (preT order s t) = (l.drop (i + 1)).foldl (fun t f => tellN n order f t) ((l.take (i + 1)).foldl (fun t f => tellN n order f t) (preT order s t)) := by rw [← List.foldl_append, List.take_append_drop]
        rw [this]
        exact foldT_le (f := fun t f => tellN n order f t) (fun t f => tellN_le n order f t) _ _
      have hle3 := hle2.trans hle1
      have gr5 := I5.gr
      have hq : ((kk : Int)).toNat = kk := by omega
      have hkf : kk < hf.length := by rw [hfl]; exact hkl
      repeat (first | refine WC.seq ?_ | refine WC.block ?_ | refine WC.region ?_ | refine WL.nil ?_ | refine WX.then_normal ?_ | refine WC.skip ?_ | refine WC.exit ?_ | refine WC.ret ?_ | refine WX.then_exit ?_ | refine WX.then_ret ?_ | refine WX.block_normal ?_ | refine WX.block_ret ?_ | refine WX.block_same ?_ | refine WX.block_other rfl ?_ | refine WC.label ?_ | refine WC.scope ?_ | refine WX.scope_normal ?_ | refine WX.scope_ret ?_ | refine WX.scope_exit ?_ | refine WL.y rfl (Yld.add rfl rfl (by simp only [In]; omega)) ?_ | refine WL.y rfl (Yld.sub rfl rfl (by simp only [In]; omega)) ?_ | refine WL.y rfl (Yld.mul rfl rfl (by simp only [In]; omega)) ?_ | refine WL.y rfl (Yld.convB tab_ok rfl rfl rfl rfl) ?_ | refine WL.y rfl (Yld.conv tab_ok rfl rfl rfl (by simp only [In]; omega)) ?_ | refine WL.y rfl (Yld.quo rfl rfl (by omega) (by omega) (by simp only [In]; omega)) ?_ | refine WL.y rfl (Yld.rem rfl rfl (by omega) (by omega)) ?_ | refine WL.y rfl (Yld.shl rfl rfl (by omega)) ?_ | refine WL.y rfl (Yld.shr rfl rfl (by omega)) ?_ | refine WL.y rfl (Yld.pure tab_ok rfl) ?_ | refine WL.y rfl (Yld.fld flds_ok rfl rfl rfl) ?_ | refine WL.y rfl (Yld.max2 rfl rfl) ?_ | refine WL.y rfl (Yld.min2 rfl rfl) ?_ | refine WL.y rfl (Yld.pickV rfl rfl rfl) ?_ | refine WL.gno rfl rfl rfl rfl ?_ | refine WL.gyes rfl rfl rfl rfl (Yld.add rfl rfl (by simp only [In]; omega)) ?_ | refine WL.gyes rfl rfl rfl rfl (Yld.sub rfl rfl (by simp only [In]; omega)) ?_ | refine WL.gyes rfl rfl rfl rfl (Yld.mul rfl rfl (by simp only [In]; omega)) ?_ | refine WL.gyes rfl rfl rfl rfl (Yld.convB tab_ok rfl rfl rfl rfl) ?_ | refine WL.gyes rfl rfl rfl rfl (Yld.conv tab_ok rfl rfl rfl (by simp only [In]; omega)) ?_ | refine WL.gyes rfl rfl rfl rfl (Yld.quo rfl rfl (by omega) (by omega) (by simp only [In]; omega)) ?_ | refine WL.gyes rfl rfl rfl rfl (Yld.rem rfl rfl (by omega) (by omega)) ?_ | refine WL.gyes rfl rfl rfl rfl (Yld.shl rfl rfl (by omega)) ?_ | refine WL.gyes rfl rfl rfl rfl (Yld.shr rfl rfl (by omega)) ?_ | refine WL.gyes rfl rfl rfl rfl (Yld.pure tab_ok rfl) ?_ | refine WL.gyes rfl rfl rfl rfl (Yld.fld flds_ok rfl rfl rfl) ?_ | refine WL.gyes rfl rfl rfl rfl (Yld.max2 rfl rfl) ?_ | refine WL.gyes rfl rfl rfl rfl (Yld.min2 rfl rfl) ?_ | refine WL.gyes rfl rfl rfl rfl (Yld.pickV rfl rfl rfl) ?_)
      refine WC.midF (fun L' w' => L' = [(0, .pointer (some ⟨gt, 0, none⟩)), (1, .pointer (some ⟨s.id, 0, none⟩)), (2, .int .i64 order), (6, .int .i64 (kk : Int)), (27, .int .i64 (s.fr.length : Int)), (28, .int .i64 (i : Int))] ∧ w5 = w') ?_ (fun hQ => ?_)
      · rintro _ _ ⟨rfl, rfl⟩
        refine WX.then_normal ?_
        refine WC.region ?_
        refine WL.y rfl (Yld.pure tab_ok rfl) ?_
        refine WL.y rfl (Yld.pure tab_ok rfl) ?_
        refine WL.y rfl (Yld.pure tab_ok rfl) ?_
        refine WL.y rfl (Yld.fa0 (o := 3) (by kernel_rfl) rfl) ?_
        refine WL.y rfl (Yld.bload tab_ok (hBx.g0 gr5) rfl rfl rfl) ?_
        refine WL.y rfl (Yld.pure tab_ok rfl) ?_
        refine WL.y rfl (Yld.iaddrW tab_ok (hRf.grown gr5) rfl rfl hfl.symm rfl (by omega) (by omega)) ?_
        rw [hq]
        refine WL.y rfl (Yld.to (v := .pointer (some ⟨f.id, 0, none⟩)) (Yld.iload vh0 tab_ok (hRf.grown gr5) rfl rfl hkf) hfv) ?_
        refine WL.y rfl (Yld.pure tab_ok rfl) ?_
        refine WL.call rfl rfl (ih f _ A5 c5 hs5 w5 (hdf f hfm) (.step hr hfm) hfn I5 (Nat.le_trans hle3.s hb1) (Nat.le_trans hle3.o hb2)) ?_
        rintro _ w6 ⟨rfl, A6, c6, hs6, I6⟩
        rw [← hstep] at I6
        repeat (first | refine WC.seq ?_ | refine WC.block ?_ | refine WC.region ?_ | refine WL.nil ?_ | refine WX.then_normal ?_ | refine WC.skip ?_ | refine WC.exit ?_ | refine WC.ret ?_ | refine WX.then_exit ?_ | refine WX.then_ret ?_ | refine WX.block_normal ?_ | refine WX.block_ret ?_ | refine WX.block_same ?_ | refine WX.block_other rfl ?_ | refine WC.label ?_ | refine WC.scope ?_ | refine WX.scope_normal ?_ | refine WX.scope_ret ?_ | refine WX.scope_exit ?_ | refine WL.y rfl (Yld.add rfl rfl (by simp only [In]; omega)) ?_ | refine WL.y rfl (Yld.sub rfl rfl (by simp only [In]; omega)) ?_ | refine WL.y rfl (Yld.mul rfl rfl (by simp only [In]; omega)) ?_ | refine WL.y rfl (Yld.convB tab_ok rfl rfl rfl rfl) ?_ | refine WL.y rfl (Yld.conv tab_ok rfl rfl rfl (by simp only [In]; omega)) ?_ | refine WL.y rfl (Yld.quo rfl rfl (by omega) (by omega) (by simp only [In]; omega)) ?_ | refine WL.y rfl (Yld.rem rfl rfl (by omega) (by omega)) ?_ | refine WL.y rfl (Yld.shl rfl rfl (by omega)) ?_ | refine WL.y rfl (Yld.shr rfl rfl (by omega)) ?_ | refine WL.y rfl (Yld.pure tab_ok rfl) ?_ | refine WL.y rfl (Yld.fld flds_ok rfl rfl rfl) ?_ | refine WL.y rfl (Yld.max2 rfl rfl) ?_ | refine WL.y rfl (Yld.min2 rfl rfl) ?_ | refine WL.y rfl (Yld.pickV rfl rfl rfl) ?_ | refine WL.gno rfl rfl rfl rfl ?_ | refine WL.gyes rfl rfl rfl rfl (Yld.add rfl rfl (by simp only [In]; omega)) ?_ | refine WL.gyes rfl rfl rfl rfl (Yld.sub rfl rfl (by simp only [In]; omega)) ?_ | refine WL.gyes rfl rfl rfl rfl (Yld.mul rfl rfl (by simp only [In]; omega)) ?_ | refine WL.gyes rfl rfl rfl rfl (Yld.convB tab_ok rfl rfl rfl rfl) ?_ | refine WL.gyes rfl rfl rfl rfl (Yld.conv tab_ok rfl rfl rfl (by simp only [In]; omega)) ?_ | refine WL.gyes rfl rfl rfl rfl (Yld.quo rfl rfl (by omega) (by omega) (by simp only [In]; omega)) ?_ | refine WL.gyes rfl rfl rfl rfl (Yld.rem rfl rfl (by omega) (by omega)) ?_ | refine WL.gyes rfl rfl rfl rfl (Yld.shl rfl rfl (by omega)) ?_ | refine WL.gyes rfl rfl rfl rfl (Yld.shr rfl rfl (by omega)) ?_ | refine WL.gyes rfl rfl rfl rfl (Yld.pure tab_ok rfl) ?_ | refine WL.gyes rfl rfl rfl rfl (Yld.fld flds_ok rfl rfl rfl) ?_ | refine WL.gyes rfl rfl rfl rfl (Yld.max2 rfl rfl) ?_ | refine WL.gyes rfl rfl rfl rfl (Yld.min2 rfl rfl) ?_ | refine WL.gyes rfl rfl rfl rfl (Yld.pickV rfl rfl rfl) ?_)
        exact WX.roundF _ ⟨i + 1, A6, c6, hs6, rfl, rfl, I6, by omega⟩ (by repeat (first | exact Sub.nil | refine Sub.cons rfl ?_)) (by omega)
      · refine WC.cond rfl (fun b4 => ?_) (fun b4 => ?_)
        · have b4 := of_decide_eq_true b4
          rw [if_pos b4] at hkk
          have ek : ((s.fr.length : Int) - 1 - (i : Int)) = (kk : Int) := by omega
          refine WC.region ?_
          refine WL.y rfl (Yld.pure tab_ok rfl) ?_
          refine WL.y rfl (Yld.pure tab_ok rfl) ?_
          refine WL.y rfl (Yld.fa0 (o := 3) (by kernel_rfl) rfl) ?_
          refine WL.y rfl (Yld.bload tab_ok (hBx.g0 gr5) rfl rfl rfl) ?_
          refine WL.y rfl (Yld.pure tab_ok rfl) ?_
          refine WL.y rfl (Yld.sub rfl rfl (by simp only [In]; omega)) ?_
          refine WL.y rfl (Yld.pure tab_ok rfl) ?_
          refine WL.y rfl (Yld.sub rfl rfl (by simp only [In]; omega)) ?_
          rw [ek]
          refine WL.y rfl (Yld.pure tab_ok rfl) ?_
          refine WL.nil ?_
          exact WX.weaken (by repeat (first | exact Sub.nil | refine Sub.cons rfl ?_)) (hQ _ _ ⟨rfl, rfl⟩)
        · have b4 := of_decide_eq_false b4
          rw [if_neg b4] at hkk
          subst hkk
          refine WC.skip ?_
          exact WX.weaken (by repeat (first | exact Sub.nil | refine Sub.cons rfl ?_)) (hQ _ _ ⟨rfl, rfl⟩)
    · have b3 := of_decide_eq_false b3
      obtain rfl : i = s.fr.length := by omega
      rw [← hll, List.take_length, ← hmid] at I5
      refine WC.exit ?_
      refine WX.then_exit ?_
      refine WX.then_exit ?_
      refine WX.block_same (WX.then_normal ?_)
      repeat refine WC.seq ?_
      refine WC.region ?_
      refine WL.y rfl (Yld.pure tab_ok rfl) ?_
      refine WL.y rfl (Yld.pure tab_ok rfl) ?_
      refine WL.nil (WX.then_normal ?_)
      refine WC.cond rfl (fun b4 => ?_) (fun b4 => ?_)
      · have b4 : order ≠ 1 := by simpa using b4
        have ep : postT order s (midT n order s (preT order s t)) = ownT (if decide (order = 3) then s.own.reverse else s.own) (midT n order s (preT order s t)) := by unfold postT; rw [if_neg b4]; simp
        rw [ep] at hb2 ⊢
        refine WC.region ?_
        refine WL.y rfl (Yld.pure tab_ok rfl) ?_
        refine WL.y rfl (Yld.pure tab_ok rfl) ?_
        refine WL.y rfl (Yld.pure tab_ok rfl) ?_
        refine WL.y rfl (Yld.pure tab_ok rfl) ?_
        refine WL.call rfl rfl (own_fn h0 hr hn (decide (order = 3)) I5 hb2) ?_
        rintro _ w6 ⟨rfl, A6, c6, hs6, I6⟩
        repeat (first | refine WC.seq ?_ | refine WC.block ?_ | refine WC.region ?_ | refine WL.nil ?_ | refine WX.then_normal ?_ | refine WC.skip ?_ | refine WC.exit ?_ | refine WC.ret ?_ | refine WX.then_exit ?_ | refine WX.then_ret ?_ | refine WX.block_normal ?_ | refine WX.block_ret ?_ | refine WX.block_same ?_ | refine WX.block_other rfl ?_ | refine WC.label ?_ | refine WC.scope ?_ | refine WX.scope_normal ?_ | refine WX.scope_ret ?_ | refine WX.scope_exit ?_ | refine WL.y rfl (Yld.add rfl rfl (by simp only [In]; omega)) ?_ | refine WL.y rfl (Yld.sub rfl rfl (by simp only [In]; omega)) ?_ | refine WL.y rfl (Yld.mul rfl rfl (by simp only [In]; omega)) ?_ | refine WL.y rfl (Yld.convB tab_ok rfl rfl rfl rfl) ?_ | refine WL.y rfl (Yld.conv tab_ok rfl rfl rfl (by simp only [In]; omega)) ?_ | refine WL.y rfl (Yld.quo rfl rfl (by omega) (by omega) (by simp only [In]; omega)) ?_ | refine WL.y rfl (Yld.rem rfl rfl (by omega) (by omega)) ?_ | refine WL.y rfl (Yld.shl rfl rfl (by omega)) ?_ | refine WL.y rfl (Yld.shr rfl rfl (by omega)) ?_ | refine WL.y rfl (Yld.pure tab_ok rfl) ?_ | refine WL.y rfl (Yld.fld flds_ok rfl rfl rfl) ?_ | refine WL.y rfl (Yld.max2 rfl rfl) ?_ | refine WL.y rfl (Yld.min2 rfl rfl) ?_ | refine WL.y rfl (Yld.pickV rfl rfl rfl) ?_ | refine WL.gno rfl rfl rfl rfl ?_ | refine WL.gyes rfl rfl rfl rfl (Yld.add rfl rfl (by simp only [In]; omega)) ?_ | refine WL.gyes rfl rfl rfl rfl (Yld.sub rfl rfl (by simp only [In]; omega)) ?_ | refine WL.gyes rfl rfl rfl rfl (Yld.mul rfl rfl (by simp only [In]; omega)) ?_ | refine WL.gyes rfl rfl rfl rfl (Yld.convB tab_ok rfl rfl rfl rfl) ?_ | refine WL.gyes rfl rfl rfl rfl (Yld.conv tab_ok rfl rfl rfl (by simp only [In]; omega)) ?_ | refine WL.gyes rfl rfl rfl rfl (Yld.quo rfl rfl (by omega) (by omega) (by simp only [In]; omega)) ?_ | refine WL.gyes rfl rfl rfl rfl (Yld.rem rfl rfl (by omega) (by omega)) ?_ | refine WL.gyes rfl rfl rfl rfl (Yld.shl rfl rfl (by omega)) ?_ | refine WL.gyes rfl rfl rfl rfl (Yld.shr rfl rfl (by omega)) ?_ | refine WL.gyes rfl rfl rfl rfl (Yld.pure tab_ok rfl) ?_ | refine WL.gyes rfl rfl rfl rfl (Yld.fld flds_ok rfl rfl rfl) ?_ | refine WL.gyes rfl rfl rfl rfl (Yld.max2 rfl rfl) ?_ | refine WL.gyes rfl rfl rfl rfl (Yld.min2 rfl rfl) ?_ | refine WL.gyes rfl rfl rfl rfl (Yld.pickV rfl rfl rfl) ?_)
        exact WX.end0 rfl ⟨rfl, A6, c6, hs6, I6⟩
      · have b4 : order = 1 := by simpa using b4
        have ep : postT order s (midT n order s (preT order s t)) = midT n order s (preT order s t) := by unfold postT; rw [if_pos b4]
        rw [ep]
        repeat (first | refine WC.seq ?_ | refine WC.block ?_ | refine WC.region ?_ | refine WL.nil ?_ | refine WX.then_normal ?_ | refine WC.skip ?_ | refine WC.exit ?_ | refine WC.ret ?_ | refine WX.then_exit ?_ | refine WX.then_ret ?_ | refine WX.block_normal ?_ | refine WX.block_ret ?_ | refine WX.block_same ?_ | refine WX.block_other rfl ?_ | refine WC.label ?_ | refine WC.scope ?_ | refine WX.scope_normal ?_ | refine WX.scope_ret ?_ | refine WX.scope_exit ?_ | refine WL.y rfl (Yld.add rfl rfl (by simp only [In]; omega)) ?_ | refine WL.y rfl (Yld.sub rfl rfl (by simp only [In]; omega)) ?_ | refine WL.y rfl (Yld.mul rfl rfl (by simp only [In]; omega)) ?_ | refine WL.y rfl (Yld.convB tab_ok rfl rfl rfl rfl) ?_ | refine WL.y rfl (Yld.conv tab_ok rfl rfl rfl (by simp only [In]; omega)) ?_ | refine WL.y rfl (Yld.quo rfl rfl (by omega) (by omega) (by simp only [In]; omega)) ?_ | refine WL.y rfl (Yld.rem rfl rfl (by omega) (by omega)) ?_ | refine WL.y rfl (Yld.shl rfl rfl (by omega)) ?_ | refine WL.y rfl (Yld.shr rfl rfl (by omega)) ?_ | refine WL.y rfl (Yld.pure tab_ok rfl) ?_ | refine WL.y rfl (Yld.fld flds_ok rfl rfl rfl) ?_ | refine WL.y rfl (Yld.max2 rfl rfl) ?_ | refine WL.y rfl (Yld.min2 rfl rfl) ?_ | refine WL.y rfl (Yld.pickV rfl rfl rfl) ?_ | refine WL.gno rfl rfl rfl rfl ?_ | refine WL.gyes rfl rfl rfl rfl (Yld.add rfl rfl (by simp only [In]; omega)) ?_ | refine WL.gyes rfl rfl rfl rfl (Yld.sub rfl rfl (by simp only [In]; omega)) ?_ | refine WL.gyes rfl rfl rfl rfl (Yld.mul rfl rfl (by simp only [In]; omega)) ?_ | refine WL.gyes rfl rfl rfl rfl (Yld.convB tab_ok rfl rfl rfl rfl) ?_ | refine WL.gyes rfl rfl rfl rfl (Yld.conv tab_ok rfl rfl rfl (by simp only [In]; omega)) ?_ | refine WL.gyes rfl rfl rfl rfl (Yld.quo rfl rfl (by omega) (by omega) (by simp only [In]; omega)) ?_ | refine WL.gyes rfl rfl rfl rfl (Yld.rem rfl rfl (by omega) (by omega)) ?_ | refine WL.gyes rfl rfl rfl rfl (Yld.shl rfl rfl (by omega)) ?_ | refine WL.gyes rfl rfl rfl rfl (Yld.shr rfl rfl (by omega)) ?_ | refine WL.gyes rfl rfl rfl rfl (Yld.pure tab_ok rfl) ?_ | refine WL.gyes rfl rfl rfl rfl (Yld.fld flds_ok rfl rfl rfl) ?_ | refine WL.gyes rfl rfl rfl rfl (Yld.max2 rfl rfl) ?_ | refine WL.gyes rfl rfl rfl rfl (Yld.min2 rfl rfl) ?_ | refine WL.gyes rfl rfl rfl rfl (Yld.pickV rfl rfl rfl) ?_)
        exact WX.end0 rfl ⟨rfl, A5, c5, hs5, I5⟩
theorem SRn.dep {w : World} {F : Nat → Prop} : ∀ {n : Nat} {v : Value} {s : PS}, SRn n w F v s → s ≠ .nil → dep n s
  | n, v, .nil, _, hn => absurd rfl hn
  | 0, v, .mk .., h, _ => h.elim
  | n + 1, v, .mk .., h, _ => by
    obtain ⟨h1, h2, Ao, co, Ak, ck, Af, cf, ho, hf, hB, o1, o2, o3, o4, k1, k2, f1, f2, f3, f4⟩ := h
    intro f hf
    obtain ⟨j, hj, rfl⟩ := List.getElem_of_mem hf
    have := f4 j _ _ (List.getElem?_eq_getElem (by rw [f2]; exact hj)) (List.getElem?_eq_getElem hj)
    exact SRn.dep this.2 this.1
set_option maxHeartbeats 4000000 in
theorem W_pdeps_Set_All {S : List Nat} {w : World} {v_s : OV} {F_s : Nat → Prop} {s : PS} {K : List PV → Er → Prop} (hG : GOK S w) (hS7 : 7 ∈ S) (hs : RelD deS w [(v_s, F_s)] [s]) (H : M_pdeps_Set_All s K) : Fn Tryd.prog 11 ⟨[v_s.1]⟩ w
    (fun v w' => w.grownBy w' none ∧ ∃ (r0 : List PV), ∃ (A_r0 : Option Addr), ∃ (c_r0 : Nat), ∃ (hs_r0 : List VH), ∃ (v_r1 : Value), ∃ (r1 : Er), v = .tuple #[.slice A_r0 r0.length c_r0, v_r1] ∧ Own vv w' w.heap.size 41 A_r0 c_r0 hs_r0 ∧ RelD deV w' hs_r0 r0 ∧ (∀ p : Option Nat, Lt p w.heap.size → DnD deS [(v_s, F_s)] [s] p → DnD deV hs_r0 r0 p) ∧ DnD deV hs_r0 r0 (blk A_r0) ∧ ErrR S w' v_r1 r1 ∧ K r0 r1) := by
  obtain ⟨hne, hK⟩ := H
  have hv : v_s.1 = .pointer (some ⟨s.id, 0, none⟩) := by
    obtain ⟨⟨n, h⟩, _⟩ := hs.one
    rw [h.ptr]
    cases s with
    | nil => exact absurd rfl hne
    | mk => rfl
  have hF := hs.one.2
  obtain ⟨n, hdp⟩ : ∃ n, dep n s := by
    obtain ⟨⟨n, h⟩, _⟩ := hs.one
    exact ⟨n, h.dep hne⟩
  obtain ⟨hb1, hb2, hK⟩ := hK n hdp
  obtain ⟨Ao, co, Ak, ck, Af, cf, ho, hf, hBx, _⟩ := SR.out2 (relS hs .refl hne) hne
  rw [hv]
  refine Fn.enter (by kernel_rfl) Tryd.func11 rfl Tryd.ntmps11 rfl ?_
  repeat (first | refine WC.seq ?_ | refine WC.block ?_ | refine WC.region ?_ | refine WL.nil ?_ | refine WX.then_normal ?_ | refine WC.skip ?_ | refine WC.exit ?_ | refine WC.ret ?_ | refine WX.then_exit ?_ | refine WX.then_ret ?_ | refine WX.block_normal ?_ | refine WX.block_ret ?_ | refine WX.block_same ?_ | refine WX.block_other rfl ?_ | refine WC.label ?_ | refine WC.scope ?_ | refine WX.scope_normal ?_ | refine WX.scope_ret ?_ | refine WX.scope_exit ?_ | refine WL.y rfl (Yld.add rfl rfl (by simp only [In]; omega)) ?_ | refine WL.y rfl (Yld.sub rfl rfl (by simp only [In]; omega)) ?_ | refine WL.y rfl (Yld.mul rfl rfl (by simp only [In]; omega)) ?_ | refine WL.y rfl (Yld.convB tab_ok rfl rfl rfl rfl) ?_ | refine WL.y rfl (Yld.conv tab_ok rfl rfl rfl (by simp only [In]; omega)) ?_ | refine WL.y rfl (Yld.quo rfl rfl (by omega) (by omega) (by simp only [In]; omega)) ?_ | refine WL.y rfl (Yld.rem rfl rfl (by omega) (by omega)) ?_ | refine WL.y rfl (Yld.shl rfl rfl (by omega)) ?_ | refine WL.y rfl (Yld.shr rfl rfl (by omega)) ?_ | refine WL.y rfl (Yld.pure tab_ok rfl) ?_ | refine WL.y rfl (Yld.fld flds_ok rfl rfl rfl) ?_ | refine WL.y rfl (Yld.max2 rfl rfl) ?_ | refine WL.y rfl (Yld.min2 rfl rfl) ?_ | refine WL.y rfl (Yld.pickV rfl rfl rfl) ?_ | refine WL.gno rfl rfl rfl rfl ?_ | refine WL.gyes rfl rfl rfl rfl (Yld.add rfl rfl (by simp only [In]; omega)) ?_ | refine WL.gyes rfl rfl rfl rfl (Yld.sub rfl rfl (by simp only [In]; omega)) ?_ | refine WL.gyes rfl rfl rfl rfl (Yld.mul rfl rfl (by simp only [In]; omega)) ?_ | refine WL.gyes rfl rfl rfl rfl (Yld.convB tab_ok rfl rfl rfl rfl) ?_ | refine WL.gyes rfl rfl rfl rfl (Yld.conv tab_ok rfl rfl rfl (by simp only [In]; omega)) ?_ | refine WL.gyes rfl rfl rfl rfl (Yld.quo rfl rfl (by omega) (by omega) (by simp only [In]; omega)) ?_ | refine WL.gyes rfl rfl rfl rfl (Yld.rem rfl rfl (by omega) (by omega)) ?_ | refine WL.gyes rfl rfl rfl rfl (Yld.shl rfl rfl (by omega)) ?_ | refine WL.gyes rfl rfl rfl rfl (Yld.shr rfl rfl (by omega)) ?_ | refine WL.gyes rfl rfl rfl rfl (Yld.pure tab_ok rfl) ?_ | refine WL.gyes rfl rfl rfl rfl (Yld.fld flds_ok rfl rfl rfl) ?_ | refine WL.gyes rfl rfl rfl rfl (Yld.max2 rfl rfl) ?_ | refine WL.gyes rfl rfl rfl rfl (Yld.min2 rfl rfl) ?_ | refine WL.gyes rfl rfl rfl rfl (Yld.pickV rfl rfl rfl) ?_)
  refine WL.putw wants_none rfl (Eff.makeMap vp (okR s) vB) ?_
  rintro _ w1 ⟨rfl, hM1, hg1⟩
  refine WL.putw wants_none rfl (Eff.makeMap vs okS vB) ?_
  rintro _ w2 ⟨rfl, hM2, hg2⟩
  obtain ⟨gk, hgk⟩ : ∃ g, g = w1.heap.size := ⟨_, rfl⟩
  rw [← hgk] at hM2
  rw [← hgk]
  refine WL.y rfl (Yld.struct (us := [.map (some w.heap.size), .map (some gk), .slice none 0 0]) (vs := [(0, .map (some w.heap.size)), (1, .map (some gk))]) zero78 places78 rfl rfl) ?_
  refine WL.box (us := [.map (some w.heap.size), .map (some gk), .slice none 0 0]) rfl rfl rfl (fun gt w3 hB hg3 hl3 => ?_)
  have hM1' := (hM1.g0 hg2).g0 hg3
  have hM2' := hM2.g0 hg3
  have q1 := hM1.lt
  have q2 := hM2.lt
  have q3 := hg1.size
  have q4 := hg2.size
  have gr3 := gr_trans (gr_trans hg1 hg2) hg3
  have I0 : TI w F_s s gt w.heap.size gk w3 ts0 none 0 [] := ⟨gr3, hB, Own.nil _ _ _ _, RelD.nil, fun h hh => by simp at hh, hM1', hM2', by omega, Nat.le_refl _, by omega, by omega, by omega, by omega, by simp [blk], by simp [blk], by simp [blk], rfl⟩
  refine WL.y rfl (Yld.pure tab_ok rfl) ?_
  refine WL.nil ?_
  repeat (first | refine WL.y rfl (Yld.bload tab_ok (hBx.g0 gr3) rfl rfl rfl) ?_ | refine WL.y rfl (Yld.fa0 (o := 0) (by kernel_rfl) rfl) ?_ | refine WC.seq ?_ | refine WC.block ?_ | refine WC.region ?_ | refine WL.nil ?_ | refine WX.then_normal ?_ | refine WC.skip ?_ | refine WC.exit ?_ | refine WC.ret ?_ | refine WX.then_exit ?_ | refine WX.then_ret ?_ | refine WX.block_normal ?_ | refine WX.block_ret ?_ | refine WX.block_same ?_ | refine WX.block_other rfl ?_ | refine WC.label ?_ | refine WC.scope ?_ | refine WX.scope_normal ?_ | refine WX.scope_ret ?_ | refine WX.scope_exit ?_ | refine WL.y rfl (Yld.add rfl rfl (by simp only [In]; omega)) ?_ | refine WL.y rfl (Yld.sub rfl rfl (by simp only [In]; omega)) ?_ | refine WL.y rfl (Yld.mul rfl rfl (by simp only [In]; omega)) ?_ | refine WL.y rfl (Yld.convB tab_ok rfl rfl rfl rfl) ?_ | refine WL.y rfl (Yld.conv tab_ok rfl rfl rfl (by simp only [In]; omega)) ?_ | refine WL.y rfl (Yld.quo rfl rfl (by omega) (by omega) (by simp only [In]; omega)) ?_ | refine WL.y rfl (Yld.rem rfl rfl (by omega) (by omega)) ?_ | refine WL.y rfl (Yld.shl rfl rfl (by omega)) ?_ | refine WL.y rfl (Yld.shr rfl rfl (by omega)) ?_ | refine WL.y rfl (Yld.pure tab_ok rfl) ?_ | refine WL.y rfl (Yld.fld flds_ok rfl rfl rfl) ?_ | refine WL.y rfl (Yld.max2 rfl rfl) ?_ | refine WL.y rfl (Yld.min2 rfl rfl) ?_ | refine WL.y rfl (Yld.pickV rfl rfl rfl) ?_ | refine WL.gno rfl rfl rfl rfl ?_ | refine WL.gyes rfl rfl rfl rfl (Yld.add rfl rfl (by simp only [In]; omega)) ?_ | refine WL.gyes rfl rfl rfl rfl (Yld.sub rfl rfl (by simp only [In]; omega)) ?_ | refine WL.gyes rfl rfl rfl rfl (Yld.mul rfl rfl (by simp only [In]; omega)) ?_ | refine WL.gyes rfl rfl rfl rfl (Yld.convB tab_ok rfl rfl rfl rfl) ?_ | refine WL.gyes rfl rfl rfl rfl (Yld.conv tab_ok rfl rfl rfl (by simp only [In]; omega)) ?_ | refine WL.gyes rfl rfl rfl rfl (Yld.quo rfl rfl (by omega) (by omega) (by simp only [In]; omega)) ?_ | refine WL.gyes rfl rfl rfl rfl (Yld.rem rfl rfl (by omega) (by omega)) ?_ | refine WL.gyes rfl rfl rfl rfl (Yld.shl rfl rfl (by omega)) ?_ | refine WL.gyes rfl rfl rfl rfl (Yld.shr rfl rfl (by omega)) ?_ | refine WL.gyes rfl rfl rfl rfl (Yld.pure tab_ok rfl) ?_ | refine WL.gyes rfl rfl rfl rfl (Yld.fld flds_ok rfl rfl rfl) ?_ | refine WL.gyes rfl rfl rfl rfl (Yld.max2 rfl rfl) ?_ | refine WL.gyes rfl rfl rfl rfl (Yld.min2 rfl rfl) ?_ | refine WL.gyes rfl rfl rfl rfl (Yld.pickV rfl rfl rfl) ?_)
  refine WL.call rfl rfl (set_fn hs s.order n s ts0 none 0 [] w3 hdp .refl hne I0 hb1 hb2) ?_
  rintro _ w4 ⟨rfl, A, c, hd, I⟩
  have hbx := I.box
  repeat (first | refine WL.y rfl (Yld.bload tab_ok hbx rfl rfl rfl) ?_ | refine WC.seq ?_ | refine WC.block ?_ | refine WC.region ?_ | refine WL.nil ?_ | refine WX.then_normal ?_ | refine WC.skip ?_ | refine WC.exit ?_ | refine WC.ret ?_ | refine WX.then_exit ?_ | refine WX.then_ret ?_ | refine WX.block_normal ?_ | refine WX.block_ret ?_ | refine WX.block_same ?_ | refine WX.block_other rfl ?_ | refine WC.label ?_ | refine WC.scope ?_ | refine WX.scope_normal ?_ | refine WX.scope_ret ?_ | refine WX.scope_exit ?_ | refine WL.y rfl (Yld.add rfl rfl (by simp only [In]; omega)) ?_ | refine WL.y rfl (Yld.sub rfl rfl (by simp only [In]; omega)) ?_ | refine WL.y rfl (Yld.mul rfl rfl (by simp only [In]; omega)) ?_ | refine WL.y rfl (Yld.convB tab_ok rfl rfl rfl rfl) ?_ | refine WL.y rfl (Yld.conv tab_ok rfl rfl rfl (by simp only [In]; omega)) ?_ | refine WL.y rfl (Yld.quo rfl rfl (by omega) (by omega) (by simp only [In]; omega)) ?_ | refine WL.y rfl (Yld.rem rfl rfl (by omega) (by omega)) ?_ | refine WL.y rfl (Yld.shl rfl rfl (by omega)) ?_ | refine WL.y rfl (Yld.shr rfl rfl (by omega)) ?_ | refine WL.y rfl (Yld.pure tab_ok rfl) ?_ | refine WL.y rfl (Yld.fld flds_ok rfl rfl rfl) ?_ | refine WL.y rfl (Yld.max2 rfl rfl) ?_ | refine WL.y rfl (Yld.min2 rfl rfl) ?_ | refine WL.y rfl (Yld.pickV rfl rfl rfl) ?_ | refine WL.gno rfl rfl rfl rfl ?_ | refine WL.gyes rfl rfl rfl rfl (Yld.add rfl rfl (by simp only [In]; omega)) ?_ | refine WL.gyes rfl rfl rfl rfl (Yld.sub rfl rfl (by simp only [In]; omega)) ?_ | refine WL.gyes rfl rfl rfl rfl (Yld.mul rfl rfl (by simp only [In]; omega)) ?_ | refine WL.gyes rfl rfl rfl rfl (Yld.convB tab_ok rfl rfl rfl rfl) ?_ | refine WL.gyes rfl rfl rfl rfl (Yld.conv tab_ok rfl rfl rfl (by simp only [In]; omega)) ?_ | refine WL.gyes rfl rfl rfl rfl (Yld.quo rfl rfl (by omega) (by omega) (by simp only [In]; omega)) ?_ | refine WL.gyes rfl rfl rfl rfl (Yld.rem rfl rfl (by omega) (by omega)) ?_ | refine WL.gyes rfl rfl rfl rfl (Yld.shl rfl rfl (by omega)) ?_ | refine WL.gyes rfl rfl rfl rfl (Yld.shr rfl rfl (by omega)) ?_ | refine WL.gyes rfl rfl rfl rfl (Yld.pure tab_ok rfl) ?_ | refine WL.gyes rfl rfl rfl rfl (Yld.fld flds_ok rfl rfl rfl) ?_ | refine WL.gyes rfl rfl rfl rfl (Yld.max2 rfl rfl) ?_ | refine WL.gyes rfl rfl rfl rfl (Yld.min2 rfl rfl) ?_ | refine WL.gyes rfl rfl rfl rfl (Yld.pickV rfl rfl rfl) ?_)
  refine WC.cond rfl (fun b1 => ?_) (fun b1 => ?_)
  · exact absurd (of_decide_eq_true b1) (by omega)
  have dnp : ∀ p, DnD deS [(v_s, F_s)] [s] p → ∀ (hs' : List VH) (xs : List PV), (∀ h ∈ hs', h.2 = F_s) → DnD deV hs' xs p := fun p hp hs' xs hh i h x hi hx g e hg => by
    rw [hh h (List.mem_of_getElem? hi)] at hg
    exact hp.one g e hg
  have dnA : ∀ A, (∀ g, blk A = some g → w.heap.size ≤ g) → ∀ (hs' : List VH) (xs : List PV), (∀ h ∈ hs', h.2 = F_s) → DnD deV hs' xs (blk A) := fun A hA hs' xs hh i h x hi hx g e hg => by
    rw [hh h (List.mem_of_getElem? hi)] at hg
    have := hF g hg
    have := hA g e
    omega
  have gr4 := I.gr
  repeat (first | refine WL.y rfl (Yld.bload tab_ok (hBx.g0 gr4) rfl rfl rfl) ?_ | refine WL.y rfl (Yld.fa0 (o := 0) (by kernel_rfl) rfl) ?_ | refine WC.seq ?_ | refine WC.block ?_ | refine WC.region ?_ | refine WL.nil ?_ | refine WX.then_normal ?_ | refine WC.skip ?_ | refine WC.exit ?_ | refine WC.ret ?_ | refine WX.then_exit ?_ | refine WX.then_ret ?_ | refine WX.block_normal ?_ | refine WX.block_ret ?_ | refine WX.block_same ?_ | refine WX.block_other rfl ?_ | refine WC.label ?_ | refine WC.scope ?_ | refine WX.scope_normal ?_ | refine WX.scope_ret ?_ | refine WX.scope_exit ?_ | refine WL.y rfl (Yld.add rfl rfl (by simp only [In]; omega)) ?_ | refine WL.y rfl (Yld.sub rfl rfl (by simp only [In]; omega)) ?_ | refine WL.y rfl (Yld.mul rfl rfl (by simp only [In]; omega)) ?_ | refine WL.y rfl (Yld.convB tab_ok rfl rfl rfl rfl) ?_ | refine WL.y rfl (Yld.conv tab_ok rfl rfl rfl (by simp only [In]; omega)) ?_ | refine WL.y rfl (Yld.quo rfl rfl (by omega) (by omega) (by simp only [In]; omega)) ?_ | refine WL.y rfl (Yld.rem rfl rfl (by omega) (by omega)) ?_ | refine WL.y rfl (Yld.shl rfl rfl (by omega)) ?_ | refine WL.y rfl (Yld.shr rfl rfl (by omega)) ?_ | refine WL.y rfl (Yld.pure tab_ok rfl) ?_ | refine WL.y rfl (Yld.fld flds_ok rfl rfl rfl) ?_ | refine WL.y rfl (Yld.max2 rfl rfl) ?_ | refine WL.y rfl (Yld.min2 rfl rfl) ?_ | refine WL.y rfl (Yld.pickV rfl rfl rfl) ?_ | refine WL.gno rfl rfl rfl rfl ?_ | refine WL.gyes rfl rfl rfl rfl (Yld.add rfl rfl (by simp only [In]; omega)) ?_ | refine WL.gyes rfl rfl rfl rfl (Yld.sub rfl rfl (by simp only [In]; omega)) ?_ | refine WL.gyes rfl rfl rfl rfl (Yld.mul rfl rfl (by simp only [In]; omega)) ?_ | refine WL.gyes rfl rfl rfl rfl (Yld.convB tab_ok rfl rfl rfl rfl) ?_ | refine WL.gyes rfl rfl rfl rfl (Yld.conv tab_ok rfl rfl rfl (by simp only [In]; omega)) ?_ | refine WL.gyes rfl rfl rfl rfl (Yld.quo rfl rfl (by omega) (by omega) (by simp only [In]; omega)) ?_ | refine WL.gyes rfl rfl rfl rfl (Yld.rem rfl rfl (by omega) (by omega)) ?_ | refine WL.gyes rfl rfl rfl rfl (Yld.shl rfl rfl (by omega)) ?_ | refine WL.gyes rfl rfl rfl rfl (Yld.shr rfl rfl (by omega)) ?_ | refine WL.gyes rfl rfl rfl rfl (Yld.pure tab_ok rfl) ?_ | refine WL.gyes rfl rfl rfl rfl (Yld.fld flds_ok rfl rfl rfl) ?_ | refine WL.gyes rfl rfl rfl rfl (Yld.max2 rfl rfl) ?_ | refine WL.gyes rfl rfl rfl rfl (Yld.min2 rfl rfl) ?_ | refine WL.gyes rfl rfl rfl rfl (Yld.pickV rfl rfl rfl) ?_)
  refine WC.cond rfl (fun b2 => ?_) (fun b2 => ?_)
  · have b2 := of_decide_eq_true b2
    have ea : allN n s = (tellN n s.order s ts0).out.reverse := by unfold allN; rw [if_pos b2]
    rw [ea] at hK
    have hlen := I.rel.1
    repeat (first | refine WL.y rfl (Yld.bload tab_ok hbx rfl rfl rfl) ?_ | refine WC.seq ?_ | refine WC.block ?_ | refine WC.region ?_ | refine WL.nil ?_ | refine WX.then_normal ?_ | refine WC.skip ?_ | refine WC.exit ?_ | refine WC.ret ?_ | refine WX.then_exit ?_ | refine WX.then_ret ?_ | refine WX.block_normal ?_ | refine WX.block_ret ?_ | refine WX.block_same ?_ | refine WX.block_other rfl ?_ | refine WC.label ?_ | refine WC.scope ?_ | refine WX.scope_normal ?_ | refine WX.scope_ret ?_ | refine WX.scope_exit ?_ | refine WL.y rfl (Yld.add rfl rfl (by simp only [In]; omega)) ?_ | refine WL.y rfl (Yld.sub rfl rfl (by simp only [In]; omega)) ?_ | refine WL.y rfl (Yld.mul rfl rfl (by simp only [In]; omega)) ?_ | refine WL.y rfl (Yld.convB tab_ok rfl rfl rfl rfl) ?_ | refine WL.y rfl (Yld.conv tab_ok rfl rfl rfl (by simp only [In]; omega)) ?_ | refine WL.y rfl (Yld.quo rfl rfl (by omega) (by omega) (by simp only [In]; omega)) ?_ | refine WL.y rfl (Yld.rem rfl rfl (by omega) (by omega)) ?_ | refine WL.y rfl (Yld.shl rfl rfl (by omega)) ?_ | refine WL.y rfl (Yld.shr rfl rfl (by omega)) ?_ | refine WL.y rfl (Yld.pure tab_ok rfl) ?_ | refine WL.y rfl (Yld.fld flds_ok rfl rfl rfl) ?_ | refine WL.y rfl (Yld.max2 rfl rfl) ?_ | refine WL.y rfl (Yld.min2 rfl rfl) ?_ | refine WL.y rfl (Yld.pickV rfl rfl rfl) ?_ | refine WL.gno rfl rfl rfl rfl ?_ | refine WL.gyes rfl rfl rfl rfl (Yld.add rfl rfl (by simp only [In]; omega)) ?_ | refine WL.gyes rfl rfl rfl rfl (Yld.sub rfl rfl (by simp only [In]; omega)) ?_ | refine WL.gyes rfl rfl rfl rfl (Yld.mul rfl rfl (by simp only [In]; omega)) ?_ | refine WL.gyes rfl rfl rfl rfl (Yld.convB tab_ok rfl rfl rfl rfl) ?_ | refine WL.gyes rfl rfl rfl rfl (Yld.conv tab_ok rfl rfl rfl (by simp only [In]; omega)) ?_ | refine WL.gyes rfl rfl rfl rfl (Yld.quo rfl rfl (by omega) (by omega) (by simp only [In]; omega)) ?_ | refine WL.gyes rfl rfl rfl rfl (Yld.rem rfl rfl (by omega) (by omega)) ?_ | refine WL.gyes rfl rfl rfl rfl (Yld.shl rfl rfl (by omega)) ?_ | refine WL.gyes rfl rfl rfl rfl (Yld.shr rfl rfl (by omega)) ?_ | refine WL.gyes rfl rfl rfl rfl (Yld.pure tab_ok rfl) ?_ | refine WL.gyes rfl rfl rfl rfl (Yld.fld flds_ok rfl rfl rfl) ?_ | refine WL.gyes rfl rfl rfl rfl (Yld.max2 rfl rfl) ?_ | refine WL.gyes rfl rfl rfl rfl (Yld.min2 rfl rfl) ?_ | refine WL.gyes rfl rfl rfl rfl (Yld.pickV rfl rfl rfl) ?_)
    have hrev := reverse_fnV A c w.heap.size hd w4 I.own
    rw [hlen] at hrev
    refine WL.call rfl rfl hrev ?_
    rintro _ w5 ⟨rfl, hO5, hg5⟩
    have gr5 : w.grownBy w5 none := gr_mod gr4 hg5 I.own.ge'
    have hb5 := hbx.go hg5 (dj_l I.d4).symm
    repeat (first | refine WL.y rfl (Yld.bload tab_ok hb5 rfl rfl rfl) ?_ | refine WC.seq ?_ | refine WC.block ?_ | refine WC.region ?_ | refine WL.nil ?_ | refine WX.then_normal ?_ | refine WC.skip ?_ | refine WC.exit ?_ | refine WC.ret ?_ | refine WX.then_exit ?_ | refine WX.then_ret ?_ | refine WX.block_normal ?_ | refine WX.block_ret ?_ | refine WX.block_same ?_ | refine WX.block_other rfl ?_ | refine WC.label ?_ | refine WC.scope ?_ | refine WX.scope_normal ?_ | refine WX.scope_ret ?_ | refine WX.scope_exit ?_ | refine WL.y rfl (Yld.add rfl rfl (by simp only [In]; omega)) ?_ | refine WL.y rfl (Yld.sub rfl rfl (by simp only [In]; omega)) ?_ | refine WL.y rfl (Yld.mul rfl rfl (by simp only [In]; omega)) ?_ | refine WL.y rfl (Yld.convB tab_ok rfl rfl rfl rfl) ?_ | refine WL.y rfl (Yld.conv tab_ok rfl rfl rfl (by simp only [In]; omega)) ?_ | refine WL.y rfl (Yld.quo rfl rfl (by omega) (by omega) (by simp only [In]; omega)) ?_ | refine WL.y rfl (Yld.rem rfl rfl (by omega) (by omega)) ?_ | refine WL.y rfl (Yld.shl rfl rfl (by omega)) ?_ | refine WL.y rfl (Yld.shr rfl rfl (by omega)) ?_ | refine WL.y rfl (Yld.pure tab_ok rfl) ?_ | refine WL.y rfl (Yld.fld flds_ok rfl rfl rfl) ?_ | refine WL.y rfl (Yld.max2 rfl rfl) ?_ | refine WL.y rfl (Yld.min2 rfl rfl) ?_ | refine WL.y rfl (Yld.pickV rfl rfl rfl) ?_ | refine WL.gno rfl rfl rfl rfl ?_ | refine WL.gyes rfl rfl rfl rfl (Yld.add rfl rfl (by simp only [In]; omega)) ?_ | refine WL.gyes rfl rfl rfl rfl (Yld.sub rfl rfl (by simp only [In]; omega)) ?_ | refine WL.gyes rfl rfl rfl rfl (Yld.mul rfl rfl (by simp only [In]; omega)) ?_ | refine WL.gyes rfl rfl rfl rfl (Yld.convB tab_ok rfl rfl rfl rfl) ?_ | refine WL.gyes rfl rfl rfl rfl (Yld.conv tab_ok rfl rfl rfl (by simp only [In]; omega)) ?_ | refine WL.gyes rfl rfl rfl rfl (Yld.quo rfl rfl (by omega) (by omega) (by simp only [In]; omega)) ?_ | refine WL.gyes rfl rfl rfl rfl (Yld.rem rfl rfl (by omega) (by omega)) ?_ | refine WL.gyes rfl rfl rfl rfl (Yld.shl rfl rfl (by omega)) ?_ | refine WL.gyes rfl rfl rfl rfl (Yld.shr rfl rfl (by omega)) ?_ | refine WL.gyes rfl rfl rfl rfl (Yld.pure tab_ok rfl) ?_ | refine WL.gyes rfl rfl rfl rfl (Yld.fld flds_ok rfl rfl rfl) ?_ | refine WL.gyes rfl rfl rfl rfl (Yld.max2 rfl rfl) ?_ | refine WL.gyes rfl rfl rfl rfl (Yld.min2 rfl rfl) ?_ | refine WL.gyes rfl rfl rfl rfl (Yld.pickV rfl rfl rfl) ?_)
    have hrel : RelD deV w hd.reverse (tellN n s.order s ts0).out.reverse := ⟨by simp [hlen], fun i h x hh hx => by
      have hi := (List.getElem?_eq_some_iff.1 hh).1
      rw [List.length_reverse] at hi
      rw [List.getElem?_reverse (by omega)] at hh
      rw [List.getElem?_reverse (by omega), ← hlen] at hx
      exact I.rel.2 _ h x hh hx⟩
    refine WX.ret2 rfl rfl rfl ⟨gr5, (tellN n s.order s ts0).out.reverse, A, c, hd.reverse, .nilIface, .ok, by rw [List.length_reverse], hO5, hrel.grown gr5, fun p hp hq => dnp p hq _ _ fun h hh => I.hd h (by simpa using hh), dnA A I.own.ge' _ _ fun h hh => I.hd h (by simpa using hh), rfl, hK⟩
  · have b2 := of_decide_eq_false b2
    have ea : allN n s = (tellN n s.order s ts0).out := by unfold allN; rw [if_neg b2]
    rw [ea] at hK
    repeat (first | refine WL.y rfl (Yld.bload tab_ok hbx rfl rfl rfl) ?_ | refine WC.seq ?_ | refine WC.block ?_ | refine WC.region ?_ | refine WL.nil ?_ | refine WX.then_normal ?_ | refine WC.skip ?_ | refine WC.exit ?_ | refine WC.ret ?_ | refine WX.then_exit ?_ | refine WX.then_ret ?_ | refine WX.block_normal ?_ | refine WX.block_ret ?_ | refine WX.block_same ?_ | refine WX.block_other rfl ?_ | refine WC.label ?_ | refine WC.scope ?_ | refine WX.scope_normal ?_ | refine WX.scope_ret ?_ | refine WX.scope_exit ?_ | refine WL.y rfl (Yld.add rfl rfl (by simp only [In]; omega)) ?_ | refine WL.y rfl (Yld.sub rfl rfl (by simp only [In]; omega)) ?_ | refine WL.y rfl (Yld.mul rfl rfl (by simp only [In]; omega)) ?_ | refine WL.y rfl (Yld.convB tab_ok rfl rfl rfl rfl) ?_ | refine WL.y rfl (Yld.conv tab_ok rfl rfl rfl (by simp only [In]; omega)) ?_ | refine WL.y rfl (Yld.quo rfl rfl (by omega) (by omega) (by simp only [In]; omega)) ?_ | refine WL.y rfl (Yld.rem rfl rfl (by omega) (by omega)) ?_ | refine WL.y rfl (Yld.shl rfl rfl (by omega)) ?_ | refine WL.y rfl (Yld.shr rfl rfl (by omega)) ?_ | refine WL.y rfl (Yld.pure tab_ok rfl) ?_ | refine WL.y rfl (Yld.fld flds_ok rfl rfl rfl) ?_ | refine WL.y rfl (Yld.max2 rfl rfl) ?_ | refine WL.y rfl (Yld.min2 rfl rfl) ?_ | refine WL.y rfl (Yld.pickV rfl rfl rfl) ?_ | refine WL.gno rfl rfl rfl rfl ?_ | refine WL.gyes rfl rfl rfl rfl (Yld.add rfl rfl (by simp only [In]; omega)) ?_ | refine WL.gyes rfl rfl rfl rfl (Yld.sub rfl rfl (by simp only [In]; omega)) ?_ | refine WL.gyes rfl rfl rfl rfl (Yld.mul rfl rfl (by simp only [In]; omega)) ?_ | refine WL.gyes rfl rfl rfl rfl (Yld.convB tab_ok rfl rfl rfl rfl) ?_ | refine WL.gyes rfl rfl rfl rfl (Yld.conv tab_ok rfl rfl rfl (by simp only [In]; omega)) ?_ | refine WL.gyes rfl rfl rfl rfl (Yld.quo rfl rfl (by omega) (by omega) (by simp only [In]; omega)) ?_ | refine WL.gyes rfl rfl rfl rfl (Yld.rem rfl rfl (by omega) (by omega)) ?_ | refine WL.gyes rfl rfl rfl rfl (Yld.shl rfl rfl (by omega)) ?_ | refine WL.gyes rfl rfl rfl rfl (Yld.shr rfl rfl (by omega)) ?_ | refine WL.gyes rfl rfl rfl rfl (Yld.pure tab_ok rfl) ?_ | refine WL.gyes rfl rfl rfl rfl (Yld.fld flds_ok rfl rfl rfl) ?_ | refine WL.gyes rfl rfl rfl rfl (Yld.max2 rfl rfl) ?_ | refine WL.gyes rfl rfl rfl rfl (Yld.min2 rfl rfl) ?_ | refine WL.gyes rfl rfl rfl rfl (Yld.pickV rfl rfl rfl) ?_)
    exact WX.ret2 rfl rfl rfl ⟨gr4, (tellN n s.order s ts0).out, A, c, hd, .nilIface, .ok, rfl, I.own, I.rel.grown gr4, fun p hp hq => dnp p hq _ _ I.hd, dnA A I.own.ge' _ _ I.hd, rfl, hK⟩
end Go.Proofs.YtofenpiiihhigaaDoor


 /- Regions some of whose operations may come in several orders: the floats once, the others order by order, what stands behind once. -/
namespace Go.Proofs.YtofenpiiihhigaaDoor
open Go Go.RowKit
section
variable {P : Program} {N : Nat} {ops : Array Oper} {fl : Nat → Bool} {D : World → Prop} {n g : Nat} {K : Act → World → Prop} {Q : Post} {L : Slots} {w : World} {f : Nat} {listed : Array Bool} {d : Nat} {op : Op} {ty : TypeId} {pos : String} {af : Array Edge} {gd : Option (Nat × Bool)}
structure HeadOk (ops : Array Oper) (n : Nat) : Prop where
  sel : Region.noSelect ops = true
  sink : Region.sinkB .any ops n = true
  chain : Region.chainB .any ops n = true
  lt : n < ops.size
def WA (P : Program) (N : Nat) (ops : Array Oper) (fl : Nat → Bool) (D : World → Prop) (n g : Nat) (K : Act → World → Prop) (f : Nat) (listed : Array Bool) (L : Slots) (w : World) : Prop :=
  HeadOk ops n → HeadInv .any ops n listed → ∀ a w1, Eqv w w1 → D w1 → Has N L a → anyT P .any ops fl D n (fun l' a' w' => Region.seqB .any ops g n l' = true ∧ K a' w') f listed a w1
def WI (P : Program) (N : Nat) (ops : Array Oper) (fl : Nat → Bool) (D : World → Prop) (n g : Nat) (K : Act → World → Prop) (f : Nat) (listed : Array Bool) (L : Slots) (w : World) (i : Nat) : Prop :=
  HeadOk ops n → HeadInv .any ops n (listed.setIfInBounds i true) → ∀ a w1, Eqv w w1 → D w1 → Has N L a → ∃ o, ops[i]? = some o ∧ fl i = false ∧ sRun P ops D o a w1 fun a' w' => anyT P .any ops fl D n (fun l' a' w' => Region.seqB .any ops g n l' = true ∧ K a' w') f (listed.setIfInBounds i true) a' w'
theorem WC.ordersK {i : Nat} {l : List Oper} (n : Nat) (fl : Nat → Bool) (D : World → Prop) (K : Act → World → Prop) (hm : P.follows .mixedOrders = true) (hB : (Region.noSelect l.toArray && (Region.sinkB .any l.toArray n && (Region.chainB .any l.toArray n && Nat.blt n l.length))) = true) (hE : ∀ w', Eqv w w' → D w')
    (h : WA P N l.toArray fl D n (l.length - n) K n (Array.replicate l.length false) L w)
    (ht : ∀ a w', K a w' → wpList P l.toArray Q (l.drop n) a w') : WC P N Q (.region i l.toArray true) L w := fun a wx e ha => by
  simp only [Bool.and_eq_true] at hB
  obtain ⟨hsel, hs, hc, hlt⟩ := hB
  have hn' : n < l.length := by simpa [Nat.blt_eq] using hlt
  refine wp_region_any hm ?_
  have inv0 : HeadInv .any l.toArray n (Array.replicate l.length false) :=
    ⟨by simp, fun j oj _ hl => (by rw [getD_replicate_false] at hl; cases hl), fun t _ ht => getD_in (by simpa using ht) (getD_replicate_false _ _)⟩
  have H := h ⟨hsel, hs, hc, by simpa using hn'⟩ inv0 a { wx with drawn := wx.drawn + 1 } (e.drawn _) (hE _ (e.drawn _)) ha
  have h2 := any_of_anyT (Q' := Q) (g := l.length - n) (fun listed a' w' _ hL => by
    obtain ⟨hq, hK⟩ := hL
    have := wpAny_of_seq (md := .any) (Q' := Q) (l.drop n) n listed a' w' (fun j => by simp [List.getElem?_drop]) (by rw [List.length_drop]; exact hq) (ht a' w' hK)
    rwa [List.length_drop] at this) _ _ _ _ (hE { wx with drawn := wx.drawn + 1 } (e.drawn _)) H
  rw [show n + (l.length - n) = l.length by omega] at h2
  simpa using h2
def EndsF (N : Nat) (F : Slots → World → Prop) (a : Act) (w : World) : Prop := ∃ L w0, F L w0 ∧ Eqv w0 w ∧ Has N L a
theorem WC.ordersF {i : Nat} {l : List Oper} (n : Nat) (fl : Nat → Bool) (D : World → Prop) (F : Slots → World → Prop) (hm : P.follows .mixedOrders = true) (hB : (Region.noSelect l.toArray && (Region.sinkB .any l.toArray n && (Region.chainB .any l.toArray n && Nat.blt n l.length))) = true) (hE : ∀ w', Eqv w w' → D w')
    (ht : ∀ L' w', F L' w' → WL P N l.toArray Q (l.drop n) L' w')
    (h : WA P N l.toArray fl D n (l.length - n) (EndsF N F) n (Array.replicate l.length false) L w) : WC P N Q (.region i l.toArray true) L w :=
  WC.ordersK n fl D _ hm hB hE h fun a w' ⟨L', w0, hI, he, hh⟩ => ht L' w0 hI a w' he hh
theorem WA.doneF {F : Slots → World → Prop} (L' : Slots) (hq : Region.seqB .any ops g n listed = true) (hI : F L' w) (hs : Sub L L') : WA P N ops fl D n g (EndsF N F) 0 listed L w := fun _ _ _ _ e _ ha => ⟨hq, L', w, hI, e, ha.sub hs⟩
theorem WA.y {v : Value} (k : Nat) (ho : ops[k]? = some ⟨some d, op, ty, pos, af, none⟩) (hf : (fl k && ((Region.ready .any ops listed).contains k && (Region.free .any ops listed k && Nat.blt k n))) = true) (hd : Nat.blt d N = true) (hy : ∀ w', D w' → Yld P N w' ⟨some d, op, ty, pos, af, none⟩ L v)
    (h : WA P N ops fl D n g K f (listed.setIfInBounds k true) ((d, v) :: L) w) : WA P N ops fl D n g K (f + 1) listed L w := fun ok inv a w1 e hw ha => by
  simp only [Bool.and_eq_true] at hf
  obtain ⟨hfl, hr, hfr, hkn⟩ := hf
  have hr' : k ∈ Region.ready .any ops listed := by simpa using hr
  have hkn' : k < n := by simpa [Nat.blt_eq] using hkn
  exact float_firstT ho hfl (Region.noSelect_spec ok.sel) ok.sink ok.chain ok.lt hkn' (fun _ _ _ hL => seqB_ready hL.1) f listed a w1 hw inv (Region.free_spec ho hfr) hr'
    (.inl ⟨by simp [Region.wanted], fun w' hw' => hy w' hw' a w' (Eqv.refl _) ha⟩) (h ok (inv.set hr' hkn') _ _ e hw (ha.put hd v))
def AllL {α : Type} (p : α → Prop) : List α → Prop
  | [] => True
  | [x] => p x
  | x :: y :: l => p x ∧ AllL p (y :: l)
theorem AllL.mem {α : Type} {p : α → Prop} : ∀ {l : List α}, AllL p l → ∀ x ∈ l, p x
  | [], _, x, h => by simp at h
  | [y], h, x, hx => by simp at hx; subst hx; exact h
  | y :: z :: l, h, x, hx => by
    rcases List.mem_cons.1 hx with rfl | hx
    · exact h.1
    · exact AllL.mem h.2 x hx
theorem WA.split (is : List Nat) (hr : Region.ready .any ops listed = is) (hc : (!is.isEmpty && is.all fun i => Nat.blt i n) = true) (h : AllL (WI P N ops fl D n g K f listed L w) is) : WA P N ops fl D n g K (f + 1) listed L w := fun ok inv a w1 e hw ha => by
  simp only [Bool.and_eq_true] at hc
  refine ⟨fun h0 => ?_, fun i hi => ?_⟩
  · rw [hr] at h0; subst h0; simp at hc
  · have hi' := hi
    rw [hr] at hi'
    have hin : i < n := by have := List.all_eq_true.1 hc.2 i hi'; simpa [Nat.blt_eq] using this
    obtain ⟨o, ho, hfl, hs⟩ := h.mem i hi' ok (inv.set hi hin) a w1 e hw ha
    exact ⟨hin, o, ho, .inr ⟨hfl, hs⟩⟩
theorem WI.put {i : Nat} {R : Value → World → Prop} (ho : ops[i]? = some ⟨some d, op, ty, pos, af, none⟩) (hf : fl i = false) (hd : Nat.blt d N = true) (hr : Eff P N w ⟨some d, op, ty, pos, af, none⟩ L R) (hD : ∀ v w', R v w' → D w')
    (hk : ∀ v w', R v w' → WA P N ops fl D n g K f (listed.setIfInBounds i true) ((d, v) :: L) w') : WI P N ops fl D n g K f listed L w i := fun ok inv a w1 e hw ha => by
  refine ⟨_, ho, hf, ?_⟩
  unfold sRun
  rw [if_pos (by simp [Region.wanted])]
  obtain ⟨v, w', h, hR⟩ := hr a w1 e ha
  rw [h]
  exact ⟨hD v w' hR, hk v w' hR ok inv _ w' (Eqv.refl _) (hD v w' hR) (ha.put hd v)⟩
theorem WI.eff {i : Nat} {R : World → Prop} (ho : ops[i]? = some ⟨none, op, ty, pos, af, none⟩) (hf : fl i = false) (hr : Ef0 P N w ⟨none, op, ty, pos, af, none⟩ L R) (hD : ∀ w', R w' → D w')
    (hk : ∀ w', R w' → WA P N ops fl D n g K f (listed.setIfInBounds i true) L w') : WI P N ops fl D n g K f listed L w i := fun ok inv a w1 e hw ha => by
  refine ⟨_, ho, hf, ?_⟩
  unfold sRun
  rw [if_pos (by simp [Region.wanted])]
  obtain ⟨w', h, hR⟩ := hr a w1 e ha
  rw [h]
  exact ⟨hD w' hR, hk w' hR ok inv _ w' (Eqv.refl _) (hD w' hR) ha⟩
theorem WI.call {i : Nat} {R : Value → World → Prop} {fn : FuncId} {as_ : List Operand} {ts : Array TypeId} {vs : List Value} (ho : ops[i]? = some ⟨some d, .call ⟨.value (.func fn), ⟨as_⟩, ts⟩, ty, pos, af, gd⟩) (hf : fl i = false) (hg : Wants N ops L gd) (hd : Nat.blt d N = true) (hv : opvs L as_ = some vs) (hc : Fn P fn ⟨vs⟩ w R) (hD : ∀ v w', R v w' → ∀ w2, Eqv w' w2 → D w2)
    (hk : ∀ v w', R v w' → WA P N ops fl D n g K f (listed.setIfInBounds i true) ((d, v) :: L) w') : WI P N ops fl D n g K f listed L w i := fun ok inv a w1 e hw ha => by
  refine ⟨_, ho, hf, ?_⟩
  unfold sRun
  rw [if_pos (Wants.wanted (o := ⟨some d, .call ⟨.value (.func fn), ⟨as_⟩, ts⟩, ty, pos, af, gd⟩) hg ha), run_enter ha hv hc.1]
  refine (hc.2 w1 e).mono ?_
  rintro en w' ⟨v, w0, rfl, h0, hR⟩
  exact ⟨v, rfl, hD v w0 hR w' h0, hk v w0 hR ok inv _ w' h0 (hD v w0 hR w' h0) (ha.put hd v)⟩
end
end Go.Proofs.YtofenpiiihhigaaDoor

 /- A move that floats past the end of a region's head is taken first. -/
namespace Go.Proofs.YtofenpiiihhigaaDoor
open Go Go.RowKit
def Qn (Q : Post) : Post := fun e a w => match e with
  | .normal => Q .normal a w
  | _ => False
def addG (i : Nat) : Nat → List Oper → List Oper
  | _, [] => []
  | k, o :: l => (bif Nat.beq k i then o else ⟨o.dst, o.op, o.type, o.pos, ⟨⟨i, .data⟩ :: o.after.toList⟩, o.guard⟩) :: addG i (k + 1) l
theorem addG_len (i : Nat) : ∀ (l : List Oper) (k : Nat), (addG i k l).length = l.length
  | [], _ => rfl
  | o :: l, k => by simp [addG, addG_len i l (k + 1)]
theorem addG_get (i : Nat) : ∀ (l : List Oper) (k j : Nat), (addG i k l)[j]? = (l[j]?).map fun o => bif Nat.beq (k + j) i then o else ⟨o.dst, o.op, o.type, o.pos, ⟨⟨i, .data⟩ :: o.after.toList⟩, o.guard⟩
  | [], k, j => by simp [addG]
  | o :: l, k, 0 => by simp [addG]
  | o :: l, k, j + 1 => by
    simp only [addG, List.getElem?_cons_succ]
    rw [addG_get i l (k + 1) j, show k + 1 + j = k + (j + 1) by omega]
section
variable {P : Program} {Q : Post} {i : Nat} {l : List Oper}
theorem addG_op {j : Nat} {o : Oper} (h : l[j]? = some o) : ∃ af, (addG i 0 l)[j]? = some ⟨o.dst, o.op, o.type, o.pos, af, o.guard⟩ := by
  rw [addG_get, h, Nat.zero_add]
  cases Nat.beq j i with
  | true => exact ⟨o.after, rfl⟩
  | false => exact ⟨_, rfl⟩
theorem addG_ready {listed : Array Bool} (hl : listed.getD i false = true) (j : Nat) : j ∈ Region.ready .any l.toArray listed ↔ j ∈ Region.ready .any (addG i 0 l).toArray listed := by
  rw [mem_ready, mem_ready]
  refine and_congr_right fun _ => ⟨fun ⟨o, ho, h⟩ => ?_, fun ⟨o, ho, h⟩ => ?_⟩
  · have ho : l[j]? = some o := by simpa using ho
    have hg := addG_get i l 0 j
    rw [ho, Nat.zero_add] at hg
    refine ⟨_, by simpa using hg, fun e he hb => ?_⟩
    cases hq : Nat.beq j i with
    | true => rw [hq] at he; exact h e he hb
    | false =>
      rw [hq] at he
      simp only [cond_false, List.mem_toArray, List.mem_cons] at he
      rcases he with rfl | he
      · exact hl
      · exact h e (by simpa using he) hb
  · have hg := addG_get i l 0 j
    have ho : (addG i 0 l)[j]? = some o := by simpa using ho
    rw [ho] at hg
    obtain ⟨o', ho', e⟩ := Option.map_eq_some_iff.1 hg.symm
    refine ⟨o', by simpa using ho', fun e' he hb => h e' ?_ hb⟩
    rw [← e]
    cases Nat.beq (0 + j) i with
    | true => exact he
    | false => simp only [cond_false, List.mem_toArray, List.mem_cons]; exact .inr (by simpa using he)
theorem qn_out : ¬ LetsOut (Qn Q) := fun ⟨_, _, h⟩ => h
theorem upon_conv {o o' : Oper} {a a' : Act} {K K' : Act → World → Prop} (hd : o'.dst = o.dst) (hk : ∀ u w, K' (a'.put o.dst u) w → K (a.put o.dst u) w) (hdf : ∀ d w, K' ({ a' with defers := d :: a'.defers }.put o.dst undef) w → K ({ a with defers := d :: a.defers }.put o.dst undef) w) :
    ∀ {r : Result Next}, o'.upon P a' K' (Qn Q) r → o.upon P a K Q r := by
  intro r h
  unfold Oper.upon at h ⊢
  rw [hd] at h
  cases r with
  | halt x w => cases x <;> first | exact h.elim | exact h
  | ok x w => cases x with
    | value u => exact hk _ _ h
    | skip => exact hk _ _ h
    | defer d => exact hdf _ _ h
    | enter f args => exact Calls.mono h fun e w'' hh => (by cases e <;> first | exact hk _ _ hh | exact hh.elim | exact absurd hh qn_out)
    | row r args => exact Rows.mono h fun v w' hh => hk _ _ hh
    | _ => exact h
theorem exec_after {ev : Operand → Value} {o : Oper} {af : Array Edge} : execOp ev ⟨o.dst, o.op, o.type, o.pos, af, o.guard⟩ = execOp ev o := by
  unfold execOp
  rfl
theorem hoist_A (hg : ∀ (j : Nat) (o : Oper), l[j]? = some o → o.guard = none) : ∀ (f : Nat) (listed : Array Bool) (a : Act) (w : World), listed.getD i false = true → wpAny P .any (addG i 0 l).toArray (Qn Q) f listed a w → wpAny P .any l.toArray Q f listed a w
  | 0, listed, a, w, hl, h => ⟨by
      have := h.1
      rw [List.eq_nil_iff_forall_not_mem] at this ⊢
      exact fun j hj => this j ((addG_ready hl j).1 hj), h.2⟩
  | f + 1, listed, a, w, hl, h => by
    refine ⟨fun h0 => h.1 ?_, fun j hj => ?_⟩
    · rw [List.eq_nil_iff_forall_not_mem] at h0 ⊢
      exact fun j hj => h0 j ((addG_ready hl j).2 hj)
    · have h2 := h.2 j ((addG_ready hl j).1 hj)
      obtain ⟨_, o, ho, _⟩ := mem_ready.1 hj
      have ho' : l[j]? = some o := by simpa using ho
      obtain ⟨af, hj'⟩ := addG_op (i := i) ho'
      have hgo := hg j o ho'
      have hl' : (listed.setIfInBounds j true).getD i false = true := by
        by_cases e : j = i
        · subst e
          have : j < listed.size := by
            rcases Nat.lt_or_ge j listed.size with q | q
            · exact q
            · simp [Array.getD, Nat.not_lt.2 q] at hl
          simp [Array.getD, this]
        · have hs : i < listed.size := by
            rcases Nat.lt_or_ge i listed.size with q | q
            · exact q
            · simp [Array.getD, Nat.not_lt.2 q] at hl
          have h1 : listed[i]'hs = true := by simpa [Array.getD, hs] using hl
          simp [Array.getD, hs, Array.getElem_setIfInBounds, e, h1]
      unfold wpOp at h2 ⊢
      simp only [ho, List.getElem?_toArray, hj'] at h2 ⊢
      rw [if_pos (by simp [Region.wanted, hgo])] at h2 ⊢
      rcases h2 with h2 | h2
      · refine .inl ?_
        unfold Oper.wp at h2 ⊢
        rw [exec_after] at h2
        exact upon_conv (o' := ⟨o.dst, o.op, o.type, o.pos, af, o.guard⟩) rfl (fun u w => hoist_A hg f _ _ _ hl') (fun d w => hoist_A hg f _ _ _ hl') h2
      · exact absurd h2.2 qn_out
theorem hoist_B {oi : Oper} {v : Value} (hi : l[i]? = some oi) (hsi : ∀ cs b, oi.op ≠ .select cs b) (hsel : ∀ (j : Nat) (o : Oper) cs b, l[j]? = some o → o.op ≠ .select cs b) (hg : ∀ (j : Nat) (o : Oper), l[j]? = some o → o.guard = none) :
    ∀ (f : Nat) (listed : Array Bool) (a : Act) (w : World), (∀ w, (execOp a.eval oi).run P w = .ok (.value v) w) → i ∈ Region.ready .any l.toArray listed →
      (∀ j oj, l[j]? = some oj → j ≠ i → listed.getD j true = false → (∀ e ∈ oj.after, Region.binds .any e = true → e.on ≠ i) → oi.apart l.toArray oj = true) →
      wpAny P .any (addG i 0 l).toArray (Qn Q) f (listed.setIfInBounds i true) (a.put oi.dst v) w → wpAny P .any l.toArray Q (f + 1) listed a w := by
  have hli : ∀ listed : Array Bool, i ∈ Region.ready .any l.toArray listed → (listed.setIfInBounds i true).getD i false = true := fun listed hr => by
    have h1 := (mem_ready.1 hr).1
    have : i < listed.size := by
      rcases Nat.lt_or_ge i listed.size with q | q
      · exact q
      · simp [Array.getD, Nat.not_lt.2 q] at h1
    simp [Array.getD, this]
  intro f
  induction f with
  | zero =>
    intro listed a w hy hr hfree H
    refine ⟨fun h => (by rw [h] at hr; cases hr), fun j hj => ?_⟩
    by_cases hji : j = i
    · subst hji
      unfold wpOp
      simp only [List.getElem?_toArray, hi]
      rw [if_pos (by simp [Region.wanted, hg _ _ hi])]
      refine .inl ?_
      unfold Oper.wp
      rw [hy w]
      exact hoist_A hg 0 _ _ _ (hli _ hr) H
    · have := (addG_ready (l := l) (hli _ hr) j).1 (ready_mono hj hji)
      rw [H.1] at this
      cases this
  | succ f ih =>
    intro listed a w hy hr hfree H
    refine ⟨fun h => (by rw [h] at hr; cases hr), fun j hj => ?_⟩
    by_cases hji : j = i
    · subst hji
      unfold wpOp
      simp only [List.getElem?_toArray, hi]
      rw [if_pos (by simp [Region.wanted, hg _ _ hi])]
      refine .inl ?_
      unfold Oper.wp
      rw [hy w]
      exact hoist_A hg (f + 1) _ _ _ (hli _ hr) H
    · have h2 := H.2 j ((addG_ready (l := l) (hli _ hr) j).1 (ready_mono hj hji))
      obtain ⟨hjun, oj, hoj, hall⟩ := mem_ready.1 hj
      have hoj' : l[j]? = some oj := by simpa using hoj
      obtain ⟨af, hj'⟩ := addG_op (i := i) hoj'
      have hnot : ∀ e ∈ oj.after, Region.binds .any e = true → e.on ≠ i := fun e he hb heq => by
        have := hall e he hb
        rw [heq, getD_both (mem_ready.1 hr).1] at this
        cases this
      have hap := hfree j oj hoj' hji hjun hnot
      obtain ⟨p1, p2, p3⟩ := Oper.apart_spec hap
      have hfree' : ∀ k ok, l[k]? = some ok → k ≠ i → (listed.setIfInBounds j true).getD k true = false → (∀ e ∈ ok.after, Region.binds .any e = true → e.on ≠ i) → oi.apart l.toArray ok = true := fun k ok hk hki hun hno => by
        refine hfree k ok hk hki ?_ hno
        by_cases hjk : j = k
        · subst hjk; exact hjun
        · rw [getD_set_ne true hjk] at hun; exact hun
      have hr' := ready_mono hr (Ne.symm hji)
      have hyp : ∀ b : Act, b.tmps = a.tmps → ∀ u w, (execOp (b.put oj.dst u).eval oi).run P w = .ok (.value v) w := fun b hb u w => by
        rw [execOp_put oi hsi b oj.dst u p3]
        have : b.eval = a.eval := by funext y; cases y <;> simp [Act.eval, hb]
        rw [this]
        exact hy w
      unfold wpOp at h2 ⊢
      simp only [hoj, List.getElem?_toArray, hj'] at h2 ⊢
      rw [if_pos (by simp [Region.wanted, hg _ _ hoj'])] at h2 ⊢
      rcases h2 with h2 | h2
      · refine .inl ?_
        unfold Oper.wp at h2 ⊢
        rw [exec_after, execOp_put oj (fun cs b => hsel j oj cs b hoj') a oi.dst v p1] at h2
        refine upon_conv (o' := ⟨oj.dst, oj.op, oj.type, oj.pos, af, oj.guard⟩) rfl (fun u w' hh => ?_) (fun d w' hh => ?_) h2
        · refine ih _ _ w' (hyp a rfl u) hr' hfree' ?_
          rw [Array.setIfInBounds_comm _ _ hji, ← Act.put_comm a v u p2]
          exact hh
        · refine ih _ _ w' (hyp { a with defers := d :: a.defers } rfl undef) hr' hfree' ?_
          rw [Array.setIfInBounds_comm _ _ hji, ← Act.put_comm { a with defers := d :: a.defers } v undef p2]
          have : ({ a with defers := d :: a.defers } : Act).put oi.dst v = { a.put oi.dst v with defers := d :: (a.put oi.dst v).defers } := by cases oi.dst <;> rfl
          rw [this]
          exact hh
      · exact absurd h2.2 qn_out
end
section
variable {P : Program} {N : Nat} {Q : Post} {L : Slots} {w : World}
/-- the region's operations, in whatever order -/
def WR (P : Program) (N : Nat) (Q : Post) (l : List Oper) (L : Slots) (w : World) : Prop := ∀ a w1, Eqv w w1 → Has N L a → wpAny P .any l.toArray Q l.length (Array.replicate l.length false) a w1
def noGuard (l : List Oper) : Bool := l.all fun o => match o.guard with | none => true | _ => false
theorem WX.qn (h : WX N Q .normal L w) : WX N (Qn Q) .normal L w := h
theorem WC.hoist {id : Nat} {l : List Oper} (i : Nat) {d : Option Tmp} {x : Operand} {ty : TypeId} {pos : String} {af : Array Edge} {v : Value} (hm : P.follows .mixedOrders = true) (hi : l[i]? = some ⟨d, .move x, ty, pos, af, none⟩) (hx : opv L x = some v)
    (hc : (Region.noSelect l.toArray && (noGuard l && ((Region.ready .any l.toArray (Array.replicate l.length false)).contains i && Region.free .any l.toArray (Array.replicate l.length false) i))) = true)
    (h : WR P N (Qn Q) (addG i 0 l) L w) : WC P N Q (.region id l.toArray true) L w := fun a w1 e ha => by
  simp only [Bool.and_eq_true] at hc
  obtain ⟨hs, hg, hr, hf⟩ := hc
  have hsel : ∀ (j : Nat) (o : Oper) cs b, l[j]? = some o → o.op ≠ .select cs b := fun j o cs b hj => Region.noSelect_spec hs j o cs b (by simpa using hj)
  have hgd : ∀ (j : Nat) (o : Oper), l[j]? = some o → o.guard = none := fun j o hj => by
    have := List.all_eq_true.1 hg o (List.mem_of_getElem? hj)
    split at this
    · assumption
    · cases this
  have hr' : i ∈ Region.ready .any l.toArray (Array.replicate l.length false) := by simpa using hr
  refine wp_region_any hm ?_
  have hw : Eqv w { w1 with drawn := w1.drawn + 1 } := e.drawn _
  have H := h a _ hw ha
  have hy : ∀ w, (execOp a.eval ⟨d, .move x, ty, pos, af, none⟩).run P w = .ok (.value v) w := fun w' => Yld.move (P := P) (w := w') (L := L) (N := N) hx a w' (Eqv.refl _) ha
  rw [addG_len] at H
  cases hn : l.length with
  | zero => rw [List.getElem?_eq_none (by omega)] at hi; cases hi
  | succ n =>
    rw [hn] at H
    have hri : i ∈ Region.ready .any (addG i 0 l).toArray (Array.replicate (n + 1) false) := by
      rw [hn] at hr'
      rw [mem_ready] at hr' ⊢
      obtain ⟨q1, o, q2, q3⟩ := hr'
      refine ⟨q1, o, ?_, q3⟩
      have : l[i]? = some o := by simpa using q2
      have hgt := addG_get i l 0 i
      rw [this, Nat.zero_add, Nat.beq_refl] at hgt
      simpa using hgt
    have H2 := H.2 i hri
    have e1 : (addG i 0 l)[i]? = some ⟨d, .move x, ty, pos, af, none⟩ := by
      rw [addG_get, hi, Nat.zero_add, Nat.beq_refl]
      rfl
    unfold wpOp at H2
    simp only [List.getElem?_toArray, e1] at H2
    rw [if_pos (by simp [Region.wanted])] at H2
    rcases H2 with H2 | H2
    · unfold Oper.wp at H2
      rw [hy] at H2
      have := hoist_B (P := P) (Q := Q) hi (by intro cs b e; cases e) hsel hgd n (Array.replicate (n + 1) false) a _ hy (by rw [hn] at hr'; exact hr') (fun j oj hj hne hun hno => Region.free_spec (by simpa using hi) (by rw [hn] at hf; exact hf) j oj (by simpa using hj) hne hun hno) H2
      simpa [hn] using this
    · exact absurd H2.2 qn_out
theorem WR.ordersF {l : List Oper} (n : Nat) (fl : Nat → Bool) (D : World → Prop) (F : Slots → World → Prop) (hB : (Region.noSelect l.toArray && (Region.sinkB .any l.toArray n && (Region.chainB .any l.toArray n && Nat.blt n l.length))) = true) (hE : ∀ w', Eqv w w' → D w')
    (ht : ∀ L' w', F L' w' → WL P N l.toArray Q (l.drop n) L' w')
    (h : WA P N l.toArray fl D n (l.length - n) (EndsF N F) n (Array.replicate l.length false) L w) : WR P N Q l L w := fun a w1 e ha => by
  simp only [Bool.and_eq_true] at hB
  obtain ⟨hsel, hs, hc, hlt⟩ := hB
  have hn' : n < l.length := by simpa [Nat.blt_eq] using hlt
  have inv0 : HeadInv .any l.toArray n (Array.replicate l.length false) :=
    ⟨by simp, fun j oj _ hl => (by rw [getD_replicate_false] at hl; cases hl), fun t _ ht => getD_in (by simpa using ht) (getD_replicate_false _ _)⟩
  have H := h ⟨hsel, hs, hc, by simpa using hn'⟩ inv0 a w1 e (hE _ e) ha
  have h2 := any_of_anyT (Q' := Q) (g := l.length - n) (fun listed a' w' _ hL => by
    obtain ⟨hq, L', w0, hI, he, hh⟩ := hL
    have := wpAny_of_seq (md := .any) (Q' := Q) (l.drop n) n listed a' w' (fun j => by simp [List.getElem?_drop]) (by rw [List.length_drop]; exact hq) (ht L' w0 hI a' w' he hh)
    rwa [List.length_drop] at this) _ _ _ _ (hE _ e) H
  rw [show n + (l.length - n) = l.length by omega] at h2
  exact h2
end
end Go.Proofs.YtofenpiiihhigaaDoor


 /- Printed by a program (wip/vg): what the functions mean, plainly, and their walks. -/
namespace Go.Proofs.YtofenpiiihhigaaDoor
open Go Go.RowKit
attribute [local irreducible] WL WC WX WQ WK WJ Yld Eff Ef0 Fn
def M_deps_New (order : Int) (own : List PV) (from_ : List PS) (K : PS → Er → Prop) : Prop :=
 (own.length ≤ maxLen →
 (from_.length ≤ maxLen →
 ((((decide (order < (1 : Int))) || (decide ((3 : Int) < order))) = true → K PS.nil (Er.e 3)) ∧
 (((decide (order < (1 : Int))) || (decide ((3 : Int) < order))) = false → M_val_Light (4096 : Int) own (fun (t27 : Bool) =>
 (((!t27) = true → K PS.nil (Er.e 7)) ∧
 ((!t27) = false → M_slices_Clone_pdeps_Set_pdeps_Set from_ (fun (t32 : List PS) =>
 Lp4 (fun (t38 : Int) (t341 : List PV) (t342 : List (List UInt8)) (met : List (List UInt8 × Bool)) kont1 => ((t38 < (own.length : Int) → ∃ J1 : (List PV) → (List (List UInt8)) → (List (List UInt8 × Bool)) → Prop, ((0 ≤ t38 ∧ t38 < (own.length : Nat)) ∧
 M_val_Key (own.getD t38.toNat PV.nil) (fun (t440 : List UInt8) (t441 : Er) =>
 ((¬ (t441 = Er.ok) → K PS.nil t441) ∧
 (t441 = Er.ok → (t440.length ≤ maxLen) ∧
 (((!((mget met t440).getD false)) = true → (t440.length ≤ maxLen ∧ met.length < maxLen) ∧
 ∃ J2 : Prop, (((t341.length + (([own.getD t38.toNat PV.nil] : List PV)).length) * 16 ≤ 140737488355328) ∧
 ((t342.length + (([t440] : List (List UInt8))).length) * 16 ≤ 140737488355328) ∧
 J2) ∧
 (J2 → J1 (t341 ++ ([own.getD t38.toNat PV.nil] : List PV)) (t342 ++ ([t440] : List (List UInt8))) (mput met t440 true))) ∧
 ((!((mget met t440).getD false)) = false → J1 t341 t342 met)))))) ∧
 (∀ t3412 : List PV, ∀ t3422 : List (List UInt8), ∀ m : List (List UInt8 × Bool), J1 t3412 t3422 m → (In .i64 (t38 + (1 : Int))) ∧
 kont1 (t38 + (1 : Int)) t3412 t3422 m)) ∧
 (¬ (t38 < (own.length : Int)) → Lp3 (fun (t88 : Int) (t344 : Int) (t345 : Bool) kont2 => ((t88 < (from_.length : Int) → (0 ≤ t88 ∧ t88 < (from_.length : Nat)) ∧
 ((from_.getD t88.toNat PS.nil) ≠ PS.nil) ∧
 (((((!decide (((from_.getD t88.toNat PS.nil).order) = order)) && (!decide (((from_.getD t88.toNat PS.nil).order) = (1 : Int)))) && (!decide (order = (1 : Int)))) = true → K PS.nil (Er.e 3)) ∧
 ((((!decide (((from_.getD t88.toNat PS.nil).order) = order)) && (!decide (((from_.getD t88.toNat PS.nil).order) = (1 : Int)))) && (!decide (order = (1 : Int)))) = false → (In .i64 (((from_.getD t88.toNat PS.nil).deep) + (1 : Int))) ∧
 (In .i64 (t88 + (1 : Int))) ∧
 kont2 (t88 + (1 : Int)) (if t344 < (((from_.getD t88.toNat PS.nil).deep) + (1 : Int)) then ((from_.getD t88.toNat PS.nil).deep) + (1 : Int) else t344) (t345 && ((from_.getD t88.toNat PS.nil).empty))))) ∧
 (¬ (t88 < (from_.length : Int)) → (((decide ((1000 : Int) < t344)) || (decide ((1024 : Int) < (own.length : Int)))) = false → (In .i64 ((1024 : Int) - (own.length : Int)))) ∧
 (((((decide ((1000 : Int) < t344)) || (decide ((1024 : Int) < (own.length : Int)))) || (decide (((1024 : Int) - (own.length : Int)) < (from_.length : Int)))) = true → K PS.nil (Er.e 7)) ∧
 ((((decide ((1000 : Int) < t344)) || (decide ((1024 : Int) < (own.length : Int)))) || (decide (((1024 : Int) - (own.length : Int)) < (from_.length : Int)))) = false → (∀ x ∈ t341, ∃ z, x = PV.int z) ∧
 (t342 = t341.map keyP) ∧
 (∀ x ∈ t32, x ≠ PS.nil) ∧
 ∀ g1 : Nat, M_pdeps_Set_sets (PS.mk g1 order t341 t32 t344 t345) (fun (t157 : List PS) =>
 Lp2 (fun (n : Int) (t159 : Int) kont3 => ((t159 < (t157.length : Int) → (0 ≤ t159 ∧ t159 < (t157.length : Nat)) ∧
 ((t157.getD t159.toNat PS.nil) ≠ PS.nil) ∧
 (In .i64 (n + ((t157.getD t159.toNat PS.nil).own.length : Int))) ∧
 (((1024 : Int) < (n + ((t157.getD t159.toNat PS.nil).own.length : Int)) → K PS.nil (Er.e 7)) ∧
 (¬ ((1024 : Int) < (n + ((t157.getD t159.toNat PS.nil).own.length : Int))) → (In .i64 (t159 + (1 : Int))) ∧
 kont3 (n + ((t157.getD t159.toNat PS.nil).own.length : Int)) (t159 + (1 : Int))))) ∧
 (¬ (t159 < (t157.length : Int)) → K (PS.mk g1 order t341 t32 t344 t345) Er.ok))) (0 : Int) (0 : Int))))))) (0 : Int) (0 : Int) (decide ((t341.length : Int) = (0 : Int)))))) (0 : Int) [] [] ([] : List (List UInt8 × Bool))))))))))

set_option maxHeartbeats 8000000 in
theorem W_deps_New {S : List Nat} {w : World} {order : Int} {own : List PV} {A_own : Option Addr} {c_own : Nat} {hs_own : List VH} {from_ : List PS} {A_from : Option Addr} {c_from : Nat} {hs_from_ : List VH} {n_own : Nat} {n_from_ : Nat} {K : PS → Er → Prop} (hG : GOK S w) (hS3 : 3 ∈ S) (hS7 : 7 ∈ S) (hown : Rd vv w A_own c_own hs_own) (hn_own : n_own = own.length) (hr_own : RelD deV w hs_own own) (hfrom_ : Rd vv w A_from c_from hs_from_) (hn_from_ : n_from_ = from_.length) (hr_from_ : RelD deS w hs_from_ from_) (H : M_deps_New order own from_ K) : Fn Tryd.prog 16 ⟨[.int .i64 order, .slice A_own n_own c_own, .slice A_from n_from_ c_from]⟩ w (fun v w' => w.grownBy w' none ∧ ∃ (v_r0 : OV), ∃ (F_r0 : Nat → Prop), ∃ (r0 : PS), ∃ (v_r1 : Value), ∃ (r1 : Er), v = .tuple #[v_r0.1, v_r1] ∧ RelD deS w' [(v_r0, F_r0)] [r0] ∧ (∀ p : Option Nat, Lt p w.heap.size → DnD deV hs_own own p → DnD deS hs_from_ from_ p → DnD deS [(v_r0, F_r0)] [r0] p) ∧ (r0 ≠ PS.nil → w.heap.size ≤ r0.id) ∧ ErrR S w' v_r1 r1 ∧ K r0 r1) := by
  subst hn_own
  subst hn_from_
  unfold M_deps_New at H
  refine Fn.enter (by kernel_rfl) Tryd.func16 rfl Tryd.ntmps16 rfl ?_
  replace H := H (by rw [← hr_own.1]; exact Nat.le_trans hown.cap hown.max)
  replace H := H (by rw [← hr_from_.1]; exact Nat.le_trans hfrom_.cap hfrom_.max)
  refine WC.seq ?_
  refine WC.region ?_
  have hv1 : RelD deS w [(pnil, noF)] [PS.nil] := deS_nil
  refine WL.y rfl (Yld.pure tab_ok rfl) ?_
  refine WL.y rfl (Yld.pure tab_ok rfl) ?_
  refine WL.nil (WX.then_normal ?_)
  refine WC.seq ?_
  refine WC.seq ?_
  refine WC.region ?_
  refine WL.y rfl (Yld.pure tab_ok rfl) ?_
  refine WL.y rfl (Yld.pure tab_ok rfl) ?_
  refine WL.y rfl (Yld.pure tab_ok rfl) ?_
  refine WL.midF 3 (fun L' w' => ∃ q1 : Bool, L' = [(24, .bool q1), (0, .int .i64 order), (1, .slice A_own own.length c_own), (2, .slice A_from from_.length c_from)] ∧ ((decide (order < (1 : Int))) || (decide ((3 : Int) < order))) = q1 ∧ w = w') ?_ (fun hQ => ?_)
  · rintro _ _ ⟨q1, rfl, rfl, rfl⟩
    refine WL.nil (WX.then_normal ?_)
    refine WC.cond rfl (fun b1 => ?_) (fun b1 => ?_)
    · replace H := H.1 (b1)
      refine WC.seq ?_
      refine WC.quiet mixed (by kernel_rfl) ?_
      obtain ⟨vE1, _, hE1⟩ := GOK.get hG 3 1 hS3 rfl rfl
      refine WQ.y rfl (Yld.cell tab_ok (ErrR.cell hE1 rfl) rfl rfl) ?_
      have hv2 : RelD deS w [(pnil, noF)] [PS.nil] := deS_nil
      refine WQ.y rfl (Yld.pure tab_ok rfl) ?_
      refine WQ.y rfl (Yld.pure tab_ok rfl) ?_
      refine WQ.nil (WX.then_normal ?_)
      refine WC.ret (WX.then_ret ?_)
      exact WX.ret2 rfl rfl rfl ⟨(gr_refl _ _), pnil, noF, PS.nil, vE1, (Er.e 3), rfl, hv2, (fun p_ hp_ v0_ v1_ => deS_nilD), (fun h_ => absurd rfl h_), hE1, H⟩
    · replace H := H.2 (b1)
      refine WC.skip (WX.then_normal ?_)
      refine WC.seq ?_
      refine WC.seq ?_
      refine WC.region ?_
      refine WL.y rfl (Yld.pure tab_ok rfl) ?_
      refine WL.call rfl rfl (W_val_Light hown rfl hr_own H) ?_
      rintro _ w1 ⟨hg1, t27, rfl, H⟩
      have gr1 := hg1
      refine WL.y rfl (Yld.pure tab_ok rfl) ?_
      refine WL.nil (WX.then_normal ?_)
      refine WC.cond rfl (fun b2 => ?_) (fun b2 => ?_)
      · replace H := H.1 (b2)
        refine WC.seq ?_
        refine WC.quiet mixed (by kernel_rfl) ?_
        obtain ⟨vE2, _, hE2⟩ := GOK.get (hG.grown gr1) 7 0 hS7 rfl rfl
        refine WQ.y rfl (Yld.cell tab_ok (ErrR.cell hE2 rfl) rfl rfl) ?_
        have hv3 : RelD deS w1 [(pnil, noF)] [PS.nil] := deS_nil
        refine WQ.y rfl (Yld.pure tab_ok rfl) ?_
        refine WQ.y rfl (Yld.pure tab_ok rfl) ?_
        refine WQ.nil (WX.then_normal ?_)
        refine WC.ret (WX.then_ret ?_)
        exact WX.ret2 rfl rfl rfl ⟨gr1, pnil, noF, PS.nil, vE2, (Er.e 7), rfl, hv3, (fun p_ hp_ v0_ v1_ => deS_nilD), (fun h_ => absurd rfl h_), hE2, H⟩
      · replace H := H.2 (b2)
        refine WC.skip (WX.then_normal ?_)
        refine WC.seq ?_
        refine WC.region ?_
        refine WL.y rfl (Yld.pure tab_ok rfl) ?_
        refine WL.y rfl (Yld.pure tab_ok rfl) ?_
        refine WL.call rfl rfl (W_slices_Clone_pdeps_Set_pdeps_Set (hfrom_.grown gr1) rfl (hr_from_.grown gr1) H) ?_
        rintro _ w2 ⟨hg2, t32, A_t32, c_t32, hs_t32, rfl, ht32, hr_t32, ho1, dj1, H⟩
        have hb1 := ht32.ge'
        have k1 := ht32.base (fun g hg => Nat.le_trans (size_le gr1) (hb1 g hg))
        have gr2 := gr_trans gr1 hg2
        refine WL.y rfl (Yld.struct (us := [.int .i64 order, .slice none 0 0, .slice none 0 0, .slice A_t32 t32.length c_t32, .int .i64 (0 : Int), .bool true]) zero83 places83 rfl rfl) ?_
        refine WL.box (us := [.int .i64 order, .slice none 0 0, .slice none 0 0, .slice A_t32 t32.length c_t32, .int .i64 (0 : Int), .bool true]) rfl rfl rfl (fun g1 w3 hB1 hg3 hl1 => ?_)
        have gr3 := gr_trans gr2 hg3
        have k2 := k1.grown hg3
        have k3 := hr_t32.grown hg3
        refine WL.y rfl (Yld.pure tab_ok rfl) ?_
        refine WL.nil (WX.then_normal ?_)
        refine WC.seq ?_
        refine WC.region ?_
        refine WL.putw wants_none rfl (Eff.makeMap vs okS vB) ?_
        rintro _ w4 ⟨rfl, hB2, hg4⟩
        obtain ⟨g_met, hl2⟩ : ∃ g, g = w3.heap.size := ⟨_, rfl⟩
        rw [← hl2] at hB2
        rw [← hl2]
        have gr4 := gr_trans gr3 hg4
        have k4 := k2.grown hg4
        have k5 := k3.grown hg4
        have k6 := hB1.g0 hg4
        refine WL.y rfl (Yld.pure tab_ok rfl) ?_
        refine WL.nil (WX.then_normal ?_)
        refine WC.seq ?_
        refine WC.seq ?_
        refine WC.region ?_
        refine WL.y rfl (Yld.pure tab_ok rfl) ?_
        refine WL.y rfl (Yld.pure tab_ok rfl) ?_
        refine WL.y rfl (Yld.pure tab_ok rfl) ?_
        refine WL.nil (WX.then_normal ?_)
        refine WC.block ?_
        obtain ⟨I1, mu1, h0_1, HR1⟩ := H
        refine WC.loopF (fun n' L' w' => ∃ (t38 : Int), ∃ (t341 : List PV), ∃ (A_t341 : Option Addr), ∃ (c_t341 : Nat), ∃ (n_t341 : Nat), ∃ (hs_t341 : List VH), ∃ (t342 : List (List UInt8)), ∃ (A_t342 : Option Addr), ∃ (c_t342 : Nat), ∃ (n_t342 : Nat), ∃ (met : List (List UInt8 × Bool)), n' = mu1 t38 t341 t342 met ∧ L' = [(0, .int .i64 order), (1, .slice A_own own.length c_own), (2, .slice A_from from_.length c_from), (8, .pointer (some ⟨g1, 0, none⟩)), (9, .map (some g_met)), (36, .slice A_own own.length c_own), (37, .int .i64 (own.length : Int)), (38, .int .i64 t38)] ∧ I1 t38 t341 t342 met ∧ n_t341 = t341.length ∧ n_t342 = t342.length ∧ w.grownBy w' none ∧ Own vv w' w.heap.size 36 A_t32 c_t32 hs_t32 ∧ RelD deS w' hs_t32 t32 ∧ Bl w' g1 83 [.int .i64 order, .slice A_t341 n_t341 c_t341, .slice A_t342 n_t342 c_t342, .slice A_t32 t32.length c_t32, .int .i64 (0 : Int), .bool true] ∧ MapB vs okS vB w' g_met met ∧ Own vv w' w.heap.size 41 A_t341 c_t341 hs_t341 ∧ RelD deV w' hs_t341 t341 ∧ Own vs w' w.heap.size 9 A_t342 c_t342 t342 ∧ Dj (blk A_t32) (some g1) ∧ Dj (blk A_t32) (some g_met) ∧ Dj (blk A_t32) (blk A_t341) ∧ Dj (blk A_t32) (blk A_t342) ∧ DnD deS hs_t32 t32 (blk A_t32) ∧ DnD deS hs_t32 t32 (some g1) ∧ DnD deS hs_t32 t32 (some g_met) ∧ DnD deS hs_t32 t32 (blk A_t341) ∧ DnD deS hs_t32 t32 (blk A_t342) ∧ Dj (some g1) (some g_met) ∧ Dj (some g1) (blk A_t341) ∧ Dj (some g1) (blk A_t342) ∧ Dj (some g_met) (blk A_t341) ∧ Dj (some g_met) (blk A_t342) ∧ Dj (blk A_t341) (blk A_t342) ∧ DnD deV hs_t341 t341 (blk A_t32) ∧ DnD deV hs_t341 t341 (some g1) ∧ DnD deV hs_t341 t341 (some g_met) ∧ DnD deV hs_t341 t341 (blk A_t341) ∧ DnD deV hs_t341 t341 (blk A_t342) ∧ OrD (fun p => DnD deV hs_own own p ∧ DnD deS hs_from_ from_ p) deV hs_t341 t341 w.heap.size) _ _ ⟨(0 : Int), [], none, 0, 0, [], [], none, 0, 0, ([] : List (List UInt8 × Bool)), rfl, rfl, h0_1, rfl, rfl, gr4, k4, k5, k6, hB2, (Own.nil vv w4 w.heap.size 41), (RelD.nil (d := deV) (w := w4)), (Own.nil vs w4 w.heap.size 9), (Dj.new k1.lt' (Ge.box hl1)), (Dj.new k2.lt' (Ge.box (Nat.le_of_eq hl2.symm))), Dj.nr, Dj.nr, dj1, (hr_t32.new (Ge.box hl1)), (k3.new (Ge.box (Nat.le_of_eq hl2.symm))), (DnD.none k5), (DnD.none k5), (Dj.new hB1.lt' (Ge.box (Nat.le_of_eq hl2.symm))), Dj.nr, Dj.nr, Dj.nr, Dj.nr, Dj.nl, DnD.nil, DnD.nil, DnD.nil, DnD.nil, DnD.nil, (fun p_ hp_ q_ => (DnD.nil (d := deV)))⟩ (by repeat (first | exact Sub.nil | refine Sub.cons rfl ?_)) ?_
        clear h0_1
        rintro _ _ w5 ⟨t38, t341, A_t341, c_t341, n_t341, hs_t341, t342, A_t342, c_t342, n_t342, met, rfl, rfl, hI1, rfl, rfl, gr5, k7, k8, k9, k10, k11, k12, k13, dj2, dj3, dj4, dj5, dj6, dj7, dj8, dj9, dj10, dj11, dj12, dj13, dj14, dj15, dj16, dj17, dj18, dj19, dj20, dj21, or1⟩
        have H := HR1 t38 t341 t342 met hI1
        refine WC.seq ?_
        refine WC.region ?_
        refine WL.y rfl (Yld.pure tab_ok rfl) ?_
        refine WL.nil (WX.then_normal ?_)
        refine WC.seq ?_
        refine WC.cond rfl (fun b3 => ?_) (fun b3 => ?_)
        · replace H := H.1 (of_decide_eq_true b3)
          refine WC.skip (WX.then_normal ?_)
          refine WC.seq ?_
          obtain ⟨J1, H, hJ1⟩ := H
          refine WC.midF (fun L' w' => ∃ (t3412 : List PV), ∃ (A_t3412 : Option Addr), ∃ (c_t3412 : Nat), ∃ (n_t3412 : Nat), ∃ (hs_t3412 : List VH), ∃ (t3422 : List (List UInt8)), ∃ (A_t3422 : Option Addr), ∃ (c_t3422 : Nat), ∃ (n_t3422 : Nat), ∃ (m : List (List UInt8 × Bool)), L' = [(0, .int .i64 order), (1, .slice A_own own.length c_own), (2, .slice A_from from_.length c_from), (8, .pointer (some ⟨g1, 0, none⟩)), (9, .map (some g_met)), (36, .slice A_own own.length c_own), (37, .int .i64 (own.length : Int)), (38, .int .i64 t38)] ∧ J1 t3412 t3422 m ∧ n_t3412 = t3412.length ∧ n_t3422 = t3422.length ∧ w.grownBy w' none ∧ Own vv w' w.heap.size 36 A_t32 c_t32 hs_t32 ∧ RelD deS w' hs_t32 t32 ∧ Bl w' g1 83 [.int .i64 order, .slice A_t3412 n_t3412 c_t3412, .slice A_t3422 n_t3422 c_t3422, .slice A_t32 t32.length c_t32, .int .i64 (0 : Int), .bool true] ∧ MapB vs okS vB w' g_met m ∧ Own vv w' w.heap.size 41 A_t3412 c_t3412 hs_t3412 ∧ RelD deV w' hs_t3412 t3412 ∧ Own vs w' w.heap.size 9 A_t3422 c_t3422 t3422 ∧ Dj (blk A_t32) (some g1) ∧ Dj (blk A_t32) (some g_met) ∧ Dj (blk A_t32) (blk A_t3412) ∧ Dj (blk A_t32) (blk A_t3422) ∧ DnD deS hs_t32 t32 (blk A_t32) ∧ DnD deS hs_t32 t32 (some g1) ∧ DnD deS hs_t32 t32 (some g_met) ∧ DnD deS hs_t32 t32 (blk A_t3412) ∧ DnD deS hs_t32 t32 (blk A_t3422) ∧ Dj (some g1) (some g_met) ∧ Dj (some g1) (blk A_t3412) ∧ Dj (some g1) (blk A_t3422) ∧ Dj (some g_met) (blk A_t3412) ∧ Dj (some g_met) (blk A_t3422) ∧ Dj (blk A_t3412) (blk A_t3422) ∧ DnD deV hs_t3412 t3412 (blk A_t32) ∧ DnD deV hs_t3412 t3412 (some g1) ∧ DnD deV hs_t3412 t3412 (some g_met) ∧ DnD deV hs_t3412 t3412 (blk A_t3412) ∧ DnD deV hs_t3412 t3412 (blk A_t3422) ∧ OrD (fun p => DnD deV hs_own own p ∧ DnD deS hs_from_ from_ p) deV hs_t3412 t3412 w.heap.size) ?_ (fun hQ => ?_)
          · clear H
            rintro _ w6 ⟨t3412, A_t3412, c_t3412, n_t3412, hs_t3412, t3422, A_t3422, c_t3422, n_t3422, m, rfl, H, rfl, rfl, gr6, k14, k15, k16, k17, k18, k19, k20, dj22, dj23, dj24, dj25, dj26, dj27, dj28, dj29, dj30, dj31, dj32, dj33, dj34, dj35, dj36, dj37, dj38, dj39, dj40, dj41, or2⟩
            replace H := hJ1 t3412 t3422 m H
            refine WX.then_normal ?_
            refine WC.region ?_
            obtain ⟨h1, H⟩ := H
            refine WL.y rfl (Yld.add rfl rfl h1) ?_
            refine WL.y rfl (Yld.pure tab_ok rfl) ?_
            refine WL.nil ?_
            exact WX.roundF _ ⟨t38 + (1 : Int), t3412, A_t3412, c_t3412, t3412.length, hs_t3412, t3422, A_t3422, c_t3422, t3422.length, m, rfl, rfl, H.1, rfl, rfl, gr6, k14, k15, k16, k17, k18, k19, k20, dj22, dj23, dj24, dj25, dj26, dj27, dj28, dj29, dj30, dj31, dj32, dj33, dj34, dj35, dj36, dj37, dj38, dj39, dj40, dj41, or2⟩ (by repeat (first | exact Sub.nil | refine Sub.cons rfl ?_)) H.2
          · clear hJ1
            refine WC.block ?_
            refine WC.seq ?_
            refine WC.region ?_
            obtain ⟨h2, H⟩ := H
            refine WL.y rfl (Yld.iaddrW tab_ok (hown.grown gr5) rfl rfl hr_own.1.symm rfl h2.1 h2.2) ?_
            obtain ⟨⟨v_el, F_el⟩, eh1, hR1⟩ := RelD.at (hr_own.grown gr5) vh0 PV.nil (j := t38.toNat) (Nat.lt_of_lt_of_eq (iltN h2 hr_own.1.symm) (hr_own.grown gr5).1)
            have hv4 : RelD deV w5 [(v_el, F_el)] [own.getD t38.toNat PV.nil] := RelD.cons hR1 RelD.nil
            refine WL.y rfl (Yld.to (v := v_el.1) (Yld.iload vh0 tab_ok (hown.grown gr5) rfl rfl (iltN h2 hr_own.1.symm)) (congrArg vv eh1)) ?_
            refine WL.y rfl (Yld.pure tab_ok rfl) ?_
            refine WL.nil (WX.then_normal ?_)
            refine WC.seq ?_
            refine WC.region ?_
            refine WL.y rfl (Yld.pure tab_ok rfl) ?_
            refine WL.call rfl rfl (W_val_Key (hG.grown gr5) hS3 hS7 hv4 H) ?_
            rintro _ w7 ⟨hg5, t440, v_t441, t441, rfl, ht441, H⟩
            have gr7 := gr_trans gr5 hg5
            have k21 := k7.grown hg5
            have k22 := k8.grown hg5
            have k23 := k9.g0 hg5
            have k24 := k10.g0 hg5
            have k25 := k11.grown hg5
            have k26 := k12.grown hg5
            have k27 := k13.grown hg5
            have k28 := hv4.grown hg5
            refine WL.y rfl (Yld.pure tab_ok rfl) ?_
            refine WL.y rfl (Yld.pure tab_ok rfl) ?_
            refine WL.y rfl (Yld.pure tab_ok rfl) ?_
            refine WL.y rfl (Yld.pure tab_ok rfl) ?_
            refine WL.y rfl (Yld.pure tab_ok rfl) ?_
            refine WL.nil (WX.then_normal ?_)
            refine WC.seq ?_
            refine WC.seq ?_
            refine WC.region ?_
            refine WL.y rfl (Yld.pure tab_ok rfl) ?_
            refine WL.y rfl (Yld.errneq Tryd.underlying34 ht441 rfl) ?_
            refine WL.nil (WX.then_normal ?_)
            refine WC.cond rfl (fun b4 => ?_) (fun b4 => ?_)
            · replace H := H.1 (nd_true b4)
              refine WC.seq ?_
              refine WC.region ?_
              refine WL.y rfl (Yld.pure tab_ok rfl) ?_
              have hv5 : RelD deS w7 [(pnil, noF)] [PS.nil] := deS_nil
              refine WL.y rfl (Yld.pure tab_ok rfl) ?_
              refine WL.y rfl (Yld.pure tab_ok rfl) ?_
              refine WL.nil (WX.then_normal ?_)
              refine WC.ret (WX.then_ret (WX.block_ret (WX.then_ret (WX.then_ret (WX.block_ret (WX.then_ret ?_))))))
              exact WX.ret2 rfl rfl rfl ⟨gr7, pnil, noF, PS.nil, v_t441, t441, rfl, hv5, (fun p_ hp_ v0_ v1_ => deS_nilD), (fun h_ => absurd rfl h_), ht441, H⟩
            · replace H := H.2 (nd_false b4)
              refine WC.skip (WX.then_normal ?_)
              refine WC.seq ?_
              refine WC.region ?_
              refine WL.y rfl (Yld.pure tab_ok rfl) ?_
              refine WL.y rfl (Yld.pure tab_ok rfl) ?_
              obtain ⟨h3, H⟩ := H
              refine WL.y rfl (Yld.look (z := false) (keyF_s Tryd.underlying9) Tryd.underlying76 (fun _ => by kernel_rfl) k24 rfl rfl h3) ?_
              refine WL.y rfl (Yld.pure tab_ok rfl) ?_
              refine WL.nil (WX.then_normal ?_)
              refine WC.cond rfl (fun b5 => ?_) (fun b5 => ?_)
              · replace H := H.1 (b5)
                refine WC.seq ?_
                refine WC.region ?_
                refine WL.y rfl (Yld.pure tab_ok rfl) ?_
                refine WL.y rfl (Yld.pure tab_ok rfl) ?_
                obtain ⟨h4, H⟩ := H
                refine WL.ef0 (Ef0.mapPut (keyF_s Tryd.underlying9) Tryd.underlying76 k24 h4.2 rfl rfl h4.1 rfl) ?_
                rintro w8 ⟨hB3, hg6⟩
                have gr8 := gr_mod gr7 hg6 (Ge.le (Ge.box (Nat.le_of_eq hl2.symm)) (size_le gr3))
                have k29 := k21.go hg6 dj3
                have k30 := k22.go hg6 dj8
                have k31 := k23.go hg6 dj11
                have k32 := k25.go hg6 dj14.symm
                have k33 := k26.go hg6 dj19
                have k34 := k27.go hg6 dj15.symm
                have k35 := k28.go hg6 (DnD.cons (DnD.at (hr_own.new (Ge.le (Ge.box (Nat.le_of_eq hl2.symm)) (size_le gr3))) (hr_own.grown gr5).1 (Nat.lt_of_lt_of_eq (iltN h2 hr_own.1.symm) (hr_own.grown gr5).1) eh1) DnD.nil)
                refine WL.nil (WX.then_normal ?_)
                obtain ⟨J2, H, hJ2⟩ := H
                refine WC.hoist 1 mixed rfl rfl (by kernel_rfl) ?_
                refine WR.ordersF 16 (fun k => !(Nat.beq k 7 || Nat.beq k 8 || Nat.beq k 14 || Nat.beq k 15)) (fun w' => GrL [(blk A_t341), (blk A_t342)] w8 w') (fun L' w' => ∃ (A_t64 : Option Addr), ∃ (c_t64 : Nat), ∃ (A_t71 : Option Addr), ∃ (c_t71 : Nat), L' = [(0, .int .i64 order), (1, .slice A_own own.length c_own), (2, .slice A_from from_.length c_from), (8, .pointer (some ⟨g1, 0, none⟩)), (9, .map (some g_met)), (36, .slice A_own own.length c_own), (37, .int .i64 (own.length : Int)), (38, .int .i64 t38), (56, .pointer (some ⟨g1, 0, none⟩)), (57, .pointer (some ⟨g1, 0, none⟩)), (64, .slice A_t64 ((t341 ++ ([own.getD t38.toNat PV.nil] : List PV)).length) c_t64), (71, .slice A_t71 ((t342 ++ ([t440] : List (List UInt8))).length) c_t71)] ∧ J2 ∧ w.grownBy w' none ∧ Own vv w' w.heap.size 36 A_t32 c_t32 hs_t32 ∧ RelD deS w' hs_t32 t32 ∧ Bl w' g1 83 [.int .i64 order, .slice A_t341 t341.length c_t341, .slice A_t342 t342.length c_t342, .slice A_t32 t32.length c_t32, .int .i64 (0 : Int), .bool true] ∧ MapB vs okS vB w' g_met (mput met t440 true) ∧ RelD deV w' hs_t341 t341 ∧ Own vv w' w.heap.size 41 A_t64 c_t64 (hs_t341 ++ ([(v_el, F_el)] : List VH)) ∧ RelD deV w' (hs_t341 ++ ([(v_el, F_el)] : List VH)) (t341 ++ ([own.getD t38.toNat PV.nil] : List PV)) ∧ Own vs w' w.heap.size 9 A_t71 c_t71 (t342 ++ ([t440] : List (List UInt8))) ∧ Dj (blk A_t32) (blk A_t64) ∧ Dj (blk A_t32) (blk A_t71) ∧ DnD deS hs_t32 t32 (blk A_t64) ∧ DnD deS hs_t32 t32 (blk A_t71) ∧ Dj (some g1) (blk A_t64) ∧ Dj (some g1) (blk A_t71) ∧ Dj (some g_met) (blk A_t64) ∧ Dj (some g_met) (blk A_t71) ∧ DnD deV hs_t341 t341 (blk A_t64) ∧ DnD deV hs_t341 t341 (blk A_t71) ∧ Dj (blk A_t64) (blk A_t71) ∧ DnD deV (hs_t341 ++ ([(v_el, F_el)] : List VH)) (t341 ++ ([own.getD t38.toNat PV.nil] : List PV)) (blk A_t32) ∧ DnD deV (hs_t341 ++ ([(v_el, F_el)] : List VH)) (t341 ++ ([own.getD t38.toNat PV.nil] : List PV)) (some g1) ∧ DnD deV (hs_t341 ++ ([(v_el, F_el)] : List VH)) (t341 ++ ([own.getD t38.toNat PV.nil] : List PV)) (some g_met) ∧ DnD deV (hs_t341 ++ ([(v_el, F_el)] : List VH)) (t341 ++ ([own.getD t38.toNat PV.nil] : List PV)) (blk A_t64) ∧ DnD deV (hs_t341 ++ ([(v_el, F_el)] : List VH)) (t341 ++ ([own.getD t38.toNat PV.nil] : List PV)) (blk A_t71) ∧ OrD (fun p => DnD deV hs_own own p ∧ DnD deS hs_from_ from_ p) deV (hs_t341 ++ ([(v_el, F_el)] : List VH)) (t341 ++ ([own.getD t38.toNat PV.nil] : List PV)) w.heap.size) (by kernel_rfl) (fun w' h => GrL.eqv (GrL.refl _) h) ?_ ?_
                · clear H
                  rintro _ w9 ⟨A_t64, c_t64, A_t71, c_t71, rfl, H, gr9, k36, k37, k38, k39, k40, k41, k42, k43, dj42, dj43, dj44, dj45, dj46, dj47, dj48, dj49, dj50, dj51, dj52, dj53, dj54, dj55, dj56, dj57, or3⟩
                  replace H := hJ2  H
                  refine WL.y rfl (Yld.pure tab_ok rfl) ?_
                  refine WL.y rfl (Yld.fa0 (o := 1) (by kernel_rfl) rfl) ?_
                  refine WL.store1 one32 rfl rfl rfl k38 (by simp) (fun w10 hB5 hg7 => ?_)
                  have hB4 : Bl w10 g1 83 [.int .i64 order, .slice A_t64 ((t341 ++ ([own.getD t38.toNat PV.nil] : List PV)).length) c_t64, .slice A_t342 t342.length c_t342, .slice A_t32 t32.length c_t32, .int .i64 (0 : Int), .bool true] := hB5
                  have gr10 := gr_mod gr9 hg7 (Ge.le (Ge.box hl1) (size_le gr2))
                  have k44 := k36.go hg7 dj2
                  have k45 := k37.go hg7 dj7
                  have k46 := k39.go hg7 dj11.symm
                  have k47 := k41.go hg7 dj46.symm
                  have k48 := k42.go hg7 dj54
                  have k49 := k43.go hg7 dj47.symm
                  refine WL.y rfl (Yld.pure tab_ok rfl) ?_
                  refine WL.y rfl (Yld.fa0 (o := 2) (by kernel_rfl) rfl) ?_
                  refine WL.store1 one38 rfl rfl rfl hB4 (by simp) (fun w11 hB7 hg8 => ?_)
                  have hB6 : Bl w11 g1 83 [.int .i64 order, .slice A_t64 ((t341 ++ ([own.getD t38.toNat PV.nil] : List PV)).length) c_t64, .slice A_t71 ((t342 ++ ([t440] : List (List UInt8))).length) c_t71, .slice A_t32 t32.length c_t32, .int .i64 (0 : Int), .bool true] := hB7
                  have gr11 := gr_mod gr10 hg8 (Ge.le (Ge.box hl1) (size_le gr2))
                  have k50 := k44.go hg8 dj2
                  have k51 := k45.go hg8 dj7
                  have k52 := k46.go hg8 dj11.symm
                  have k53 := k47.go hg8 dj46.symm
                  have k54 := k48.go hg8 dj54
                  have k55 := k49.go hg8 dj47.symm
                  refine WL.nil (WX.qn (WX.block_normal ?_))
                  exact WX.weaken (by repeat (first | exact Sub.nil | refine Sub.cons rfl ?_)) (hQ _ _ ⟨t341 ++ ([own.getD t38.toNat PV.nil] : List PV), A_t64, c_t64, (t341 ++ ([own.getD t38.toNat PV.nil] : List PV)).length, hs_t341 ++ ([(v_el, F_el)] : List VH), t342 ++ ([t440] : List (List UInt8)), A_t71, c_t71, (t342 ++ ([t440] : List (List UInt8))).length, mput met t440 true, rfl, H, rfl, rfl, gr11, k50, k51, hB6, k52, k53, k54, k55, dj2, dj3, dj42, dj43, dj6, dj7, dj8, dj44, dj45, dj11, dj46, dj47, dj48, dj49, dj52, dj53, dj54, dj55, dj56, dj57, or3⟩)
                · clear hJ2
                  refine WA.y 1 rfl (by kernel_rfl) rfl (fun w' hw' => Yld.pure tab_ok rfl) ?_
                  refine WA.y 0 rfl (by kernel_rfl) rfl (fun w' hw' => Yld.pure tab_ok rfl) ?_
                  refine WA.y 2 rfl (by kernel_rfl) rfl (fun w' hw' => Yld.pure tab_ok rfl) ?_
                  refine WA.y 3 rfl (by kernel_rfl) rfl (fun w' hw' => Yld.pure tab_ok rfl) ?_
                  refine WA.y 4 rfl (by kernel_rfl) rfl (fun w' hw' => Yld.fa0 (o := 1) (by kernel_rfl) rfl) ?_
                  refine WA.y 5 rfl (by kernel_rfl) rfl (fun w' hw' => Yld.bload tab_ok (Bl.goL k31 hw' (apC dj12 (apC dj13 apN))) rfl rfl rfl) ?_
                  refine WA.y 6 rfl (by kernel_rfl) rfl (fun w' hw' => Yld.pure tab_ok rfl) ?_
                  refine WA.y 9 rfl (by kernel_rfl) rfl (fun w' hw' => Yld.pure tab_ok rfl) ?_
                  refine WA.y 10 rfl (by kernel_rfl) rfl (fun w' hw' => Yld.pure tab_ok rfl) ?_
                  refine WA.y 11 rfl (by kernel_rfl) rfl (fun w' hw' => Yld.fa0 (o := 2) (by kernel_rfl) rfl) ?_
                  refine WA.y 12 rfl (by kernel_rfl) rfl (fun w' hw' => Yld.bload tab_ok (Bl.goL k31 hw' (apC dj12 (apC dj13 apN))) rfl rfl rfl) ?_
                  refine WA.y 13 rfl (by kernel_rfl) rfl (fun w' hw' => Yld.pure tab_ok rfl) ?_
                  refine WA.split [7, 14] (by kernel_rfl) (by kernel_rfl) ⟨?_, ?_⟩
                  · refine WI.put rfl rfl rfl (Eff.lit (us := [v_el.1]) tab_ok rfl rfl (all1c v_el.2 all1n) rfl (by omega)) (fun v w' ⟨_, _, h⟩ => GrL.add0 (GrL.refl _) h) ?_
                    rintro _ w12 ⟨rfl, hB8, hg9⟩
                    obtain ⟨g2, hl3⟩ : ∃ g, g = w8.heap.size := ⟨_, rfl⟩
                    rw [← hl3] at hB8
                    rw [← hl3]
                    have hO1 : Own vv w12 w.heap.size 41 (some ⟨g2, 0, none⟩) 1 ([(v_el, F_el)] : List VH) := Own.ofBl hB8 (Nat.le_trans (size_le gr8) (Nat.le_of_eq hl3.symm)) (by simp [maxLen]) rfl
                    have gr12 := gr_trans gr8 hg9
                    have k56 := k29.grown hg9
                    have k57 := k30.grown hg9
                    have k58 := k31.g0 hg9
                    have k59 := hB3.g0 hg9
                    have k60 := k32.grown hg9
                    have k61 := k33.grown hg9
                    have k62 := k34.grown hg9
                    have k63 := k35.grown hg9
                    have hr1 : RelD deV w12 ([(v_el, F_el)] : List VH) ([own.getD t38.toNat PV.nil] : List PV) := (RelD.cons (RelD.one k63) RelD.nil)
                    have nd1 : OrD (fun p => DnD deV hs_own own p ∧ DnD deS hs_from_ from_ p) deV ([(v_el, F_el)] : List VH) ([own.getD t38.toNat PV.nil] : List PV) w.heap.size := (OrD.cons (d := deV) (fun p_ hp_ q_ => (DnD.one (DnD.cons (DnD.at (q_.1) (hr_own.grown gr5).1 (Nat.lt_of_lt_of_eq (iltN h2 hr_own.1.symm) (hr_own.grown gr5).1) eh1) DnD.nil))) (fun _ _ _ => DnD.nil))
                    have dj58 : DnD deV ([(v_el, F_el)] : List VH) ([own.getD t38.toNat PV.nil] : List PV) (blk A_t32) := (DnD.cons (d := deV) (DnD.one (DnD.cons (DnD.at (hr_own.new k7.ge') (hr_own.grown gr5).1 (Nat.lt_of_lt_of_eq (iltN h2 hr_own.1.symm) (hr_own.grown gr5).1) eh1) DnD.nil)) DnD.nil)
                    have dj59 : DnD deV ([(v_el, F_el)] : List VH) ([own.getD t38.toNat PV.nil] : List PV) (some g1) := (DnD.cons (d := deV) (DnD.one (DnD.cons (DnD.at (hr_own.new (Ge.le (Ge.box hl1) (size_le gr2))) (hr_own.grown gr5).1 (Nat.lt_of_lt_of_eq (iltN h2 hr_own.1.symm) (hr_own.grown gr5).1) eh1) DnD.nil)) DnD.nil)
                    have dj60 : DnD deV ([(v_el, F_el)] : List VH) ([own.getD t38.toNat PV.nil] : List PV) (some g_met) := (DnD.cons (d := deV) (DnD.one (DnD.cons (DnD.at (hr_own.new (Ge.le (Ge.box (Nat.le_of_eq hl2.symm)) (size_le gr3))) (hr_own.grown gr5).1 (Nat.lt_of_lt_of_eq (iltN h2 hr_own.1.symm) (hr_own.grown gr5).1) eh1) DnD.nil)) DnD.nil)
                    have dj61 : DnD deV ([(v_el, F_el)] : List VH) ([own.getD t38.toNat PV.nil] : List PV) (blk A_t341) := (DnD.cons (d := deV) (DnD.one (DnD.cons (DnD.at (hr_own.new k11.ge') (hr_own.grown gr5).1 (Nat.lt_of_lt_of_eq (iltN h2 hr_own.1.symm) (hr_own.grown gr5).1) eh1) DnD.nil)) DnD.nil)
                    have dj62 : DnD deV ([(v_el, F_el)] : List VH) ([own.getD t38.toNat PV.nil] : List PV) (blk A_t342) := (DnD.cons (d := deV) (DnD.one (DnD.cons (DnD.at (hr_own.new k13.ge') (hr_own.grown gr5).1 (Nat.lt_of_lt_of_eq (iltN h2 hr_own.1.symm) (hr_own.grown gr5).1) eh1) DnD.nil)) DnD.nil)
                    have dj63 : DnD deV ([(v_el, F_el)] : List VH) ([own.getD t38.toNat PV.nil] : List PV) (blk (some ⟨g2, 0, none⟩)) := (DnD.cons (d := deV) (DnD.one (k35.new (Ge.box (Nat.le_of_eq hl3.symm)))) DnD.nil)
                    have gt1 : GrL [(blk A_t341), (blk A_t342)] w8 w12 := GrL.add0 (GrL.refl _) hg9
                    refine WA.split [8, 14] (by kernel_rfl) (by kernel_rfl) ⟨?_, ?_⟩
                    · obtain ⟨h5, H⟩ := H
                      have h6 : ((hs_t341 : List VH).length + ([(v_el, F_el)] : List VH).length) * 16 ≤ 140737488355328 := by rw [k61.1, hr1.1]; exact h5
                      refine WI.put rfl rfl rfl (Eff.append tab_ok rfl One.vv k60 rfl k12.1.symm hO1.rd rfl rfl h6 (applen h6) (size_le gr12)) (fun v w' ⟨_, _, _, _, h, _⟩ => GrL.mod gt1 h (InP.mem (List.Mem.head _))) ?_
                      rintro _ w13 ⟨A_t642, c_t642, rfl, hO2, hg10, hk1⟩
                      have el1 : (hs_t341 ++ ([(v_el, F_el)] : List VH)).length = (t341 ++ ([own.getD t38.toNat PV.nil] : List PV)).length := by rw [List.length_append, List.length_append, k61.1, hr1.1]
                      rw [el1]
                      have gr13 := gr_mod gr12 hg10 k60.ge'
                      have k64 := k56.go hg10 dj4
                      have k65 := k57.go hg10 dj9
                      have k66 := k58.go hg10 dj12
                      have k67 := k59.go hg10 dj14
                      have k68 := k61.go hg10 dj20
                      have k69 := k62.go hg10 dj16.symm
                      have k70 := k63.go hg10 (DnD.cons (DnD.at (hr_own.new k11.ge') (hr_own.grown gr5).1 (Nat.lt_of_lt_of_eq (iltN h2 hr_own.1.symm) (hr_own.grown gr5).1) eh1) DnD.nil)
                      have k71 := hO1.go hg10 ((Dj.new k32.lt' (Ge.box (Nat.le_of_eq hl3.symm))).symm)
                      have k72 := hr1.go hg10 dj61
                      have hr2 : RelD deV w13 (hs_t341 ++ ([(v_el, F_el)] : List VH)) (t341 ++ ([own.getD t38.toNat PV.nil] : List PV)) := RelD.append k68 k72
                      have nd2 : OrD (fun p => DnD deV hs_own own p ∧ DnD deS hs_from_ from_ p) deV (hs_t341 ++ ([(v_el, F_el)] : List VH)) (t341 ++ ([own.getD t38.toNat PV.nil] : List PV)) w.heap.size := OrD.append k61.1 or1 nd1
                      have dj64 : DnD deV (hs_t341 ++ ([(v_el, F_el)] : List VH)) (t341 ++ ([own.getD t38.toNat PV.nil] : List PV)) (blk A_t32) := (DnD.append k61.1 dj17 dj58)
                      have dj65 : DnD deV (hs_t341 ++ ([(v_el, F_el)] : List VH)) (t341 ++ ([own.getD t38.toNat PV.nil] : List PV)) (some g1) := (DnD.append k61.1 dj18 dj59)
                      have dj66 : DnD deV (hs_t341 ++ ([(v_el, F_el)] : List VH)) (t341 ++ ([own.getD t38.toNat PV.nil] : List PV)) (some g_met) := (DnD.append k61.1 dj19 dj60)
                      have dj67 : DnD deV (hs_t341 ++ ([(v_el, F_el)] : List VH)) (t341 ++ ([own.getD t38.toNat PV.nil] : List PV)) (blk A_t342) := (DnD.append k61.1 dj21 dj62)
                      have dj68 : DnD deV (hs_t341 ++ ([(v_el, F_el)] : List VH)) (t341 ++ ([own.getD t38.toNat PV.nil] : List PV)) (blk (some ⟨g2, 0, none⟩)) := (DnD.append k61.1 (k33.new (Ge.box (Nat.le_of_eq hl3.symm))) dj63)
                      have dj69 : DnD deV (hs_t341 ++ ([(v_el, F_el)] : List VH)) (t341 ++ ([own.getD t38.toNat PV.nil] : List PV)) (blk A_t642) := (DnD.append k61.1 (RelD.app k61 dj20 hk1) (RelD.app hr1 dj61 hk1))
                      have gt2 : GrL [(blk A_t341), (blk A_t342)] w8 w13 := GrL.mod gt1 hg10 (InP.mem (List.Mem.head _))
                      refine WA.split [14] (by kernel_rfl) (by kernel_rfl) ?_
                      · refine WI.put rfl rfl rfl (Eff.lit tab_ok rfl rfl (all1c rfl all1n) rfl (by omega)) (fun v w' ⟨_, _, h⟩ => GrL.add0 gt2 h) ?_
                        rintro _ w14 ⟨rfl, hB9, hg11⟩
                        obtain ⟨g_t70, hl4⟩ : ∃ g, g = w13.heap.size := ⟨_, rfl⟩
                        rw [← hl4] at hB9
                        rw [← hl4]
                        have hO3 : Own vs w14 w.heap.size 9 (some ⟨g_t70, 0, none⟩) 1 ([t440] : List (List UInt8)) := Own.ofBl hB9 (Nat.le_trans (size_le gr13) (Nat.le_of_eq hl4.symm)) (by simp [maxLen]) rfl
                        have gr14 := gr_trans gr13 hg11
                        have k73 := k64.grown hg11
                        have k74 := k65.grown hg11
                        have k75 := k66.g0 hg11
                        have k76 := k67.g0 hg11
                        have k77 := k68.grown hg11
                        have k78 := k69.grown hg11
                        have k79 := k70.grown hg11
                        have k80 := k71.grown hg11
                        have k81 := k72.grown hg11
                        have k82 := hO2.grown hg11
                        have k83 := hr2.grown hg11
                        have gt3 : GrL [(blk A_t341), (blk A_t342)] w8 w14 := GrL.add0 gt2 hg11
                        refine WA.split [15] (by kernel_rfl) (by kernel_rfl) ?_
                        · obtain ⟨h7, H⟩ := H
                          refine WI.put rfl rfl rfl (Eff.append tab_ok rfl One.s k78 rfl rfl hO3.rd rfl rfl h7 (applen h7) (size_le gr14)) (fun v w' ⟨_, _, _, _, h, _⟩ => GrL.mod gt3 h (InP.mem (List.Mem.tail _ (List.Mem.head _)))) ?_
                          rintro _ w15 ⟨A_t712, c_t712, rfl, hO4, hg12, hk2⟩
                          have gr15 := gr_mod gr14 hg12 k78.ge'
                          have k84 := k73.go hg12 dj5
                          have k85 := k74.go hg12 dj10
                          have k86 := k75.go hg12 dj13
                          have k87 := k76.go hg12 dj15
                          have k88 := k77.go hg12 dj21
                          have k89 := k79.go hg12 (DnD.cons (DnD.at (hr_own.new k13.ge') (hr_own.grown gr5).1 (Nat.lt_of_lt_of_eq (iltN h2 hr_own.1.symm) (hr_own.grown gr5).1) eh1) DnD.nil)
                          have k90 := k80.go hg12 ((Dj.new k34.lt' (Ge.box (Nat.le_of_eq hl3.symm))).symm)
                          have k91 := k81.go hg12 dj62
                          have k92 := k82.go hg12 (Dj.app dj16 k62.lt' hk1)
                          have k93 := k83.go hg12 dj67
                          have k94 := hO3.go hg12 ((Dj.new k69.lt' (Ge.box (Nat.le_of_eq hl4.symm))).symm)
                          have gt4 : GrL [(blk A_t341), (blk A_t342)] w8 w15 := GrL.mod gt3 hg12 (InP.mem (List.Mem.tail _ (List.Mem.head _)))
                          exact WA.doneF _ (by kernel_rfl) ⟨A_t642, c_t642, A_t712, c_t712, rfl, H, gr15, k84, k85, k86, k87, k88, k92, k93, hO4, (Dj.app dj4.symm k56.lt' hk1).symm, (Dj.app dj5.symm k73.lt' hk2).symm, (RelD.app k57 dj9 hk1), (RelD.app k74 dj10 hk2), (Dj.app dj12.symm k58.lt' hk1).symm, (Dj.app dj13.symm k75.lt' hk2).symm, (Dj.app dj14.symm k59.lt' hk1).symm, (Dj.app dj15.symm k76.lt' hk2).symm, (RelD.app k61 dj20 hk1), (RelD.app k77 dj21 hk2), (Dj.app (Dj.app dj16 k62.lt' hk1).symm k82.lt' hk2).symm, dj64, dj65, dj66, dj69, (RelD.app k83 dj67 hk2), nd2⟩ (by repeat (first | exact Sub.nil | refine Sub.cons rfl ?_))
                    · refine WI.put rfl rfl rfl (Eff.lit tab_ok rfl rfl (all1c rfl all1n) rfl (by omega)) (fun v w' ⟨_, _, h⟩ => GrL.add0 gt1 h) ?_
                      rintro _ w16 ⟨rfl, hB10, hg13⟩
                      obtain ⟨g_t702, hl5⟩ : ∃ g, g = w12.heap.size := ⟨_, rfl⟩
                      rw [← hl5] at hB10
                      rw [← hl5]
                      have hO5 : Own vs w16 w.heap.size 9 (some ⟨g_t702, 0, none⟩) 1 ([t440] : List (List UInt8)) := Own.ofBl hB10 (Nat.le_trans (size_le gr12) (Nat.le_of_eq hl5.symm)) (by simp [maxLen]) rfl
                      have gr16 := gr_trans gr12 hg13
                      have k95 := k56.grown hg13
                      have k96 := k57.grown hg13
                      have k97 := k58.g0 hg13
                      have k98 := k59.g0 hg13
                      have k99 := k60.grown hg13
                      have k100 := k61.grown hg13
                      have k101 := k62.grown hg13
                      have k102 := k63.grown hg13
                      have k103 := hO1.grown hg13
                      have k104 := hr1.grown hg13
                      have gt5 : GrL [(blk A_t341), (blk A_t342)] w8 w16 := GrL.add0 gt1 hg13
                      refine WA.split [8] (by kernel_rfl) (by kernel_rfl) ?_
                      · obtain ⟨h8, H⟩ := H
                        have h9 : ((hs_t341 : List VH).length + ([(v_el, F_el)] : List VH).length) * 16 ≤ 140737488355328 := by rw [k100.1, k104.1]; exact h8
                        refine WI.put rfl rfl rfl (Eff.append tab_ok rfl One.vv k99 rfl k12.1.symm k103.rd rfl rfl h9 (applen h9) (size_le gr16)) (fun v w' ⟨_, _, _, _, h, _⟩ => GrL.mod gt5 h (InP.mem (List.Mem.head _))) ?_
                        rintro _ w17 ⟨A_t643, c_t643, rfl, hO6, hg14, hk3⟩
                        have el2 : (hs_t341 ++ ([(v_el, F_el)] : List VH)).length = (t341 ++ ([own.getD t38.toNat PV.nil] : List PV)).length := by rw [List.length_append, List.length_append, k100.1, k104.1]
                        rw [el2]
                        have gr17 := gr_mod gr16 hg14 k99.ge'
                        have k105 := k95.go hg14 dj4
                        have k106 := k96.go hg14 dj9
                        have k107 := k97.go hg14 dj12
                        have k108 := k98.go hg14 dj14
                        have k109 := k100.go hg14 dj20
                        have k110 := k101.go hg14 dj16.symm
                        have k111 := k102.go hg14 (DnD.cons (DnD.at (hr_own.new k11.ge') (hr_own.grown gr5).1 (Nat.lt_of_lt_of_eq (iltN h2 hr_own.1.symm) (hr_own.grown gr5).1) eh1) DnD.nil)
                        have k112 := k103.go hg14 ((Dj.new k32.lt' (Ge.box (Nat.le_of_eq hl3.symm))).symm)
                        have k113 := k104.go hg14 dj61
                        have k114 := hO5.go hg14 ((Dj.new k60.lt' (Ge.box (Nat.le_of_eq hl5.symm))).symm)
                        have hr3 : RelD deV w17 (hs_t341 ++ ([(v_el, F_el)] : List VH)) (t341 ++ ([own.getD t38.toNat PV.nil] : List PV)) := RelD.append k109 k113
                        have nd3 : OrD (fun p => DnD deV hs_own own p ∧ DnD deS hs_from_ from_ p) deV (hs_t341 ++ ([(v_el, F_el)] : List VH)) (t341 ++ ([own.getD t38.toNat PV.nil] : List PV)) w.heap.size := OrD.append k100.1 or1 nd1
                        have dj70 : DnD deV (hs_t341 ++ ([(v_el, F_el)] : List VH)) (t341 ++ ([own.getD t38.toNat PV.nil] : List PV)) (blk A_t32) := (DnD.append k100.1 dj17 dj58)
                        have dj71 : DnD deV (hs_t341 ++ ([(v_el, F_el)] : List VH)) (t341 ++ ([own.getD t38.toNat PV.nil] : List PV)) (some g1) := (DnD.append k100.1 dj18 dj59)
                        have dj72 : DnD deV (hs_t341 ++ ([(v_el, F_el)] : List VH)) (t341 ++ ([own.getD t38.toNat PV.nil] : List PV)) (some g_met) := (DnD.append k100.1 dj19 dj60)
                        have dj73 : DnD deV (hs_t341 ++ ([(v_el, F_el)] : List VH)) (t341 ++ ([own.getD t38.toNat PV.nil] : List PV)) (blk A_t342) := (DnD.append k100.1 dj21 dj62)
                        have dj74 : DnD deV (hs_t341 ++ ([(v_el, F_el)] : List VH)) (t341 ++ ([own.getD t38.toNat PV.nil] : List PV)) (blk (some ⟨g2, 0, none⟩)) := (DnD.append k100.1 (k33.new (Ge.box (Nat.le_of_eq hl3.symm))) dj63)
                        have dj75 : DnD deV (hs_t341 ++ ([(v_el, F_el)] : List VH)) (t341 ++ ([own.getD t38.toNat PV.nil] : List PV)) (blk (some ⟨g_t702, 0, none⟩)) := (DnD.append k100.1 (k61.new (Ge.box (Nat.le_of_eq hl5.symm))) (hr1.new (Ge.box (Nat.le_of_eq hl5.symm))))
                        have dj76 : DnD deV (hs_t341 ++ ([(v_el, F_el)] : List VH)) (t341 ++ ([own.getD t38.toNat PV.nil] : List PV)) (blk A_t643) := (DnD.append k100.1 (RelD.app k100 dj20 hk3) (RelD.app k104 dj61 hk3))
                        have gt6 : GrL [(blk A_t341), (blk A_t342)] w8 w17 := GrL.mod gt5 hg14 (InP.mem (List.Mem.head _))
                        refine WA.split [15] (by kernel_rfl) (by kernel_rfl) ?_
                        · obtain ⟨h10, H⟩ := H
                          refine WI.put rfl rfl rfl (Eff.append tab_ok rfl One.s k110 rfl rfl k114.rd rfl rfl h10 (applen h10) (size_le gr17)) (fun v w' ⟨_, _, _, _, h, _⟩ => GrL.mod gt6 h (InP.mem (List.Mem.tail _ (List.Mem.head _)))) ?_
                          rintro _ w18 ⟨A_t713, c_t713, rfl, hO7, hg15, hk4⟩
                          have gr18 := gr_mod gr17 hg15 k110.ge'
                          have k115 := k105.go hg15 dj5
                          have k116 := k106.go hg15 dj10
                          have k117 := k107.go hg15 dj13
                          have k118 := k108.go hg15 dj15
                          have k119 := k109.go hg15 dj21
                          have k120 := k111.go hg15 (DnD.cons (DnD.at (hr_own.new k13.ge') (hr_own.grown gr5).1 (Nat.lt_of_lt_of_eq (iltN h2 hr_own.1.symm) (hr_own.grown gr5).1) eh1) DnD.nil)
                          have k121 := k112.go hg15 ((Dj.new k34.lt' (Ge.box (Nat.le_of_eq hl3.symm))).symm)
                          have k122 := k113.go hg15 dj62
                          have k123 := k114.go hg15 ((Dj.new k62.lt' (Ge.box (Nat.le_of_eq hl5.symm))).symm)
                          have k124 := hO6.go hg15 (Dj.app dj16 k101.lt' hk3)
                          have k125 := hr3.go hg15 dj73
                          have gt7 : GrL [(blk A_t341), (blk A_t342)] w8 w18 := GrL.mod gt6 hg15 (InP.mem (List.Mem.tail _ (List.Mem.head _)))
                          exact WA.doneF _ (by kernel_rfl) ⟨A_t643, c_t643, A_t713, c_t713, rfl, H, gr18, k115, k116, k117, k118, k119, k124, k125, hO7, (Dj.app dj4.symm k95.lt' hk3).symm, (Dj.app dj5.symm k105.lt' hk4).symm, (RelD.app k96 dj9 hk3), (RelD.app k106 dj10 hk4), (Dj.app dj12.symm k97.lt' hk3).symm, (Dj.app dj13.symm k107.lt' hk4).symm, (Dj.app dj14.symm k98.lt' hk3).symm, (Dj.app dj15.symm k108.lt' hk4).symm, (RelD.app k100 dj20 hk3), (RelD.app k109 dj21 hk4), (Dj.app (Dj.app dj16 k101.lt' hk3).symm hO6.lt' hk4).symm, dj70, dj71, dj72, dj76, (RelD.app hr3 dj73 hk4), nd3⟩ (by repeat (first | exact Sub.nil | refine Sub.cons rfl ?_))
                  · refine WI.put rfl rfl rfl (Eff.lit tab_ok rfl rfl (all1c rfl all1n) rfl (by omega)) (fun v w' ⟨_, _, h⟩ => GrL.add0 (GrL.refl _) h) ?_
                    rintro _ w19 ⟨rfl, hB11, hg16⟩
                    obtain ⟨g_t703, hl6⟩ : ∃ g, g = w8.heap.size := ⟨_, rfl⟩
                    rw [← hl6] at hB11
                    rw [← hl6]
                    have hO8 : Own vs w19 w.heap.size 9 (some ⟨g_t703, 0, none⟩) 1 ([t440] : List (List UInt8)) := Own.ofBl hB11 (Nat.le_trans (size_le gr8) (Nat.le_of_eq hl6.symm)) (by simp [maxLen]) rfl
                    have gr19 := gr_trans gr8 hg16
                    have k126 := k29.grown hg16
                    have k127 := k30.grown hg16
                    have k128 := k31.g0 hg16
                    have k129 := hB3.g0 hg16
                    have k130 := k32.grown hg16
                    have k131 := k33.grown hg16
                    have k132 := k34.grown hg16
                    have k133 := k35.grown hg16
                    have gt8 : GrL [(blk A_t341), (blk A_t342)] w8 w19 := GrL.add0 (GrL.refl _) hg16
                    refine WA.split [7] (by kernel_rfl) (by kernel_rfl) ?_
                    · refine WI.put rfl rfl rfl (Eff.lit (us := [v_el.1]) tab_ok rfl rfl (all1c v_el.2 all1n) rfl (by omega)) (fun v w' ⟨_, _, h⟩ => GrL.add0 gt8 h) ?_
                      rintro _ w20 ⟨rfl, hB12, hg17⟩
                      obtain ⟨g3, hl7⟩ : ∃ g, g = w19.heap.size := ⟨_, rfl⟩
                      rw [← hl7] at hB12
                      rw [← hl7]
                      have hO9 : Own vv w20 w.heap.size 41 (some ⟨g3, 0, none⟩) 1 ([(v_el, F_el)] : List VH) := Own.ofBl hB12 (Nat.le_trans (size_le gr19) (Nat.le_of_eq hl7.symm)) (by simp [maxLen]) rfl
                      have gr20 := gr_trans gr19 hg17
                      have k134 := k126.grown hg17
                      have k135 := k127.grown hg17
                      have k136 := k128.g0 hg17
                      have k137 := k129.g0 hg17
                      have k138 := k130.grown hg17
                      have k139 := k131.grown hg17
                      have k140 := k132.grown hg17
                      have k141 := k133.grown hg17
                      have k142 := hO8.grown hg17
                      have hr4 : RelD deV w20 ([(v_el, F_el)] : List VH) ([own.getD t38.toNat PV.nil] : List PV) := (RelD.cons (RelD.one k141) RelD.nil)
                      have nd4 : OrD (fun p => DnD deV hs_own own p ∧ DnD deS hs_from_ from_ p) deV ([(v_el, F_el)] : List VH) ([own.getD t38.toNat PV.nil] : List PV) w.heap.size := (OrD.cons (d := deV) (fun p_ hp_ q_ => (DnD.one (DnD.cons (DnD.at (q_.1) (hr_own.grown gr5).1 (Nat.lt_of_lt_of_eq (iltN h2 hr_own.1.symm) (hr_own.grown gr5).1) eh1) DnD.nil))) (fun _ _ _ => DnD.nil))
                      have dj77 : DnD deV ([(v_el, F_el)] : List VH) ([own.getD t38.toNat PV.nil] : List PV) (blk A_t32) := (DnD.cons (d := deV) (DnD.one (DnD.cons (DnD.at (hr_own.new k7.ge') (hr_own.grown gr5).1 (Nat.lt_of_lt_of_eq (iltN h2 hr_own.1.symm) (hr_own.grown gr5).1) eh1) DnD.nil)) DnD.nil)
                      have dj78 : DnD deV ([(v_el, F_el)] : List VH) ([own.getD t38.toNat PV.nil] : List PV) (some g1) := (DnD.cons (d := deV) (DnD.one (DnD.cons (DnD.at (hr_own.new (Ge.le (Ge.box hl1) (size_le gr2))) (hr_own.grown gr5).1 (Nat.lt_of_lt_of_eq (iltN h2 hr_own.1.symm) (hr_own.grown gr5).1) eh1) DnD.nil)) DnD.nil)
                      have dj79 : DnD deV ([(v_el, F_el)] : List VH) ([own.getD t38.toNat PV.nil] : List PV) (some g_met) := (DnD.cons (d := deV) (DnD.one (DnD.cons (DnD.at (hr_own.new (Ge.le (Ge.box (Nat.le_of_eq hl2.symm)) (size_le gr3))) (hr_own.grown gr5).1 (Nat.lt_of_lt_of_eq (iltN h2 hr_own.1.symm) (hr_own.grown gr5).1) eh1) DnD.nil)) DnD.nil)
                      have dj80 : DnD deV ([(v_el, F_el)] : List VH) ([own.getD t38.toNat PV.nil] : List PV) (blk A_t341) := (DnD.cons (d := deV) (DnD.one (DnD.cons (DnD.at (hr_own.new k11.ge') (hr_own.grown gr5).1 (Nat.lt_of_lt_of_eq (iltN h2 hr_own.1.symm) (hr_own.grown gr5).1) eh1) DnD.nil)) DnD.nil)
                      have dj81 : DnD deV ([(v_el, F_el)] : List VH) ([own.getD t38.toNat PV.nil] : List PV) (blk A_t342) := (DnD.cons (d := deV) (DnD.one (DnD.cons (DnD.at (hr_own.new k13.ge') (hr_own.grown gr5).1 (Nat.lt_of_lt_of_eq (iltN h2 hr_own.1.symm) (hr_own.grown gr5).1) eh1) DnD.nil)) DnD.nil)
                      have dj82 : DnD deV ([(v_el, F_el)] : List VH) ([own.getD t38.toNat PV.nil] : List PV) (blk (some ⟨g_t703, 0, none⟩)) := (DnD.cons (d := deV) (DnD.one (k35.new (Ge.box (Nat.le_of_eq hl6.symm)))) DnD.nil)
                      have dj83 : DnD deV ([(v_el, F_el)] : List VH) ([own.getD t38.toNat PV.nil] : List PV) (blk (some ⟨g3, 0, none⟩)) := (DnD.cons (d := deV) (DnD.one (k133.new (Ge.box (Nat.le_of_eq hl7.symm)))) DnD.nil)
                      have gt9 : GrL [(blk A_t341), (blk A_t342)] w8 w20 := GrL.add0 gt8 hg17
                      refine WA.split [8] (by kernel_rfl) (by kernel_rfl) ?_
                      · obtain ⟨h11, H⟩ := H
                        have h12 : ((hs_t341 : List VH).length + ([(v_el, F_el)] : List VH).length) * 16 ≤ 140737488355328 := by rw [k139.1, hr4.1]; exact h11
                        refine WI.put rfl rfl rfl (Eff.append tab_ok rfl One.vv k138 rfl k12.1.symm hO9.rd rfl rfl h12 (applen h12) (size_le gr20)) (fun v w' ⟨_, _, _, _, h, _⟩ => GrL.mod gt9 h (InP.mem (List.Mem.head _))) ?_
                        rintro _ w21 ⟨A_t644, c_t644, rfl, hO10, hg18, hk5⟩
                        have el3 : (hs_t341 ++ ([(v_el, F_el)] : List VH)).length = (t341 ++ ([own.getD t38.toNat PV.nil] : List PV)).length := by rw [List.length_append, List.length_append, k139.1, hr4.1]
                        rw [el3]
                        have gr21 := gr_mod gr20 hg18 k138.ge'
                        have k143 := k134.go hg18 dj4
                        have k144 := k135.go hg18 dj9
                        have k145 := k136.go hg18 dj12
                        have k146 := k137.go hg18 dj14
                        have k147 := k139.go hg18 dj20
                        have k148 := k140.go hg18 dj16.symm
                        have k149 := k141.go hg18 (DnD.cons (DnD.at (hr_own.new k11.ge') (hr_own.grown gr5).1 (Nat.lt_of_lt_of_eq (iltN h2 hr_own.1.symm) (hr_own.grown gr5).1) eh1) DnD.nil)
                        have k150 := k142.go hg18 ((Dj.new k32.lt' (Ge.box (Nat.le_of_eq hl6.symm))).symm)
                        have k151 := hO9.go hg18 ((Dj.new k130.lt' (Ge.box (Nat.le_of_eq hl7.symm))).symm)
                        have k152 := hr4.go hg18 dj80
                        have hr5 : RelD deV w21 (hs_t341 ++ ([(v_el, F_el)] : List VH)) (t341 ++ ([own.getD t38.toNat PV.nil] : List PV)) := RelD.append k147 k152
                        have nd5 : OrD (fun p => DnD deV hs_own own p ∧ DnD deS hs_from_ from_ p) deV (hs_t341 ++ ([(v_el, F_el)] : List VH)) (t341 ++ ([own.getD t38.toNat PV.nil] : List PV)) w.heap.size := OrD.append k139.1 or1 nd4
                        have dj84 : DnD deV (hs_t341 ++ ([(v_el, F_el)] : List VH)) (t341 ++ ([own.getD t38.toNat PV.nil] : List PV)) (blk A_t32) := (DnD.append k139.1 dj17 dj77)
                        have dj85 : DnD deV (hs_t341 ++ ([(v_el, F_el)] : List VH)) (t341 ++ ([own.getD t38.toNat PV.nil] : List PV)) (some g1) := (DnD.append k139.1 dj18 dj78)
                        have dj86 : DnD deV (hs_t341 ++ ([(v_el, F_el)] : List VH)) (t341 ++ ([own.getD t38.toNat PV.nil] : List PV)) (some g_met) := (DnD.append k139.1 dj19 dj79)
                        have dj87 : DnD deV (hs_t341 ++ ([(v_el, F_el)] : List VH)) (t341 ++ ([own.getD t38.toNat PV.nil] : List PV)) (blk A_t342) := (DnD.append k139.1 dj21 dj81)
                        have dj88 : DnD deV (hs_t341 ++ ([(v_el, F_el)] : List VH)) (t341 ++ ([own.getD t38.toNat PV.nil] : List PV)) (blk (some ⟨g_t703, 0, none⟩)) := (DnD.append k139.1 (k33.new (Ge.box (Nat.le_of_eq hl6.symm))) dj82)
                        have dj89 : DnD deV (hs_t341 ++ ([(v_el, F_el)] : List VH)) (t341 ++ ([own.getD t38.toNat PV.nil] : List PV)) (blk (some ⟨g3, 0, none⟩)) := (DnD.append k139.1 (k131.new (Ge.box (Nat.le_of_eq hl7.symm))) dj83)
                        have dj90 : DnD deV (hs_t341 ++ ([(v_el, F_el)] : List VH)) (t341 ++ ([own.getD t38.toNat PV.nil] : List PV)) (blk A_t644) := (DnD.append k139.1 (RelD.app k139 dj20 hk5) (RelD.app hr4 dj80 hk5))
                        have gt10 : GrL [(blk A_t341), (blk A_t342)] w8 w21 := GrL.mod gt9 hg18 (InP.mem (List.Mem.head _))
                        refine WA.split [15] (by kernel_rfl) (by kernel_rfl) ?_
                        · obtain ⟨h13, H⟩ := H
                          refine WI.put rfl rfl rfl (Eff.append tab_ok rfl One.s k148 rfl rfl k150.rd rfl rfl h13 (applen h13) (size_le gr21)) (fun v w' ⟨_, _, _, _, h, _⟩ => GrL.mod gt10 h (InP.mem (List.Mem.tail _ (List.Mem.head _)))) ?_
                          rintro _ w22 ⟨A_t714, c_t714, rfl, hO11, hg19, hk6⟩
                          have gr22 := gr_mod gr21 hg19 k148.ge'
                          have k153 := k143.go hg19 dj5
                          have k154 := k144.go hg19 dj10
                          have k155 := k145.go hg19 dj13
                          have k156 := k146.go hg19 dj15
                          have k157 := k147.go hg19 dj21
                          have k158 := k149.go hg19 (DnD.cons (DnD.at (hr_own.new k13.ge') (hr_own.grown gr5).1 (Nat.lt_of_lt_of_eq (iltN h2 hr_own.1.symm) (hr_own.grown gr5).1) eh1) DnD.nil)
                          have k159 := k150.go hg19 ((Dj.new k34.lt' (Ge.box (Nat.le_of_eq hl6.symm))).symm)
                          have k160 := k151.go hg19 ((Dj.new k132.lt' (Ge.box (Nat.le_of_eq hl7.symm))).symm)
                          have k161 := k152.go hg19 dj81
                          have k162 := hO10.go hg19 (Dj.app dj16 k140.lt' hk5)
                          have k163 := hr5.go hg19 dj87
                          have gt11 : GrL [(blk A_t341), (blk A_t342)] w8 w22 := GrL.mod gt10 hg19 (InP.mem (List.Mem.tail _ (List.Mem.head _)))
                          exact WA.doneF _ (by kernel_rfl) ⟨A_t644, c_t644, A_t714, c_t714, rfl, H, gr22, k153, k154, k155, k156, k157, k162, k163, hO11, (Dj.app dj4.symm k134.lt' hk5).symm, (Dj.app dj5.symm k143.lt' hk6).symm, (RelD.app k135 dj9 hk5), (RelD.app k144 dj10 hk6), (Dj.app dj12.symm k136.lt' hk5).symm, (Dj.app dj13.symm k145.lt' hk6).symm, (Dj.app dj14.symm k137.lt' hk5).symm, (Dj.app dj15.symm k146.lt' hk6).symm, (RelD.app k139 dj20 hk5), (RelD.app k147 dj21 hk6), (Dj.app (Dj.app dj16 k140.lt' hk5).symm hO10.lt' hk6).symm, dj84, dj85, dj86, dj90, (RelD.app hr5 dj87 hk6), nd5⟩ (by repeat (first | exact Sub.nil | refine Sub.cons rfl ?_))
              · replace H := H.2 (b5)
                refine WC.skip (WX.block_normal ?_)
                exact WX.weaken (by repeat (first | exact Sub.nil | refine Sub.cons rfl ?_)) (hQ _ _ ⟨t341, A_t341, c_t341, t341.length, hs_t341, t342, A_t342, c_t342, t342.length, met, rfl, H, rfl, rfl, gr7, k21, k22, k23, k24, k25, k26, k27, dj2, dj3, dj4, dj5, dj6, dj7, dj8, dj9, dj10, dj11, dj12, dj13, dj14, dj15, dj16, dj17, dj18, dj19, dj20, dj21, or1⟩)
        · replace H := H.2 (of_decide_eq_false b3)
          refine WC.exit (WX.then_exit (WX.then_exit (WX.block_same (WX.then_normal ?_))))
          refine WC.seq ?_
          refine WC.region ?_
          refine WL.y rfl (Yld.pure tab_ok rfl) ?_
          refine WL.y rfl (Yld.pure tab_ok rfl) ?_
          refine WL.y rfl (Yld.pure tab_ok rfl) ?_
          refine WL.y rfl (Yld.fa0 (o := 1) (by kernel_rfl) rfl) ?_
          refine WL.y rfl (Yld.bload tab_ok k9 rfl rfl rfl) ?_
          refine WL.y rfl (Yld.pure tab_ok rfl) ?_
          refine WL.y rfl (Yld.pure tab_ok rfl) ?_
          refine WL.y rfl (Yld.pure tab_ok rfl) ?_
          refine WL.y rfl (Yld.fa0 (o := 5) (by kernel_rfl) rfl) ?_
          refine WL.store1 one4 rfl rfl rfl k9 (by simp) (fun w23 hB14 hg20 => ?_)
          have hB13 : Bl w23 g1 83 [.int .i64 order, .slice A_t341 t341.length c_t341, .slice A_t342 t342.length c_t342, .slice A_t32 t32.length c_t32, .int .i64 (0 : Int), .bool (decide ((t341.length : Int) = (0 : Int)))] := hB14
          have gr23 := gr_mod gr5 hg20 (Ge.le (Ge.box hl1) (size_le gr2))
          have k164 := k7.go hg20 dj2
          have k165 := k8.go hg20 dj7
          have k166 := k11.go hg20 dj12.symm
          have k167 := k12.go hg20 dj18
          have k168 := k13.go hg20 dj13.symm
          refine WL.nil (WX.then_normal ?_)
          refine WC.seq ?_
          refine WC.seq ?_
          refine WC.region ?_
          refine WL.y rfl (Yld.pure tab_ok rfl) ?_
          refine WL.y rfl (Yld.pure tab_ok rfl) ?_
          refine WL.y rfl (Yld.pure tab_ok rfl) ?_
          refine WL.nil (WX.then_normal ?_)
          refine WC.block ?_
          obtain ⟨I2, mu2, h0_2, HR2⟩ := H
          refine WC.loopF (fun n' L' w' => ∃ (t88 : Int), ∃ (t344 : Int), ∃ (t345 : Bool), n' = mu2 t88 t344 t345 ∧ L' = [(0, .int .i64 order), (1, .slice A_own own.length c_own), (2, .slice A_from from_.length c_from), (8, .pointer (some ⟨g1, 0, none⟩)), (86, .slice A_from from_.length c_from), (87, .int .i64 (from_.length : Int)), (88, .int .i64 t88)] ∧ I2 t88 t344 t345 ∧ w.grownBy w' none ∧ Own vv w' w.heap.size 36 A_t32 c_t32 hs_t32 ∧ RelD deS w' hs_t32 t32 ∧ Bl w' g1 83 [.int .i64 order, .slice A_t341 t341.length c_t341, .slice A_t342 t342.length c_t342, .slice A_t32 t32.length c_t32, .int .i64 t344, .bool t345] ∧ Own vv w' w.heap.size 41 A_t341 c_t341 hs_t341 ∧ RelD deV w' hs_t341 t341 ∧ Own vs w' w.heap.size 9 A_t342 c_t342 t342 ∧ Dj (blk A_t32) (some g1) ∧ Dj (blk A_t32) (blk A_t341) ∧ Dj (blk A_t32) (blk A_t342) ∧ DnD deS hs_t32 t32 (blk A_t32) ∧ DnD deS hs_t32 t32 (some g1) ∧ DnD deS hs_t32 t32 (blk A_t341) ∧ DnD deS hs_t32 t32 (blk A_t342) ∧ Dj (some g1) (blk A_t341) ∧ Dj (some g1) (blk A_t342) ∧ Dj (blk A_t341) (blk A_t342) ∧ DnD deV hs_t341 t341 (blk A_t32) ∧ DnD deV hs_t341 t341 (some g1) ∧ DnD deV hs_t341 t341 (blk A_t341) ∧ DnD deV hs_t341 t341 (blk A_t342) ∧ OrD (fun p => DnD deV hs_own own p ∧ DnD deS hs_from_ from_ p) deV hs_t341 t341 w.heap.size) _ _ ⟨(0 : Int), (0 : Int), decide ((t341.length : Int) = (0 : Int)), rfl, rfl, h0_2, gr23, k164, k165, hB13, k166, k167, k168, dj2, dj4, dj5, dj6, dj7, dj9, dj10, dj12, dj13, dj16, dj17, dj18, dj20, dj21, or1⟩ (by repeat (first | exact Sub.nil | refine Sub.cons rfl ?_)) ?_
          clear h0_2
          rintro _ _ w24 ⟨t88, t344, t345, rfl, rfl, hI2, gr24, k169, k170, k171, k172, k173, k174, dj91, dj92, dj93, dj94, dj95, dj96, dj97, dj98, dj99, dj100, dj101, dj102, dj103, dj104, or4⟩
          have H := HR2 t88 t344 t345 hI2
          refine WC.seq ?_
          refine WC.region ?_
          refine WL.y rfl (Yld.pure tab_ok rfl) ?_
          refine WL.nil (WX.then_normal ?_)
          refine WC.seq ?_
          refine WC.cond rfl (fun b6 => ?_) (fun b6 => ?_)
          · replace H := H.1 (of_decide_eq_true b6)
            refine WC.skip (WX.then_normal ?_)
            refine WC.seq ?_
            refine WC.block ?_
            refine WC.seq ?_
            refine WC.region ?_
            obtain ⟨h14, H⟩ := H
            refine WL.y rfl (Yld.iaddrW tab_ok (hfrom_.grown gr24) rfl rfl hr_from_.1.symm rfl h14.1 h14.2) ?_
            obtain ⟨⟨v_el2, F_el2⟩, eh2, hR2⟩ := RelD.at (hr_from_.grown gr24) vh0 PS.nil (j := t88.toNat) (Nat.lt_of_lt_of_eq (iltN h14 hr_from_.1.symm) (hr_from_.grown gr24).1)
            have hv6 : RelD deS w24 [(v_el2, F_el2)] [from_.getD t88.toNat PS.nil] := RelD.cons hR2 RelD.nil
            refine WL.y rfl (Yld.to (v := v_el2.1) (Yld.iload vh0 tab_ok (hfrom_.grown gr24) rfl rfl (iltN h14 hr_from_.1.symm)) (congrArg vv eh2)) ?_
            refine WL.y rfl (Yld.pure tab_ok rfl) ?_
            refine WL.nil (WX.then_normal ?_)
            refine WC.seq ?_
            refine WC.seq ?_
            refine WC.region ?_
            obtain ⟨h15, H⟩ := H
            obtain ⟨A_own2, c_own2, A_keys, c_keys, A_fr, c_fr, ho, hf, hv7, hB15, hR3, hr6, hR4, hR5, hr7, hd1, hd2, hd3, hd4, hd5, hd6⟩ := SR.out hv6 h15
            refine WL.y rfl (Yld.pure tab_ok rfl) ?_
            refine WL.y rfl (nilpV hv7 rfl) ?_
            refine WL.y rfl (Yld.fa0 (o := 0) (by kernel_rfl) rfl) ?_
            refine WL.y rfl (Yld.bload tab_ok hB15 rfl rfl rfl) ?_
            refine WL.y rfl (Yld.pure tab_ok rfl) ?_
            refine WL.y rfl (Yld.pure tab_ok rfl) ?_
            refine WL.y rfl (Yld.pure tab_ok rfl) ?_
            refine WL.midF 6 (fun L' w' => ∃ q2 : Bool, L' = [(104, .bool q2), (0, .int .i64 order), (1, .slice A_own own.length c_own), (2, .slice A_from from_.length c_from), (8, .pointer (some ⟨g1, 0, none⟩)), (15, v_el2.1), (86, .slice A_from from_.length c_from), (87, .int .i64 (from_.length : Int)), (88, .int .i64 t88)] ∧ ((!decide (((from_.getD t88.toNat PS.nil).order) = order)) && (!decide (((from_.getD t88.toNat PS.nil).order) = (1 : Int)))) = q2 ∧ w24 = w') ?_ (fun hQ => ?_)
            · rintro _ _ ⟨q2, rfl, rfl, rfl⟩
              refine WL.y rfl (Yld.pure tab_ok rfl) ?_
              refine WL.midF 3 (fun L' w' => ∃ q3 : Bool, L' = [(108, .bool q3), (0, .int .i64 order), (1, .slice A_own own.length c_own), (2, .slice A_from from_.length c_from), (8, .pointer (some ⟨g1, 0, none⟩)), (15, v_el2.1), (86, .slice A_from from_.length c_from), (87, .int .i64 (from_.length : Int)), (88, .int .i64 t88)] ∧ (((!decide (((from_.getD t88.toNat PS.nil).order) = order)) && (!decide (((from_.getD t88.toNat PS.nil).order) = (1 : Int)))) && (!decide (order = (1 : Int)))) = q3 ∧ w24 = w') ?_ (fun hQ => ?_)
              · rintro _ _ ⟨q3, rfl, rfl, rfl⟩
                refine WL.nil (WX.then_normal ?_)
                refine WC.cond rfl (fun b7 => ?_) (fun b7 => ?_)
                · replace H := H.1 (b7)
                  refine WC.seq ?_
                  refine WC.quiet mixed (by kernel_rfl) ?_
                  obtain ⟨vE3, _, hE3⟩ := GOK.get (hG.grown gr24) 3 1 hS3 rfl rfl
                  refine WQ.y rfl (Yld.cell tab_ok (ErrR.cell hE3 rfl) rfl rfl) ?_
                  have hv8 : RelD deS w24 [(pnil, noF)] [PS.nil] := deS_nil
                  refine WQ.y rfl (Yld.pure tab_ok rfl) ?_
                  refine WQ.y rfl (Yld.pure tab_ok rfl) ?_
                  refine WQ.nil (WX.then_normal ?_)
                  refine WC.ret (WX.then_ret (WX.block_ret (WX.then_ret (WX.then_ret (WX.block_ret (WX.then_ret ?_))))))
                  exact WX.ret2 rfl rfl rfl ⟨gr24, pnil, noF, PS.nil, vE3, (Er.e 3), rfl, hv8, (fun p_ hp_ v0_ v1_ => deS_nilD), (fun h_ => absurd rfl h_), hE3, H⟩
                · replace H := H.2 (b7)
                  refine WC.skip (WX.then_normal ?_)
                  refine WC.seq ?_
                  refine WC.chainF (fun k => !(Nat.beq k 13)) (LD [4, 8] (fun w' => Bl w' g1 83 [.int .i64 order, .slice A_t341 t341.length c_t341, .slice A_t342 t342.length c_t342, .slice A_t32 t32.length c_t32, .int .i64 t344, .bool t345] ∧ Bl w' (from_.getD t88.toNat PS.nil).id 83 [.int .i64 ((from_.getD t88.toNat PS.nil).order), .slice A_own2 ((from_.getD t88.toNat PS.nil).own.length) c_own2, .slice A_keys (((from_.getD t88.toNat PS.nil).own.map keyP).length) c_keys, .slice A_fr ((from_.getD t88.toNat PS.nil).fr.length) c_fr, .int .i64 ((from_.getD t88.toNat PS.nil).deep), .bool ((from_.getD t88.toNat PS.nil).empty)])) mixed (by kernel_rfl) (fun k w' h _ => ⟨(bl_eqv h k171), (bl_eqv h hB15)⟩) ?_
                  refine WJ.y rfl rfl (fun w' hw' => Yld.pure tab_ok rfl) ?_
                  refine WJ.y rfl rfl (fun w' hw' => Yld.pure tab_ok rfl) ?_
                  refine WJ.y rfl rfl (fun w' hw' => Yld.pure tab_ok rfl) ?_
                  refine WJ.y rfl rfl (fun w' hw' => Yld.fa0 (o := 4) (by kernel_rfl) rfl) ?_
                  refine WJ.y rfl rfl (fun w' hw' => Yld.bload tab_ok (hw' rfl).1 rfl rfl rfl) ?_
                  refine WJ.y rfl rfl (fun w' hw' => Yld.pure tab_ok rfl) ?_
                  refine WJ.y rfl rfl (fun w' hw' => nilpV hv7 rfl) ?_
                  refine WJ.y rfl rfl (fun w' hw' => Yld.fa0 (o := 4) (by kernel_rfl) rfl) ?_
                  refine WJ.y rfl rfl (fun w' hw' => Yld.bload tab_ok (hw' rfl).2 rfl rfl rfl) ?_
                  obtain ⟨h16, H⟩ := H
                  refine WJ.y rfl rfl (fun w' hw' => Yld.add rfl rfl h16) ?_
                  refine WJ.y rfl rfl (fun w' hw' => Yld.max2 rfl rfl) ?_
                  refine WJ.y rfl rfl (fun w' hw' => Yld.pure tab_ok rfl) ?_
                  refine WJ.y rfl rfl (fun w' hw' => Yld.fa0 (o := 4) (by kernel_rfl) rfl) ?_
                  refine WJ.eff rfl (Ef0.store1 one3 rfl rfl rfl k171 (by simp)) (fun w' h => DD.past (by kernel_rfl)) ?_
                  rintro w25 ⟨hB17, hg21⟩
                  have hB16 : Bl w25 g1 83 [.int .i64 order, .slice A_t341 t341.length c_t341, .slice A_t342 t342.length c_t342, .slice A_t32 t32.length c_t32, .int .i64 (if t344 < (((from_.getD t88.toNat PS.nil).deep) + (1 : Int)) then ((from_.getD t88.toNat PS.nil).deep) + (1 : Int) else t344), .bool t345] := hB17
                  have gr25 := gr_mod gr24 hg21 (Ge.le (Ge.box hl1) (size_le gr2))
                  have k175 := k169.go hg21 dj91
                  have k176 := k170.go hg21 dj95
                  have k177 := k172.go hg21 dj98.symm
                  have k178 := k173.go hg21 dj102
                  have k179 := k174.go hg21 dj99.symm
                  have k180 := hv6.go hg21 (DnD.cons (DnD.at (hr_from_.new (Ge.le (Ge.box hl1) (size_le gr2))) (hr_from_.grown gr24).1 (Nat.lt_of_lt_of_eq (iltN h14 hr_from_.1.symm) (hr_from_.grown gr24).1) eh2) DnD.nil)
                  have k181 := hR3.go hg21 (hd2 _ (DnD.cons (DnD.at (hr_from_.new (Ge.le (Ge.box hl1) (size_le gr2))) (hr_from_.grown gr24).1 (Nat.lt_of_lt_of_eq (iltN h14 hr_from_.1.symm) (hr_from_.grown gr24).1) eh2) DnD.nil))
                  have k182 := hr6.go hg21 (hd3 _ (DnD.cons (DnD.at (hr_from_.new (Ge.le (Ge.box hl1) (size_le gr2))) (hr_from_.grown gr24).1 (Nat.lt_of_lt_of_eq (iltN h14 hr_from_.1.symm) (hr_from_.grown gr24).1) eh2) DnD.nil))
                  have k183 := hR4.go hg21 (hd4 _ (DnD.cons (DnD.at (hr_from_.new (Ge.le (Ge.box hl1) (size_le gr2))) (hr_from_.grown gr24).1 (Nat.lt_of_lt_of_eq (iltN h14 hr_from_.1.symm) (hr_from_.grown gr24).1) eh2) DnD.nil))
                  have k184 := hR5.go hg21 (hd5 _ (DnD.cons (DnD.at (hr_from_.new (Ge.le (Ge.box hl1) (size_le gr2))) (hr_from_.grown gr24).1 (Nat.lt_of_lt_of_eq (iltN h14 hr_from_.1.symm) (hr_from_.grown gr24).1) eh2) DnD.nil))
                  have k185 := hr7.go hg21 (hd6 _ (DnD.cons (DnD.at (hr_from_.new (Ge.le (Ge.box hl1) (size_le gr2))) (hr_from_.grown gr24).1 (Nat.lt_of_lt_of_eq (iltN h14 hr_from_.1.symm) (hr_from_.grown gr24).1) eh2) DnD.nil))
                  have k186 := hB15.go hg21 (hd1 _ (DnD.cons (DnD.at (hr_from_.new (Ge.le (Ge.box hl1) (size_le gr2))) (hr_from_.grown gr24).1 (Nat.lt_of_lt_of_eq (iltN h14 hr_from_.1.symm) (hr_from_.grown gr24).1) eh2) DnD.nil))
                  refine WJ.nil (WX.then_normal ?_)
                  refine WC.region ?_
                  refine WL.y rfl (Yld.pure tab_ok rfl) ?_
                  refine WL.y rfl (Yld.pure tab_ok rfl) ?_
                  refine WL.y rfl (Yld.pure tab_ok rfl) ?_
                  refine WL.y rfl (Yld.fa0 (o := 5) (by kernel_rfl) rfl) ?_
                  refine WL.y rfl (Yld.bload tab_ok hB16 rfl rfl rfl) ?_
                  refine WL.y rfl (Yld.pure tab_ok rfl) ?_
                  refine WL.midF 5 (fun L' w' => ∃ q4 : Bool, L' = [(133, .bool q4), (0, .int .i64 order), (1, .slice A_own own.length c_own), (2, .slice A_from from_.length c_from), (8, .pointer (some ⟨g1, 0, none⟩)), (86, .slice A_from from_.length c_from), (87, .int .i64 (from_.length : Int)), (88, .int .i64 t88), (123, .pointer (some ⟨g1, 0, none⟩))] ∧ (t345 && ((from_.getD t88.toNat PS.nil).empty)) = q4 ∧ w25 = w') ?_ (fun hQ => ?_)
                  · rintro _ _ ⟨q4, rfl, rfl, rfl⟩
                    refine WL.y rfl (Yld.pure tab_ok rfl) ?_
                    refine WL.y rfl (Yld.fa0 (o := 5) (by kernel_rfl) rfl) ?_
                    refine WL.store1 one4 rfl rfl rfl hB16 (by simp) (fun w26 hB19 hg22 => ?_)
                    have hB18 : Bl w26 g1 83 [.int .i64 order, .slice A_t341 t341.length c_t341, .slice A_t342 t342.length c_t342, .slice A_t32 t32.length c_t32, .int .i64 (if t344 < (((from_.getD t88.toNat PS.nil).deep) + (1 : Int)) then ((from_.getD t88.toNat PS.nil).deep) + (1 : Int) else t344), .bool (t345 && ((from_.getD t88.toNat PS.nil).empty))] := hB19
                    have gr26 := gr_mod gr25 hg22 (Ge.le (Ge.box hl1) (size_le gr2))
                    have k187 := k175.go hg22 dj91
                    have k188 := k176.go hg22 dj95
                    have k189 := k177.go hg22 dj98.symm
                    have k190 := k178.go hg22 dj102
                    have k191 := k179.go hg22 dj99.symm
                    refine WL.nil (WX.block_normal (WX.then_normal ?_))
                    refine WC.region ?_
                    obtain ⟨h17, H⟩ := H
                    refine WL.y rfl (Yld.add rfl rfl h17) ?_
                    refine WL.y rfl (Yld.pure tab_ok rfl) ?_
                    refine WL.nil ?_
                    exact WX.roundF _ ⟨t88 + (1 : Int), (if t344 < (((from_.getD t88.toNat PS.nil).deep) + (1 : Int)) then ((from_.getD t88.toNat PS.nil).deep) + (1 : Int) else t344), t345 && ((from_.getD t88.toNat PS.nil).empty), rfl, rfl, H.1, gr26, k187, k188, hB18, k189, k190, k191, dj91, dj92, dj93, dj94, dj95, dj96, dj97, dj98, dj99, dj100, dj101, dj102, dj103, dj104, or4⟩ (by repeat (first | exact Sub.nil | refine Sub.cons rfl ?_)) H.2
                  · clear H
                    rcases Bool.eq_false_or_eq_true (t345) with b8 | b8
                    · refine WL.gyes rfl rfl (okb b8) rfl (Yld.pure tab_ok rfl) ?_
                      refine WL.gyes rfl rfl (okb b8) rfl (nilpV hv7 rfl) ?_
                      refine WL.gyes rfl rfl (okb b8) rfl (Yld.fa0 (o := 5) (by kernel_rfl) rfl) ?_
                      refine WL.gyes rfl rfl (okb b8) rfl (Yld.bload tab_ok k186 rfl rfl rfl) ?_
                      refine WL.y rfl (Yld.pickT (okb b8) rfl) ?_
                      exact WL.weaken (by repeat (first | exact Sub.nil | refine Sub.cons rfl ?_)) (hQ _ _ ⟨(from_.getD t88.toNat PS.nil).empty, rfl, by rw [b8] <;> rfl, rfl⟩)
                    · refine WL.gno rfl rfl (okb b8) rfl ?_
                      refine WL.gno rfl rfl (okb b8) rfl ?_
                      refine WL.gno rfl rfl (okb b8) rfl ?_
                      refine WL.gno rfl rfl (okb b8) rfl ?_
                      refine WL.y rfl (Yld.pickF (okb b8) rfl) ?_
                      exact WL.weaken (by repeat (first | exact Sub.nil | refine Sub.cons rfl ?_)) (hQ _ _ ⟨false, rfl, by rw [b8] <;> rfl, rfl⟩)
              · clear H
                rcases Bool.eq_false_or_eq_true ((!decide (((from_.getD t88.toNat PS.nil).order) = order)) && (!decide (((from_.getD t88.toNat PS.nil).order) = (1 : Int)))) with b9 | b9
                · refine WL.gyes rfl rfl (okb b9) rfl (Yld.pure tab_ok rfl) ?_
                  refine WL.gyes rfl rfl (okb b9) rfl (Yld.pure tab_ok rfl) ?_
                  refine WL.y rfl (Yld.pickT (okb b9) rfl) ?_
                  exact WL.weaken (by repeat (first | exact Sub.nil | refine Sub.cons rfl ?_)) (hQ _ _ ⟨!decide (order = (1 : Int)), rfl, by rw [b9] <;> rfl, rfl⟩)
                · refine WL.gno rfl rfl (okb b9) rfl ?_
                  refine WL.gno rfl rfl (okb b9) rfl ?_
                  refine WL.y rfl (Yld.pickF (okb b9) rfl) ?_
                  exact WL.weaken (by repeat (first | exact Sub.nil | refine Sub.cons rfl ?_)) (hQ _ _ ⟨false, rfl, by rw [b9] <;> rfl, rfl⟩)
            · clear H
              rcases Bool.eq_false_or_eq_true (!decide (((from_.getD t88.toNat PS.nil).order) = order)) with b10 | b10
              · refine WL.gyes rfl rfl (okb b10) rfl (Yld.pure tab_ok rfl) ?_
                refine WL.gyes rfl rfl (okb b10) rfl (nilpV hv7 rfl) ?_
                refine WL.gyes rfl rfl (okb b10) rfl (Yld.fa0 (o := 0) (by kernel_rfl) rfl) ?_
                refine WL.gyes rfl rfl (okb b10) rfl (Yld.bload tab_ok hB15 rfl rfl rfl) ?_
                refine WL.gyes rfl rfl (okb b10) rfl (Yld.pure tab_ok rfl) ?_
                refine WL.y rfl (Yld.pickT (okb b10) rfl) ?_
                exact WL.weaken (by repeat (first | exact Sub.nil | refine Sub.cons rfl ?_)) (hQ _ _ ⟨!decide (((from_.getD t88.toNat PS.nil).order) = (1 : Int)), rfl, by rw [b10] <;> rfl, rfl⟩)
              · refine WL.gno rfl rfl (okb b10) rfl ?_
                refine WL.gno rfl rfl (okb b10) rfl ?_
                refine WL.gno rfl rfl (okb b10) rfl ?_
                refine WL.gno rfl rfl (okb b10) rfl ?_
                refine WL.gno rfl rfl (okb b10) rfl ?_
                refine WL.y rfl (Yld.pickF (okb b10) rfl) ?_
                exact WL.weaken (by repeat (first | exact Sub.nil | refine Sub.cons rfl ?_)) (hQ _ _ ⟨false, rfl, by rw [b10] <;> rfl, rfl⟩)
          · replace H := H.2 (of_decide_eq_false b6)
            refine WC.exit (WX.then_exit (WX.then_exit (WX.block_same (WX.then_normal ?_))))
            refine WC.seq ?_
            refine WC.seq ?_
            refine WC.region ?_
            refine WL.y rfl (Yld.pure tab_ok rfl) ?_
            refine WL.y rfl (Yld.pure tab_ok rfl) ?_
            refine WL.y rfl (Yld.fa0 (o := 4) (by kernel_rfl) rfl) ?_
            refine WL.y rfl (Yld.bload tab_ok k171 rfl rfl rfl) ?_
            refine WL.y rfl (Yld.pure tab_ok rfl) ?_
            refine WL.y rfl (Yld.pure tab_ok rfl) ?_
            refine WL.midF 4 (fun L' w' => ∃ q5 : Bool, L' = [(146, .bool q5), (1, .slice A_own own.length c_own), (2, .slice A_from from_.length c_from), (8, .pointer (some ⟨g1, 0, none⟩))] ∧ ((decide ((1000 : Int) < t344)) || (decide ((1024 : Int) < (own.length : Int)))) = q5 ∧ w24 = w') ?_ (fun hQ => ?_)
            · rintro _ _ ⟨q5, rfl, rfl, rfl⟩
              refine WL.y rfl (Yld.pure tab_ok rfl) ?_
              obtain ⟨h18, H⟩ := H
              refine WL.midF 7 (fun L' w' => ∃ q6 : Bool, L' = [(154, .bool q6), (8, .pointer (some ⟨g1, 0, none⟩))] ∧ (((decide ((1000 : Int) < t344)) || (decide ((1024 : Int) < (own.length : Int)))) || (decide (((1024 : Int) - (own.length : Int)) < (from_.length : Int)))) = q6 ∧ w24 = w') ?_ (fun hQ => ?_)
              · rintro _ _ ⟨q6, rfl, rfl, rfl⟩
                refine WL.nil (WX.then_normal ?_)
                refine WC.cond rfl (fun b11 => ?_) (fun b11 => ?_)
                · replace H := H.1 (b11)
                  refine WC.seq ?_
                  refine WC.quiet mixed (by kernel_rfl) ?_
                  obtain ⟨vE4, _, hE4⟩ := GOK.get (hG.grown gr24) 7 0 hS7 rfl rfl
                  refine WQ.y rfl (Yld.cell tab_ok (ErrR.cell hE4 rfl) rfl rfl) ?_
                  have hv9 : RelD deS w24 [(pnil, noF)] [PS.nil] := deS_nil
                  refine WQ.y rfl (Yld.pure tab_ok rfl) ?_
                  refine WQ.y rfl (Yld.pure tab_ok rfl) ?_
                  refine WQ.nil (WX.then_normal ?_)
                  refine WC.ret (WX.then_ret ?_)
                  exact WX.ret2 rfl rfl rfl ⟨gr24, pnil, noF, PS.nil, vE4, (Er.e 7), rfl, hv9, (fun p_ hp_ v0_ v1_ => deS_nilD), (fun h_ => absurd rfl h_), hE4, H⟩
                · replace H := H.2 (b11)
                  refine WC.skip (WX.then_normal ?_)
                  refine WC.seq ?_
                  refine WC.region ?_
                  refine WL.y rfl (Yld.pure tab_ok rfl) ?_
                  refine WL.nil (WX.then_normal ?_)
                  refine WC.seq ?_
                  refine WC.seq ?_
                  refine WC.region ?_
                  refine WL.y rfl (Yld.pure tab_ok rfl) ?_
                  obtain ⟨h19, H⟩ := H
                  obtain ⟨h20, H⟩ := H
                  obtain ⟨h21, H⟩ := H
                  replace H := H g1
                  have hp1 := deS_pack (order := order) (deep := t344) (empty := t345) (ho := hs_t341) (hf := hs_t32) (own := t341) (fr := t32) (keys := t342) k171 k172.rd k173 h19 h20 k174.rd k169.rd k170 h21 k172.lt' k174.lt' k169.lt'
                  refine WL.call rfl rfl (W_pdeps_Set_sets hp1.1 H) ?_
                  rintro _ w27 ⟨hg23, t157, A_t157, c_t157, hs_t157, rfl, ht157, hr_t157, ho2, dj105, H⟩
                  have hb2 := ht157.ge'
                  have k192 := ht157.base (fun g hg => Nat.le_trans (size_le gr24) (hb2 g hg))
                  have gr27 := gr_trans gr24 hg23
                  have k193 := hp1.1.grown hg23
                  refine WL.y rfl (Yld.pure tab_ok rfl) ?_
                  refine WL.y rfl (Yld.pure tab_ok rfl) ?_
                  refine WL.nil (WX.then_normal ?_)
                  refine WC.block ?_
                  obtain ⟨I3, mu3, h0_3, HR3⟩ := H
                  refine WC.loopF (fun n' L' w' => ∃ (n : Int), ∃ (t159 : Int), n' = mu3 n t159 ∧ L' = [(8, .pointer (some ⟨g1, 0, none⟩)), (16, .int .i64 n), (157, .slice A_t157 t157.length c_t157), (158, .int .i64 (t157.length : Int)), (159, .int .i64 t159)] ∧ I3 n t159 ∧ w27 = w') _ _ ⟨(0 : Int), (0 : Int), rfl, rfl, h0_3, rfl⟩ (by repeat (first | exact Sub.nil | refine Sub.cons rfl ?_)) ?_
                  clear h0_3
                  rintro _ _ _ ⟨n, t159, rfl, rfl, hI3, rfl⟩
                  have H := HR3 n t159 hI3
                  refine WC.seq ?_
                  refine WC.region ?_
                  refine WL.y rfl (Yld.pure tab_ok rfl) ?_
                  refine WL.nil (WX.then_normal ?_)
                  refine WC.seq ?_
                  refine WC.cond rfl (fun b12 => ?_) (fun b12 => ?_)
                  · replace H := H.1 (of_decide_eq_true b12)
                    refine WC.skip (WX.then_normal ?_)
                    refine WC.seq ?_
                    refine WC.block ?_
                    refine WC.seq ?_
                    refine WC.region ?_
                    obtain ⟨h22, H⟩ := H
                    refine WL.y rfl (Yld.iaddrW tab_ok k192.rd rfl rfl hr_t157.1.symm rfl h22.1 h22.2) ?_
                    obtain ⟨⟨v_el3, F_el3⟩, eh3, hR6⟩ := RelD.at hr_t157 vh0 PS.nil (j := t159.toNat) (Nat.lt_of_lt_of_eq (iltN h22 hr_t157.1.symm) hr_t157.1)
                    have hv10 : RelD deS w27 [(v_el3, F_el3)] [t157.getD t159.toNat PS.nil] := RelD.cons hR6 RelD.nil
                    refine WL.y rfl (Yld.to (v := v_el3.1) (Yld.iload vh0 tab_ok k192.rd rfl rfl (iltN h22 hr_t157.1.symm)) (congrArg vv eh3)) ?_
                    refine WL.y rfl (Yld.pure tab_ok rfl) ?_
                    refine WL.nil (WX.then_normal ?_)
                    refine WC.seq ?_
                    refine WC.region ?_
                    refine WL.y rfl (Yld.pure tab_ok rfl) ?_
                    refine WL.y rfl (Yld.pure tab_ok rfl) ?_
                    obtain ⟨h23, H⟩ := H
                    obtain ⟨A_own3, c_own3, A_keys2, c_keys2, A_fr2, c_fr2, ho2, hf2, hv11, hB20, hR7, hr8, hR8, hR9, hr9, hd7, hd8, hd9, hd10, hd11, hd12⟩ := SR.out hv10 h23
                    refine WL.y rfl (nilpV hv11 rfl) ?_
                    refine WL.y rfl (Yld.fa0 (o := 1) (by kernel_rfl) rfl) ?_
                    refine WL.y rfl (Yld.bload tab_ok hB20 rfl rfl rfl) ?_
                    refine WL.y rfl (Yld.pure tab_ok rfl) ?_
                    obtain ⟨h24, H⟩ := H
                    refine WL.y rfl (Yld.add rfl rfl h24) ?_
                    refine WL.y rfl (Yld.pure tab_ok rfl) ?_
                    refine WL.nil (WX.then_normal ?_)
                    refine WC.seq ?_
                    refine WC.region ?_
                    refine WL.y rfl (Yld.pure tab_ok rfl) ?_
                    refine WL.y rfl (Yld.pure tab_ok rfl) ?_
                    refine WL.nil (WX.then_normal ?_)
                    refine WC.cond rfl (fun b13 => ?_) (fun b13 => ?_)
                    · replace H := H.1 (of_decide_eq_true b13)
                      refine WC.seq ?_
                      refine WC.quiet mixed (by kernel_rfl) ?_
                      obtain ⟨vE5, _, hE5⟩ := GOK.get (hG.grown gr27) 7 0 hS7 rfl rfl
                      refine WQ.y rfl (Yld.cell tab_ok (ErrR.cell hE5 rfl) rfl rfl) ?_
                      have hv12 : RelD deS w27 [(pnil, noF)] [PS.nil] := deS_nil
                      refine WQ.y rfl (Yld.pure tab_ok rfl) ?_
                      refine WQ.y rfl (Yld.pure tab_ok rfl) ?_
                      refine WQ.nil (WX.then_normal ?_)
                      refine WC.ret (WX.block_ret (WX.then_ret (WX.then_ret (WX.block_ret (WX.then_ret ?_)))))
                      exact WX.ret2 rfl rfl rfl ⟨gr27, pnil, noF, PS.nil, vE5, (Er.e 7), rfl, hv12, (fun p_ hp_ v0_ v1_ => deS_nilD), (fun h_ => absurd rfl h_), hE5, H⟩
                    · replace H := H.2 (of_decide_eq_false b13)
                      refine WC.skip (WX.block_normal (WX.then_normal ?_))
                      refine WC.region ?_
                      obtain ⟨h25, H⟩ := H
                      refine WL.y rfl (Yld.add rfl rfl h25) ?_
                      refine WL.y rfl (Yld.pure tab_ok rfl) ?_
                      refine WL.nil ?_
                      exact WX.roundF _ ⟨n + ((t157.getD t159.toNat PS.nil).own.length : Int), t159 + (1 : Int), rfl, rfl, H.1, rfl⟩ (by repeat (first | exact Sub.nil | refine Sub.cons rfl ?_)) H.2
                  · replace H := H.2 (of_decide_eq_false b12)
                    refine WC.exit (WX.then_exit (WX.then_exit (WX.block_same (WX.then_normal ?_))))
                    refine WC.seq ?_
                    refine WC.region ?_
                    refine WL.y rfl (Yld.pure tab_ok rfl) ?_
                    refine WL.y rfl (Yld.pure tab_ok rfl) ?_
                    refine WL.y rfl (Yld.pure tab_ok rfl) ?_
                    refine WL.nil (WX.then_normal ?_)
                    refine WC.ret ?_
                    exact WX.ret2 rfl rfl rfl ⟨gr27, (ovP g1), (FS g1 A_t341 A_t342 A_t32 hs_t341 hs_t32), (PS.mk g1 order t341 t32 t344 t345), .nilIface, Er.ok, rfl, k193, (fun p_ hp_ v0_ v1_ => have q_ := And.intro v0_ v1_; hp1.2 _ (Dj.new hp_ (Ge.le (Ge.box hl1) (size_le gr2))).symm (Dj.new hp_ k172.ge').symm (Dj.new hp_ k174.ge').symm (Dj.new hp_ k169.ge').symm (or4 p_ hp_ q_) (ho1 p_ (fun g_ e_ => Nat.lt_of_lt_of_le (hp_ g_ e_) (size_le gr1)) (q_.2))), (fun _ => ((Ge.le (Ge.box hl1) (size_le gr2))) _ rfl), (ErrR.okR (S := S) (w := w27)), H⟩
              · clear H
                rcases Bool.eq_false_or_eq_true ((decide ((1000 : Int) < t344)) || (decide ((1024 : Int) < (own.length : Int)))) with b14 | b14
                · refine WL.gno rfl rfl (okb b14) rfl ?_
                  refine WL.gno rfl rfl (okb b14) rfl ?_
                  refine WL.gno rfl rfl (okb b14) rfl ?_
                  refine WL.gno rfl rfl (okb b14) rfl ?_
                  refine WL.gno rfl rfl (okb b14) rfl ?_
                  refine WL.gno rfl rfl (okb b14) rfl ?_
                  refine WL.y rfl (Yld.pickT (okb b14) rfl) ?_
                  exact WL.weaken (by repeat (first | exact Sub.nil | refine Sub.cons rfl ?_)) (hQ _ _ ⟨true, rfl, by rw [b14] <;> rfl, rfl⟩)
                · refine WL.gyes rfl rfl (okb b14) rfl (Yld.pure tab_ok rfl) ?_
                  refine WL.gyes rfl rfl (okb b14) rfl (Yld.pure tab_ok rfl) ?_
                  refine WL.gyes rfl rfl (okb b14) rfl (Yld.pure tab_ok rfl) ?_
                  refine WL.gyes rfl rfl (okb b14) rfl (Yld.pure tab_ok rfl) ?_
                  refine WL.gyes rfl rfl (okb b14) rfl (Yld.sub rfl rfl (h18 b14)) ?_
                  refine WL.gyes rfl rfl (okb b14) rfl (Yld.pure tab_ok rfl) ?_
                  refine WL.y rfl (Yld.pickF (okb b14) rfl) ?_
                  exact WL.weaken (by repeat (first | exact Sub.nil | refine Sub.cons rfl ?_)) (hQ _ _ ⟨decide (((1024 : Int) - (own.length : Int)) < (from_.length : Int)), rfl, by rw [b14] <;> rfl, rfl⟩)
            · clear H
              rcases Bool.eq_false_or_eq_true (decide ((1000 : Int) < t344)) with b15 | b15
              · refine WL.gno rfl rfl (okb b15) rfl ?_
                refine WL.gno rfl rfl (okb b15) rfl ?_
                refine WL.gno rfl rfl (okb b15) rfl ?_
                refine WL.y rfl (Yld.pickT (okb b15) rfl) ?_
                exact WL.weaken (by repeat (first | exact Sub.nil | refine Sub.cons rfl ?_)) (hQ _ _ ⟨true, rfl, by rw [b15] <;> rfl, rfl⟩)
              · refine WL.gyes rfl rfl (okb b15) rfl (Yld.pure tab_ok rfl) ?_
                refine WL.gyes rfl rfl (okb b15) rfl (Yld.pure tab_ok rfl) ?_
                refine WL.gyes rfl rfl (okb b15) rfl (Yld.pure tab_ok rfl) ?_
                refine WL.y rfl (Yld.pickF (okb b15) rfl) ?_
                exact WL.weaken (by repeat (first | exact Sub.nil | refine Sub.cons rfl ?_)) (hQ _ _ ⟨decide ((1024 : Int) < (own.length : Int)), rfl, by rw [b15] <;> rfl, rfl⟩)
  · clear H
    rcases Bool.eq_false_or_eq_true (decide (order < (1 : Int))) with b16 | b16
    · refine WL.gno rfl rfl (okb b16) rfl ?_
      refine WL.gno rfl rfl (okb b16) rfl ?_
      refine WL.y rfl (Yld.pickT (okb b16) rfl) ?_
      exact WL.weaken (by repeat (first | exact Sub.nil | refine Sub.cons rfl ?_)) (hQ _ _ ⟨true, rfl, by rw [b16] <;> rfl, rfl⟩)
    · refine WL.gyes rfl rfl (okb b16) rfl (Yld.pure tab_ok rfl) ?_
      refine WL.gyes rfl rfl (okb b16) rfl (Yld.pure tab_ok rfl) ?_
      refine WL.y rfl (Yld.pickF (okb b16) rfl) ?_
      exact WL.weaken (by repeat (first | exact Sub.nil | refine Sub.cons rfl ?_)) (hQ _ _ ⟨decide ((3 : Int) < order), rfl, by rw [b16] <;> rfl, rfl⟩)

end Go.Proofs.YtofenpiiihhigaaDoor

 /- Printed by a program (wip/vg): what the functions mean, plainly, and their walks. -/
namespace Go.Proofs.YtofenpiiihhigaaDoor
open Go Go.RowKit
attribute [local irreducible] WL WC WX WQ WK WJ Yld Eff Ef0 Fn
end Go.Proofs.YtofenpiiihhigaaDoor

 /- smithysee.sentinel: the number of one of api's variables. -/
namespace Go.Proofs.YtofenpiiihhigaaDoor
open Go Go.RowKit
attribute [local irreducible] WL WC WX WQ WK WJ Yld Eff Ef0 Fn
end Go.Proofs.YtofenpiiihhigaaDoor


 /- Printed by a program (wip/vg): what the functions mean, plainly, and their walks. -/
namespace Go.Proofs.YtofenpiiihhigaaDoor
open Go Go.RowKit
attribute [local irreducible] WL WC WX WQ WK WJ Yld Eff Ef0 Fn
end Go.Proofs.YtofenpiiihhigaaDoor

 /- Printed by a program (wip/vg): what the functions mean, plainly, and their walks. -/
namespace Go.Proofs.YtofenpiiihhigaaDoor
open Go Go.RowKit
attribute [local irreducible] WL WC WX WQ WK WJ Yld Eff Ef0 Fn
def M_smithyref_AmongTexts (l : List (List UInt8)) (s : List UInt8) (K : Int → Prop) : Prop :=
 (l.length ≤ maxLen →
 Lp1 (fun (i : Int) kont1 => ((i < (l.length : Int) → (0 ≤ i ∧ i < (l.length : Nat)) ∧
 (((l.getD i.toNat []) = s → K i) ∧
 (¬ ((l.getD i.toNat []) = s) → (In .i64 (i + (1 : Int))) ∧
 kont1 (i + (1 : Int))))) ∧
 (¬ (i < (l.length : Int)) → K (-1 : Int)))) (0 : Int))

def M_smithyworld_Number (n : Int) (below : Int) (K : Int → Prop) : Prop :=
 (below ≠ 0) ∧
 (In .i64 ((n.tmod below) + below)) ∧
 (below ≠ 0) ∧
 K (((n.tmod below) + below).tmod below)

def M_smithylaw13_light (l : List (Int × List Int × List Int)) (K : Bool → Prop) : Prop :=
 (l.length ≤ maxLen →
 (((20 : Int) < (l.length : Int) → K false) ∧
 (¬ ((20 : Int) < (l.length : Int)) → Lp1 (fun (i : Int) kont1 => ((i < (l.length : Int) → (0 ≤ i ∧ i < (l.length : Nat)) ∧
 ((decide ((10 : Int) < (((l.getD i.toNat (0, [], [])).2.1).length : Int))) = false → (0 ≤ i ∧ i < (l.length : Nat))) ∧
 ((((decide ((10 : Int) < (((l.getD i.toNat (0, [], [])).2.1).length : Int))) || (decide ((6 : Int) < (((l.getD i.toNat (0, [], [])).2.2).length : Int)))) = true → K false) ∧
 (((decide ((10 : Int) < (((l.getD i.toNat (0, [], [])).2.1).length : Int))) || (decide ((6 : Int) < (((l.getD i.toNat (0, [], [])).2.2).length : Int)))) = false → (In .i64 (i + (1 : Int))) ∧
 kont1 (i + (1 : Int))))) ∧
 (¬ (i < (l.length : Int)) → K true))) (0 : Int))))

def M_smithylaw13_told (s : PS) (K : (List UInt8) → Prop) : Prop :=
 M_pdeps_Set_All s (fun (t70 : List PV) (t71 : Er) =>
 ((¬ (t71 = Er.ok) → K ([] : List UInt8)) ∧
 (t71 = Er.ok → M_val_Tuple t70 (fun (t13 : PV) =>
 M_val_Repr t13 (fun (t2 : List UInt8) =>
 K t2)))))

def M_smithylaw13_made (l : List (Int × List Int × List Int)) (K : (List PS) → Bool → Prop) : Prop :=
 (l.length ≤ maxLen →
 Lp2 (fun (out : List PS) (i : Int) kont1 => ((i < (l.length : Int) → Lp2 (fun (own : List PV) (k : Int) kont2 => (0 ≤ i ∧ i < (l.length : Nat)) ∧
 ((k < (((l.getD i.toNat (0, [], [])).2.1).length : Int) → (0 ≤ i ∧ i < (l.length : Nat)) ∧
 (0 ≤ k ∧ k < (((l.getD i.toNat (0, [], [])).2.1).length : Nat)) ∧
 M_smithylaw13_small (((l.getD i.toNat (0, [], [])).2.1).getD k.toNat 0) (fun (t37 : PV) =>
 ((own.length + (([t37] : List PV)).length) * 16 ≤ 140737488355328) ∧
 (In .i64 (k + (1 : Int))) ∧
 kont2 (own ++ ([t37] : List PV)) (k + (1 : Int)))) ∧
 (¬ (k < (((l.getD i.toNat (0, [], [])).2.1).length : Int)) → Lp2 (fun (from_ : List PS) (k_2 : Int) kont3 => (0 ≤ i ∧ i < (l.length : Nat)) ∧
 ((((decide (k_2 < (((l.getD i.toNat (0, [], [])).2.2).length : Int))) && (decide ((0 : Int) < i))) = true → (0 ≤ i ∧ i < (l.length : Nat)) ∧
 (0 ≤ k_2 ∧ k_2 < (((l.getD i.toNat (0, [], [])).2.2).length : Nat)) ∧
 M_smithyworld_Number (((l.getD i.toNat (0, [], [])).2.2).getD k_2.toNat 0) i (fun (t65 : Int) =>
 (0 ≤ t65 ∧ t65 < (out.length : Nat)) ∧
 ((from_.length + (([out.getD t65.toNat PS.nil] : List PS)).length) * 8 ≤ 140737488355328) ∧
 (In .i64 (k_2 + (1 : Int))) ∧
 kont3 (from_ ++ ([out.getD t65.toNat PS.nil] : List PS)) (k_2 + (1 : Int)))) ∧
 (((decide (k_2 < (((l.getD i.toNat (0, [], [])).2.2).length : Int))) && (decide ((0 : Int) < i))) = false → (0 ≤ i ∧ i < (l.length : Nat)) ∧
 M_deps_New ((l.getD i.toNat (0, [], [])).1) own from_ (fun (t780 : PS) (t781 : Er) =>
 (t780 ≠ PS.nil → ∀ x ∈ out, ∀ y, Reach x y → y ≠ PS.nil → y.id ≠ t780.id) →
 (t780 ≠ PS.nil → ∀ x ∈ from_, ∀ y, Reach x y → y ≠ PS.nil → y.id ≠ t780.id) →
 (((t780.isNil || (!decide (t781 = Er.ok))) = true → K out false) ∧
 ((t780.isNil || (!decide (t781 = Er.ok))) = false → ((out.length + (([t780] : List PS)).length) * 8 ≤ 140737488355328) ∧
 (In .i64 (i + (1 : Int))) ∧
 kont1 (out ++ ([t780] : List PS)) (i + (1 : Int)))))))) [] (0 : Int)))) [] (0 : Int)) ∧
 (¬ (i < (l.length : Int)) → K out true))) [] (0 : Int))

def M_smithylaw13_first (K : Bool → Prop) : Prop :=
 Lp2 (fun (order : Int) (l : List (Int × List Int × List Int)) kont1 => 4 = l.length → ((order ≤ (3 : Int) → Lp2 (fun (i : Int) (l2 : List (Int × List Int × List Int)) kont2 => 4 = l2.length → ((i < (4 : Int) → (0 ≤ i ∧ i < (4 : Nat)) ∧
 (In .i64 (i + (1 : Int))) ∧
 kont2 (i + (1 : Int)) (l2.set i.toNat ((order, (l2.getD i.toNat (0, [], [])).2.1, (l2.getD i.toNat (0, [], [])).2.2) : Int × List Int × List Int))) ∧
 (¬ (i < (4 : Int)) → M_smithylaw13_made l2 (fun (t370 : List PS) (t371 : Bool) =>
 ∃ J1 : Bool → Prop, ((((!t371) = true → J1 true) ∧
 ((!t371) = false → (0 ≤ (3 : Int) ∧ (3 : Int) < (t370.length : Nat)) ∧
 M_smithylaw13_told (t370.getD 3 PS.nil) (fun (t46 : List UInt8) =>
 (In .i64 (order - (1 : Int))) ∧
 (0 ≤ order - (1 : Int) ∧ order - (1 : Int) < (3 : Nat)) ∧
 J1 (!decide (t46 = (([([40, 52, 44, 32, 50, 44, 32, 49, 44, 32, 51, 41] : List UInt8), ([40, 49, 44, 32, 50, 44, 32, 51, 44, 32, 52, 41] : List UInt8), ([40, 52, 44, 32, 50, 44, 32, 51, 44, 32, 49, 41] : List UInt8)] : List (List UInt8)).getD ((order - (1 : Int)).toNat) []))))))) ∧
 (∀ q1 : Bool, J1 q1 → ((q1 = true → K false) ∧
 (q1 = false → (In .i64 (order + (1 : Int))) ∧
 kont1 (order + (1 : Int)) l2))))))) (0 : Int) l) ∧
 (¬ (order ≤ (3 : Int)) → K true))) (1 : Int) ([((0 : Int), ([(1 : Int)] : List Int), []), ((0 : Int), ([(2 : Int)] : List Int), ([(0 : Int)] : List Int)), ((0 : Int), ([(3 : Int)] : List Int), ([(0 : Int)] : List Int)), ((0 : Int), ([(4 : Int)] : List Int), ([(1 : Int), (2 : Int)] : List Int))] : List (Int × List Int × List Int))

set_option maxHeartbeats 8000000 in
theorem W_smithyref_AmongTexts {w : World} {l : List (List UInt8)} {A_l : Option Addr} {c_l : Nat} {s : List UInt8} {n_l : Nat} {K : Int → Prop} (hl : Rd vs w A_l c_l l) (hn_l : n_l = l.length) (H : M_smithyref_AmongTexts l s K) : Fn Tryd.prog 13 ⟨[.slice A_l n_l c_l, vs s]⟩ w (fun v w' => w = w' ∧ ∃ (r : Int), v = .int .i64 r ∧ K r) := by
  subst hn_l
  unfold M_smithyref_AmongTexts at H
  refine Fn.enter (by kernel_rfl) Tryd.func13 rfl Tryd.ntmps13 rfl ?_
  replace H := H (Nat.le_trans hl.cap hl.max)
  refine WC.seq ?_
  refine WC.region ?_
  refine WL.y rfl (Yld.pure tab_ok rfl) ?_
  refine WL.nil (WX.then_normal ?_)
  refine WC.seq ?_
  refine WC.seq ?_
  refine WC.region ?_
  refine WL.y rfl (Yld.pure tab_ok rfl) ?_
  refine WL.nil (WX.then_normal ?_)
  refine WC.block ?_
  obtain ⟨I1, mu1, h0_1, HR1⟩ := H
  refine WC.loopF (fun n' L' w' => ∃ (i : Int), n' = mu1 i ∧ L' = [(0, .slice A_l l.length c_l), (1, vs s), (5, .int .i64 i)] ∧ I1 i ∧ w = w') _ _ ⟨(0 : Int), rfl, rfl, h0_1, rfl⟩ (by repeat (first | exact Sub.nil | refine Sub.cons rfl ?_)) ?_
  clear h0_1
  rintro _ _ _ ⟨i, rfl, rfl, hI1, rfl⟩
  have H := HR1 i hI1
  refine WC.seq ?_
  refine WC.seq ?_
  refine WC.region ?_
  refine WL.y rfl (Yld.pure tab_ok rfl) ?_
  refine WL.y rfl (Yld.pure tab_ok rfl) ?_
  refine WL.y rfl (Yld.pure tab_ok rfl) ?_
  refine WL.y rfl (Yld.pure tab_ok rfl) ?_
  refine WL.nil (WX.then_normal ?_)
  refine WC.cond rfl (fun b1 => ?_) (fun b1 => ?_)
  · replace H := H.1 (of_decide_eq_true b1)
    refine WC.skip (WX.then_normal ?_)
    refine WC.seq ?_
    refine WC.block ?_
    refine WC.seq ?_
    refine WC.region ?_
    refine WL.y rfl (Yld.pure tab_ok rfl) ?_
    refine WL.y rfl (Yld.pure tab_ok rfl) ?_
    obtain ⟨h1, H⟩ := H
    refine WL.y rfl (Yld.iaddrW tab_ok hl rfl rfl rfl rfl h1.1 h1.2) ?_
    refine WL.y rfl (Yld.iload [] tab_ok hl rfl rfl (iltN h1 rfl)) ?_
    refine WL.y rfl (Yld.pure tab_ok rfl) ?_
    refine WL.y rfl (Yld.pure tab_ok rfl) ?_
    refine WL.nil (WX.then_normal ?_)
    refine WC.cond rfl (fun b2 => ?_) (fun b2 => ?_)
    · replace H := H.1 (of_decide_eq_true b2)
      refine WC.seq ?_
      refine WC.region ?_
      refine WL.y rfl (Yld.pure tab_ok rfl) ?_
      refine WL.y rfl (Yld.pure tab_ok rfl) ?_
      refine WL.nil (WX.then_normal ?_)
      refine WC.ret (WX.block_ret (WX.then_ret (WX.then_ret (WX.block_ret (WX.then_ret ?_)))))
      exact WX.ret1 rfl rfl ⟨rfl, i, rfl, H⟩
    · replace H := H.2 (of_decide_eq_false b2)
      refine WC.skip (WX.block_normal (WX.then_normal ?_))
      refine WC.region ?_
      refine WL.y rfl (Yld.pure tab_ok rfl) ?_
      obtain ⟨h2, H⟩ := H
      refine WL.y rfl (Yld.add rfl rfl h2) ?_
      refine WL.y rfl (Yld.pure tab_ok rfl) ?_
      refine WL.nil ?_
      exact WX.roundF _ ⟨i + (1 : Int), rfl, rfl, H.1, rfl⟩ (by repeat (first | exact Sub.nil | refine Sub.cons rfl ?_)) H.2
  · replace H := H.2 (of_decide_eq_false b1)
    refine WC.exit (WX.then_exit (WX.then_exit (WX.block_same (WX.then_normal ?_))))
    refine WC.seq ?_
    refine WC.region ?_
    refine WL.y rfl (Yld.pure tab_ok rfl) ?_
    refine WL.nil (WX.then_normal ?_)
    refine WC.ret ?_
    exact WX.ret1 rfl rfl ⟨rfl, (-1 : Int), rfl, H⟩

set_option maxHeartbeats 8000000 in
theorem W_smithyworld_Number {w : World} {n : Int} {below : Int} {K : Int → Prop} (H : M_smithyworld_Number n below K) : Fn Tryd.prog 9 ⟨[.int .i64 n, .int .i64 below]⟩ w (fun v w' => w = w' ∧ ∃ (r : Int), v = .int .i64 r ∧ K r) := by
  unfold M_smithyworld_Number at H
  refine Fn.enter (by kernel_rfl) Tryd.func9 rfl Tryd.ntmps9 rfl ?_
  refine WC.seq ?_
  refine WC.region ?_
  refine WL.y rfl (Yld.pure tab_ok rfl) ?_
  refine WL.nil (WX.then_normal ?_)
  refine WC.seq ?_
  refine WC.region ?_
  refine WL.y rfl (Yld.pure tab_ok rfl) ?_
  refine WL.y rfl (Yld.pure tab_ok rfl) ?_
  obtain ⟨h1, H⟩ := H
  refine WL.y rfl (Yld.rem' rfl rfl h1) ?_
  refine WL.y rfl (Yld.pure tab_ok rfl) ?_
  obtain ⟨h2, H⟩ := H
  refine WL.y rfl (Yld.add rfl rfl h2) ?_
  refine WL.y rfl (Yld.pure tab_ok rfl) ?_
  obtain ⟨h3, H⟩ := H
  refine WL.y rfl (Yld.rem' rfl rfl h3) ?_
  refine WL.y rfl (Yld.pure tab_ok rfl) ?_
  refine WL.nil (WX.then_normal ?_)
  refine WC.ret ?_
  exact WX.ret1 rfl rfl ⟨rfl, ((n.tmod below) + below).tmod below, rfl, H⟩

set_option maxHeartbeats 8000000 in
theorem W_smithylaw13_light {w : World} {l : List (Int × List Int × List Int)} {A_l : Option Addr} {c_l : Nat} {hs_l : List (Int × Hdr × Hdr)} {n_l : Nat} {K : Bool → Prop} (hl : RdK 3 encH28 w A_l c_l hs_l) (hn_l : n_l = l.length) (hr_l : RelD de28 w hs_l l) (H : M_smithylaw13_light l K) : Fn Tryd.prog 8 ⟨[.slice A_l n_l c_l]⟩ w (fun v w' => w = w' ∧ ∃ (r : Bool), v = .bool r ∧ K r) := by
  subst hn_l
  unfold M_smithylaw13_light at H
  refine Fn.enter (by kernel_rfl) Tryd.func8 rfl Tryd.ntmps8 rfl ?_
  replace H := H (by rw [← hr_l.1]; exact Nat.le_trans hl.cap hl.max)
  refine WC.seq ?_
  refine WC.region ?_
  refine WL.y rfl (Yld.pure tab_ok rfl) ?_
  refine WL.nil (WX.then_normal ?_)
  refine WC.seq ?_
  refine WC.seq ?_
  refine WC.region ?_
  refine WL.y rfl (Yld.pure tab_ok rfl) ?_
  refine WL.y rfl (Yld.pure tab_ok rfl) ?_
  refine WL.y rfl (Yld.pure tab_ok rfl) ?_
  refine WL.nil (WX.then_normal ?_)
  refine WC.cond rfl (fun b1 => ?_) (fun b1 => ?_)
  · replace H := H.1 (of_decide_eq_true b1)
    refine WC.seq ?_
    refine WC.region ?_
    refine WL.y rfl (Yld.pure tab_ok rfl) ?_
    refine WL.nil (WX.then_normal ?_)
    refine WC.ret (WX.then_ret ?_)
    exact WX.ret1 rfl rfl ⟨rfl, false, rfl, H⟩
  · replace H := H.2 (of_decide_eq_false b1)
    refine WC.skip (WX.then_normal ?_)
    refine WC.seq ?_
    refine WC.seq ?_
    refine WC.region ?_
    refine WL.y rfl (Yld.pure tab_ok rfl) ?_
    refine WL.nil (WX.then_normal ?_)
    refine WC.block ?_
    obtain ⟨I1, mu1, h0_1, HR1⟩ := H
    refine WC.loopF (fun n' L' w' => ∃ (i : Int), n' = mu1 i ∧ L' = [(0, .slice A_l l.length c_l), (3, .int .i64 i)] ∧ I1 i ∧ w = w') _ _ ⟨(0 : Int), rfl, rfl, h0_1, rfl⟩ (by repeat (first | exact Sub.nil | refine Sub.cons rfl ?_)) ?_
    clear h0_1
    rintro _ _ _ ⟨i, rfl, rfl, hI1, rfl⟩
    have H := HR1 i hI1
    refine WC.seq ?_
    refine WC.seq ?_
    refine WC.region ?_
    refine WL.y rfl (Yld.pure tab_ok rfl) ?_
    refine WL.y rfl (Yld.pure tab_ok rfl) ?_
    refine WL.y rfl (Yld.pure tab_ok rfl) ?_
    refine WL.y rfl (Yld.pure tab_ok rfl) ?_
    refine WL.nil (WX.then_normal ?_)
    refine WC.cond rfl (fun b2 => ?_) (fun b2 => ?_)
    · replace H := H.1 (of_decide_eq_true b2)
      refine WC.skip (WX.then_normal ?_)
      refine WC.seq ?_
      refine WC.block ?_
      refine WC.seq ?_
      refine WC.region ?_
      refine WL.y rfl (Yld.pure tab_ok rfl) ?_
      refine WL.y rfl (Yld.pure tab_ok rfl) ?_
      obtain ⟨h1, H⟩ := H
      refine WL.y rfl (Yld.iaddrK tab_ok hl rfl rfl hr_l.1.symm rfl h1.1 h1.2) ?_
      refine WL.y rfl (Yld.faddrK tab_ok hl (iltN h1 hr_l.1.symm) rfl rfl rfl) ?_
      obtain ⟨⟨f1, ⟨A_el, n1, c_el⟩, ⟨A_el2, n2, c_el2⟩⟩, eh1, ⟨en1, ⟨en2, hR1⟩, ⟨en3, hR2⟩⟩⟩ := RelD.at hr_l (0, hd0, hd0) (0, [], []) (j := i.toNat) (Nat.lt_of_lt_of_eq (iltN h1 hr_l.1.symm) hr_l.1)
      have en1 : f1 = (l.getD i.toNat (0, [], [])).1 := en1
      subst en1
      have en2 : n1 = ((l.getD i.toNat (0, [], [])).2.1).length := en2
      subst en2
      have en3 : n2 = ((l.getD i.toNat (0, [], [])).2.2).length := en3
      subst en3
      refine WL.y rfl (Yld.iloadF (v := .slice A_el (((l.getD i.toNat (0, [], [])).2.1).length) c_el) (0, hd0, hd0) tab_ok hl rfl rfl (iltN h1 hr_l.1.symm) (by rw [eh1]; rfl)) ?_
      refine WL.y rfl (Yld.pure tab_ok rfl) ?_
      refine WL.y rfl (Yld.pure tab_ok rfl) ?_
      refine WL.y rfl (Yld.pure tab_ok rfl) ?_
      obtain ⟨h2, H⟩ := H
      refine WL.midF 8 (fun L' w' => ∃ q1 : Bool, L' = [(28, .bool q1), (0, .slice A_l l.length c_l), (3, .int .i64 i)] ∧ ((decide ((10 : Int) < (((l.getD i.toNat (0, [], [])).2.1).length : Int))) || (decide ((6 : Int) < (((l.getD i.toNat (0, [], [])).2.2).length : Int)))) = q1 ∧ w = w') ?_ (fun hQ => ?_)
      · rintro _ _ ⟨q1, rfl, rfl, rfl⟩
        refine WL.nil (WX.then_normal ?_)
        refine WC.cond rfl (fun b3 => ?_) (fun b3 => ?_)
        · replace H := H.1 (b3)
          refine WC.seq ?_
          refine WC.region ?_
          refine WL.y rfl (Yld.pure tab_ok rfl) ?_
          refine WL.nil (WX.then_normal ?_)
          refine WC.ret (WX.block_ret (WX.then_ret (WX.then_ret (WX.block_ret (WX.then_ret ?_)))))
          exact WX.ret1 rfl rfl ⟨rfl, false, rfl, H⟩
        · replace H := H.2 (b3)
          refine WC.skip (WX.block_normal (WX.then_normal ?_))
          refine WC.region ?_
          refine WL.y rfl (Yld.pure tab_ok rfl) ?_
          obtain ⟨h3, H⟩ := H
          refine WL.y rfl (Yld.add rfl rfl h3) ?_
          refine WL.y rfl (Yld.pure tab_ok rfl) ?_
          refine WL.nil ?_
          exact WX.roundF _ ⟨i + (1 : Int), rfl, rfl, H.1, rfl⟩ (by repeat (first | exact Sub.nil | refine Sub.cons rfl ?_)) H.2
      · clear H
        rcases Bool.eq_false_or_eq_true (decide ((10 : Int) < (((l.getD i.toNat (0, [], [])).2.1).length : Int))) with b4 | b4
        · refine WL.gno rfl rfl (okb b4) rfl ?_
          refine WL.gno rfl rfl (okb b4) rfl ?_
          refine WL.gno rfl rfl (okb b4) rfl ?_
          refine WL.gno rfl rfl (okb b4) rfl ?_
          refine WL.gno rfl rfl (okb b4) rfl ?_
          refine WL.gno rfl rfl (okb b4) rfl ?_
          refine WL.gno rfl rfl (okb b4) rfl ?_
          refine WL.y rfl (Yld.pickT (okb b4) rfl) ?_
          exact WL.weaken (by repeat (first | exact Sub.nil | refine Sub.cons rfl ?_)) (hQ _ _ ⟨true, rfl, by rw [b4] <;> rfl, rfl⟩)
        · refine WL.gyes rfl rfl (okb b4) rfl (Yld.pure tab_ok rfl) ?_
          refine WL.gyes rfl rfl (okb b4) rfl (Yld.pure tab_ok rfl) ?_
          refine WL.gyes rfl rfl (okb b4) rfl (Yld.iaddrK tab_ok hl rfl rfl hr_l.1.symm rfl (h2 b4).1 (h2 b4).2) ?_
          refine WL.gyes rfl rfl (okb b4) rfl (Yld.faddrK tab_ok hl (iltN (h2 b4) hr_l.1.symm) rfl rfl rfl) ?_
          refine WL.gyes rfl rfl (okb b4) rfl (Yld.iloadF (v := .slice A_el2 (((l.getD i.toNat (0, [], [])).2.2).length) c_el2) (0, hd0, hd0) tab_ok hl rfl rfl (iltN (h2 b4) hr_l.1.symm) (by rw [eh1]; rfl)) ?_
          refine WL.gyes rfl rfl (okb b4) rfl (Yld.pure tab_ok rfl) ?_
          refine WL.gyes rfl rfl (okb b4) rfl (Yld.pure tab_ok rfl) ?_
          refine WL.y rfl (Yld.pickF (okb b4) rfl) ?_
          exact WL.weaken (by repeat (first | exact Sub.nil | refine Sub.cons rfl ?_)) (hQ _ _ ⟨decide ((6 : Int) < (((l.getD i.toNat (0, [], [])).2.2).length : Int)), rfl, by rw [b4] <;> rfl, rfl⟩)
    · replace H := H.2 (of_decide_eq_false b2)
      refine WC.exit (WX.then_exit (WX.then_exit (WX.block_same (WX.then_normal ?_))))
      refine WC.seq ?_
      refine WC.region ?_
      refine WL.y rfl (Yld.pure tab_ok rfl) ?_
      refine WL.nil (WX.then_normal ?_)
      refine WC.ret ?_
      exact WX.ret1 rfl rfl ⟨rfl, true, rfl, H⟩

set_option maxHeartbeats 8000000 in
theorem W_smithylaw13_told {S : List Nat} {w : World} {v_s : OV} {F_s : Nat → Prop} {s : PS} {K : (List UInt8) → Prop} (hG : GOK S w) (hS7 : 7 ∈ S) (hs : RelD deS w [(v_s, F_s)] [s]) (H : M_smithylaw13_told s K) : Fn Tryd.prog 33 ⟨[v_s.1]⟩ w (fun v w' => w.grownBy w' none ∧ ∃ (r : List UInt8), v = vs r ∧ K r) := by
  unfold M_smithylaw13_told at H
  refine Fn.enter (by kernel_rfl) Tryd.func33 rfl Tryd.ntmps33 rfl ?_
  refine WC.seq ?_
  refine WC.region ?_
  refine WL.y rfl (Yld.pure tab_ok rfl) ?_
  refine WL.nil (WX.then_normal ?_)
  refine WC.seq ?_
  refine WC.region ?_
  refine WL.y rfl (Yld.pure tab_ok rfl) ?_
  refine WL.call rfl rfl (W_pdeps_Set_All hG hS7 hs H) ?_
  rintro _ w1 ⟨hg1, t70, A_t70, c_t70, hs_t70, v_t71, t71, rfl, ht70, hr_t70, ho1, dj1, ht71, H⟩
  have hb1 := ht70.ge'
  have k1 := ht70.base (fun g hg => Nat.le_trans (Nat.le_refl _) (hb1 g hg))
  have gr1 := hg1
  refine WL.y rfl (Yld.pure tab_ok rfl) ?_
  refine WL.y rfl (Yld.pure tab_ok rfl) ?_
  refine WL.y rfl (Yld.pure tab_ok rfl) ?_
  refine WL.y rfl (Yld.pure tab_ok rfl) ?_
  refine WL.y rfl (Yld.pure tab_ok rfl) ?_
  refine WL.nil (WX.then_normal ?_)
  refine WC.seq ?_
  refine WC.seq ?_
  refine WC.region ?_
  refine WL.y rfl (Yld.pure tab_ok rfl) ?_
  refine WL.y rfl (Yld.errneq Tryd.underlying34 ht71 rfl) ?_
  refine WL.nil (WX.then_normal ?_)
  refine WC.cond rfl (fun b1 => ?_) (fun b1 => ?_)
  · replace H := H.1 (nd_true b1)
    refine WC.seq ?_
    refine WC.region ?_
    refine WL.y rfl (Yld.pure tab_ok rfl) ?_
    refine WL.nil (WX.then_normal ?_)
    refine WC.ret (WX.then_ret ?_)
    exact WX.ret1 rfl rfl ⟨gr1, ([] : List UInt8), rfl, H⟩
  · replace H := H.2 (nd_false b1)
    refine WC.skip (WX.then_normal ?_)
    refine WC.seq ?_
    refine WC.region ?_
    refine WL.y rfl (Yld.pure tab_ok rfl) ?_
    refine WL.call rfl rfl (W_val_Tuple k1.rd rfl hr_t70 H) ?_
    rintro _ w2 ⟨hg2, v_t13, F_t13, t13, rfl, ht13, ho2, H⟩
    have gr2 := gr_trans gr1 hg2
    refine WL.call rfl rfl (W_val_Repr ht13 H) ?_
    rintro _ w3 ⟨hg3, t2, rfl, H⟩
    have gr3 := gr_trans gr2 hg3
    refine WL.y rfl (Yld.pure tab_ok rfl) ?_
    refine WL.nil (WX.then_normal ?_)
    refine WC.ret ?_
    exact WX.ret1 rfl rfl ⟨gr3, t2, rfl, H⟩

set_option maxHeartbeats 8000000 in
theorem W_smithylaw13_made {S : List Nat} {w : World} {l : List (Int × List Int × List Int)} {A_l : Option Addr} {c_l : Nat} {hs_l : List (Int × Hdr × Hdr)} {n_l : Nat} {K : (List PS) → Bool → Prop} (hG : GOK S w) (hS3 : 3 ∈ S) (hS7 : 7 ∈ S) (hl : RdK 3 encH28 w A_l c_l hs_l) (hn_l : n_l = l.length) (hr_l : RelD de28 w hs_l l) (H : M_smithylaw13_made l K) : Fn Tryd.prog 10 ⟨[.slice A_l n_l c_l]⟩ w (fun v w' => w.grownBy w' none ∧ ∃ (r0 : List PS), ∃ (A_r0 : Option Addr), ∃ (c_r0 : Nat), ∃ (hs_r0 : List VH), ∃ (r1 : Bool), v = .tuple #[.slice A_r0 r0.length c_r0, .bool r1] ∧ Own vv w' w.heap.size 36 A_r0 c_r0 hs_r0 ∧ RelD deS w' hs_r0 r0 ∧ (∀ p : Option Nat, Lt p w.heap.size → DnD deS hs_r0 r0 p) ∧ DnD deS hs_r0 r0 (blk A_r0) ∧ K r0 r1) := by
  subst hn_l
  unfold M_smithylaw13_made at H
  refine Fn.enter (by kernel_rfl) Tryd.func10 rfl Tryd.ntmps10 rfl ?_
  replace H := H (by rw [← hr_l.1]; exact Nat.le_trans hl.cap hl.max)
  refine WC.seq ?_
  refine WC.region ?_
  refine WL.y rfl (Yld.pure tab_ok rfl) ?_
  refine WL.y rfl (Yld.pure tab_ok rfl) ?_
  refine WL.nil (WX.then_normal ?_)
  refine WC.seq ?_
  refine WC.region ?_
  refine WL.y rfl (Yld.pure tab_ok rfl) ?_
  refine WL.nil (WX.then_normal ?_)
  refine WC.seq ?_
  refine WC.seq ?_
  refine WC.region ?_
  refine WL.y rfl (Yld.pure tab_ok rfl) ?_
  refine WL.nil (WX.then_normal ?_)
  refine WC.block ?_
  obtain ⟨I1, mu1, h0_1, HR1⟩ := H
  refine WC.loopF (fun n' L' w' => ∃ (out : List PS), ∃ (A_out : Option Addr), ∃ (c_out : Nat), ∃ (n_out : Nat), ∃ (hs_out : List VH), ∃ (i : Int), n' = mu1 out i ∧ L' = [(0, .slice A_l l.length c_l), (4, .slice A_out n_out c_out), (5, .int .i64 i)] ∧ I1 out i ∧ n_out = out.length ∧ w.grownBy w' none ∧ Own vv w' w.heap.size 36 A_out c_out hs_out ∧ RelD deS w' hs_out out ∧ DnD deS hs_out out (blk A_out) ∧ NewD deS hs_out out w.heap.size) _ _ ⟨[], none, 0, 0, [], (0 : Int), rfl, rfl, h0_1, rfl, (gr_refl _ _), (Own.nil vv w w.heap.size 36), (RelD.nil (d := deS) (w := w)), DnD.nil, (NewD.nil (d := deS))⟩ (by repeat (first | exact Sub.nil | refine Sub.cons rfl ?_)) ?_
  clear h0_1
  rintro _ _ w1 ⟨out, A_out, c_out, n_out, hs_out, i, rfl, rfl, hI1, rfl, gr1, k1, k2, dj1, or1⟩
  have H := HR1 out i hI1
  refine WC.seq ?_
  refine WC.seq ?_
  refine WC.region ?_
  refine WL.y rfl (Yld.pure tab_ok rfl) ?_
  refine WL.y rfl (Yld.pure tab_ok rfl) ?_
  refine WL.y rfl (Yld.pure tab_ok rfl) ?_
  refine WL.y rfl (Yld.pure tab_ok rfl) ?_
  refine WL.nil (WX.then_normal ?_)
  refine WC.cond rfl (fun b1 => ?_) (fun b1 => ?_)
  · replace H := H.1 (of_decide_eq_true b1)
    refine WC.skip (WX.then_normal ?_)
    refine WC.seq ?_
    refine WC.block ?_
    refine WC.seq ?_
    refine WC.region ?_
    refine WL.y rfl (Yld.pure tab_ok rfl) ?_
    refine WL.nil (WX.then_normal ?_)
    refine WC.seq ?_
    refine WC.region ?_
    refine WL.y rfl (Yld.pure tab_ok rfl) ?_
    refine WL.nil (WX.then_normal ?_)
    refine WC.seq ?_
    refine WC.seq ?_
    refine WC.region ?_
    refine WL.y rfl (Yld.pure tab_ok rfl) ?_
    refine WL.nil (WX.then_normal ?_)
    refine WC.block ?_
    obtain ⟨I2, mu2, h0_2, HR2⟩ := H
    refine WC.loopF (fun n' L' w' => ∃ (own : List PV), ∃ (A_own : Option Addr), ∃ (c_own : Nat), ∃ (n_own : Nat), ∃ (hs_own : List VH), ∃ (k : Int), n' = mu2 own k ∧ L' = [(0, .slice A_l l.length c_l), (4, .slice A_out out.length c_out), (5, .int .i64 i), (6, .slice A_own n_own c_own), (7, .slice none 0 0), (8, .int .i64 k)] ∧ I2 own k ∧ n_own = own.length ∧ w.grownBy w' none ∧ Own vv w' w.heap.size 36 A_out c_out hs_out ∧ RelD deS w' hs_out out ∧ Own vv w' w.heap.size 41 A_own c_own hs_own ∧ RelD deV w' hs_own own ∧ Dj (blk A_out) (blk A_own) ∧ DnD deS hs_out out (blk A_out) ∧ DnD deS hs_out out (blk A_own) ∧ DnD deV hs_own own (blk A_out) ∧ DnD deV hs_own own (blk A_own) ∧ NewD deS hs_out out w.heap.size ∧ NewD deV hs_own own w.heap.size) _ _ ⟨[], none, 0, 0, [], (0 : Int), rfl, rfl, h0_2, rfl, gr1, k1, k2, (Own.nil vv w1 w.heap.size 41), (RelD.nil (d := deV) (w := w1)), Dj.nr, dj1, (DnD.none k2), DnD.nil, DnD.nil, or1, (NewD.nil (d := deV))⟩ (by repeat (first | exact Sub.nil | refine Sub.cons rfl ?_)) ?_
    clear h0_2
    rintro _ _ w2 ⟨own, A_own, c_own, n_own, hs_own, k, rfl, rfl, hI2, rfl, gr2, k3, k4, k5, k6, dj2, dj3, dj4, dj5, dj6, or2, or3⟩
    have H := HR2 own k hI2
    refine WC.seq ?_
    refine WC.seq ?_
    refine WC.region ?_
    refine WL.y rfl (Yld.pure tab_ok rfl) ?_
    refine WL.y rfl (Yld.pure tab_ok rfl) ?_
    refine WL.y rfl (Yld.pure tab_ok rfl) ?_
    obtain ⟨h1, H⟩ := H
    refine WL.y rfl (Yld.iaddrK tab_ok (hl.grown gr2) rfl rfl hr_l.1.symm rfl h1.1 h1.2) ?_
    refine WL.y rfl (Yld.faddrK tab_ok (hl.grown gr2) (iltN h1 hr_l.1.symm) rfl rfl rfl) ?_
    obtain ⟨⟨f1, ⟨A_el, n1, c_el⟩, ⟨A_el2, n2, c_el2⟩⟩, eh1, ⟨en1, ⟨en2, hR1⟩, ⟨en3, hR2⟩⟩⟩ := RelD.at hr_l (0, hd0, hd0) (0, [], []) (j := i.toNat) (Nat.lt_of_lt_of_eq (iltN h1 hr_l.1.symm) hr_l.1)
    have en1 : f1 = (l.getD i.toNat (0, [], [])).1 := en1
    subst en1
    have en2 : n1 = ((l.getD i.toNat (0, [], [])).2.1).length := en2
    subst en2
    have en3 : n2 = ((l.getD i.toNat (0, [], [])).2.2).length := en3
    subst en3
    refine WL.y rfl (Yld.iloadF (v := .slice A_el (((l.getD i.toNat (0, [], [])).2.1).length) c_el) (0, hd0, hd0) tab_ok (hl.grown gr2) rfl rfl (iltN h1 hr_l.1.symm) (by rw [eh1]; rfl)) ?_
    refine WL.y rfl (Yld.pure tab_ok rfl) ?_
    refine WL.y rfl (Yld.pure tab_ok rfl) ?_
    refine WL.nil (WX.then_normal ?_)
    refine WC.cond rfl (fun b2 => ?_) (fun b2 => ?_)
    · replace H := H.1 (of_decide_eq_true b2)
      refine WC.skip (WX.then_normal ?_)
      refine WC.seq ?_
      refine WC.block ?_
      refine WC.region ?_
      refine WL.y rfl (Yld.pure tab_ok rfl) ?_
      refine WL.y rfl (Yld.pure tab_ok rfl) ?_
      refine WL.y rfl (Yld.pure tab_ok rfl) ?_
      obtain ⟨h2, H⟩ := H
      refine WL.y rfl (Yld.iaddrK tab_ok (hl.grown gr2) rfl rfl hr_l.1.symm rfl h2.1 h2.2) ?_
      refine WL.y rfl (Yld.faddrK tab_ok (hl.grown gr2) (iltN h2 hr_l.1.symm) rfl rfl rfl) ?_
      refine WL.y rfl (Yld.iloadF (v := .slice A_el (((l.getD i.toNat (0, [], [])).2.1).length) c_el) (0, hd0, hd0) tab_ok (hl.grown gr2) rfl rfl (iltN h2 hr_l.1.symm) (by rw [eh1]; rfl)) ?_
      refine WL.y rfl (Yld.pure tab_ok rfl) ?_
      obtain ⟨h3, H⟩ := H
      refine WL.y rfl (Yld.iaddrW tab_ok (hR1.grown gr2) rfl rfl rfl rfl h3.1 h3.2) ?_
      refine WL.y rfl (Yld.iload 0 tab_ok (hR1.grown gr2) rfl rfl (iltN h3 rfl)) ?_
      refine WL.call rfl rfl (W_smithylaw13_small H) ?_
      rintro _ w3 ⟨hg1, v_t37, F_t37, t37, rfl, ht37, ho1, H⟩
      have gr3 := gr_trans gr2 hg1
      have k7 := k3.grown hg1
      have k8 := k4.grown hg1
      have k9 := k5.grown hg1
      have k10 := k6.grown hg1
      refine WL.lit (us := [v_t37.1]) tab_ok rfl rfl rfl (all1c v_t37.2 all1n) rfl (by omega) (fun g2 w5 hB2 hg3 hl2 => ?_)
      have hO2 : Own vv w5 w.heap.size 41 (some ⟨g2, 0, none⟩) 1 ([(v_t37, F_t37)] : List VH) := Own.ofBl hB2 (Nat.le_trans (size_le gr3) hl2) (by simp [maxLen]) rfl
      have gr4 := gr_trans gr3 hg3
      have k11 := k7.grown hg3
      have k12 := k8.grown hg3
      have k13 := k9.grown hg3
      have k14 := k10.grown hg3
      have k15 := ht37.grown hg3
      have hr1 : RelD deV w5 ([(v_t37, F_t37)] : List VH) ([t37] : List PV) := (RelD.cons (RelD.one k15) RelD.nil)
      have nd1 : NewD deV ([(v_t37, F_t37)] : List VH) ([t37] : List PV) w.heap.size := (NewD.cons (d := deV) (fun p_ hp_ => (DnD.one (ho1 p_ (fun g_ e_ => Nat.lt_of_lt_of_le (hp_ g_ e_) (size_le gr2))))) NewD.nil)
      have dj7 : DnD deV ([(v_t37, F_t37)] : List VH) ([t37] : List PV) (blk A_out) := (DnD.cons (d := deV) (DnD.one (ho1 _ k3.lt')) DnD.nil)
      have dj8 : DnD deV ([(v_t37, F_t37)] : List VH) ([t37] : List PV) (blk A_own) := (DnD.cons (d := deV) (DnD.one (ho1 _ k5.lt')) DnD.nil)
      have dj9 : DnD deV ([(v_t37, F_t37)] : List VH) ([t37] : List PV) (blk (some ⟨g2, 0, none⟩)) := (DnD.cons (d := deV) (DnD.one (ht37.new (Ge.box hl2))) DnD.nil)
      obtain ⟨h4, H⟩ := H
      have h5 : ((hs_own : List VH).length + ([(v_t37, F_t37)] : List VH).length) * 16 ≤ 140737488355328 := by rw [k14.1, hr1.1]; exact h4
      refine WL.append tab_ok rfl rfl One.vv k13 rfl k6.1.symm hO2.rd rfl rfl h5 (applen h5) (size_le gr4) (fun A_own2 c_own2 w6 hO3 hg4 hk1 => ?_)
      have el1 : (hs_own ++ ([(v_t37, F_t37)] : List VH)).length = (own ++ ([t37] : List PV)).length := by rw [List.length_append, List.length_append, k14.1, hr1.1]
      rw [el1]
      have gr5 := gr_mod gr4 hg4 k13.ge'
      have k16 := k11.go hg4 dj2
      have k17 := k12.go hg4 dj4
      have k18 := k14.go hg4 dj6
      have k19 := hr1.go hg4 dj8
      have hr2 : RelD deV w6 (hs_own ++ ([(v_t37, F_t37)] : List VH)) (own ++ ([t37] : List PV)) := RelD.append k18 k19
      have nd2 : NewD deV (hs_own ++ ([(v_t37, F_t37)] : List VH)) (own ++ ([t37] : List PV)) w.heap.size := NewD.append k14.1 or3 nd1
      have dj10 : DnD deV (hs_own ++ ([(v_t37, F_t37)] : List VH)) (own ++ ([t37] : List PV)) (blk A_out) := (DnD.append k14.1 dj5 dj7)
      have dj11 : DnD deV (hs_own ++ ([(v_t37, F_t37)] : List VH)) (own ++ ([t37] : List PV)) (blk (some ⟨g2, 0, none⟩)) := (DnD.append k14.1 (k10.new (Ge.box hl2)) dj9)
      have dj12 : DnD deV (hs_own ++ ([(v_t37, F_t37)] : List VH)) (own ++ ([t37] : List PV)) (blk A_own2) := (DnD.append k14.1 (RelD.app k14 dj6 hk1) (RelD.app hr1 dj8 hk1))
      refine WL.y rfl (Yld.pure tab_ok rfl) ?_
      refine WL.nil (WX.block_normal (WX.then_normal ?_))
      refine WC.region ?_
      refine WL.y rfl (Yld.pure tab_ok rfl) ?_
      obtain ⟨h6, H⟩ := H
      refine WL.y rfl (Yld.add rfl rfl h6) ?_
      refine WL.y rfl (Yld.pure tab_ok rfl) ?_
      refine WL.nil ?_
      exact WX.roundF _ ⟨own ++ ([t37] : List PV), A_own2, c_own2, (own ++ ([t37] : List PV)).length, hs_own ++ ([(v_t37, F_t37)] : List VH), k + (1 : Int), rfl, rfl, H.1, rfl, gr5, k16, k17, hO3, hr2, (Dj.app dj2.symm k11.lt' hk1).symm, dj3, (RelD.app k12 dj4 hk1), dj10, dj12, or2, nd2⟩ (by repeat (first | exact Sub.nil | refine Sub.cons rfl ?_)) H.2
    · replace H := H.2 (of_decide_eq_false b2)
      refine WC.exit (WX.then_exit (WX.then_exit (WX.block_same (WX.then_normal ?_))))
      refine WC.seq ?_
      refine WC.seq ?_
      refine WC.region ?_
      refine WL.y rfl (Yld.pure tab_ok rfl) ?_
      refine WL.nil (WX.then_normal ?_)
      refine WC.block ?_
      obtain ⟨I3, mu3, h0_3, HR3⟩ := H
      refine WC.loopF (fun n' L' w' => ∃ (from_ : List PS), ∃ (A_from : Option Addr), ∃ (c_from : Nat), ∃ (n_from : Nat), ∃ (hs_from : List VH), ∃ (k_2 : Int), n' = mu3 from_ k_2 ∧ L' = [(0, .slice A_l l.length c_l), (4, .slice A_out out.length c_out), (5, .int .i64 i), (6, .slice A_own own.length c_own), (7, .slice A_from n_from c_from), (9, .int .i64 k_2)] ∧ I3 from_ k_2 ∧ n_from = from_.length ∧ w.grownBy w' none ∧ Own vv w' w.heap.size 36 A_out c_out hs_out ∧ RelD deS w' hs_out out ∧ Own vv w' w.heap.size 41 A_own c_own hs_own ∧ RelD deV w' hs_own own ∧ Own vv w' w.heap.size 36 A_from c_from hs_from ∧ RelD deS w' hs_from from_ ∧ Dj (blk A_out) (blk A_own) ∧ Dj (blk A_out) (blk A_from) ∧ DnD deS hs_out out (blk A_out) ∧ DnD deS hs_out out (blk A_own) ∧ DnD deS hs_out out (blk A_from) ∧ Dj (blk A_own) (blk A_from) ∧ DnD deV hs_own own (blk A_out) ∧ DnD deV hs_own own (blk A_own) ∧ DnD deV hs_own own (blk A_from) ∧ DnD deS hs_from from_ (blk A_out) ∧ DnD deS hs_from from_ (blk A_own) ∧ DnD deS hs_from from_ (blk A_from) ∧ NewD deS hs_out out w.heap.size ∧ NewD deV hs_own own w.heap.size ∧ NewD deS hs_from from_ w.heap.size) _ _ ⟨[], none, 0, 0, [], (0 : Int), rfl, rfl, h0_3, rfl, gr2, k3, k4, k5, k6, (Own.nil vv w2 w.heap.size 36), (RelD.nil (d := deS) (w := w2)), dj2, Dj.nr, dj3, dj4, (DnD.none k4), Dj.nr, dj5, dj6, (DnD.none k6), DnD.nil, DnD.nil, DnD.nil, or2, or3, (NewD.nil (d := deS))⟩ (by repeat (first | exact Sub.nil | refine Sub.cons rfl ?_)) ?_
      clear h0_3
      rintro _ _ w7 ⟨from_, A_from, c_from, n_from, hs_from, k_2, rfl, rfl, hI3, rfl, gr6, k20, k21, k22, k23, k24, k25, dj13, dj14, dj15, dj16, dj17, dj18, dj19, dj20, dj21, dj22, dj23, dj24, or4, or5, or6⟩
      have H := HR3 from_ k_2 hI3
      refine WC.seq ?_
      refine WC.seq ?_
      refine WC.region ?_
      refine WL.y rfl (Yld.pure tab_ok rfl) ?_
      refine WL.y rfl (Yld.pure tab_ok rfl) ?_
      refine WL.y rfl (Yld.pure tab_ok rfl) ?_
      obtain ⟨h7, H⟩ := H
      refine WL.y rfl (Yld.iaddrK tab_ok (hl.grown gr6) rfl rfl hr_l.1.symm rfl h7.1 h7.2) ?_
      refine WL.y rfl (Yld.faddrK tab_ok (hl.grown gr6) (iltN h7 hr_l.1.symm) rfl rfl rfl) ?_
      refine WL.y rfl (Yld.iloadF (v := .slice A_el2 (((l.getD i.toNat (0, [], [])).2.2).length) c_el2) (0, hd0, hd0) tab_ok (hl.grown gr6) rfl rfl (iltN h7 hr_l.1.symm) (by rw [eh1]; rfl)) ?_
      refine WL.y rfl (Yld.pure tab_ok rfl) ?_
      refine WL.y rfl (Yld.pure tab_ok rfl) ?_
      refine WL.y rfl (Yld.pure tab_ok rfl) ?_
      refine WL.midF 3 (fun L' w' => ∃ q1 : Bool, L' = [(51, .bool q1), (0, .slice A_l l.length c_l), (4, .slice A_out out.length c_out), (5, .int .i64 i), (6, .slice A_own own.length c_own), (7, .slice A_from from_.length c_from), (9, .int .i64 k_2)] ∧ ((decide (k_2 < (((l.getD i.toNat (0, [], [])).2.2).length : Int))) && (decide ((0 : Int) < i))) = q1 ∧ w7 = w') ?_ (fun hQ => ?_)
      · rintro _ _ ⟨q1, rfl, rfl, rfl⟩
        refine WL.nil (WX.then_normal ?_)
        refine WC.cond rfl (fun b3 => ?_) (fun b3 => ?_)
        · replace H := H.1 (b3)
          refine WC.skip (WX.then_normal ?_)
          refine WC.seq ?_
          refine WC.block ?_
          refine WC.region ?_
          refine WL.y rfl (Yld.pure tab_ok rfl) ?_
          refine WL.y rfl (Yld.pure tab_ok rfl) ?_
          refine WL.y rfl (Yld.pure tab_ok rfl) ?_
          refine WL.y rfl (Yld.pure tab_ok rfl) ?_
          obtain ⟨h8, H⟩ := H
          refine WL.y rfl (Yld.iaddrK tab_ok (hl.grown gr6) rfl rfl hr_l.1.symm rfl h8.1 h8.2) ?_
          refine WL.y rfl (Yld.faddrK tab_ok (hl.grown gr6) (iltN h8 hr_l.1.symm) rfl rfl rfl) ?_
          refine WL.y rfl (Yld.iloadF (v := .slice A_el2 (((l.getD i.toNat (0, [], [])).2.2).length) c_el2) (0, hd0, hd0) tab_ok (hl.grown gr6) rfl rfl (iltN h8 hr_l.1.symm) (by rw [eh1]; rfl)) ?_
          refine WL.y rfl (Yld.pure tab_ok rfl) ?_
          obtain ⟨h9, H⟩ := H
          refine WL.y rfl (Yld.iaddrW tab_ok (hR2.grown gr6) rfl rfl rfl rfl h9.1 h9.2) ?_
          refine WL.y rfl (Yld.iload 0 tab_ok (hR2.grown gr6) rfl rfl (iltN h9 rfl)) ?_
          refine WL.y rfl (Yld.pure tab_ok rfl) ?_
          refine WL.call rfl rfl (W_smithyworld_Number H) ?_
          rintro _ _ ⟨rfl, t65, rfl, H⟩
          obtain ⟨h10, H⟩ := H
          refine WL.y rfl (Yld.iaddrW tab_ok k20.rd rfl rfl k2.1.symm rfl h10.1 h10.2) ?_
          obtain ⟨⟨v_el, F_el⟩, eh2, hR3⟩ := RelD.at k21 vh0 PS.nil (j := t65.toNat) (Nat.lt_of_lt_of_eq (iltN h10 k2.1.symm) k21.1)
          have hv1 : RelD deS w7 [(v_el, F_el)] [out.getD t65.toNat PS.nil] := RelD.cons hR3 RelD.nil
          refine WL.y rfl (Yld.to (v := v_el.1) (Yld.iload vh0 tab_ok k20.rd rfl rfl (iltN h10 k2.1.symm)) (congrArg vv eh2)) ?_
          refine WL.lit (us := [v_el.1]) tab_ok rfl rfl rfl (all1c v_el.2 all1n) rfl (by omega) (fun g4 w9 hB4 hg6 hl4 => ?_)
          have hO5 : Own vv w9 w.heap.size 36 (some ⟨g4, 0, none⟩) 1 ([(v_el, F_el)] : List VH) := Own.ofBl hB4 (Nat.le_trans (size_le gr6) hl4) (by simp [maxLen]) rfl
          have gr7 := gr_trans gr6 hg6
          have k26 := k20.grown hg6
          have k27 := k21.grown hg6
          have k28 := k22.grown hg6
          have k29 := k23.grown hg6
          have k30 := k24.grown hg6
          have k31 := k25.grown hg6
          have k32 := hv1.grown hg6
          have hr3 : RelD deS w9 ([(v_el, F_el)] : List VH) ([out.getD t65.toNat PS.nil] : List PS) := (RelD.cons (RelD.one k32) RelD.nil)
          have nd3 : NewD deS ([(v_el, F_el)] : List VH) ([out.getD t65.toNat PS.nil] : List PS) w.heap.size := (NewD.cons (d := deS) (fun p_ hp_ => (DnD.one (DnD.cons (DnD.at (or4 p_ hp_) k21.1 (Nat.lt_of_lt_of_eq (iltN h10 k2.1.symm) k21.1) eh2) DnD.nil))) NewD.nil)
          have dj25 : DnD deS ([(v_el, F_el)] : List VH) ([out.getD t65.toNat PS.nil] : List PS) (blk A_out) := (DnD.cons (d := deS) (DnD.one (DnD.cons (DnD.at dj15 k21.1 (Nat.lt_of_lt_of_eq (iltN h10 k2.1.symm) k21.1) eh2) DnD.nil)) DnD.nil)
          have dj26 : DnD deS ([(v_el, F_el)] : List VH) ([out.getD t65.toNat PS.nil] : List PS) (blk A_own) := (DnD.cons (d := deS) (DnD.one (DnD.cons (DnD.at dj16 k21.1 (Nat.lt_of_lt_of_eq (iltN h10 k2.1.symm) k21.1) eh2) DnD.nil)) DnD.nil)
          have dj27 : DnD deS ([(v_el, F_el)] : List VH) ([out.getD t65.toNat PS.nil] : List PS) (blk A_from) := (DnD.cons (d := deS) (DnD.one (DnD.cons (DnD.at dj17 k21.1 (Nat.lt_of_lt_of_eq (iltN h10 k2.1.symm) k21.1) eh2) DnD.nil)) DnD.nil)
          have dj28 : DnD deS ([(v_el, F_el)] : List VH) ([out.getD t65.toNat PS.nil] : List PS) (blk (some ⟨g4, 0, none⟩)) := (DnD.cons (d := deS) (DnD.one (hv1.new (Ge.box hl4))) DnD.nil)
          obtain ⟨h11, H⟩ := H
          have h12 : ((hs_from : List VH).length + ([(v_el, F_el)] : List VH).length) * 8 ≤ 140737488355328 := by rw [k31.1, hr3.1]; exact h11
          refine WL.append tab_ok rfl rfl One.vv k30 rfl k25.1.symm hO5.rd rfl rfl h12 (applen h12) (size_le gr7) (fun A_from2 c_from2 w10 hO6 hg7 hk2 => ?_)
          have el2 : (hs_from ++ ([(v_el, F_el)] : List VH)).length = (from_ ++ ([out.getD t65.toNat PS.nil] : List PS)).length := by rw [List.length_append, List.length_append, k31.1, hr3.1]
          rw [el2]
          have gr8 := gr_mod gr7 hg7 k30.ge'
          have k33 := k26.go hg7 dj14
          have k34 := k27.go hg7 dj17
          have k35 := k28.go hg7 dj18
          have k36 := k29.go hg7 dj21
          have k37 := k31.go hg7 dj24
          have k38 := hr3.go hg7 dj27
          have hr4 : RelD deS w10 (hs_from ++ ([(v_el, F_el)] : List VH)) (from_ ++ ([out.getD t65.toNat PS.nil] : List PS)) := RelD.append k37 k38
          have nd4 : NewD deS (hs_from ++ ([(v_el, F_el)] : List VH)) (from_ ++ ([out.getD t65.toNat PS.nil] : List PS)) w.heap.size := NewD.append k31.1 or6 nd3
          have dj29 : DnD deS (hs_from ++ ([(v_el, F_el)] : List VH)) (from_ ++ ([out.getD t65.toNat PS.nil] : List PS)) (blk A_out) := (DnD.append k31.1 dj22 dj25)
          have dj30 : DnD deS (hs_from ++ ([(v_el, F_el)] : List VH)) (from_ ++ ([out.getD t65.toNat PS.nil] : List PS)) (blk A_own) := (DnD.append k31.1 dj23 dj26)
          have dj31 : DnD deS (hs_from ++ ([(v_el, F_el)] : List VH)) (from_ ++ ([out.getD t65.toNat PS.nil] : List PS)) (blk (some ⟨g4, 0, none⟩)) := (DnD.append k31.1 (k25.new (Ge.box hl4)) dj28)
          have dj32 : DnD deS (hs_from ++ ([(v_el, F_el)] : List VH)) (from_ ++ ([out.getD t65.toNat PS.nil] : List PS)) (blk A_from2) := (DnD.append k31.1 (RelD.app k31 dj24 hk2) (RelD.app hr3 dj27 hk2))
          refine WL.y rfl (Yld.pure tab_ok rfl) ?_
          refine WL.nil (WX.block_normal (WX.then_normal ?_))
          refine WC.region ?_
          refine WL.y rfl (Yld.pure tab_ok rfl) ?_
          obtain ⟨h13, H⟩ := H
          refine WL.y rfl (Yld.add rfl rfl h13) ?_
          refine WL.y rfl (Yld.pure tab_ok rfl) ?_
          refine WL.nil ?_
          exact WX.roundF _ ⟨from_ ++ ([out.getD t65.toNat PS.nil] : List PS), A_from2, c_from2, (from_ ++ ([out.getD t65.toNat PS.nil] : List PS)).length, hs_from ++ ([(v_el, F_el)] : List VH), k_2 + (1 : Int), rfl, rfl, H.1, rfl, gr8, k33, k34, k35, k36, hO6, hr4, dj13, (Dj.app dj14.symm k26.lt' hk2).symm, dj15, dj16, (RelD.app k27 dj17 hk2), (Dj.app dj18.symm k28.lt' hk2).symm, dj19, dj20, (RelD.app k29 dj21 hk2), dj29, dj30, dj32, or4, or5, nd4⟩ (by repeat (first | exact Sub.nil | refine Sub.cons rfl ?_)) H.2
        · replace H := H.2 (b3)
          refine WC.exit (WX.then_exit (WX.then_exit (WX.block_same (WX.then_normal ?_))))
          refine WC.seq ?_
          refine WC.region ?_
          refine WL.y rfl (Yld.pure tab_ok rfl) ?_
          refine WL.y rfl (Yld.pure tab_ok rfl) ?_
          obtain ⟨h14, H⟩ := H
          refine WL.y rfl (Yld.iaddrK tab_ok (hl.grown gr6) rfl rfl hr_l.1.symm rfl h14.1 h14.2) ?_
          refine WL.y rfl (Yld.faddrK tab_ok (hl.grown gr6) (iltN h14 hr_l.1.symm) rfl rfl rfl) ?_
          refine WL.y rfl (Yld.iloadF (v := .int .i64 ((l.getD i.toNat (0, [], [])).1)) (0, hd0, hd0) tab_ok (hl.grown gr6) rfl rfl (iltN h14 hr_l.1.symm) (by rw [eh1]; rfl)) ?_
          refine WL.y rfl (Yld.pure tab_ok rfl) ?_
          refine WL.y rfl (Yld.pure tab_ok rfl) ?_
          refine WL.call rfl rfl (W_deps_New (hG.grown gr6) hS3 hS7 k22.rd rfl k23 k24.rd rfl k25 H) ?_
          rintro _ w11 ⟨hg8, v_t780, F_t780, t780, v_t781, t781, rfl, ht780, ho2, hf1, ht781, H⟩
          replace H := H (fun hn_ x_ hx_ y_ hr_ hm_ => deS_fresh k21 hx_ hr_ hm_ (hf1 hn_))
          replace H := H (fun hn_ x_ hx_ y_ hr_ hm_ => deS_fresh k25 hx_ hr_ hm_ (hf1 hn_))
          have gr9 := gr_trans gr6 hg8
          have k39 := k20.grown hg8
          have k40 := k21.grown hg8
          refine WL.y rfl (Yld.pure tab_ok rfl) ?_
          refine WL.y rfl (Yld.pure tab_ok rfl) ?_
          refine WL.y rfl (Yld.pure tab_ok rfl) ?_
          refine WL.y rfl (Yld.pure tab_ok rfl) ?_
          refine WL.y rfl (Yld.pure tab_ok rfl) ?_
          refine WL.nil (WX.then_normal ?_)
          refine WC.seq ?_
          refine WC.seq ?_
          refine WC.region ?_
          refine WL.y rfl (Yld.pure tab_ok rfl) ?_
          have hv2 : RelD deS w11 [(pnil, noF)] [PS.nil] := deS_nil
          refine WL.y rfl (deS_eqnil Tryd.underlying36 ht780 rfl rfl) ?_
          refine WL.y rfl (Yld.pure tab_ok rfl) ?_
          refine WL.midF 3 (fun L' w' => ∃ q2 : Bool, L' = [(86, .bool q2), (0, .slice A_l l.length c_l), (4, .slice A_out out.length c_out), (5, .int .i64 i), (10, v_t780.1)] ∧ (t780.isNil || (!decide (t781 = Er.ok))) = q2 ∧ w11 = w') ?_ (fun hQ => ?_)
          · rintro _ _ ⟨q2, rfl, rfl, rfl⟩
            refine WL.nil (WX.then_normal ?_)
            refine WC.cond rfl (fun b4 => ?_) (fun b4 => ?_)
            · replace H := H.1 (b4)
              refine WC.seq ?_
              refine WC.region ?_
              refine WL.y rfl (Yld.pure tab_ok rfl) ?_
              refine WL.y rfl (Yld.pure tab_ok rfl) ?_
              refine WL.y rfl (Yld.pure tab_ok rfl) ?_
              refine WL.nil (WX.then_normal ?_)
              refine WC.ret (WX.then_ret (WX.block_ret (WX.then_ret (WX.then_ret (WX.block_ret (WX.then_ret ?_))))))
              exact WX.ret2 rfl rfl rfl ⟨gr9, out, A_out, c_out, hs_out, false, (by rw [k2.1.symm]), k39, k40, or4, dj15, H⟩
            · replace H := H.2 (b4)
              refine WC.skip (WX.then_normal ?_)
              refine WC.region ?_
              refine WL.y rfl (Yld.pure tab_ok rfl) ?_
              refine WL.y rfl (Yld.pure tab_ok rfl) ?_
              refine WL.lit (us := [v_t780.1]) tab_ok rfl rfl rfl (all1c v_t780.2 all1n) rfl (by omega) (fun g6 w13 hB6 hg10 hl6 => ?_)
              have hO8 : Own vv w13 w.heap.size 36 (some ⟨g6, 0, none⟩) 1 ([(v_t780, F_t780)] : List VH) := Own.ofBl hB6 (Nat.le_trans (size_le gr9) hl6) (by simp [maxLen]) rfl
              have gr10 := gr_trans gr9 hg10
              have k41 := k39.grown hg10
              have k42 := k40.grown hg10
              have k43 := ht780.grown hg10
              have hr5 : RelD deS w13 ([(v_t780, F_t780)] : List VH) ([t780] : List PS) := (RelD.cons (RelD.one k43) RelD.nil)
              have nd5 : NewD deS ([(v_t780, F_t780)] : List VH) ([t780] : List PS) w.heap.size := (NewD.cons (d := deS) (fun p_ hp_ => (DnD.one (ho2 p_ (fun g_ e_ => Nat.lt_of_lt_of_le (hp_ g_ e_) (size_le gr6)) (or5 p_ hp_) (or6 p_ hp_)))) NewD.nil)
              have dj33 : DnD deS ([(v_t780, F_t780)] : List VH) ([t780] : List PS) (blk A_out) := (DnD.cons (d := deS) (DnD.one (ho2 _ k20.lt' dj19 dj22)) DnD.nil)
              have dj34 : DnD deS ([(v_t780, F_t780)] : List VH) ([t780] : List PS) (blk (some ⟨g6, 0, none⟩)) := (DnD.cons (d := deS) (DnD.one (ht780.new (Ge.box hl6))) DnD.nil)
              obtain ⟨h15, H⟩ := H
              have h16 : ((hs_out : List VH).length + ([(v_t780, F_t780)] : List VH).length) * 8 ≤ 140737488355328 := by rw [k42.1, hr5.1]; exact h15
              refine WL.append tab_ok rfl rfl One.vv k41 rfl k2.1.symm hO8.rd rfl rfl h16 (applen h16) (size_le gr10) (fun A_out2 c_out2 w14 hO9 hg11 hk3 => ?_)
              have el3 : (hs_out ++ ([(v_t780, F_t780)] : List VH)).length = (out ++ ([t780] : List PS)).length := by rw [List.length_append, List.length_append, k42.1, hr5.1]
              rw [el3]
              have gr11 := gr_mod gr10 hg11 k41.ge'
              have k44 := k42.go hg11 dj15
              have k45 := hr5.go hg11 dj33
              have hr6 : RelD deS w14 (hs_out ++ ([(v_t780, F_t780)] : List VH)) (out ++ ([t780] : List PS)) := RelD.append k44 k45
              have nd6 : NewD deS (hs_out ++ ([(v_t780, F_t780)] : List VH)) (out ++ ([t780] : List PS)) w.heap.size := NewD.append k42.1 or4 nd5
              have dj35 : DnD deS (hs_out ++ ([(v_t780, F_t780)] : List VH)) (out ++ ([t780] : List PS)) (blk (some ⟨g6, 0, none⟩)) := (DnD.append k42.1 (k40.new (Ge.box hl6)) dj34)
              have dj36 : DnD deS (hs_out ++ ([(v_t780, F_t780)] : List VH)) (out ++ ([t780] : List PS)) (blk A_out2) := (DnD.append k42.1 (RelD.app k42 dj15 hk3) (RelD.app hr5 dj33 hk3))
              refine WL.y rfl (Yld.pure tab_ok rfl) ?_
              refine WL.nil (WX.block_normal (WX.then_normal ?_))
              refine WC.region ?_
              refine WL.y rfl (Yld.pure tab_ok rfl) ?_
              obtain ⟨h17, H⟩ := H
              refine WL.y rfl (Yld.add rfl rfl h17) ?_
              refine WL.y rfl (Yld.pure tab_ok rfl) ?_
              refine WL.nil ?_
              exact WX.roundF _ ⟨out ++ ([t780] : List PS), A_out2, c_out2, (out ++ ([t780] : List PS)).length, hs_out ++ ([(v_t780, F_t780)] : List VH), i + (1 : Int), rfl, rfl, H.1, rfl, gr11, hO9, hr6, dj36, nd6⟩ (by repeat (first | exact Sub.nil | refine Sub.cons rfl ?_)) H.2
          · clear H
            rcases Bool.eq_false_or_eq_true (t780.isNil) with b5 | b5
            · refine WL.gno rfl rfl (okb b5) rfl ?_
              refine WL.gno rfl rfl (okb b5) rfl ?_
              refine WL.y rfl (Yld.pickT (okb b5) rfl) ?_
              exact WL.weaken (by repeat (first | exact Sub.nil | refine Sub.cons rfl ?_)) (hQ _ _ ⟨true, rfl, by rw [b5] <;> rfl, rfl⟩)
            · refine WL.gyes rfl rfl (okb b5) rfl (Yld.pure tab_ok rfl) ?_
              refine WL.gyes rfl rfl (okb b5) rfl (Yld.errneq Tryd.underlying34 ht781 rfl) ?_
              refine WL.y rfl (Yld.pickF (okb b5) rfl) ?_
              exact WL.weaken (by repeat (first | exact Sub.nil | refine Sub.cons rfl ?_)) (hQ _ _ ⟨!decide (t781 = Er.ok), rfl, by rw [b5] <;> rfl, rfl⟩)
      · clear H
        rcases Bool.eq_false_or_eq_true (decide (k_2 < (((l.getD i.toNat (0, [], [])).2.2).length : Int))) with b6 | b6
        · refine WL.gyes rfl rfl (okb b6) rfl (Yld.pure tab_ok rfl) ?_
          refine WL.gyes rfl rfl (okb b6) rfl (Yld.pure tab_ok rfl) ?_
          refine WL.y rfl (Yld.pickT (okb b6) rfl) ?_
          exact WL.weaken (by repeat (first | exact Sub.nil | refine Sub.cons rfl ?_)) (hQ _ _ ⟨decide ((0 : Int) < i), rfl, by rw [b6] <;> rfl, rfl⟩)
        · refine WL.gno rfl rfl (okb b6) rfl ?_
          refine WL.gno rfl rfl (okb b6) rfl ?_
          refine WL.y rfl (Yld.pickF (okb b6) rfl) ?_
          exact WL.weaken (by repeat (first | exact Sub.nil | refine Sub.cons rfl ?_)) (hQ _ _ ⟨false, rfl, by rw [b6] <;> rfl, rfl⟩)
  · replace H := H.2 (of_decide_eq_false b1)
    refine WC.exit (WX.then_exit (WX.then_exit (WX.block_same (WX.then_normal ?_))))
    refine WC.seq ?_
    refine WC.region ?_
    refine WL.y rfl (Yld.pure tab_ok rfl) ?_
    refine WL.y rfl (Yld.pure tab_ok rfl) ?_
    refine WL.y rfl (Yld.pure tab_ok rfl) ?_
    refine WL.nil (WX.then_normal ?_)
    refine WC.ret ?_
    exact WX.ret2 rfl rfl rfl ⟨gr1, out, A_out, c_out, hs_out, true, (by rw [k2.1.symm]), k1, k2, or1, dj1, H⟩

set_option maxHeartbeats 8000000 in
theorem W_smithylaw13_first {S : List Nat} {w : World} {K : Bool → Prop} (hG : GOK S w) (hS3 : 3 ∈ S) (hS7 : 7 ∈ S) (H : M_smithylaw13_first  K) : Fn Tryd.prog 7 ⟨[]⟩ w (fun v w' => w.grownBy w' none ∧ ∃ (r : Bool), v = .bool r ∧ K r) := by
  unfold M_smithylaw13_first at H
  refine Fn.enter (by kernel_rfl) Tryd.func7 rfl Tryd.ntmps7 rfl ?_
  refine WC.seq ?_
  refine WC.region ?_
  refine WL.y rfl (Yld.pure tab_ok rfl) ?_
  refine WL.nil (WX.then_normal ?_)
  refine WC.seq ?_
  refine WC.region ?_
  refine WL.lit tab_ok rfl rfl rfl (all1c rfl all1n) rfl (by omega) (fun g1 w1 hB1 hg1 hl1 => ?_)
  have hO1 : Own vi w1 w.heap.size 3 (some ⟨g1, 0, none⟩) 1 ([(1 : Int)] : List Int) := Own.ofBl hB1 (Nat.le_trans (Nat.le_refl _) hl1) (by simp [maxLen]) rfl
  have gr1 := hg1
  refine WL.y rfl (Yld.struct (us := [.int .i64 (0 : Int), .slice (some ⟨g1, 0, none⟩) 1 1, .slice none 0 0]) zero28 places28 rfl rfl) ?_
  refine WL.lit tab_ok rfl rfl rfl (all1c rfl all1n) rfl (by omega) (fun g2 w2 hB2 hg2 hl2 => ?_)
  have hO2 : Own vi w2 w.heap.size 3 (some ⟨g2, 0, none⟩) 1 ([(2 : Int)] : List Int) := Own.ofBl hB2 (Nat.le_trans (size_le gr1) hl2) (by simp [maxLen]) rfl
  have gr2 := gr_trans gr1 hg2
  have k1 := hO1.grown hg2
  refine WL.lit tab_ok rfl rfl rfl (all1c rfl all1n) rfl (by omega) (fun g3 w3 hB3 hg3 hl3 => ?_)
  have hO3 : Own vi w3 w.heap.size 3 (some ⟨g3, 0, none⟩) 1 ([(0 : Int)] : List Int) := Own.ofBl hB3 (Nat.le_trans (size_le gr2) hl3) (by simp [maxLen]) rfl
  have gr3 := gr_trans gr2 hg3
  have k2 := k1.grown hg3
  have k3 := hO2.grown hg3
  refine WL.y rfl (Yld.struct (us := [.int .i64 (0 : Int), .slice (some ⟨g2, 0, none⟩) 1 1, .slice (some ⟨g3, 0, none⟩) 1 1]) zero28 places28 rfl rfl) ?_
  refine WL.lit tab_ok rfl rfl rfl (all1c rfl all1n) rfl (by omega) (fun g4 w4 hB4 hg4 hl4 => ?_)
  have hO4 : Own vi w4 w.heap.size 3 (some ⟨g4, 0, none⟩) 1 ([(3 : Int)] : List Int) := Own.ofBl hB4 (Nat.le_trans (size_le gr3) hl4) (by simp [maxLen]) rfl
  have gr4 := gr_trans gr3 hg4
  have k4 := k2.grown hg4
  have k5 := k3.grown hg4
  have k6 := hO3.grown hg4
  refine WL.lit tab_ok rfl rfl rfl (all1c rfl all1n) rfl (by omega) (fun g5 w5 hB5 hg5 hl5 => ?_)
  have hO5 : Own vi w5 w.heap.size 3 (some ⟨g5, 0, none⟩) 1 ([(0 : Int)] : List Int) := Own.ofBl hB5 (Nat.le_trans (size_le gr4) hl5) (by simp [maxLen]) rfl
  have gr5 := gr_trans gr4 hg5
  have k7 := k4.grown hg5
  have k8 := k5.grown hg5
  have k9 := k6.grown hg5
  have k10 := hO4.grown hg5
  refine WL.y rfl (Yld.struct (us := [.int .i64 (0 : Int), .slice (some ⟨g4, 0, none⟩) 1 1, .slice (some ⟨g5, 0, none⟩) 1 1]) zero28 places28 rfl rfl) ?_
  refine WL.lit tab_ok rfl rfl rfl (all1c rfl all1n) rfl (by omega) (fun g6 w6 hB6 hg6 hl6 => ?_)
  have hO6 : Own vi w6 w.heap.size 3 (some ⟨g6, 0, none⟩) 1 ([(4 : Int)] : List Int) := Own.ofBl hB6 (Nat.le_trans (size_le gr5) hl6) (by simp [maxLen]) rfl
  have gr6 := gr_trans gr5 hg6
  have k11 := k7.grown hg6
  have k12 := k8.grown hg6
  have k13 := k9.grown hg6
  have k14 := k10.grown hg6
  have k15 := hO5.grown hg6
  refine WL.lit tab_ok rfl rfl rfl (all1c rfl (all1c rfl all1n)) rfl (by omega) (fun g7 w7 hB7 hg7 hl7 => ?_)
  have hO7 : Own vi w7 w.heap.size 3 (some ⟨g7, 0, none⟩) 2 ([(1 : Int), (2 : Int)] : List Int) := Own.ofBl hB7 (Nat.le_trans (size_le gr6) hl7) (by simp [maxLen]) rfl
  have gr7 := gr_trans gr6 hg7
  have k16 := k11.grown hg7
  have k17 := k12.grown hg7
  have k18 := k13.grown hg7
  have k19 := k14.grown hg7
  have k20 := k15.grown hg7
  have k21 := hO6.grown hg7
  refine WL.y rfl (Yld.struct (us := [.int .i64 (0 : Int), .slice (some ⟨g6, 0, none⟩) 1 1, .slice (some ⟨g7, 0, none⟩) 2 2]) zero28 places28 rfl rfl) ?_
  refine WL.litK (f := encH28) ([((0 : Int), ⟨(some ⟨g1, 0, none⟩), 1, 1⟩, ⟨none, 0, 0⟩), ((0 : Int), ⟨(some ⟨g2, 0, none⟩), 1, 1⟩, ⟨(some ⟨g3, 0, none⟩), 1, 1⟩), ((0 : Int), ⟨(some ⟨g4, 0, none⟩), 1, 1⟩, ⟨(some ⟨g5, 0, none⟩), 1, 1⟩), ((0 : Int), ⟨(some ⟨g6, 0, none⟩), 1, 1⟩, ⟨(some ⟨g7, 0, none⟩), 2, 2⟩)] : List (Int × Hdr × Hdr)) encH28_ok rfl ow22 rfl rfl rfl (fun g9 w9 hB9 hg9 hl9 => ?_)
  have hO9 : OwnK 3 encH28 w9 w.heap.size 28 (some ⟨g9, 0, none⟩) 4 ([((0 : Int), ⟨(some ⟨g1, 0, none⟩), 1, 1⟩, ⟨none, 0, 0⟩), ((0 : Int), ⟨(some ⟨g2, 0, none⟩), 1, 1⟩, ⟨(some ⟨g3, 0, none⟩), 1, 1⟩), ((0 : Int), ⟨(some ⟨g4, 0, none⟩), 1, 1⟩, ⟨(some ⟨g5, 0, none⟩), 1, 1⟩), ((0 : Int), ⟨(some ⟨g6, 0, none⟩), 1, 1⟩, ⟨(some ⟨g7, 0, none⟩), 2, 2⟩)] : List (Int × Hdr × Hdr)) := OwnK.ofBl encH28_ok hB9 (Nat.le_trans (size_le gr7) hl9) (by simp [maxLen]) rfl
  have gr8 := gr_trans gr7 hg9
  have k22 := k16.grown hg9
  have k23 := k17.grown hg9
  have k24 := k18.grown hg9
  have k25 := k19.grown hg9
  have k26 := k20.grown hg9
  have k27 := k21.grown hg9
  have k28 := hO7.grown hg9
  have hr1 : RelD de28 w9 ([((0 : Int), ⟨(some ⟨g1, 0, none⟩), 1, 1⟩, ⟨none, 0, 0⟩), ((0 : Int), ⟨(some ⟨g2, 0, none⟩), 1, 1⟩, ⟨(some ⟨g3, 0, none⟩), 1, 1⟩), ((0 : Int), ⟨(some ⟨g4, 0, none⟩), 1, 1⟩, ⟨(some ⟨g5, 0, none⟩), 1, 1⟩), ((0 : Int), ⟨(some ⟨g6, 0, none⟩), 1, 1⟩, ⟨(some ⟨g7, 0, none⟩), 2, 2⟩)] : List (Int × Hdr × Hdr)) ([((0 : Int), ([(1 : Int)] : List Int), []), ((0 : Int), ([(2 : Int)] : List Int), ([(0 : Int)] : List Int)), ((0 : Int), ([(3 : Int)] : List Int), ([(0 : Int)] : List Int)), ((0 : Int), ([(4 : Int)] : List Int), ([(1 : Int), (2 : Int)] : List Int))] : List (Int × List Int × List Int)) := (RelD.cons ⟨rfl, ⟨rfl, k22.rd⟩, ⟨rfl, (Own.nil vi w9 w.heap.size 3).rd⟩⟩ (RelD.cons ⟨rfl, ⟨rfl, k23.rd⟩, ⟨rfl, k24.rd⟩⟩ (RelD.cons ⟨rfl, ⟨rfl, k25.rd⟩, ⟨rfl, k26.rd⟩⟩ (RelD.cons ⟨rfl, ⟨rfl, k27.rd⟩, ⟨rfl, k28.rd⟩⟩ RelD.nil))))
  have nd1 : NewD de28 ([((0 : Int), ⟨(some ⟨g1, 0, none⟩), 1, 1⟩, ⟨none, 0, 0⟩), ((0 : Int), ⟨(some ⟨g2, 0, none⟩), 1, 1⟩, ⟨(some ⟨g3, 0, none⟩), 1, 1⟩), ((0 : Int), ⟨(some ⟨g4, 0, none⟩), 1, 1⟩, ⟨(some ⟨g5, 0, none⟩), 1, 1⟩), ((0 : Int), ⟨(some ⟨g6, 0, none⟩), 1, 1⟩, ⟨(some ⟨g7, 0, none⟩), 2, 2⟩)] : List (Int × Hdr × Hdr)) ([((0 : Int), ([(1 : Int)] : List Int), []), ((0 : Int), ([(2 : Int)] : List Int), ([(0 : Int)] : List Int)), ((0 : Int), ([(3 : Int)] : List Int), ([(0 : Int)] : List Int)), ((0 : Int), ([(4 : Int)] : List Int), ([(1 : Int), (2 : Int)] : List Int))] : List (Int × List Int × List Int)) w.heap.size := (NewD.cons (d := de28) (fun p_ hp_ => ⟨trivial, (Dn.of (Dj.new hp_ k22.ge').symm), (fun h => absurd rfl h)⟩) (NewD.cons (d := de28) (fun p_ hp_ => ⟨trivial, (Dn.of (Dj.new hp_ k23.ge').symm), (Dn.of (Dj.new hp_ k24.ge').symm)⟩) (NewD.cons (d := de28) (fun p_ hp_ => ⟨trivial, (Dn.of (Dj.new hp_ k25.ge').symm), (Dn.of (Dj.new hp_ k26.ge').symm)⟩) (NewD.cons (d := de28) (fun p_ hp_ => ⟨trivial, (Dn.of (Dj.new hp_ k27.ge').symm), (Dn.of (Dj.new hp_ k28.ge').symm)⟩) NewD.nil))))
  have dj1 : DnD de28 ([((0 : Int), ⟨(some ⟨g1, 0, none⟩), 1, 1⟩, ⟨none, 0, 0⟩), ((0 : Int), ⟨(some ⟨g2, 0, none⟩), 1, 1⟩, ⟨(some ⟨g3, 0, none⟩), 1, 1⟩), ((0 : Int), ⟨(some ⟨g4, 0, none⟩), 1, 1⟩, ⟨(some ⟨g5, 0, none⟩), 1, 1⟩), ((0 : Int), ⟨(some ⟨g6, 0, none⟩), 1, 1⟩, ⟨(some ⟨g7, 0, none⟩), 2, 2⟩)] : List (Int × Hdr × Hdr)) ([((0 : Int), ([(1 : Int)] : List Int), []), ((0 : Int), ([(2 : Int)] : List Int), ([(0 : Int)] : List Int)), ((0 : Int), ([(3 : Int)] : List Int), ([(0 : Int)] : List Int)), ((0 : Int), ([(4 : Int)] : List Int), ([(1 : Int), (2 : Int)] : List Int))] : List (Int × List Int × List Int)) (blk (some ⟨g9, 0, none⟩)) := (DnD.cons (d := de28) ⟨trivial, (Dn.of (Dj.new k16.lt' (Ge.box hl9))), (Dn.of Dj.nl)⟩ (DnD.cons (d := de28) ⟨trivial, (Dn.of (Dj.new k17.lt' (Ge.box hl9))), (Dn.of (Dj.new k18.lt' (Ge.box hl9)))⟩ (DnD.cons (d := de28) ⟨trivial, (Dn.of (Dj.new k19.lt' (Ge.box hl9))), (Dn.of (Dj.new k20.lt' (Ge.box hl9)))⟩ (DnD.cons (d := de28) ⟨trivial, (Dn.of (Dj.new k21.lt' (Ge.box hl9))), (Dn.of (Dj.new hO7.lt' (Ge.box hl9)))⟩ DnD.nil))))
  refine WL.y rfl (Yld.pure tab_ok rfl) ?_
  refine WL.nil (WX.then_normal ?_)
  refine WC.seq ?_
  refine WC.region ?_
  refine WL.lit tab_ok rfl rfl rfl (all1c rfl (all1c rfl (all1c rfl all1n))) rfl (by omega) (fun g10 w10 hB10 hg10 hl10 => ?_)
  have hO10 : Own vs w10 w.heap.size 9 (some ⟨g10, 0, none⟩) 3 ([([40, 52, 44, 32, 50, 44, 32, 49, 44, 32, 51, 41] : List UInt8), ([40, 49, 44, 32, 50, 44, 32, 51, 44, 32, 52, 41] : List UInt8), ([40, 52, 44, 32, 50, 44, 32, 51, 44, 32, 49, 41] : List UInt8)] : List (List UInt8)) := Own.ofBl hB10 (Nat.le_trans (size_le gr8) hl10) (by simp [maxLen]) rfl
  have gr9 := gr_trans gr8 hg10
  have k29 := hO9.grown hg10
  have k30 := hr1.grown hg10
  refine WL.y rfl (Yld.pure tab_ok rfl) ?_
  refine WL.nil (WX.then_normal ?_)
  refine WC.seq ?_
  refine WC.seq ?_
  refine WC.region ?_
  refine WL.y rfl (Yld.pure tab_ok rfl) ?_
  refine WL.nil (WX.then_normal ?_)
  refine WC.block ?_
  obtain ⟨I1, mu1, h0_1, HR1⟩ := H
  refine WC.loopF (fun n' L' w' => ∃ (order : Int), ∃ (l : List (Int × List Int × List Int)), ∃ (hs : List (Int × Hdr × Hdr)), n' = mu1 order l ∧ L' = [(1, .slice (some ⟨g9, 0, none⟩) 4 4), (2, .slice (some ⟨g10, 0, none⟩) 3 3), (3, .int .i64 order)] ∧ I1 order l ∧ 4 = l.length ∧ w.grownBy w' none ∧ OwnK 3 encH28 w' w.heap.size 28 (some ⟨g9, 0, none⟩) 4 hs ∧ RelD de28 w' hs l ∧ Own vs w' w.heap.size 9 (some ⟨g10, 0, none⟩) 3 ([([40, 52, 44, 32, 50, 44, 32, 49, 44, 32, 51, 41] : List UInt8), ([40, 49, 44, 32, 50, 44, 32, 51, 44, 32, 52, 41] : List UInt8), ([40, 52, 44, 32, 50, 44, 32, 51, 44, 32, 49, 41] : List UInt8)] : List (List UInt8)) ∧ Dj (blk (some ⟨g9, 0, none⟩)) (blk (some ⟨g10, 0, none⟩)) ∧ DnD de28 hs l (blk (some ⟨g9, 0, none⟩)) ∧ DnD de28 hs l (blk (some ⟨g10, 0, none⟩)) ∧ NewD de28 hs l w.heap.size) _ _ ⟨(1 : Int), ([((0 : Int), ([(1 : Int)] : List Int), []), ((0 : Int), ([(2 : Int)] : List Int), ([(0 : Int)] : List Int)), ((0 : Int), ([(3 : Int)] : List Int), ([(0 : Int)] : List Int)), ((0 : Int), ([(4 : Int)] : List Int), ([(1 : Int), (2 : Int)] : List Int))] : List (Int × List Int × List Int)), ([((0 : Int), ⟨(some ⟨g1, 0, none⟩), 1, 1⟩, ⟨none, 0, 0⟩), ((0 : Int), ⟨(some ⟨g2, 0, none⟩), 1, 1⟩, ⟨(some ⟨g3, 0, none⟩), 1, 1⟩), ((0 : Int), ⟨(some ⟨g4, 0, none⟩), 1, 1⟩, ⟨(some ⟨g5, 0, none⟩), 1, 1⟩), ((0 : Int), ⟨(some ⟨g6, 0, none⟩), 1, 1⟩, ⟨(some ⟨g7, 0, none⟩), 2, 2⟩)] : List (Int × Hdr × Hdr)), rfl, rfl, h0_1, (rfl.trans k30.1), gr9, k29, k30, hO10, (Dj.new hO9.lt' (Ge.box hl10)), dj1, (hr1.new (Ge.box hl10)), nd1⟩ (by repeat (first | exact Sub.nil | refine Sub.cons rfl ?_)) ?_
  clear h0_1
  rintro _ _ w11 ⟨order, l, hs, rfl, rfl, hI1, hn_l, gr10, k31, k32, k33, dj2, dj3, dj4, or1⟩
  have H := HR1 order l hI1
  replace H := H hn_l
  refine WC.seq ?_
  refine WC.seq ?_
  refine WC.region ?_
  refine WL.y rfl (Yld.pure tab_ok rfl) ?_
  refine WL.y rfl (Yld.pure tab_ok rfl) ?_
  refine WL.nil (WX.then_normal ?_)
  refine WC.cond rfl (fun b1 => ?_) (fun b1 => ?_)
  · replace H := H.1 (of_decide_eq_true b1)
    refine WC.skip (WX.then_normal ?_)
    refine WC.seq ?_
    refine WC.block ?_
    refine WC.seq ?_
    refine WC.seq ?_
    refine WC.region ?_
    refine WL.y rfl (Yld.pure tab_ok rfl) ?_
    refine WL.nil (WX.then_normal ?_)
    refine WC.block ?_
    obtain ⟨I2, mu2, h0_2, HR2⟩ := H
    refine WC.loopF (fun n' L' w' => ∃ (i : Int), ∃ (l2 : List (Int × List Int × List Int)), ∃ (hs2 : List (Int × Hdr × Hdr)), n' = mu2 i l2 ∧ L' = [(1, .slice (some ⟨g9, 0, none⟩) 4 4), (2, .slice (some ⟨g10, 0, none⟩) 3 3), (3, .int .i64 order), (4, .int .i64 i)] ∧ I2 i l2 ∧ 4 = l2.length ∧ w.grownBy w' none ∧ OwnK 3 encH28 w' w.heap.size 28 (some ⟨g9, 0, none⟩) 4 hs2 ∧ RelD de28 w' hs2 l2 ∧ Own vs w' w.heap.size 9 (some ⟨g10, 0, none⟩) 3 ([([40, 52, 44, 32, 50, 44, 32, 49, 44, 32, 51, 41] : List UInt8), ([40, 49, 44, 32, 50, 44, 32, 51, 44, 32, 52, 41] : List UInt8), ([40, 52, 44, 32, 50, 44, 32, 51, 44, 32, 49, 41] : List UInt8)] : List (List UInt8)) ∧ Dj (blk (some ⟨g9, 0, none⟩)) (blk (some ⟨g10, 0, none⟩)) ∧ DnD de28 hs2 l2 (blk (some ⟨g9, 0, none⟩)) ∧ DnD de28 hs2 l2 (blk (some ⟨g10, 0, none⟩)) ∧ NewD de28 hs2 l2 w.heap.size) _ _ ⟨(0 : Int), l, hs, rfl, rfl, h0_2, ((hn_l.trans k32.1.symm).trans k32.1), gr10, k31, k32, k33, dj2, dj3, dj4, or1⟩ (by repeat (first | exact Sub.nil | refine Sub.cons rfl ?_)) ?_
    clear h0_2
    rintro _ _ w12 ⟨i, l2, hs2, rfl, rfl, hI2, hn_l2, gr11, k34, k35, k36, dj5, dj6, dj7, or2⟩
    have H := HR2 i l2 hI2
    replace H := H hn_l2
    refine WC.seq ?_
    refine WC.seq ?_
    refine WC.region ?_
    refine WL.y rfl (Yld.pure tab_ok rfl) ?_
    refine WL.y rfl (Yld.pure tab_ok rfl) ?_
    refine WL.y rfl (Yld.pure tab_ok rfl) ?_
    refine WL.y rfl (Yld.pure tab_ok rfl) ?_
    refine WL.nil (WX.then_normal ?_)
    refine WC.cond rfl (fun b2 => ?_) (fun b2 => ?_)
    · replace H := H.1 (of_decide_eq_true b2)
      refine WC.skip (WX.then_normal ?_)
      refine WC.seq ?_
      refine WC.block ?_
      refine WC.region ?_
      refine WL.y rfl (Yld.pure tab_ok rfl) ?_
      refine WL.y rfl (Yld.pure tab_ok rfl) ?_
      refine WL.y rfl (Yld.pure tab_ok rfl) ?_
      obtain ⟨h1, H⟩ := H
      refine WL.y rfl (Yld.iaddrK tab_ok k34.rd rfl rfl (hn_l2.trans k35.1.symm) rfl h1.1 h1.2) ?_
      refine WL.y rfl (Yld.faddrK tab_ok k34.rd (iltN h1 (hn_l2.trans k35.1.symm)) rfl rfl rfl) ?_
      refine WL.ostoreF (v := ((order, (hs2.getD i.toNat (0, hd0, hd0)).2.1, (hs2.getD i.toNat (0, hd0, hd0)).2.2) : Int × Hdr × Hdr)) (0, hd0, hd0) one3 rfl k34 rfl rfl (iltN h1 (hn_l2.trans k35.1.symm)) rfl rfl (fun w13 hO11 hg11 => ?_)
      have gr12 := gr_mod gr11 hg11 k34.ge'
      have k37 := k35.go hg11 dj6
      have k38 := k36.go hg11 dj5.symm
      obtain ⟨_, rfl, r1⟩ := RelD.at k37 (0, hd0, hd0) (0, [], []) (j := i.toNat) (Nat.lt_of_lt_of_eq (iltN h1 (hn_l2.trans k35.1.symm)) k35.1)
      have hr2 : RelD de28 w13 (hs2.set i.toNat ((order, (hs2.getD i.toNat (0, hd0, hd0)).2.1, (hs2.getD i.toNat (0, hd0, hd0)).2.2) : Int × Hdr × Hdr)) (l2.set i.toNat ((order, (l2.getD i.toNat (0, [], [])).2.1, (l2.getD i.toNat (0, [], [])).2.2) : Int × List Int × List Int)) := RelD.set (h := ((order, (hs2.getD i.toNat (0, hd0, hd0)).2.1, (hs2.getD i.toNat (0, hd0, hd0)).2.2) : Int × Hdr × Hdr)) (x := ((order, (l2.getD i.toNat (0, [], [])).2.1, (l2.getD i.toNat (0, [], [])).2.2) : Int × List Int × List Int)) k37 ⟨rfl, r1.2.1, r1.2.2⟩ i.toNat
      have nd2 : NewD de28 (hs2.set i.toNat ((order, (hs2.getD i.toNat (0, hd0, hd0)).2.1, (hs2.getD i.toNat (0, hd0, hd0)).2.2) : Int × Hdr × Hdr)) (l2.set i.toNat ((order, (l2.getD i.toNat (0, [], [])).2.1, (l2.getD i.toNat (0, [], [])).2.2) : Int × List Int × List Int)) w.heap.size := fun p_ hp_ => DnD.set (h := ((order, (hs2.getD i.toNat (0, hd0, hd0)).2.1, (hs2.getD i.toNat (0, hd0, hd0)).2.2) : Int × Hdr × Hdr)) (x := ((order, (l2.getD i.toNat (0, [], [])).2.1, (l2.getD i.toNat (0, [], [])).2.2) : Int × List Int × List Int)) (or2 p_ hp_) ⟨trivial, (DnD.at (or2 p_ hp_) k35.1 (Nat.lt_of_lt_of_eq (iltN h1 (hn_l2.trans k35.1.symm)) k35.1) rfl).2.1, (DnD.at (or2 p_ hp_) k35.1 (Nat.lt_of_lt_of_eq (iltN h1 (hn_l2.trans k35.1.symm)) k35.1) rfl).2.2⟩ i.toNat
      have dj8 : DnD de28 (hs2.set i.toNat ((order, (hs2.getD i.toNat (0, hd0, hd0)).2.1, (hs2.getD i.toNat (0, hd0, hd0)).2.2) : Int × Hdr × Hdr)) (l2.set i.toNat ((order, (l2.getD i.toNat (0, [], [])).2.1, (l2.getD i.toNat (0, [], [])).2.2) : Int × List Int × List Int)) (blk (some ⟨g9, 0, none⟩)) := (DnD.set (h := ((order, (hs2.getD i.toNat (0, hd0, hd0)).2.1, (hs2.getD i.toNat (0, hd0, hd0)).2.2) : Int × Hdr × Hdr)) (x := ((order, (l2.getD i.toNat (0, [], [])).2.1, (l2.getD i.toNat (0, [], [])).2.2) : Int × List Int × List Int)) dj6 ⟨trivial, (DnD.at dj6 k35.1 (Nat.lt_of_lt_of_eq (iltN h1 (hn_l2.trans k35.1.symm)) k35.1) rfl).2.1, (DnD.at dj6 k35.1 (Nat.lt_of_lt_of_eq (iltN h1 (hn_l2.trans k35.1.symm)) k35.1) rfl).2.2⟩ i.toNat)
      have dj9 : DnD de28 (hs2.set i.toNat ((order, (hs2.getD i.toNat (0, hd0, hd0)).2.1, (hs2.getD i.toNat (0, hd0, hd0)).2.2) : Int × Hdr × Hdr)) (l2.set i.toNat ((order, (l2.getD i.toNat (0, [], [])).2.1, (l2.getD i.toNat (0, [], [])).2.2) : Int × List Int × List Int)) (blk (some ⟨g10, 0, none⟩)) := (DnD.set (h := ((order, (hs2.getD i.toNat (0, hd0, hd0)).2.1, (hs2.getD i.toNat (0, hd0, hd0)).2.2) : Int × Hdr × Hdr)) (x := ((order, (l2.getD i.toNat (0, [], [])).2.1, (l2.getD i.toNat (0, [], [])).2.2) : Int × List Int × List Int)) dj7 ⟨trivial, (DnD.at dj7 k35.1 (Nat.lt_of_lt_of_eq (iltN h1 (hn_l2.trans k35.1.symm)) k35.1) rfl).2.1, (DnD.at dj7 k35.1 (Nat.lt_of_lt_of_eq (iltN h1 (hn_l2.trans k35.1.symm)) k35.1) rfl).2.2⟩ i.toNat)
      refine WL.nil (WX.block_normal (WX.then_normal ?_))
      refine WC.region ?_
      refine WL.y rfl (Yld.pure tab_ok rfl) ?_
      obtain ⟨h2, H⟩ := H
      refine WL.y rfl (Yld.add rfl rfl h2) ?_
      refine WL.y rfl (Yld.pure tab_ok rfl) ?_
      refine WL.nil ?_
      exact WX.roundF _ ⟨i + (1 : Int), l2.set i.toNat ((order, (l2.getD i.toNat (0, [], [])).2.1, (l2.getD i.toNat (0, [], [])).2.2) : Int × List Int × List Int), hs2.set i.toNat ((order, (hs2.getD i.toNat (0, hd0, hd0)).2.1, (hs2.getD i.toNat (0, hd0, hd0)).2.2) : Int × Hdr × Hdr), rfl, rfl, H.1, (((hn_l2.trans k35.1.symm).trans List.length_set.symm).trans hr2.1), gr12, hO11, hr2, k38, dj5, dj8, dj9, nd2⟩ (by repeat (first | exact Sub.nil | refine Sub.cons rfl ?_)) H.2
    · replace H := H.2 (of_decide_eq_false b2)
      refine WC.exit (WX.then_exit (WX.then_exit (WX.block_same (WX.then_normal ?_))))
      refine WC.seq ?_
      refine WC.region ?_
      refine WL.y rfl (Yld.pure tab_ok rfl) ?_
      refine WL.call rfl rfl (W_smithylaw13_made (hG.grown gr11) hS3 hS7 k34.rd ((hn_l2.trans k35.1.symm).trans k35.1) k35 H) ?_
      rintro _ w14 ⟨hg12, t370, A_t370, c_t370, hs_t370, t371, rfl, ht370, hr_t370, ho1, dj10, H⟩
      have hb1 := ht370.ge'
      have k39 := ht370.base (fun g hg => Nat.le_trans (size_le gr11) (hb1 g hg))
      have gr13 := gr_trans gr11 hg12
      have k40 := k34.grown hg12
      have k41 := k35.grown hg12
      have k42 := k36.grown hg12
      refine WL.y rfl (Yld.pure tab_ok rfl) ?_
      refine WL.y rfl (Yld.pure tab_ok rfl) ?_
      refine WL.y rfl (Yld.pure tab_ok rfl) ?_
      refine WL.y rfl (Yld.pure tab_ok rfl) ?_
      refine WL.y rfl (Yld.pure tab_ok rfl) ?_
      refine WL.nil (WX.then_normal ?_)
      refine WC.seq ?_
      refine WC.chainF (fun k => !(Nat.beq k 6)) (LD [5, 11] (fun w' => Rd vv w' A_t370 c_t370 hs_t370 ∧ Rd vs w' (some ⟨g10, 0, none⟩) 3 ([([40, 52, 44, 32, 50, 44, 32, 49, 44, 32, 51, 41] : List UInt8), ([40, 49, 44, 32, 50, 44, 32, 51, 44, 32, 52, 41] : List UInt8), ([40, 52, 44, 32, 50, 44, 32, 51, 44, 32, 49, 41] : List UInt8)] : List (List UInt8)))) mixed (by kernel_rfl) (fun k w' h _ => ⟨(rd_eqv h k39.rd), (rd_eqv h k42.rd)⟩) ?_
      refine WJ.y rfl rfl (fun w' hw' => Yld.pure tab_ok rfl) ?_
      refine WJ.y rfl rfl (fun w' hw' => Yld.pure tab_ok rfl) ?_
      refine WJ.y rfl rfl (fun w' hw' => Yld.pure tab_ok rfl) ?_
      obtain ⟨J1, H, hJ1⟩ := H
      refine WJ.midF 11 (fun L' w' => ∃ q1 : Bool, L' = [(53, .bool q1), (1, .slice (some ⟨g9, 0, none⟩) 4 4), (2, .slice (some ⟨g10, 0, none⟩) 3 3), (3, .int .i64 order)] ∧ J1 q1 ∧ w.grownBy w' none ∧ OwnK 3 encH28 w' w.heap.size 28 (some ⟨g9, 0, none⟩) 4 hs2 ∧ RelD de28 w' hs2 l2 ∧ Own vs w' w.heap.size 9 (some ⟨g10, 0, none⟩) 3 ([([40, 52, 44, 32, 50, 44, 32, 49, 44, 32, 51, 41] : List UInt8), ([40, 49, 44, 32, 50, 44, 32, 51, 44, 32, 52, 41] : List UInt8), ([40, 52, 44, 32, 50, 44, 32, 51, 44, 32, 49, 41] : List UInt8)] : List (List UInt8)) ∧ Own vv w' w.heap.size 36 A_t370 c_t370 hs_t370) ?_ (fun hQ => ?_)
      · clear H
        rintro _ w15 ⟨q1, rfl, H, gr14, k43, k44, k45, k46⟩
        replace H := hJ1 q1 H
        refine WJ.nil (WX.then_normal ?_)
        refine WC.cond rfl (fun b3 => ?_) (fun b3 => ?_)
        · replace H := H.1 (b3)
          refine WC.seq ?_
          refine WC.region ?_
          refine WL.y rfl (Yld.pure tab_ok rfl) ?_
          refine WL.nil (WX.then_normal ?_)
          refine WC.ret (WX.block_ret (WX.then_ret (WX.then_ret (WX.block_ret (WX.then_ret ?_)))))
          exact WX.ret1 rfl rfl ⟨gr14, false, rfl, H⟩
        · replace H := H.2 (b3)
          refine WC.skip (WX.block_normal (WX.then_normal ?_))
          refine WC.region ?_
          refine WL.y rfl (Yld.pure tab_ok rfl) ?_
          obtain ⟨h3, H⟩ := H
          refine WL.y rfl (Yld.add rfl rfl h3) ?_
          refine WL.y rfl (Yld.pure tab_ok rfl) ?_
          refine WL.nil ?_
          exact WX.roundF _ ⟨order + (1 : Int), l2, hs2, rfl, rfl, H.1, ((hn_l2.trans k35.1.symm).trans k44.1), gr14, k43, k44, k45, dj5, dj6, dj7, or2⟩ (by repeat (first | exact Sub.nil | refine Sub.cons rfl ?_)) H.2
      · clear hJ1
        rcases Bool.eq_false_or_eq_true (!t371) with b4 | b4
        · replace H := H.1 b4
          refine WJ.no rfl rfl (okb b4) rfl ?_
          refine WJ.no rfl rfl (okb b4) rfl ?_
          refine WJ.no rfl rfl (okb b4) rfl ?_
          refine WJ.no rfl rfl (okb b4) rfl ?_
          refine WJ.no rfl rfl (okb b4) rfl ?_
          refine WJ.no rfl rfl (okb b4) rfl ?_
          refine WJ.no rfl rfl (okb b4) rfl ?_
          refine WJ.no rfl rfl (okb b4) rfl ?_
          refine WJ.no rfl rfl (okb b4) rfl ?_
          refine WJ.no rfl rfl (okb b4) rfl ?_
          refine WJ.y rfl rfl (fun w' hw' => Yld.pickT (okb b4) rfl) ?_
          exact WJ.weaken (by repeat (first | exact Sub.nil | refine Sub.cons rfl ?_)) (hQ _ _ ⟨true, rfl, H, gr13, k40, k41, k42, k39⟩)
        · replace H := H.2 b4
          refine WJ.yw rfl (wants_some rfl rfl (okb b4)) rfl (fun w' hw' => Yld.pure tab_ok rfl) ?_
          obtain ⟨h4, H⟩ := H
          refine WJ.yw rfl (wants_some rfl rfl (okb b4)) rfl (fun w' hw' => Yld.iaddrW tab_ok k39.rd rfl rfl hr_t370.1.symm rfl h4.1 h4.2) ?_
          obtain ⟨⟨v_el, F_el⟩, eh1, hR1⟩ := RelD.at hr_t370 vh0 PS.nil (j := 3) (Nat.lt_of_lt_of_eq (iltN h4 hr_t370.1.symm) hr_t370.1)
          have hv1 : RelD deS w14 [(v_el, F_el)] [t370.getD 3 PS.nil] := RelD.cons hR1 RelD.nil
          refine WJ.yw rfl (wants_some rfl rfl (okb b4)) rfl (fun w' hw' => Yld.to (v := v_el.1) (Yld.iload vh0 tab_ok (hw' rfl).1 rfl rfl (iltN h4 hr_t370.1.symm)) (congrArg vv eh1)) ?_
          refine WJ.call rfl (wants_some rfl rfl (okb b4)) rfl rfl (W_smithylaw13_told (hG.grown gr13) hS7 hv1 H) (fun v w' h w2 e => DD.keep (⟨(Rd.grown k39.rd (gr_eqv h.1 e)), (Rd.grown k42.rd (gr_eqv h.1 e))⟩)) ?_
          rintro _ w16 ⟨hg13, t46, rfl, H⟩
          have gr15 := gr_trans gr13 hg13
          have k47 := k40.grown hg13
          have k48 := k41.grown hg13
          have k49 := k42.grown hg13
          have k50 := k39.grown hg13
          have k51 := hr_t370.grown hg13
          have k52 := hv1.grown hg13
          refine WJ.yw rfl (wants_some rfl rfl (okb b4)) rfl (fun w' hw' => Yld.pure tab_ok rfl) ?_
          refine WJ.yw rfl (wants_some rfl rfl (okb b4)) rfl (fun w' hw' => Yld.pure tab_ok rfl) ?_
          obtain ⟨h5, H⟩ := H
          refine WJ.yw rfl (wants_some rfl rfl (okb b4)) rfl (fun w' hw' => Yld.sub rfl rfl h5) ?_
          obtain ⟨h6, H⟩ := H
          refine WJ.yw rfl (wants_some rfl rfl (okb b4)) rfl (fun w' hw' => Yld.iaddrW tab_ok k49.rd rfl rfl rfl rfl h6.1 h6.2) ?_
          refine WJ.yw rfl (wants_some rfl rfl (okb b4)) rfl (fun w' hw' => Yld.iload [] tab_ok (hw' rfl).2 rfl rfl (iltN h6 rfl)) ?_
          refine WJ.yw rfl (wants_some rfl rfl (okb b4)) rfl (fun w' hw' => Yld.pure tab_ok rfl) ?_
          refine WJ.y rfl rfl (fun w' hw' => Yld.pickF (okb b4) rfl) ?_
          exact WJ.weaken (by repeat (first | exact Sub.nil | refine Sub.cons rfl ?_)) (hQ _ _ ⟨!decide (t46 = (([([40, 52, 44, 32, 50, 44, 32, 49, 44, 32, 51, 41] : List UInt8), ([40, 49, 44, 32, 50, 44, 32, 51, 44, 32, 52, 41] : List UInt8), ([40, 52, 44, 32, 50, 44, 32, 51, 44, 32, 49, 41] : List UInt8)] : List (List UInt8)).getD ((order - (1 : Int)).toNat) [])), rfl, H, gr15, k47, k48, k49, k50⟩)
  · replace H := H.2 (of_decide_eq_false b1)
    refine WC.exit (WX.then_exit (WX.then_exit (WX.block_same (WX.then_normal ?_))))
    refine WC.seq ?_
    refine WC.region ?_
    refine WL.y rfl (Yld.pure tab_ok rfl) ?_
    refine WL.nil (WX.then_normal ?_)
    refine WC.ret ?_
    exact WX.ret1 rfl rfl ⟨gr10, true, rfl, H⟩

end Go.Proofs.YtofenpiiihhigaaDoor

 /- smithysee.Is, plainly. -/
namespace Go.Proofs.YtofenpiiihhigaaDoor
open Go Go.RowKit
end Go.Proofs.YtofenpiiihhigaaDoor


 