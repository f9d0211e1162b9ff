/- Texts of this claim, joined by a program: K, Row3, K2, Map, Mut, Deep, Row4, Enc, EncD, Pool, DeepO, Num0, NumX, Dig, Pv, Dp, Num11, Rev, Num15, NumB. -/
import Derived.Test.YtofenpiiihhigaaDoorJ1
import Derived.Lib.SliceRun
import Derived.Maps.RangeRun
import Derived.Maps.Keyed
import Derived.Carry
import Derived.StringKeys
/- Slices whose elements take k cells each: structs and arrays; their rules. -/
namespace Go.Proofs.YtofenpiiihhigaaDoor
open Go Go.RowKit

/-- f's values take k cells. -/
structure OneK {α : Type} (k : Nat) (f : α → List Value) : Prop where
  pos : 0 < k
  len : ∀ x, (f x).length = k
  one : ∀ x, ∀ u ∈ f x, u.oneCell' = true
structure RdK {α : Type} (k : Nat) (f : α → List Value) (w : World) (A : Option Addr) (c : Nat) (xs : List α) : Prop where
  ok : OneK k f
  cap : xs.length ≤ c
  max : c ≤ maxLen
  cells : xs ≠ [] → ∃ g o, A = some ⟨g, o, none⟩ ∧ ∀ j x i u, xs[j]? = some x → (f x)[i]? = some u → w.cell? ⟨g, o + (j * k + i), none⟩ = some u
def OwnK {α : Type} (k : Nat) (f : α → List Value) (w : World) (B : Nat) (e : TypeId) (A : Option Addr) (c : Nat) (xs : List α) : Prop := OneK k f ∧ w.ownsRow B e k (.slice A xs.length c) xs.length (xs.flatMap f)

section
variable {α : Type} {k : Nat} {f : α → List Value}
theorem OneK.flen (h : OneK k f) : ∀ xs : List α, (xs.flatMap f).length = xs.length * k
  | [] => by simp
  | x :: xs => by simp [List.flatMap_cons, h.flen xs, h.len x, Nat.add_mul, Nat.add_comm]
theorem OneK.fget (h : OneK k f) : ∀ (xs : List α) (j : Nat) (x : α) (i : Nat), xs[j]? = some x → i < k → (xs.flatMap f)[j * k + i]? = (f x)[i]?
  | [], _, _, _, hx, _ => by simp at hx
  | y :: xs, 0, x, i, hx, hi => by
    simp only [List.getElem?_cons_zero, Option.some.injEq] at hx
    subst hx
    rw [List.flatMap_cons, Nat.zero_mul, Nat.zero_add, List.getElem?_append_left (by rw [h.len]; exact hi)]
  | y :: xs, j + 1, x, i, hx, hi => by
    have e : (j + 1) * k + i = (f y).length + (j * k + i) := by rw [h.len, Nat.add_mul]; omega
    rw [List.flatMap_cons, e, List.getElem?_append_right (by omega)]
    simp only [Nat.add_sub_cancel_left]
    exact h.fget xs j x i (by simpa using hx) hi
theorem OneK.fset (h : OneK k f) : ∀ (xs : List α) (j : Nat) (y : α), j < xs.length → (xs.set j y).flatMap f = (xs.flatMap f).take (j * k) ++ f y ++ (xs.flatMap f).drop (j * k + k)
  | [], _, _, hj => by simp at hj
  | x :: xs, 0, y, _ => by
    have e : List.drop (0 * k + k) (f x ++ xs.flatMap f) = xs.flatMap f := by rw [Nat.zero_mul, Nat.zero_add, List.drop_left' (h.len x)]
    rw [List.set_cons_zero, List.flatMap_cons, List.flatMap_cons, e]
    simp
  | x :: xs, j + 1, y, hj => by
    have e1 : (j + 1) * k = (f x).length + j * k := by rw [h.len, Nat.add_mul]; omega
    have e2 : (j + 1) * k + k = (f x).length + (j * k + k) := by rw [e1]; omega
    rw [List.set_cons_succ, List.flatMap_cons, List.flatMap_cons, h.fset xs j y (by simpa using hj), e2, e1, List.take_length_add_append, List.drop_length_add_append]
    simp
theorem OneK.fset1 (h : OneK k f) {xs : List α} {j : Nat} {x y : α} {i : Nat} {u : Value} (hx : xs[j]? = some x) (hi : i < k) (hy : f y = (f x).set i u) : (xs.set j y).flatMap f = (xs.flatMap f).set (j * k + i) u := by
  have hj : j < xs.length := by
    rcases Nat.lt_or_ge j xs.length with h1 | h1
    · exact h1
    · rw [List.getElem?_eq_none h1] at hx; cases hx
  have hl := h.flen xs
  have hjk : j * k + k ≤ xs.length * k := by rw [← Nat.succ_mul]; exact Nat.mul_le_mul_right k hj
  rw [h.fset xs j y hj, hy]
  have hmid : ((xs.flatMap f).drop (j * k)).take k = f x := by
    apply List.ext_getElem?
    intro p
    by_cases hp : p < k
    · rw [List.getElem?_take, if_pos hp, List.getElem?_drop, h.fget xs j x p hx hp]
    · rw [List.getElem?_eq_none (by simp; omega), List.getElem?_eq_none (by rw [h.len]; omega)]
  have hsplit : xs.flatMap f = (xs.flatMap f).take (j * k) ++ (f x ++ (xs.flatMap f).drop (j * k + k)) := by
    rw [← hmid, ← List.drop_drop, List.take_append_drop, List.take_append_drop]
  generalize hq : xs.flatMap f = q at *
  have ht : (q.take (j * k)).length = j * k := by simp; omega
  have e3 : q.set (j * k + i) u = (q.take (j * k) ++ (f x ++ q.drop (j * k + k))).set (j * k + i) u := by rw [← hsplit]
  rw [e3, List.set_append_right _ _ (by omega), ht, Nat.add_sub_cancel_left, List.set_append_left _ _ (by rw [h.len]; exact hi), List.append_assoc]
theorem OneK.mem (h : OneK k f) {xs : List α} : ∀ u ∈ xs.flatMap f, u.oneCell' = true := fun u hu => by
  obtain ⟨x, _, hx⟩ := List.mem_flatMap.1 hu
  exact h.one x u hx
end

section
variable {α : Type} {k : Nat} {f : α → List Value} {w w' : World} {A : Option Addr} {c B g : Nat} {xs : List α} {e : TypeId} {row : Option Nat}
theorem RdK.nil (h : OneK k f) (w : World) {A : Option Addr} {c : Nat} (hc : c ≤ maxLen) : RdK k f w A c [] := ⟨h, Nat.zero_le _, hc, fun h => absurd rfl h⟩
theorem RdK.lt (h : RdK k f w A c xs) (hx : xs ≠ []) {g : Nat} (hg : blk A = some g) : g < w.heap.size := by
  obtain ⟨g', o, rfl, hc⟩ := h.cells hx
  obtain ⟨x, l, rfl⟩ := List.exists_cons_of_ne_nil hx
  have h0 : 0 < (f x).length := by rw [h.ok.len]; exact h.ok.pos
  have := World.block_lt_of_cell? w _ (hc 0 x 0 _ rfl (List.getElem?_eq_getElem h0))
  simp only [blk, Option.map_some, Option.some.injEq] at hg
  subst hg
  exact this
theorem RdK.keep (h : RdK k f w A c xs) (hg : w.grownBy w' row) (hne : xs ≠ [] → ∀ g, row = some g → blk A ≠ some g) : RdK k f w' A c xs :=
  ⟨h.ok, h.cap, h.max, fun hx => by
    obtain ⟨g', o, rfl, hc⟩ := h.cells hx
    refine ⟨g', o, rfl, fun j x i u hj hi => hg.cell (hc j x i u hj hi) (fun e => ?_)⟩
    exact hne hx _ e.symm (by simp [blk])⟩
theorem RdK.grown (h : RdK k f w A c xs) (hg : w.grownBy w' none) : RdK k f w' A c xs := h.keep hg (by simp)
theorem RdK.go (h : RdK k f w A c xs) (hg : w.grownBy w' row) (hd : Dn xs (blk A) row) : RdK k f w' A c xs := h.keep hg fun hx g e k => hd hx g k e
theorem RdK.lt' (h : RdK k f w A c xs) (hx : xs ≠ []) : Lt (blk A) w.heap.size := fun _ hg => h.lt hx hg
theorem RdK.eqv (hw : Eqv w w') (h : RdK k f w A c xs) : RdK k f w' A c xs := h.grown (gr_eqv (gr_refl w none) hw)
theorem RdK.cut (h : RdK k f w A c xs) {l m : Nat} (hl : l ≤ m) (hm : m ≤ xs.length) : RdK k f w (if c = l then A else A.map (·.add (l * k))) (c - l) ((xs.drop l).take (m - l)) := by
  have hlen : ((xs.drop l).take (m - l)).length = m - l := by simp; omega
  refine ⟨h.ok, by have := h.cap; omega, by have := h.max; omega, fun hx => ?_⟩
  have hx' : 0 < m - l := by
    rw [← hlen]
    exact List.length_pos_iff.2 hx
  obtain ⟨g', o, rfl, hc⟩ := h.cells (fun e => by rw [e] at hm; simp at hm; omega)
  rw [if_neg (by have := h.cap; omega)]
  refine ⟨g', o + l * k, by simp [Addr.add_mid], fun j x i u hj hi => ?_⟩
  have := hc (l + j) x i u (by
    rw [List.getElem?_take] at hj
    split at hj
    · rw [List.getElem?_drop] at hj; exact hj
    · cases hj) hi
  rw [show o + l * k + (j * k + i) = o + ((l + j) * k + i) by rw [Nat.add_mul]; omega]
  exact this
theorem OwnK.nil (h : OneK k f) (w : World) (B : Nat) (e : TypeId) : OwnK k f w B e none 0 [] := ⟨h, World.ownsRow_nil w B e k⟩
theorem OwnK.rd (h : OwnK k f w B e A c xs) : RdK k f w A c xs := by
  have h2 := h.2
  rcases h2.2 with ⟨hv, hn⟩ | ⟨g, cap, cur, hv, hb, hg, hnc, hcm, hcs, htake⟩
  · simp only [Value.slice.injEq] at hv
    obtain ⟨rfl, _, rfl⟩ := hv
    have : xs = [] := List.eq_nil_of_length_eq_zero hn
    subst this
    exact RdK.nil h.1 w (Nat.zero_le _)
  · simp only [Value.slice.injEq] at hv
    obtain ⟨rfl, _, rfl⟩ := hv
    refine ⟨h.1, hnc, hcm, fun _ => ⟨g, 0, rfl, fun j x i u hj hi => ?_⟩⟩
    have hik : i < k := by
      rcases Nat.lt_or_ge i k with h1 | h1
      · exact h1
      · rw [List.getElem?_eq_none (by rw [h.1.len]; exact h1)] at hi; cases hi
    have := h2.cells (g := g) rfl (j * k + i) u (by rw [h.1.fget xs j x i hj hik]; exact hi)
    rwa [Addr.add_mid] at this
theorem OwnK.keep (h : OwnK k f w B e A c xs) (hg : w.grownBy w' row) (hne : ∀ g, row = some g → blk A ≠ some g) : OwnK k f w' B e A c xs := by
  refine ⟨h.1, World.ownsRow.kept h.2 hg ?_⟩
  cases A with
  | none => exact .inl rfl
  | some a =>
    refine .inr ?_
    simp only [Value.ownBlock]
    intro e
    exact hne _ e.symm (by simp [blk])
theorem OwnK.grown (h : OwnK k f w B e A c xs) (hg : w.grownBy w' none) : OwnK k f w' B e A c xs := h.keep hg (by simp)
theorem OwnK.go (h : OwnK k f w B e A c xs) (hg : w.grownBy w' row) (hd : Dj (blk A) row) : OwnK k f w' B e A c xs := h.keep hg fun g e k => hd g k e
theorem OwnK.lt (h : OwnK k f w B e A c xs) {g : Nat} (hg : blk A = some g) : B ≤ g ∧ g < w.heap.size := by
  refine World.ownsRow.lt h.2 g ?_
  cases A with
  | none => simp [blk] at hg
  | some a => simpa [blk, Value.ownBlock] using hg
theorem OwnK.lt' (h : OwnK k f w B e A c xs) : Lt (blk A) w.heap.size := fun _ hg => (h.lt hg).2
theorem OwnK.ge' (h : OwnK k f w B e A c xs) : Ge (blk A) B := fun _ hg => (h.lt hg).1
theorem OwnK.eqv (hw : Eqv w w') (h : OwnK k f w B e A c xs) : OwnK k f w' B e A c xs := h.grown (gr_eqv (gr_refl w none) hw)
theorem OwnK.base {B' : Nat} (h : OwnK k f w B e A c xs) (hB : ∀ g, blk A = some g → B' ≤ g) : OwnK k f w B' e A c xs := by
  refine ⟨h.1, h.2.1, ?_⟩
  rcases h.2.2 with hn | ⟨g, cap, cur, hv, hb, rest⟩
  · exact .inl hn
  · refine .inr ⟨g, cap, cur, hv, ?_, rest⟩
    simp only [Value.slice.injEq] at hv
    exact hB g (by rw [hv.1]; rfl)
theorem OwnK.ofBl {m : Nat} (ho : OneK k f) (h : Bl w g e (xs.flatMap f)) (hB : B ≤ g) (hm : xs.length ≤ maxLen) (hn : m = xs.length) : OwnK k f w B e (some ⟨g, 0, none⟩) m xs := by
  subst hn
  refine ⟨ho, ho.flen xs, .inr ⟨g, _, _, rfl, hB, h, Nat.le_refl _, hm, by simpa using ho.flen xs, ?_⟩⟩
  rw [← ho.flen xs]
  exact List.take_length
theorem OwnK.take (h : OwnK k f w B e A c xs) (m : Nat) (hm : m ≤ xs.length) : OwnK k f w B e A c (xs.take m) := by
  rcases h.2.2 with ⟨hv, hn⟩ | ⟨g, cap, cur, hv, hb, hg, hnc, hcm, hcs, htake⟩
  · simp only [Value.slice.injEq] at hv
    obtain ⟨rfl, _, rfl⟩ := hv
    have : xs = [] := List.eq_nil_of_length_eq_zero hn
    subst this
    simpa using OwnK.nil h.1 w B e
  · simp only [Value.slice.injEq] at hv
    obtain ⟨rfl, _, rfl⟩ := hv
    have hl : (xs.take m).length = m := by simp; omega
    refine ⟨h.1, h.1.flen _, .inr ⟨g, c, cur, rfl, hb, hg, by omega, hcm, hcs, ?_⟩⟩
    rw [hl]
    have e1 : (xs.take m).flatMap f = (xs.flatMap f).take (m * k) := by
      have h2 := h.1.flen (xs.take m)
      rw [hl] at h2
      have h3 : xs.flatMap f = (xs.take m).flatMap f ++ (xs.drop m).flatMap f := by rw [← List.flatMap_append, List.take_append_drop]
      rw [h3, List.take_left' h2]
    rw [e1, ← htake, List.take_take, Nat.min_eq_left (Nat.mul_le_mul_right k hm)]
end

/-- elements' types of slices: size, bytes -/
def ckOwK (P : Program) (t e k b : Nat) : Bool := match P.underlying t with
  | some (.slice e') => Nat.beq e' e && (match P.info? e with
    | some i => Nat.beq i.size k && Nat.beq i.bytes b && (match i.zero with | some z => Nat.beq z.cells.size k | none => false)
    | _ => false)
  | _ => false
theorem ckOwK_spec {P : Program} {t e k b : Nat} (h : ckOwK P t e k b = true) : P.underlying t = some (.slice e) ∧ ∃ i z, P.info? e = some i ∧ i.zero = some z ∧ i.size = k ∧ i.bytes = b ∧ z.cells.size = k := by
  unfold ckOwK at h
  split at h
  · rename_i e' he
    simp only [Bool.and_eq_true] at h
    have h1 := Nat.eq_of_beq_eq_true h.1
    subst h1
    refine ⟨he, ?_⟩
    have h2 := h.2
    split at h2
    · rename_i i hi
      simp only [Bool.and_eq_true] at h2
      obtain ⟨⟨h3, h4⟩, h5⟩ := h2
      split at h5
      · rename_i z hz
        exact ⟨i, z, hi, hz, Nat.eq_of_beq_eq_true h3, Nat.eq_of_beq_eq_true h4, Nat.eq_of_beq_eq_true h5⟩
      · cases h5
    · cases h2
  · cases h

theorem splice_take {c v : List Value} {a k m : Nat} (hv : v.length = k) (h : a + k ≤ m) (hm : m ≤ c.length) : (c.take a ++ v ++ c.drop (a + k)).take m = (c.take m).take a ++ v ++ (c.take m).drop (a + k) := by
  have hl : (c.take a ++ v).length = a + k := by simp; omega
  rw [List.take_append, List.take_of_length_le (by omega), hl, List.take_take, Nat.min_eq_left (by omega), List.drop_take]
section rules
variable {P : Program} {T : Tab} {N : Nat} {ops : Array Oper} {Q : Post} {L : Slots} {w w0 : World} {rest : List Oper} {d : Nat} {dd : Option Tmp} {ty : TypeId} {pos : String} {af : Array Edge} {t t' : TypeId} {x y i : Operand} {kk kk' : IntKind} {q : Int}
variable {α : Type} {k : Nat} {f : α → List Value} {A : Option Addr} {c n B : Nat} {xs ys : List α} {e : TypeId} {us : List Value}
theorem Yld.iaddrK {e : TypeId} (hT : T.Ok P) (hR : RdK k f w0 A c xs) (hs : nk T.sl t = some (e, k)) (hx : opv L x = some (.slice A n c)) (hn : n = xs.length) (hi : opv L i = some (.int kk q)) (h0 : 0 ≤ q) (h1 : q < n) :
    Yld P N w ⟨dd, .indexAddr t x i, ty, pos, af, none⟩ L (.pointer (A.map (·.add (q.toNat * k)))) := fun a w1 _ ha => by
  obtain ⟨hu, j, hj, hj1⟩ := hT.sl hs
  obtain ⟨g, o, rfl, _⟩ := hR.cells (fun e => by rw [e] at hn; simp at hn; omega)
  unfold execOp
  simp [ha.ev hx, ha.ev hi, Instr.indexAt, run_underlying hu, asIntOf, h0, h1, sizeOf, typeInfo, hj, hj1]
theorem Yld.faddrK {m fi o j : Nat} {s : TypeId} {os : List Nat} (hT : T.Ok P) (hR : RdK k f w0 A c xs) (hj : j < xs.length) (hos : nk T.off s = some os) (ho : os[fi]? = some o) (hx : opv L x = some (.pointer (A.map (·.add m)))) :
    Yld P N w ⟨dd, .fieldAddr s x fi, ty, pos, af, none⟩ L (.pointer (A.map (·.add (m + o)))) := fun a w1 _ ha => by
  obtain ⟨g, p, rfl, _⟩ := hR.cells (fun e => by rw [e] at hj; simp at hj)
  obtain ⟨fs, hfs, hall⟩ := hT.off hos
  obtain ⟨fd, hfd, rfl, i, hi, hi0⟩ := hall _ _ ho
  unfold execOp
  simp [ha.ev hx, Instr.fieldAt, run_underlying hfs, hfd, Instr.sureAddr, fieldPlace, sizeOf, typeInfo, hi, hi0, Addr.add_mid, Nat.add_assoc]
theorem RdK.cellsAt (hR : RdK k f w A c xs) (dv : α) {j : Nat} (hj : j < xs.length) : ∃ g o, A = some ⟨g, o, none⟩ ∧ ∀ i u, (f (xs.getD j dv))[i]? = some u → w.cell? ⟨g, o + (j * k + i), none⟩ = some u := by
  obtain ⟨g, o, hA, hc⟩ := hR.cells (fun e => by rw [e] at hj; simp at hj)
  exact ⟨g, o, hA, fun i u hi => hc j _ i u (by simp [List.getD, hj]) hi⟩
theorem Yld.iloadF (dv : α) {j o : Nat} {u : Unit} {v : Value} (hT : T.Ok P) (hR : RdK k f w A c xs) (hs : nk T.one t = some u) (hx : opv L x = some (.pointer (A.map (·.add (j * k + o))))) (hj : j < xs.length) (hv : (f (xs.getD j dv))[o]? = some v) :
    Yld P N w ⟨dd, .load t x, ty, pos, af, none⟩ L v := by
  obtain ⟨g, p, rfl, hc⟩ := hR.cellsAt dv hj
  exact Yld.cell hT (hc o v hv) hs (by rw [hx, Option.map_some, Addr.add_mid])
/-- x[i].f = v in a slice of the call's own -/
theorem Ef0.ostoreF {j o : Nat} {u : Value} {v : α} (dv : α) (h1 : sz1 P t = true) (hu : u.oneCell' = true) (hO : OwnK k f w B e A c xs) (hx : opv L x = some (.pointer (A.map (·.add (j * k + o))))) (hy : opv L y = some u) (hj : j < xs.length) (ho : Nat.blt o k = true) (hv : f v = (f (xs.getD j dv)).set o u) :
    Ef0 P N w ⟨none, .store t x y, ty, pos, af, none⟩ L fun w' => OwnK k f w' B e A c (xs.set j v) ∧ w.grownBy w' (blk A) := by
  have ho : o < k := by simpa [Nat.blt_eq] using ho
  rcases hO.2.2 with ⟨hv, hn⟩ | ⟨g, cap, cur, hs, hb, hg, hnc, hcm, hcs, htake⟩
  · omega
  · simp only [Value.slice.injEq] at hs
    obtain ⟨rfl, _, rfl⟩ := hs
    have hcl : cur.toList.length = c * k := by simpa using hcs
    have hjk : j * k + k ≤ c * k := by rw [← Nat.succ_mul]; exact Nat.mul_le_mul_right k (by omega)
    have hxj : xs[j]? = some (xs.getD j dv) := by simp [List.getD, hj]
    have h := Ef0.store1 (P := P) (N := N) (L := L) (w := w) (ty := ty) (pos := pos) (af := af) (g := g) (o := j * k + o) (e := e) (us := cur.toList) h1 (by rw [hx, Option.map_some, Addr.add_mid, Nat.zero_add]) hy hu (by unfold Bl; exact hg) (by omega)
    intro a w1 hw ha
    obtain ⟨w', hr, hB', hgr⟩ := h a w1 hw ha
    refine ⟨w', hr, ⟨hO.1, hO.1.flen _, .inr ⟨g, c, _, by simp, hb, hB', by simpa using hnc, hcm, by simpa using hcs, ?_⟩⟩, hgr⟩
    rw [hO.1.fset1 hxj ho hv, List.length_set, List.take_set, ← htake]
theorem WL.ostoreF {j o : Nat} {u : Value} {v : α} (dv : α) (h1 : sz1 P t = true) (hu : u.oneCell' = true) (hO : OwnK k f w B e A c xs) (hx : opv L x = some (.pointer (A.map (·.add (j * k + o))))) (hy : opv L y = some u) (hj : j < xs.length) (ho : Nat.blt o k = true) (hv : f v = (f (xs.getD j dv)).set o u)
    (hk : ∀ w', OwnK k f w' B e A c (xs.set j v) → w.grownBy w' (blk A) → WL P N ops Q rest L w') : WL P N ops Q (⟨none, .store t x y, ty, pos, af, none⟩ :: rest) L w :=
  WL.eff (Ef0.ostoreF dv h1 hu hO hx hy hj ho hv) (fun w' ⟨h1, h2⟩ => hk w' h1 h2)
/-- x[i] = v in a slice of the call's own -/
theorem Ef0.ostoreK {j : Nat} {v : α} (hT : T.Ok P) (h1 : nk T.agg t = some k) (hO : OwnK k f w B e A c xs) (hx : opv L x = some (.pointer (A.map (·.add (j * k))))) (hy : opv L y = some (.agg ⟨f v⟩)) (hj : j < xs.length) :
    Ef0 P N w ⟨none, .store t x y, ty, pos, af, none⟩ L fun w' => OwnK k f w' B e A c (xs.set j v) ∧ w.grownBy w' (blk A) := by
  rcases hO.2.2 with ⟨hv, hn⟩ | ⟨g, cap, cur, hs, hb, hg, hnc, hcm, hcs, htake⟩
  · omega
  · simp only [Value.slice.injEq] at hs
    obtain ⟨rfl, _, rfl⟩ := hs
    have hcl : cur.toList.length = c * k := by simpa using hcs
    have hjk : j * k + k ≤ xs.length * k := by rw [← Nat.succ_mul]; exact Nat.mul_le_mul_right k (by omega)
    have hck : xs.length * k ≤ c * k := Nat.mul_le_mul_right k hnc
    have hfl := hO.1.flen xs
    intro a w1 hw ha
    obtain ⟨_, i, hi, hi1⟩ := hT.agg h1
    have hg1 : w1.heap[g]? = some (.cells cur e (0, 0)) := by rw [hw.heap]; exact hg
    have hst := run_storeCells_at P g (j * k) e (f v) 0 cur w1 hg1 (by rw [hO.1.len]; omega) (hO.1.one v)
    refine ⟨w1.setRow g (List.take (j * k + 0) cur.toList ++ f v ++ List.drop (j * k + 0 + (f v).length) cur.toList).toArray, ?_, ⟨hO.1, hO.1.flen _, .inr ⟨g, c, _, by simp, hb, setRow_heap w1 g cur _ e _ hg1, by simpa using hnc, hcm, ?_, ?_⟩⟩, eqv_gr hw ⟨rfl, rfl, rfl, by simp, fun p _ hp => setRow_other w1 g p _ (fun e => hp (by simp [blk, e]))⟩⟩
    · unfold execOp
      have hcell : (Value.agg ⟨f v⟩).cells = ⟨f v⟩ := rfl
      have hsz : (⟨f v⟩ : Array Value).size = k := hO.1.len v
      simp only [ha.ev hx, ha.ev hy, Option.map_some, Addr.add_mid, Nat.zero_add, Sem.run_bind, Instr.storeAt, Instr.sureAddr, Sem.run_pure, Result.andThen_ok, storeVar, hcell, sizeOf, typeInfo, program, Sem.run, hi, hi1]
      simp only [hsz, ne_eq, not_true_eq_false, if_false]
      rw [hst]
      rfl
    · simp only [List.size_toArray, List.length_append, List.length_take, List.length_drop, hO.1.len, hcl]
      omega
    · rw [hO.1.fset xs j v hj, List.length_set, ← htake]
      simp only [Nat.add_zero, hO.1.len]
      exact splice_take (hO.1.len v) (by omega) (by omega)
theorem WL.ostoreK {j : Nat} {v : α} (hT : T.Ok P) (h1 : nk T.agg t = some k) (hO : OwnK k f w B e A c xs) (hx : opv L x = some (.pointer (A.map (·.add (j * k))))) (hy : opv L y = some (.agg ⟨f v⟩)) (hj : j < xs.length)
    (hk : ∀ w', OwnK k f w' B e A c (xs.set j v) → w.grownBy w' (blk A) → WL P N ops Q rest L w') : WL P N ops Q (⟨none, .store t x y, ty, pos, af, none⟩ :: rest) L w :=
  WL.eff (Ef0.ostoreK hT h1 hO hx hy hj) (fun w' ⟨h1, h2⟩ => hk w' h1 h2)
end rules
end Go.Proofs.YtofenpiiihhigaaDoor

 /- Arguments, opened: slices of structs of plain fields. -/
namespace Go.Proofs.YtofenpiiihhigaaDoor
open Go Go.RowKit Go.WideShapes Go.ChangeShapes Go.ChangeAt Go.Joins Go.Deep
section
variable {H : Type} {enc : TypeId × Value → H} {P : Program} {w : World} {base : Nat} {spare : Nat → Bool} {held : Bool}
theorem fieldsOne {t : TypeId} {fs : Array Field} {fuel : Nat} {cs : List Value} {x : DataW H × List MemPlace} (ht : P.underlying t = some (.struct fs)) (hone : oneCellFields P fs = true) (h : DataW.trod enc P w base spare held fuel t cs = some x) :
    ∃ n, ∀ i f, fs[i]? = some f → i < cs.length → ∃ v y, cs[i]? = some v ∧ DataW.trod enc P w base spare held n f.type [v] = some y := by
  obtain ⟨xs, n, _, _, hl, hlen, hf⟩ := DataW.trod_struct ht h
  refine ⟨n, fun i f hi hc => ?_⟩
  obtain ⟨h1, h2⟩ := hone_of hone i f hi
  have h3 := hf i f hi
  have hi' : i < fs.size := (Array.getElem?_eq_some_iff.1 hi).1
  rw [h1, h2, List.getElem?_eq_getElem (by omega)] at h3
  refine ⟨cs[i], xs[i], List.getElem?_eq_getElem hc, ?_⟩
  have e : (cs.drop i).take 1 = [cs[i]] := by rw [List.drop_eq_getElem_cons hc]; rfl
  rwa [e] at h3
theorem cell_plain {a : Addr} {v : Value} (h : w.cell? a = some v) : a.spot = none := by
  unfold World.cell? at h
  split at h
  · split at h
    · cases h
    · rename_i hs; simpa using hs
  · cases h
theorem open_rdK {α : Type} [Inhabited α] {k : Nat} {f : α → List Value} {Q : α → Prop} {W : World} {b0 : Nat} {t e : TypeId} {v : Value} {d : DataW H} {p : List MemPlace} (hf : OneK k f) (ht : P.underlying t = some (.slice e)) (hc : P.cellsOf e = k)
    (hE : ∀ n cs y, DataW.trod enc P W 0 (fun _ => true) true n e cs = some y → cs.length = k → ∃ x, cs = f x ∧ Q x)
    (hval : Value.okWide P W .any b0 t v) (h : DataW.Trod enc P W 0 (fun _ => true) true t v d p) : ∃ A c l, v = .slice A l.length c ∧ RdK k f W A c l ∧ ∀ x ∈ l, Q x := by
  obtain ⟨a0, len, cap, rfl⟩ := okWide_slice ht hval
  obtain ⟨fuel, hfu⟩ := h
  rcases open_slice ht hfu with ⟨hcs, hx⟩ | ⟨a, len', cap', m, n, D, Pl, hcs, _, hl, hm, hmm, _, hel⟩
  · simp [Value.cells] at hcs
    obtain ⟨rfl, rfl, rfl⟩ := hcs
    exact ⟨none, 0, [], rfl, ⟨hf, by simp, by simp [maxLen], fun h => absurd rfl h⟩, by simp⟩
  · simp [Value.cells] at hcs
    obtain ⟨rfl, rfl, rfl⟩ := hcs
    simp only [if_true] at hmm
    subst hmm
    have each : ∀ i, i < m → ∃ x : α, Q x ∧ ∀ j, j < k → W.cell? ((a.add (i * k)).add j) = (f x)[j]? := fun i hi => by
      obtain ⟨cs', h1, h2⟩ := hel i hi
      rw [hc] at h1
      obtain ⟨_, hlen, hcell⟩ := World.cells?_some h1
      obtain ⟨x, hx, hq⟩ := hE n cs' _ h2 hlen
      exact ⟨x, hq, fun j hj => by rw [hcell j hj, hx]⟩
    obtain ⟨q, hq⟩ := choose_lt each
    have hll : ((List.range len).map q).length = len := by simp
    refine ⟨some a, m, (List.range len).map q, by rw [hll], ⟨hf, by rw [hll]; exact hl, hm, fun hne => ?_⟩, fun x hx => ?_⟩
    · have h0 : 0 < len := by
        rcases Nat.eq_zero_or_pos len with h | h
        · subst h; simp at hne
        · exact h
      have hcell0 := (hq 0 (by omega)).2 0 hf.pos
      rw [Nat.zero_mul] at hcell0
      have hs : a.spot = none := by
        have h2 : (f (q 0))[0]? = some ((f (q 0))[0]'(by rw [hf.len]; exact hf.pos)) := List.getElem?_eq_getElem _
        rw [h2] at hcell0
        have := cell_plain hcell0
        simpa [Addr.add] using this
      obtain ⟨g, o, s⟩ := a
      dsimp only at hs
      subst hs
      refine ⟨g, o, rfl, fun j x i u hj hi => ?_⟩
      have hjl : j < len := by
        rcases Nat.lt_or_ge j len with h | h
        · exact h
        · rw [List.getElem?_eq_none (by rw [hll]; exact h)] at hj; cases hj
      have hxe : x = q j := by
        rw [List.getElem?_map, List.getElem?_range hjl] at hj
        simpa using hj.symm
      subst hxe
      have hik : i < k := by
        have := (List.getElem?_eq_some_iff.1 hi).1
        rwa [hf.len] at this
      have := (hq j (by omega)).2 i hik
      rw [hi, Addr.add_mid, Addr.add_mid] at this
      rw [← this]
      congr 2
      omega
    · obtain ⟨i, hi, rfl⟩ := List.mem_map.1 hx
      exact (hq i (by have := List.mem_range.1 hi; omega)).1
end
end Go.Proofs.YtofenpiiihhigaaDoor


 /- Slices whose elements take k cells each: append, literals, make. -/
namespace Go.Proofs.YtofenpiiihhigaaDoor
open Go Go.RowKit
section
variable {α : Type} {k : Nat} {f : α → List Value}
/-- the parts' cells of a literal -/
def partsA (L : Slots) : Nat → List (Nat × Operand) → Option (List (List Value))
  | _, [] => some []
  | j, (i, x) :: r => bif Nat.beq i j then (match opv L x, partsA L (j + 1) r with
    | some (.agg ⟨vs⟩), some us => some (vs :: us)
    | _, _ => none) else none
theorem fill_partsA {N : Nat} {L : Slots} {a : Act} (ha : Has N L a) (k : Nat) : ∀ (ps : List (Nat × Operand)) (j : Nat) (vs : List (List Value)) (done : List Value) (cells : Array Value), partsA L j ps = some vs → (∀ u ∈ vs, u.length = k) → done.length = j * k → cells.toList.take (j * k) = done → cells.size = (j + vs.length) * k →
    Instr.fill (fun i => some (i * k, k)) cells (ps.map fun p => (p.1, a.eval p.2)) = some ⟨done ++ vs.flatten⟩
  | [], j, vs, done, cells, hp, _, hdl, ht, hs => by
    simp only [partsA, Option.some.injEq] at hp
    subst hp
    simp only [List.map_nil, Instr.fill, List.flatten_nil, List.append_nil]
    congr 1
    apply Array.ext'
    rw [← ht, List.take_of_length_le (by simp at hs ⊢; omega)]
  | (i, x) :: ps, j, vs, done, cells, hp, h1, hdl, ht, hs => by
    simp only [partsA] at hp
    cases hij : Nat.beq i j with
    | false => simp [hij] at hp
    | true =>
      have := Nat.eq_of_beq_eq_true hij
      subst this
      simp only [hij, cond_true] at hp
      split at hp
      · rename_i v us hv hus
        simp only [Option.some.injEq] at hp
        subst hp
        have hvk : v.length = k := h1 v (by simp)
        have hcs : (Value.agg ⟨v⟩).cells = ⟨v⟩ := rfl
        simp only [List.length_cons] at hs
        have hs2 : cells.size = i * k + k + us.length * k := by rw [hs, Nat.add_mul, Nat.add_mul]; omega
        simp only [List.map_cons, Instr.fill, ha.ev hv, hcs]
        have h5 : ((⟨v⟩ : Array Value).zipIdx.foldl (fun cs (x : Value × Nat) => match x with | (c, j) => cs.setIfInBounds (i * k + j) c) cells).toList = splice cells.toList (i * k) v := by
          have h3 := foldl_splice v 0 cells (i * k) (by omega)
          rw [Nat.add_zero] at h3
          have h4 : ((⟨v⟩ : Array Value).zipIdx.foldl (fun (cs : Array Value) (x : Value × Nat) => cs.setIfInBounds (i * k + x.2) x.1) cells).toList = splice cells.toList (i * k) v := by
            rw [← h3, ← Array.foldl_toList]
            simp
          exact h4
        generalize hq : (⟨v⟩ : Array Value).zipIdx.foldl (fun cs (x : Value × Nat) => match x with | (c, j) => cs.setIfInBounds (i * k + j) c) cells = q at h5
        rw [if_neg (by simp [hvk]; omega)]
        have hql : q.size = cells.size := by
          have := congrArg List.length h5
          rw [splice_length _ _ _ (by simp; omega)] at this
          simpa using this
        have := fill_partsA ha k ps (i + 1) us (done ++ v) q hus (fun u hu => h1 u (by simp [hu])) (by rw [List.length_append, hdl, hvk, Nat.add_mul]; omega) (by
          rw [h5, Nat.add_mul, Nat.one_mul]
          unfold splice
          rw [ht, List.take_left' (by rw [List.length_append, hdl, hvk])]) (by rw [hql, hs2, Nat.add_mul, Nat.add_mul]; omega)
        rw [this]
        simp
      · cases hp
theorem flatten_map (f : α → List Value) : ∀ xs : List α, (xs.map f).flatten = xs.flatMap f
  | [] => rfl
  | x :: xs => by simp [List.flatMap_cons, flatten_map f xs]
end
section rules
variable {P : Program} {T : Tab} {N : Nat} {ops : Array Oper} {Q : Post} {L : Slots} {w : World} {rest : List Oper} {d : Nat} {ty : TypeId} {pos : String} {af : Array Edge} {t t' : TypeId} {x y : Operand} {kk kk' : IntKind}
variable {α : Type} {k : Nat} {f : α → List Value} {A : Option Addr} {c n B : Nat} {xs ys : List α} {e : TypeId}
theorem Eff.litK {b m : Nat} {ps : List (Nat × Operand)} (hf : OneK k f) (hs : ckOwK P t e k b = true) (hp : partsA L 0 ps = some (xs.map f)) (hm : xs.length = m) (hm2 : Nat.ble (m * k) 16777216 = true) :
    Eff P N w ⟨some d, .buildSlice t m ⟨ps⟩, ty, pos, af, none⟩ L (fun v w' => v = .slice (some ⟨w.heap.size, 0, none⟩) m m ∧ Bl w' w.heap.size e (xs.flatMap f) ∧ w.grownBy w' none) := fun a w1 hw ha => by
    have hs1 : w1.heap.size = w.heap.size := by rw [hw.heap]
    have hm2 : m * k ≤ 16777216 := by simpa using hm2
    obtain ⟨hu, j, z, hj, hz, hj1, _, hz1⟩ := ckOwK_spec hs
    refine ⟨_, w1.alloc (.cells ⟨xs.flatMap f⟩ e), ?_, rfl, newBlock w1 hw _ e⟩
    have hne : ¬ (m * k > 2 ^ 24) := by omega
    have hmap : ((⟨ps⟩ : Array (Nat × Operand)).map fun p => (p.1, a.eval p.2)).toList = ps.map fun p => (p.1, a.eval p.2) := by simp
    have hfill : ∀ cells : Array Value, cells.size = m * k → Instr.fill (fun i => some (i * k, k)) cells (ps.map fun p => (p.1, a.eval p.2)) = some ⟨xs.flatMap f⟩ := fun cells hc => by
      have := fill_partsA ha k ps 0 (xs.map f) [] cells hp (fun u hu => by
        obtain ⟨y, _, rfl⟩ := List.mem_map.1 hu
        exact hf.len y) (by simp) (by simp) (by rw [hc, List.length_map, hm, Nat.zero_add])
      rw [this, flatten_map]
      rfl
    have hzr : (zeroValue e).run P w1 = .ok z w1 := by simp [zeroValue, typeInfo, hj, hz]
    unfold execOp
    simp only [Instr.buildSlice, Sem.run_bind, run_underlying hu, Result.andThen_ok, sizeOf, typeInfo, program, Sem.run, hj, hj1, hne, if_false, Sem.run_pure, hmap]
    by_cases hm0 : m * k = 0
    · simp only [hm0, if_true, Sem.run_bind, Sem.run_pure, Result.andThen_ok]
      rw [hfill _ (by simp [hm0])]
      simp only [newRow, newObj, Sem.run_bind, Sem.run_pure]
      rw [← hs1]; rfl
    · rw [if_neg hm0]
      simp only [Sem.run_bind, hzr, Result.andThen_ok, Sem.run_pure]
      rw [hfill _ (by simp)]
      simp only [newRow, newObj, Sem.run_bind, Sem.run_pure]
      rw [← hs1]; rfl
theorem WL.litK {b m : Nat} {ps : List (Nat × Operand)} (xs : List α) (hf : OneK k f) (hd : Nat.blt d N = true) (hs : ckOwK P t e k b = true) (hp : partsA L 0 ps = some (xs.map f)) (hm : xs.length = m) (hm2 : Nat.ble (m * k) 16777216 = true)
    (hk : ∀ g w', Bl w' g e (xs.flatMap f) → w.grownBy w' none → w.heap.size ≤ g → WL P N ops Q rest ((d, .slice (some ⟨g, 0, none⟩) m m) :: L) w') :
    WL P N ops Q (⟨some d, .buildSlice t m ⟨ps⟩, ty, pos, af, none⟩ :: rest) L w :=
  WL.put (R := fun v w' => v = .slice (some ⟨w.heap.size, 0, none⟩) m m ∧ Bl w' w.heap.size e (xs.flatMap f) ∧ w.grownBy w' none) hd (Eff.litK hf hs hp hm hm2) (fun v w' ⟨hv, hb, hg⟩ => by subst hv; exact hk _ _ hb hg (Nat.le_refl _))
/-- make([]T, m) -/
theorem made_flat (z : List Value) (k : Nat) (hk : z.length = k) (hp : 0 < k) : ∀ m, (madeCells ⟨z⟩ (m * k)).toList = (List.replicate m z).flatten := fun m => by
  apply List.ext_getElem?
  intro j
  have hl : ((List.replicate m z).flatten).length = m * k := by simp [hk]
  by_cases hj : j < m * k
  · have h1 : (madeCells ⟨z⟩ (m * k)).toList[j]? = z[j % k]? := by
      have hlt : j % k < z.length := by rw [hk]; exact Nat.mod_lt _ hp
      simp [madeCells, hj, hk, List.getElem?_eq_getElem hlt]
    rw [h1]
    have gen : ∀ m j, j < m * k → ((List.replicate m z).flatten)[j]? = z[j % k]? := by
      intro m
      induction m with
      | zero => intro j hj; omega
      | succ m ih =>
        intro j hj
        rw [List.replicate_succ, List.flatten_cons]
        by_cases h : j < k
        · rw [List.getElem?_append_left (by omega), Nat.mod_eq_of_lt h]
        · rw [List.getElem?_append_right (by omega), hk, ih (j - k) (by rw [Nat.add_mul] at hj; omega)]
          rw [Nat.mod_eq_sub_mod (a := j) (by omega)]
    rw [gen m j hj]
  · rw [List.getElem?_eq_none (by simp [madeCells]; omega), List.getElem?_eq_none (by omega)]
theorem Eff.makeZK {q : Int} {z : α} {b : Nat} (hf : OneK k f) (hs : ckOwK P t e k b = true) (hz : zeroOf P e = some (f z)) (hx : opv L x = some (.int kk q)) (hy : opv L y = some (.int kk' q)) (h0 : 0 ≤ q) (hm : q * (b : Int) ≤ 140737488355328) (h63 : q ≤ 140737488355328) (hB : B ≤ w.heap.size) :
    Eff P N w ⟨some d, .makeSlice t x y, ty, pos, af, none⟩ L (fun v w' => v = .slice (some ⟨w.heap.size, 0, none⟩) q.toNat q.toNat ∧ OwnK k f w' B e (some ⟨w.heap.size, 0, none⟩) q.toNat (List.replicate q.toNat z) ∧ w.grownBy w' none) := fun a w1 hw ha => by
  obtain ⟨hu, i, z0, hi, hz0, hi1, hib, hz1⟩ := ckOwK_spec hs
  have hs1 : w1.heap.size = w.heap.size := by rw [hw.heap]
  have hzc : z0.cells = ⟨f z⟩ := by
    unfold zeroOf at hz
    rw [hi] at hz
    simp only [hz0, Option.some.injEq] at hz
    apply Array.ext'
    rw [hz]
  obtain ⟨m, rfl⟩ := Int.eq_ofNat_of_zero_le h0
  have hmb : m * b ≤ 140737488355328 := by
    have : ((m * b : Nat) : Int) ≤ 140737488355328 := by rw [Int.natCast_mul]; exact hm
    omega
  obtain ⟨w', hr, hO, hg⟩ := run_make_full (P := P) w1 B t e i z0 k hu hi hz0 hi1 kk kk' m (by rw [hib, Nat.mul_comm]; omega) (by simp only [maxLen]; omega) (by omega)
  simp only [Int.toNat_natCast]
  refine ⟨_, w', ?_, by rw [← hs1], ⟨hf, ?_⟩, eqv_gr hw hg⟩
  · unfold execOp
    simp only [ha.ev hx, ha.ev hy, Sem.run_bind, hr, Result.andThen_ok, Sem.run_pure]
  · have e1 : (madeCells z0.cells (m * k)).toList = (List.replicate m z).flatMap f := by
      rw [hzc, made_flat _ k (hf.len z) hf.pos, ← flatten_map, List.map_replicate]
    rw [e1] at hO
    rw [← hs1, List.length_replicate]
    exact hO
theorem WL.makeZK {q : Int} (z : α) {b : Nat} (hf : OneK k f) (hd : Nat.blt d N = true) (hs : ckOwK P t e k b = true) (hz : zeroOf P e = some (f z)) (hx : opv L x = some (.int kk q)) (hy : opv L y = some (.int kk' q)) (h0 : 0 ≤ q) (hm : q * (b : Int) ≤ 140737488355328) (h63 : q ≤ 140737488355328) (hB : B ≤ w.heap.size)
    (hk : ∀ g w', OwnK k f w' B e (some ⟨g, 0, none⟩) q.toNat (List.replicate q.toNat z) → w.grownBy w' none → w.heap.size ≤ g → WL P N ops Q rest ((d, .slice (some ⟨g, 0, none⟩) q.toNat q.toNat) :: L) w') :
    WL P N ops Q (⟨some d, .makeSlice t x y, ty, pos, af, none⟩ :: rest) L w :=
  WL.put (R := fun v w' => v = .slice (some ⟨w.heap.size, 0, none⟩) q.toNat q.toNat ∧ OwnK k f w' B e (some ⟨w.heap.size, 0, none⟩) q.toNat (List.replicate q.toNat z) ∧ w.grownBy w' none) hd (Eff.makeZK hf hs hz hx hy h0 hm h63 hB) (fun v w' ⟨hv, h1, h2⟩ => by subst hv; exact hk _ w' h1 h2 (Nat.le_refl _))
end rules
/-! ## what yields, guarded; make, by an integer; what grew of p is new -/
section
variable {P : Program} {T : Tab} {N : Nat} {ops : Array Oper} {Q : Post} {L : Slots} {w : World} {rest : List Oper} {d : Nat} {ty : TypeId} {pos : String} {af : Array Edge} {t : TypeId} {x y : Operand} {k k' : IntKind} {α : Type} {f : α → Value} {B : Nat} {e : TypeId}
theorem WL.putw {op : Op} {gd : Option (Nat × Bool)} {R : Value → World → Prop} (hg : Wants N ops L gd) (hd : Nat.blt d N = true) (hr : Eff P N w ⟨some d, op, ty, pos, af, none⟩ L R)
    (hk : ∀ v w', R v w' → WL P N ops Q rest ((d, v) :: L) w') : WL P N ops Q (⟨some d, op, ty, pos, af, gd⟩ :: rest) L w := fun a w1 e ha =>
  wpList_step fun K hK => by
    rw [if_pos (Wants.wanted (o := ⟨some d, op, ty, pos, af, gd⟩) hg ha)]
    obtain ⟨v, w', h, hR⟩ := hr a w1 e ha
    have h' : (execOp a.eval ⟨some d, op, ty, pos, af, gd⟩).run P w1 = .ok (.value v) w' := h
    unfold Oper.wp
    rw [h']
    exact hK _ _ (hk v w' hR _ w' (Eqv.refl _) (ha.put hd v))
theorem Ge.app {p p' : Option Nat} {n m : Nat} (h : Ge p n) (k : ∀ g, p' = some g → p = some g ∨ m ≤ g) (hm : n ≤ m) : Ge p' n := fun g hg => (k g hg).elim (h g) (Nat.le_trans hm)
theorem Eff.makeZI {q : Int} {z : α} {b : Nat} (hT : T.Ok P) (hs : nk T.ow t = some (e, b)) (hz : zeroOf P e = some [f z]) (hx : opv L x = some (.int k q)) (hy : opv L y = some (.int k' q)) (h0 : 0 ≤ q) (hm : q * (b : Int) ≤ 140737488355328) (h63 : q ≤ 140737488355328) (hB : B ≤ w.heap.size) :
    Eff P N w ⟨some d, .makeSlice t x y, ty, pos, af, none⟩ L (fun v w' => v = .slice (some ⟨w.heap.size, 0, none⟩) q.toNat q.toNat ∧ Own f w' B e (some ⟨w.heap.size, 0, none⟩) q.toNat (List.replicate q.toNat z) ∧ w.grownBy w' none) := by
  have e1 : ((q.toNat : Nat) : Int) = q := Int.toNat_of_nonneg h0
  have e2 : q.toNat * b ≤ 140737488355328 := by
    have : ((q.toNat * b : Nat) : Int) ≤ 140737488355328 := by rw [Int.natCast_mul, e1]; exact hm
    omega
  exact Eff.makeZ hT hs hz (by rw [e1]; exact hx) (by rw [e1]; exact hy) e2 (by omega) hB
def isIf : TypeDesc → Bool
  | .interface _ => true
  | _ => false
theorem Yld.mki {dd : Option Tmp} {v : Value} {td : TypeDesc} (hu : P.underlying t = some td) (hi : isIf td = false) (hv : opv L x = some v) : Yld P N w ⟨dd, .makeInterface t x, ty, pos, af, none⟩ L (.iface t v) := fun a w1 _ ha => by
  unfold execOp
  simp only [Instr.makeInterface, ha.ev hv, Sem.run_bind, run_underlying hu w1, Result.andThen_ok]
  cases td <;> simp_all [isIf]
end
theorem Rd.take {α : Type} {f : α → Value} {w : World} {A : Option Addr} {c : Nat} {xs : List α} (h : Rd f w A c xs) (m : Nat) : Rd f w A c (xs.take m) :=
  ⟨by have := h.cap; simp; omega, h.max, fun hx => by
    obtain ⟨ad, e, hc⟩ := h.cells (fun e => hx (by rw [e]; simp))
    refine ⟨ad, e, fun j x hj => hc j x ?_⟩
    rw [List.getElem?_take] at hj
    split at hj
    · exact hj
    · cases hj⟩
/-! ## function values -/
section
variable {P : Program} {T : Tab} {N : Nat} {ops : Array Oper} {Q : Post} {L : Slots} {w : World} {rest : List Oper} {d : Nat} {ty : TypeId} {pos : String} {af : Array Edge}
end
/-! a slice held against nil -/
theorem Yld.sleqnil {P : Program} {N : Nat} {L : Slots} {w : World} {ty : TypeId} {pos : String} {af : Array Edge} {dd : Option Tmp} {t t' e : TypeId} {x : Operand} {A : Option Addr} {n c : Nat} (h : P.underlying t = some (.slice e)) (hx : opv L x = some (.slice A n c)) :
    Yld P N w ⟨dd, .binOp .eql t x (.const (.slice none 0 0)) t', ty, pos, af, none⟩ L (.bool A.isNone) := fun a w1 _ ha => by
  refine exec_bin (ha.ev hx) rfl ?_ ?_
  · unfold eqGuard; rfl
  exact Go.Lib.run_eql_slice_nil w1 _ _ _ _ _ _ _ h
theorem Rd.nil_of {α : Type} {f : α → Value} {w : World} {A : Option Addr} {c : Nat} {xs : List α} (h : Rd f w A c xs) (hA : A.isNone = true) : xs = [] := by
  cases xs with
  | nil => rfl
  | cons x xs => obtain ⟨a, rfl, _⟩ := h.cells (by simp); cases hA
theorem RdK.nil_of {α : Type} {k : Nat} {f : α → List Value} {w : World} {A : Option Addr} {c : Nat} {xs : List α} (h : RdK k f w A c xs) (hA : A.isNone = true) : xs = [] := by
  cases xs with
  | nil => rfl
  | cons x xs => obtain ⟨g, o, rfl, _⟩ := h.cells (by simp); cases hA
end Go.Proofs.YtofenpiiihhigaaDoor

 /- Maps: plainly, and in the world. -/
namespace Go.Proofs.YtofenpiiihhigaaDoor
open Go Go.RowKit Go.MapKept Go.ChangeMaps
open Go.Maps (Keyed)
/-! ## plainly: the entries, in the order in which they were laid -/
section
variable {κ ν : Type} [DecidableEq κ]
def mget : List (κ × ν) → κ → Option ν
  | [], _ => none
  | p :: m, k => if p.1 = k then some p.2 else mget m k
def mput : List (κ × ν) → κ → ν → List (κ × ν)
  | [], k, v => [(k, v)]
  | p :: m, k, v => if p.1 = k then (k, v) :: m else p :: mput m k v
def Uq (m : List (κ × ν)) : Prop := (m.map (·.1)).Nodup
theorem mget_none {m : List (κ × ν)} {k : κ} : mget m k = none ↔ ∀ p ∈ m, p.1 ≠ k := by
  induction m with
  | nil => simp [mget]
  | cons p m ih =>
    unfold mget
    split
    · rename_i h; simp [h]
    · rename_i h; rw [ih]; simp [h]
theorem mget_mput (m : List (κ × ν)) (k k' : κ) (v : ν) : mget (mput m k v) k' = if k = k' then some v else mget m k' := by
  induction m with
  | nil => simp [mget, mput]
  | cons p m ih =>
    unfold mput
    split
    · rename_i h
      subst h
      unfold mget
      split <;> simp_all
    · rename_i h
      unfold mget
      rw [ih]
      split
      · rename_i h2
        subst h2
        rw [if_neg (Ne.symm h)]
      · rfl
theorem mput_new {m : List (κ × ν)} {k : κ} {v : ν} (h : mget m k = none) : mput m k v = m ++ [(k, v)] := by
  induction m with
  | nil => rfl
  | cons p m ih =>
    unfold mget at h
    split at h
    · cases h
    · rename_i hne
      unfold mput
      rw [if_neg hne, ih h]
      rfl
theorem mput_set {m : List (κ × ν)} {k : κ} {v v0 : ν} {j : Nat} (hu : Uq m) (h : m[j]? = some (k, v0)) : mput m k v = m.set j (k, v) := by
  induction m generalizing j with
  | nil => simp at h
  | cons p m ih =>
    have hu' := List.nodup_cons.1 hu
    cases j with
    | zero =>
      simp only [List.getElem?_cons_zero, Option.some.injEq] at h
      subst h
      simp [mput]
    | succ j =>
      simp only [List.getElem?_cons_succ] at h
      have hne : p.1 ≠ k := fun e => hu'.1 (List.mem_map.2 ⟨(k, v0), List.mem_of_getElem? h, e.symm⟩)
      unfold mput
      rw [if_neg hne, ih hu'.2 h]
      rfl
theorem mget_mem {m : List (κ × ν)} {k : κ} {v : ν} (hu : Uq m) : mget m k = some v ↔ (k, v) ∈ m := by
  induction m with
  | nil => simp [mget]
  | cons p m ih =>
    have hu' := List.nodup_cons.1 hu
    unfold mget
    split
    · rename_i h
      subst h
      rw [Option.some.injEq, List.mem_cons]
      constructor
      · rintro rfl; exact .inl rfl
      · rintro (h | h)
        · exact (congrArg Prod.snd h).symm
        · exact absurd (List.mem_map.2 ⟨_, h, rfl⟩) hu'.1
    · rename_i h
      rw [ih hu'.2, List.mem_cons]
      constructor
      · exact .inr
      · rintro (h2 | h2)
        · exact absurd (congrArg Prod.fst h2).symm h
        · exact h2
theorem mput_mem {m : List (κ × ν)} {k : κ} {v : ν} {p : κ × ν} (h : p ∈ mput m k v) : p = (k, v) ∨ p ∈ m := by
  induction m with
  | nil => simp [mput] at h; exact .inl h
  | cons q m ih =>
    unfold mput at h
    split at h
    · rcases List.mem_cons.1 h with h | h
      · exact .inl h
      · exact .inr (List.mem_cons_of_mem _ h)
    · rcases List.mem_cons.1 h with h | h
      · exact .inr (by rw [h]; exact List.mem_cons_self)
      · rcases ih h with h | h
        · exact .inl h
        · exact .inr (List.mem_cons_of_mem _ h)
theorem mput_keys (m : List (κ × ν)) (k : κ) (v : ν) : (mput m k v).map (·.1) = if (mget m k).isSome then m.map (·.1) else m.map (·.1) ++ [k] := by
  induction m with
  | nil => simp [mget, mput]
  | cons p m ih =>
    unfold mput mget
    split
    · rename_i h; simp [h]
    · rw [List.map_cons, ih, List.map_cons]
      split <;> rfl
theorem Uq.put {m : List (κ × ν)} (h : Uq m) (k : κ) (v : ν) : Uq (mput m k v) := by
  unfold Uq at *
  rw [mput_keys]
  split
  · exact h
  · rename_i hn
    have : mget m k = none := by simpa using hn
    rw [List.nodup_append]
    refine ⟨h, by simp, fun a ha b hb => ?_⟩
    obtain ⟨p, hp, rfl⟩ := List.mem_map.1 ha
    simp only [List.mem_cons, List.not_mem_nil, or_false] at hb
    subst hb
    exact mget_none.1 this p hp
end
/-! ## in the world -/
structure KeyF {κ : Type} (P : Program) (k : TypeId) (fk : κ → Value) (ok : κ → Prop) : Prop where
  check : ∀ (w : World) (em : Bool) (x : κ), ok x → (Instr.checkKey em 10000 k (fk x)).run P w = .ok () w
  find : ∀ (w : World) (x : κ), ok x → ∀ es : List MapEntry, (∀ e ∈ es, ∃ y, ok y ∧ e.key = fk y) →
    ((Instr.findKey k (fk x) es).run P w = .ok none w ∧ ∀ e ∈ es, e.key ≠ fk x) ∨ ∃ j e, (Instr.findKey k (fk x) es).run P w = .ok (some (j, e.val)) w ∧ es[j]? = some e ∧ e.key = fk x
  stays : ∀ (w : World) (x : κ), ok x → (Instr.keyThatStays (fk x) (fk x)).run P w = .ok (fk x) w
  inj : ∀ x y, ok x → ok y → fk x = fk y → x = y
/-- in one world -/
structure KeyW {κ : Type} (P : Program) (k : TypeId) (fk : κ → Value) (ok : κ → Prop) (w : World) : Prop where
  check : ∀ (em : Bool) (x : κ), ok x → (Instr.checkKey em 10000 k (fk x)).run P w = .ok () w
  find : ∀ (x : κ), ok x → ∀ es : List MapEntry, (∀ e ∈ es, ∃ y, ok y ∧ e.key = fk y) →
    ((Instr.findKey k (fk x) es).run P w = .ok none w ∧ ∀ e ∈ es, e.key ≠ fk x) ∨ ∃ j e, (Instr.findKey k (fk x) es).run P w = .ok (some (j, e.val)) w ∧ es[j]? = some e ∧ e.key = fk x
  stays : ∀ (x : κ), ok x → (Instr.keyThatStays (fk x) (fk x)).run P w = .ok (fk x) w
  inj : ∀ x y, ok x → ok y → fk x = fk y → x = y
theorem KeyF.at {κ : Type} {P : Program} {k : TypeId} {fk : κ → Value} {ok : κ → Prop} (K : KeyF P k fk ok) (w : World) : KeyW P k fk ok w := ⟨K.check w, K.find w, K.stays w, K.inj⟩
theorem KeyF.of {κ : Type} {P : Program} {k : TypeId} {fk : κ → Value} {ok : κ → Prop} (K : Keyed P k) (key : ∀ x, ok x → ∃ l, keyOf P k (fk x) = some l) (inj : ∀ x y, ok x → ok y → fk x = fk y → x = y) : KeyF P k fk ok where
  check w em x hx := by obtain ⟨l, hl⟩ := key x hx; exact K.check w em hl
  find w x hx es he := by
    obtain ⟨l, hl⟩ := key x hx
    refine K.find w hl es fun e he' => ?_
    obtain ⟨y, hy, e'⟩ := he e he'
    obtain ⟨l', hl'⟩ := key y hy
    exact ⟨l', by rw [e']; exact hl'⟩
  stays w x hx := by obtain ⟨l, hl⟩ := key x hx; exact K.stays w hl
  inj := inj
def okS (s : List UInt8) : Prop := s.length ≤ maxLen
theorem keyF_s {P : Program} {k : TypeId} (h : P.underlying k = some .string) : KeyF P k vs okS :=
  KeyF.of (Go.Maps.string_keyed h) (fun x hx => ⟨_, Go.WideMaps.keyOf_string_mk h (s := ⟨⟨x⟩⟩) hx⟩) (fun x y _ _ h => by unfold vs at h; injection h with h; injection h with h; injection h)
def MapB {κ ν : Type} (fk : κ → Value) (ok : κ → Prop) (fv : ν → Value) (w : World) (b : Nat) (m : List (κ × ν)) : Prop :=
  ∃ es clock, w.heap[b]? = some (.map es clock) ∧ Stamped es clock ∧ es.size ≤ maxLen ∧ (∀ p ∈ m, ok p.1) ∧ es.toList.map (fun e => (e.key, e.val)) = m.map fun p => (fk p.1, fv p.2)
section
variable {κ ν : Type} {P : Program} {k e t : TypeId} {fk : κ → Value} {ok : κ → Prop} {fv : ν → Value} {w w' : World} {b : Nat} {m : List (κ × ν)} {row : Option Nat}
theorem MapB.lt (h : MapB fk ok fv w b m) : b < w.heap.size := by
  obtain ⟨es, clock, hb, _⟩ := h
  exact (Array.getElem?_eq_some_iff.1 hb).1
theorem MapB.lt' (h : MapB fk ok fv w b m) : Lt (some b) w.heap.size := Lt.box h.lt
theorem MapB.go (h : MapB fk ok fv w b m) (hg : w.grownBy w' row) (hd : Dj (some b) row) : MapB fk ok fv w' b m := by
  have hlt := h.lt
  obtain ⟨es, clock, hb, r⟩ := h
  exact ⟨es, clock, (hg.block b hlt (fun e => hd b rfl e.symm)).trans hb, r⟩
theorem MapB.g0 (h : MapB fk ok fv w b m) (hg : w.grownBy w' none) : MapB fk ok fv w' b m := h.go hg Dj.nr
theorem MapB.eqv (hw : Eqv w w') (h : MapB fk ok fv w b m) : MapB fk ok fv w' b m := h.g0 (gr_eqv (gr_refl w none) hw)
theorem MapB.len (h : MapB fk ok fv w b m) : m.length ≤ maxLen := by
  obtain ⟨es, clock, _, _, hs, _, he⟩ := h
  have := congrArg List.length he
  simp at this
  omega
theorem MapB.uq (h : MapB fk ok fv w b m) : Uq m := by
  obtain ⟨es, clock, _, hst, _, _, he⟩ := h
  have h1 : es.toList.map (·.key) = (m.map (·.1)).map fk := by
    have := congrArg (List.map Prod.fst) he
    simpa [Function.comp_def] using this
  have h2 := hst.2.2
  rw [h1] at h2
  unfold Uq
  rw [List.nodup_iff_pairwise_ne, List.pairwise_map] at h2
  rw [List.nodup_iff_pairwise_ne]
  exact h2.imp fun h e => h (by rw [e])
variable [DecidableEq κ]
theorem MapB.find {es : Array MapEntry} {w : World} (K : KeyW P k fk ok w) (hst : Uq m) (hok : ∀ p ∈ m, ok p.1) (he : es.toList.map (fun e => (e.key, e.val)) = m.map fun p => (fk p.1, fv p.2)) {q : κ} (hq : ok q) :
    ((Instr.findKey k (fk q) es.toList).run P w = .ok none w ∧ mget m q = none ∧ ∀ x ∈ es.toList, x.key ≠ fk q) ∨ ∃ j v e0, (Instr.findKey k (fk q) es.toList).run P w = .ok (some (j, fv v)) w ∧ mget m q = some v ∧ m[j]? = some (q, v) ∧ es.toList[j]? = some e0 ∧ e0.key = fk q := by
  have hget : ∀ (j : Nat), (es.toList[j]?).map (fun e => (e.key, e.val)) = (m[j]?).map fun p => (fk p.1, fv p.2) := fun j => by
    have := congrArg (fun l => l[j]?) he
    simpa using this
  rcases K.find q hq es.toList (fun e he' => by
    obtain ⟨j, hj, rfl⟩ := List.getElem_of_mem he'
    have h1 := hget j
    rw [List.getElem?_eq_getElem hj] at h1
    simp only [Option.map_some] at h1
    obtain ⟨p, hp, hpe⟩ := Option.map_eq_some_iff.1 h1.symm
    exact ⟨p.1, hok p (List.mem_of_getElem? hp), (congrArg Prod.fst hpe).symm⟩) with ⟨h1, h2⟩ | ⟨j, e0, h1, h2, h3⟩
  · refine .inl ⟨h1, mget_none.2 fun p hp hpq => ?_, h2⟩
    obtain ⟨j, hj, rfl⟩ := List.getElem_of_mem hp
    have h4 := hget j
    rw [List.getElem?_eq_getElem hj] at h4
    simp only [Option.map_some] at h4
    obtain ⟨x, hx, hxe⟩ := Option.map_eq_some_iff.1 h4
    have h5 : x.key = fk m[j].1 := congrArg Prod.fst hxe
    exact h2 x (List.mem_of_getElem? hx) (by rw [h5, hpq])
  · have h4 := hget j
    rw [h2] at h4
    simp only [Option.map_some] at h4
    obtain ⟨p, hp, hpe⟩ := Option.map_eq_some_iff.1 h4.symm
    have hpq : p.1 = q := K.inj _ _ (hok p (List.mem_of_getElem? hp)) hq ((congrArg Prod.fst hpe).trans h3)
    have hpv : fv p.2 = e0.val := congrArg Prod.snd hpe
    refine .inr ⟨j, p.2, e0, by rw [hpv]; exact h1, (mget_mem hst).2 (by rw [← hpq]; exact List.mem_of_getElem? hp), by rw [hp, ← hpq], h2, h3⟩
theorem MapB.run_look (K : KeyW P k fk ok w) (h : MapB fk ok fv w b m) (ht : P.underlying t = some (.map k e)) {z : ν} (hz : (zeroValue e).run P w = .ok (fv z) w) {q : κ} (hq : ok q) (c : Bool) :
    (Instr.lookup t (.map (some b)) (fk q) c).run P w = .ok (if c then .tuple #[fv ((mget m q).getD z), .bool (mget m q).isSome] else fv ((mget m q).getD z)) w := by
  have hu := h.uq
  obtain ⟨es, clock, hb, hst, hs, hok, he⟩ := h
  rcases MapB.find K hu hok he hq with ⟨h1, h2, _⟩ | ⟨j, v, e0, h1, h2, _⟩
  · cases c <;> simp [Instr.lookup, run_underlying ht, MapKept.run_getObj_map hb, K.check _ q hq, h1, h2, hz, Result.andThen]
  · cases c <;> simp [Instr.lookup, run_underlying ht, MapKept.run_getObj_map hb, K.check _ q hq, h1, h2, Result.andThen]
theorem MapB.run_put (K : KeyW P k fk ok w) (h : MapB fk ok fv w b m) (ht : P.underlying t = some (.map k e)) (hn : m.length < maxLen) {q : κ} (hq : ok q) (v : ν) :
    ∃ w', (Instr.mapUpdate t (.map (some b)) (fk q) (fv v)).run P w = .ok () w' ∧ MapB fk ok fv w' b (mput m q v) ∧ w.grownBy w' (some b) := by
  have hu := h.uq
  obtain ⟨es, clock, hb, hst, hs, hok, he⟩ := h
  have hlen : es.size = m.length := by have := congrArg List.length he; simpa using this
  have hok' : ∀ p ∈ mput m q v, ok p.1 := fun p hp => by
    rcases mput_mem hp with rfl | hp
    · exact hq
    · exact hok p hp
  have hgr : ∀ o, w.grownBy (setBlock w b o) (some b) := fun o => ⟨rfl, rfl, rfl, by simp [setBlock], fun i _ hi => heap_setBlock_other hb _ (fun e => hi (by rw [e]))⟩
  rcases MapB.find K hu hok he hq with ⟨h1, h2, h3⟩ | ⟨j, v0, e0, h1, h2, h3, h4, h5⟩
  · refine ⟨setBlock w b (.map (es.push ⟨fk q, fv v, clock⟩) (clock + 1)), ?_, ⟨es.push ⟨fk q, fv v, clock⟩, clock + 1, heap_setBlock_same hb _, stamped_push hst h3, by simp; omega, hok', ?_⟩, hgr _⟩
    · simp [Instr.mapUpdate, run_underlying ht, MapKept.run_getObj_map hb, K.check false q hq, h1, MapKept.run_setObj_map _ hb, Result.andThen, setBlock]
    · rw [mput_new h2, Array.toList_push, List.map_append, List.map_append, he]
      rfl
  · have hj : es[j]? = some e0 := by simpa using h4
    have hkeyf : ∀ e', es[j]? = some e' → ({ e' with key := fk q, val := fv v } : MapEntry).key = e'.key := fun e' he' => by rw [hj] at he'; cases he'; exact h5.symm
    have hlist : (es.modify j (fun e' => { e' with key := fk q, val := fv v })).toList = es.toList.set j { e0 with key := fk q, val := fv v } := by rw [Array.toList_modify, modify_eq_set _ _ _ _ h4]
    refine ⟨setBlock w b (.map (es.modify j (fun e' => { e' with key := fk q, val := fv v })) clock), ?_, ⟨es.modify j (fun e' => { e' with key := fk q, val := fv v }), clock, heap_setBlock_same hb _, stamped_modify hst _ _ (fun _ _ => rfl) (fun e' _ he' => hkeyf e' he'), by simpa using hs, hok', ?_⟩, hgr _⟩
    · simp [Instr.mapUpdate, run_underlying ht, MapKept.run_getObj_map hb, K.check false q hq, h1, hj, h5, K.stays q hq, MapKept.run_setObj_map _ hb, Result.andThen, setBlock]
    · rw [hlist, mput_set hu h3, List.map_set, List.map_set, he]
 omit [DecidableEq κ] in
theorem MapB.made (w : World) (fk : κ → Value) (ok : κ → Prop) (fv : ν → Value) : MapB fk ok fv (w.alloc (.map #[] 0)) w.heap.size ([] : List (κ × ν)) :=
  ⟨#[], 0, (MapKept.heap_alloc w _).1, stamped_empty 0, by simp, by simp, rfl⟩
variable {N : Nat} {L : Slots} {ty : TypeId} {pos : String} {af : Array Edge} {dd : Option Tmp} {x y u : Operand}
theorem Yld.look (hK : KeyF P k fk ok) (ht : P.underlying t = some (.map k e)) {z : ν} (hz : ∀ w, (zeroValue e).run P w = .ok (fv z) w) (hm : MapB fk ok fv w b m) (hx : opv L x = some (.map (some b))) {q : κ} (hy : opv L y = some (fk q)) (hq : ok q) :
    Yld P N w ⟨dd, .lookup t x y false, ty, pos, af, none⟩ L (fv ((mget m q).getD z)) := fun a w1 hw ha => by
  unfold execOp
  simp [ha.ev hx, ha.ev hy, (MapB.eqv hw hm).run_look (hK.at w1) ht (hz w1) hq false]
 omit [DecidableEq κ] in
theorem Eff.makeMap (fk : κ → Value) (ok : κ → Prop) (fv : ν → Value) : Eff P N w ⟨dd, .makeMap t none, ty, pos, af, none⟩ L fun v w' => v = .map (some w.heap.size) ∧ MapB fk ok fv w' w.heap.size ([] : List (κ × ν)) ∧ w.grownBy w' none := fun a w1 hw ha => by
  refine ⟨_, w1.alloc (.map #[] 0), ?_, rfl, ?_, eqv_gr hw (gr_alloc w1 _ none)⟩
  · unfold execOp
    simp [run_makeMap]
    rw [hw.heap]
  · have := MapB.made w1 fk ok fv
    rwa [hw.heap] at this
theorem Ef0.mapPut (hK : KeyF P k fk ok) (ht : P.underlying t = some (.map k e)) (hm : MapB fk ok fv w b m) (hn : m.length < maxLen) (hx : opv L x = some (.map (some b))) {q : κ} (hy : opv L y = some (fk q)) (hq : ok q) {v : ν} (hu : opv L u = some (fv v)) :
    Ef0 P N w ⟨none, .mapUpdate t x y u, ty, pos, af, none⟩ L fun w' => MapB fk ok fv w' b (mput m q v) ∧ w.grownBy w' (some b) := fun a w1 hw ha => by
  obtain ⟨w', h1, h2, h3⟩ := (MapB.eqv hw hm).run_put (hK.at w1) ht hn hq v
  refine ⟨w', ?_, h2, eqv_gr hw h3⟩
  unfold execOp
  simp [ha.ev hx, ha.ev hy, ha.ev hu, h1]
theorem WL.ef0 {ops : Array Oper} {Q : Post} {rest : List Oper} {op : Op} {R : World → Prop} (hr : Ef0 P N w ⟨none, op, ty, pos, af, none⟩ L R) (hk : ∀ w', R w' → WL P N ops Q rest L w') : WL P N ops Q (⟨none, op, ty, pos, af, none⟩ :: rest) L w := WL.eff hr hk
end
end Go.Proofs.YtofenpiiihhigaaDoor

 /- Changes within blocks that are named: what calls do to what they are handed. -/
namespace Go.Proofs.YtofenpiiihhigaaDoor
open Go Go.RowKit
structure GrL (ps : List (Option Nat)) (w w' : World) : Prop where
  os : w'.os = w.os
  tape : w'.tape = w.tape
  output : w'.output = w.output
  size : w.heap.size ≤ w'.heap.size
  block : ∀ i, i < w.heap.size → (∀ p, List.Mem p ps → p ≠ some i) → w'.heap[i]? = w.heap[i]?
def AllP (Q : Option Nat → Prop) (ps : List (Option Nat)) : Prop := ∀ p, List.Mem p ps → Q p
theorem apN {Q : Option Nat → Prop} : AllP Q [] := fun _ h => by cases h
theorem apC {Q : Option Nat → Prop} {p : Option Nat} {ps : List (Option Nat)} (h : Q p) (t : AllP Q ps) : AllP Q (p :: ps) := fun x hx => by
  cases hx with
  | head => exact h
  | tail _ hx => exact t x hx
def InP (ps : List (Option Nat)) (n : Nat) (p : Option Nat) : Prop := ∀ g, p = some g → n ≤ g ∨ List.Mem (some g) ps
section
variable {ps qs : List (Option Nat)} {p p' q row : Option Nat} {n m : Nat} {a b c w w' : World}
theorem InP.ge (h : Ge p n) : InP ps n p := fun g hg => .inl (h g hg)
theorem InP.mem (h : List.Mem p ps) : InP ps n p := fun _ hg => .inr (hg ▸ h)
theorem InP.none : InP ps n none := fun _ h => by cases h
theorem InP.app (h : InP ps n p) (k : ∀ g, p' = some g → p = some g ∨ m ≤ g) (hm : n ≤ m) : InP ps n p' := fun g hg => by
  rcases k g hg with h1 | h1
  · exact h g h1
  · exact .inl (Nat.le_trans hm h1)
theorem InP.trans (h : InP qs m p) (k : AllP (InP ps n) qs) (hm : n ≤ m) : InP ps n p := fun g hg => by
  rcases h g hg with h1 | h1
  · exact .inl (Nat.le_trans hm h1)
  · exact k _ h1 g rfl
theorem InP.toGe (h : InP qs m p) (k : AllP (fun q => Ge q n) qs) (hm : n ≤ m) : Ge p n := fun g hg => by
  rcases h g hg with h1 | h1
  · exact Nat.le_trans hm h1
  · exact k _ h1 g rfl
theorem InP.dj (h : InP qs m p) (hq : Lt q m) (k : AllP (Dj q) qs) : Dj p q := fun g hg hqg => by
  rcases h g hg with h1 | h1
  · have := hq g hqg; omega
  · exact k _ h1 g hqg rfl
theorem InP.dn {α : Type} {xs : List α} (h : InP qs m p) (hq : xs ≠ [] → Lt q m) (k : AllP (Dn xs q) qs) : Dn xs q p := fun hx g hqg hg => by
  rcases h g hg with h1 | h1
  · have := hq hx g hqg; omega
  · exact k _ h1 hx g hqg rfl
theorem GrL.refl (w : World) : GrL ps w w := ⟨rfl, rfl, rfl, Nat.le_refl _, fun _ _ _ => rfl⟩
theorem GrL.of0 (h : w.grownBy w' none) : GrL ps w w' := ⟨h.os, h.tape, h.output, h.size, fun i hi _ => h.block i hi (by simp)⟩
theorem GrL.of1 (h : w.grownBy w' row) : GrL [row] w w' := ⟨h.os, h.tape, h.output, h.size, fun i hi k => h.block i hi fun e => k row (List.Mem.head _) e.symm⟩
theorem GrL.toL (h : GrL [] w w') : w.grownBy w' none := ⟨h.os, h.tape, h.output, h.size, fun i hi _ => h.block i hi fun _ hp => by cases hp⟩
theorem GrL.trans (h : GrL ps a b) (k : GrL ps b c) : GrL ps a c :=
  ⟨k.os.trans h.os, k.tape.trans h.tape, k.output.trans h.output, Nat.le_trans h.size k.size, fun i hi hp => (k.block i (Nat.lt_of_lt_of_le hi h.size) hp).trans (h.block i hi hp)⟩
theorem GrL.modL (h : GrL ps a b) (k : GrL qs b c) (hi : AllP (InP ps a.heap.size) qs) : GrL ps a c :=
  ⟨k.os.trans h.os, k.tape.trans h.tape, k.output.trans h.output, Nat.le_trans h.size k.size, fun i hl hp => (k.block i (Nat.lt_of_lt_of_le hl h.size) fun q hq e => by
    rcases hi q hq i e with h1 | h1
    · omega
    · exact hp _ h1 rfl).trans (h.block i hl hp)⟩
theorem GrL.mod (h : GrL ps a b) (k : b.grownBy c row) (hi : InP ps a.heap.size row) : GrL ps a c := h.modL (GrL.of1 k) (apC hi apN)
theorem GrL.add0 (h : GrL ps a b) (k : b.grownBy c none) : GrL ps a c := h.trans (GrL.of0 k)
theorem gr_modL (h : a.grownBy b none) (k : GrL qs b c) (hi : AllP (fun q => Ge q a.heap.size) qs) : a.grownBy c none :=
  (GrL.modL (ps := []) (GrL.of0 h) k fun q hq => InP.ge (hi q hq)).toL
theorem GrL.eqv (h : GrL ps a b) (k : Eqv b c) : GrL ps a c := h.add0 (gr_eqv (gr_refl b none) k)
theorem GrL.sizeL (h : GrL ps a b) : a.heap.size ≤ b.heap.size := h.size
/-- one block's row, as_ 'grownBy' says it -/
theorem GrL.cell (h : GrL ps w w') {ad : Addr} {v : Value} (hc : w.cell? ad = some v) (hp : ∀ p, List.Mem p ps → p ≠ some ad.block) : w'.cell? ad = some v := by
  have hlt := World.block_lt_of_cell? w _ hc
  have := h.block ad.block hlt hp
  unfold World.cell? at hc ⊢
  rw [this]; exact hc
variable {α : Type} {f : α → Value} {A : Option Addr} {B cc g k : Nat} {xs : List α} {e : TypeId} {us : List Value} {fk : α → List Value}
theorem Bl.goL (h : Bl w g e us) (hg : GrL ps w w') (hd : AllP (Dj (some g)) ps) : Bl w' g e us := (hg.block g h.lt fun p hp e => hd p hp g rfl e).trans h
theorem Rd.goL (h : Rd f w A cc xs) (hg : GrL ps w w') (hd : AllP (Dn xs (blk A)) ps) : Rd f w' A cc xs :=
  ⟨h.cap, h.max, fun hx => by
    obtain ⟨ad, rfl, hc⟩ := h.cells hx
    refine ⟨ad, rfl, fun j x hj => hg.cell (hc j x hj) fun p hp e => ?_⟩
    rw [addr_block] at e
    exact hd p hp hx ad.block rfl e⟩
theorem RdK.goL (h : RdK k fk w A cc xs) (hg : GrL ps w w') (hd : AllP (Dn xs (blk A)) ps) : RdK k fk w' A cc xs :=
  ⟨h.ok, h.cap, h.max, fun hx => by
    obtain ⟨g', o, rfl, hc⟩ := h.cells hx
    refine ⟨g', o, rfl, fun j x i u hj hi => hg.cell (hc j x i u hj hi) fun p hp e => ?_⟩
    exact hd p hp hx g' rfl e⟩
theorem Own.goL (h : Own f w B e A cc xs) (hg : GrL ps w w') (hd : AllP (Dj (blk A)) ps) : Own f w' B e A cc xs := by
  have hlt := h.lt'
  unfold Own at h ⊢
  refine ⟨h.1, ?_⟩
  rcases h.2 with h2 | ⟨g, cap, cur, hv, hb, hg', r⟩
  · exact .inl h2
  · refine .inr ⟨g, cap, cur, hv, hb, ?_, r⟩
    simp only [Value.slice.injEq] at hv
    obtain ⟨rfl, _⟩ := hv
    exact (hg.block g (hlt g rfl) fun p hp e => hd p hp g rfl e).trans hg'
theorem OwnK.goL (h : OwnK k fk w B e A cc xs) (hg : GrL ps w w') (hd : AllP (Dj (blk A)) ps) : OwnK k fk w' B e A cc xs := by
  have hlt := h.lt'
  refine ⟨h.1, h.2.1, ?_⟩
  rcases h.2.2 with h2 | ⟨g, cap, cur, hv, hb, hg', r⟩
  · exact .inl h2
  · refine .inr ⟨g, cap, cur, hv, hb, ?_, r⟩
    simp only [Value.slice.injEq] at hv
    obtain ⟨rfl, _⟩ := hv
    exact (hg.block g (hlt g rfl) fun p hp e => hd p hp g rfl e).trans hg'
theorem MapB.goL {κ ν : Type} {mk : κ → Value} {ok : κ → Prop} {fv : ν → Value} {mm : List (κ × ν)} (h : MapB mk ok fv w g mm) (hg : GrL ps w w') (hd : AllP (Dj (some g)) ps) : MapB mk ok fv w' g mm := by
  have hlt := h.lt
  obtain ⟨es, clock, hb, r⟩ := h
  exact ⟨es, clock, (hg.block g hlt (fun p hp e => hd p hp g rfl e)).trans hb, r⟩
variable {S : List Nat}
/-- the variables hold what they were laid with; they all lie below B -/
def GB (S : List Nat) (B : Nat) (w : World) : Prop := ∃ W, GOK S W ∧ W.heap.size ≤ B ∧ Below W.heap.size W w
theorem GB.ok (h : GB S B w) : GOK S w := by
  obtain ⟨W, h1, _, h3⟩ := h
  exact h1.grown (gr_below h3 none)
theorem GB.of (h : GOK S w) : GB S w.heap.size w := ⟨w, h, Nat.le_refl _, Below.refl _ _⟩
theorem belowL {W : World} {n : Nat} (h3 : Below n W w) (hn : n ≤ B) (hg : GrL ps w w') (hp : AllP (fun p => Ge p B) ps) (hW : n ≤ W.heap.size) : Below n W w' := by
  refine ⟨hg.os.trans h3.os, hg.tape.trans h3.tape, hg.output.trans h3.output, Nat.le_trans h3.size hg.size, fun i hi => ?_⟩
  refine (hg.block i (Nat.lt_of_lt_of_le (Nat.lt_of_lt_of_le hi hW) h3.size) fun p hm e => ?_).trans (h3.block i hi)
  have := hp p hm i e
  omega
theorem GB.goL (h : GB S B w) (hg : GrL ps w w') (hp : AllP (fun p => Ge p B) ps) : GB S B w' := by
  obtain ⟨W, h1, h2, h3⟩ := h
  exact ⟨W, h1, h2, belowL h3 h2 hg hp (Nat.le_refl _)⟩
theorem GB.g0 (h : GB S B w) (hg : w.grownBy w' none) : GB S B w' := h.goL (ps := []) (GrL.of0 hg) apN
theorem GB.mono {B' : Nat} (h : GB S B w) (hB : B ≤ B') : GB S B' w := by
  obtain ⟨W, h1, h2, h3⟩ := h
  exact ⟨W, h1, Nat.le_trans h2 hB, h3⟩
theorem GB.grown {W : World} (h : GOK S W) (hg : W.grownBy w none) : GB S W.heap.size w := ⟨W, h, Nat.le_refl _, below_gr hg⟩
/-- no error with a place lies there -/
def NoAt (w : World) (p : Option Nat) : Prop := ∀ g us, p = some g → ¬ Bl w g 184 us
theorem NoAt.bl (h : Bl w g e us) (ht : Nat.beq e 184 = false) : NoAt w (some g) := fun g' us' hg' hB => by
  cases hg'
  exact Bl.ne h hB (Nat.ne_of_beq_eq_false ht) rfl
theorem NoAt.own (h : Own f w B e A cc xs) (ht : Nat.beq e 184 = false) : NoAt w (blk A) := fun g' us' hg' hB => by
  rcases h.2 with ⟨hv, _⟩ | ⟨g, cap, cur, hv, _, hb, _⟩
  · simp only [Value.slice.injEq] at hv
    obtain ⟨rfl, _⟩ := hv
    cases hg'
  · simp only [Value.slice.injEq] at hv
    obtain ⟨rfl, _⟩ := hv
    cases hg'
    exact Bl.ne (us := cur.toList) hb hB (Nat.ne_of_beq_eq_false ht) rfl
theorem NoAt.map {κ ν : Type} {mk : κ → Value} {ok : κ → Prop} {fv : ν → Value} {mm : List (κ × ν)} (h : MapB mk ok fv w g mm) : NoAt w (some g) := fun g' us' hg' hB => by
  cases hg'
  obtain ⟨es, clock, hb, _⟩ := h
  unfold Bl at hB
  rw [hb] at hB
  cases hB
end
end Go.Proofs.YtofenpiiihhigaaDoor

 /- Slices whose elements hold slices. -/
namespace Go.Proofs.YtofenpiiihhigaaDoor
open Go Go.RowKit
/-- a slice's head -/
structure Hdr where
  A : Option Addr
  n : Nat
  c : Nat
def hd0 : Hdr := ⟨none, 0, 0⟩
def vh (h : Hdr) : Value := .slice h.A h.n h.c
theorem One.h : One vh := fun _ => rfl
/-- how an element lies: H what its cells say, X what it means -/
structure DE (H X : Type) where
  rel : World → H → X → Prop
  dn : H → X → Option Nat → Prop
  goL : ∀ {w w' : World} {h : H} {x : X} {ps : List (Option Nat)}, rel w h x → GrL ps w w' → AllP (dn h x) ps → rel w' h x
  new : ∀ {w : World} {h : H} {x : X} {p : Option Nat}, rel w h x → Ge p w.heap.size → dn h x p
  app : ∀ {w : World} {h : H} {x : X} {ps : List (Option Nat)} {p : Option Nat}, rel w h x → AllP (dn h x) ps → InP ps w.heap.size p → dn h x p
def DE.flat (X : Type) : DE X X where
  rel _ h x := h = x
  dn _ _ _ := True
  goL h _ _ := h
  new _ _ := trivial
  app _ _ _ := trivial
def DE.sl {α : Type} (f : α → Value) : DE Hdr (List α) where
  rel w h x := h.n = x.length ∧ Rd f w h.A h.c x
  dn h x p := Dn x (blk h.A) p
  goL h k a := ⟨h.1, h.2.goL k a⟩
  new h k := Dn.new (fun hx => h.2.lt' hx) k
  app h a k := InP.dn k (fun hx => h.2.lt' hx) a
def DE.pr {H X K Y : Type} (d : DE H X) (e : DE K Y) : DE (H × K) (X × Y) where
  rel w h x := d.rel w h.1 x.1 ∧ e.rel w h.2 x.2
  dn h x p := d.dn h.1 x.1 p ∧ e.dn h.2 x.2 p
  goL h k a := ⟨d.goL h.1 k fun p hp => (a p hp).1, e.goL h.2 k fun p hp => (a p hp).2⟩
  new h k := ⟨d.new h.1 k, e.new h.2 k⟩
  app h a k := ⟨d.app h.1 (fun p hp => (a p hp).1) k, e.app h.2 (fun p hp => (a p hp).2) k⟩
/-- all elements lie so -/
def RelD {H X : Type} (d : DE H X) (w : World) (hs : List H) (xs : List X) : Prop := hs.length = xs.length ∧ ∀ (i : Nat) (h : H) (x : X), hs[i]? = some h → xs[i]? = some x → d.rel w h x
def DnD {H X : Type} (d : DE H X) (hs : List H) (xs : List X) (p : Option Nat) : Prop := ∀ (i : Nat) (h : H) (x : X), hs[i]? = some h → xs[i]? = some x → d.dn h x p
section
variable {H X : Type} {d : DE H X} {w w' : World} {hs hs' : List H} {xs xs' : List X} {ps : List (Option Nat)} {p : Option Nat} {i : Nat} {h : H} {x : X} {row : Option Nat}
theorem RelD.goL (k : RelD d w hs xs) (hg : GrL ps w w') (a : AllP (DnD d hs xs) ps) : RelD d w' hs xs := ⟨k.1, fun i h x hh hx => d.goL (k.2 i h x hh hx) hg fun p hp => a p hp i h x hh hx⟩
theorem RelD.go (k : RelD d w hs xs) (hg : w.grownBy w' row) (a : DnD d hs xs row) : RelD d w' hs xs := k.goL (GrL.of1 hg) (apC a apN)
theorem RelD.grown (k : RelD d w hs xs) (hg : w.grownBy w' none) : RelD d w' hs xs := k.goL (ps := []) (GrL.of0 hg) apN
theorem RelD.new (k : RelD d w hs xs) (hp : Ge p w.heap.size) : DnD d hs xs p := fun i h x hh hx => d.new (k.2 i h x hh hx) hp
theorem RelD.inp (k : RelD d w hs xs) (a : AllP (DnD d hs xs) ps) (hp : InP ps w.heap.size p) : DnD d hs xs p := fun i h x hh hx => d.app (k.2 i h x hh hx) (fun q hq => a q hq i h x hh hx) hp
theorem RelD.app {p' : Option Nat} (k : RelD d w hs xs) (a : DnD d hs xs p) (hk : ∀ g, p' = some g → p = some g ∨ w.heap.size ≤ g) : DnD d hs xs p' := fun i h x hh hx => d.app (k.2 i h x hh hx) (ps := [p]) (apC (a i h x hh hx) apN) (InP.app (ps := [p]) (InP.mem (List.Mem.head _)) hk (Nat.le_refl _))
theorem RelD.nil : RelD d w [] [] := ⟨rfl, fun i h x hh => by simp at hh⟩
theorem DnD.nil : DnD d [] [] p := fun i h x hh => by simp at hh
theorem DnD.none (k : RelD d w hs xs) : DnD d hs xs none := k.new Ge.none
theorem RelD.cons (k : d.rel w h x) (t : RelD d w hs xs) : RelD d w (h :: hs) (x :: xs) := ⟨by simp [t.1], fun i h' x' hh hx => by
  cases i with
  | zero => simp only [List.getElem?_cons_zero, Option.some.injEq] at hh hx; subst hh; subst hx; exact k
  | succ i => exact t.2 i h' x' (by simpa using hh) (by simpa using hx)⟩
theorem DnD.cons (k : d.dn h x p) (t : DnD d hs xs p) : DnD d (h :: hs) (x :: xs) p := fun i h' x' hh hx => by
  cases i with
  | zero => simp only [List.getElem?_cons_zero, Option.some.injEq] at hh hx; subst hh; subst hx; exact k
  | succ i => exact t i h' x' (by simpa using hh) (by simpa using hx)
theorem RelD.append (k : RelD d w hs xs) (t : RelD d w hs' xs') : RelD d w (hs ++ hs') (xs ++ xs') := ⟨by simp [k.1, t.1], fun i h x hh hx => by
  by_cases hi : i < hs.length
  · rw [List.getElem?_append_left hi] at hh
    rw [List.getElem?_append_left (by rw [← k.1]; exact hi)] at hx
    exact k.2 i h x hh hx
  · rw [List.getElem?_append_right (by omega)] at hh
    rw [List.getElem?_append_right (by rw [← k.1]; omega), ← k.1] at hx
    exact t.2 _ h x hh hx⟩
theorem DnD.append (hl : hs.length = xs.length) (k : DnD d hs xs p) (t : DnD d hs' xs' p) : DnD d (hs ++ hs') (xs ++ xs') p := fun i h x hh hx => by
  by_cases hi : i < hs.length
  · rw [List.getElem?_append_left hi] at hh
    rw [List.getElem?_append_left (by rw [← hl]; exact hi)] at hx
    exact k i h x hh hx
  · rw [List.getElem?_append_right (by omega)] at hh
    rw [List.getElem?_append_right (by rw [← hl]; omega), ← hl] at hx
    exact t _ h x hh hx
theorem RelD.rep (n : Nat) (k : d.rel w h x) : RelD d w (List.replicate n h) (List.replicate n x) := ⟨by simp, fun i h' x' hh hx => by
  rw [List.getElem?_replicate] at hh hx
  split at hh
  · simp only [Option.some.injEq] at hh
    rw [if_pos (by assumption)] at hx
    simp only [Option.some.injEq] at hx
    subst hh; subst hx; exact k
  · cases hh⟩
theorem DnD.rep (n : Nat) (k : d.dn h x p) : DnD d (List.replicate n h) (List.replicate n x) p := fun i h' x' hh hx => by
  rw [List.getElem?_replicate] at hh hx
  split at hh
  · simp only [Option.some.injEq] at hh
    rw [if_pos (by assumption)] at hx
    simp only [Option.some.injEq] at hx
    subst hh; subst hx; exact k
  · cases hh
theorem RelD.set (k : RelD d w hs xs) (t : d.rel w h x) (j : Nat) : RelD d w (hs.set j h) (xs.set j x) := ⟨by simp [k.1], fun i h' x' hh hx => by
  rw [List.getElem?_set] at hh hx
  by_cases hj : j = i
  · subst hj
    rw [if_pos rfl] at hh hx
    split at hh
    · split at hx
      · simp only [Option.some.injEq] at hh hx
        subst hh; subst hx; exact t
      · cases hx
    · cases hh
  · rw [if_neg hj] at hh hx
    exact k.2 i h' x' hh hx⟩
theorem DnD.set (k : DnD d hs xs p) (t : d.dn h x p) (j : Nat) : DnD d (hs.set j h) (xs.set j x) p := fun i h' x' hh hx => by
  rw [List.getElem?_set] at hh hx
  by_cases hj : j = i
  · subst hj
    rw [if_pos rfl] at hh hx
    split at hh
    · split at hx
      · simp only [Option.some.injEq] at hh hx
        subst hh; subst hx; exact t
      · cases hx
    · cases hh
  · rw [if_neg hj] at hh hx
    exact k i h' x' hh hx
/-- whatever the elements hold has come since -/
def NewD (d : DE H X) (hs : List H) (xs : List X) (n : Nat) : Prop := ∀ p : Option Nat, (∀ g, p = some g → g < n) → DnD d hs xs p
theorem NewD.nil {n : Nat} : NewD d [] [] n := fun _ _ => DnD.nil
theorem NewD.append {n : Nat} (hl : hs.length = xs.length) (a : NewD d hs xs n) (b : NewD d hs' xs' n) : NewD d (hs ++ hs') (xs ++ xs') n := fun p hp => DnD.append hl (a p hp) (b p hp)
theorem NewD.cons {n : Nat} (a : ∀ p : Option Nat, (∀ g, p = some g → g < n) → d.dn h x p) (b : NewD d hs xs n) : NewD d (h :: hs) (x :: xs) n := fun p hp => DnD.cons (a p hp) (b p hp)
theorem NewD.le {n m : Nat} (a : NewD d hs xs n) (h : m ≤ n) : NewD d hs xs m := fun p hp => a p fun g e => Nat.lt_of_lt_of_le (hp g e) h
theorem RelD.drop (k : RelD d w hs xs) (n : Nat) : RelD d w (hs.drop n) (xs.drop n) := ⟨by simp [k.1], fun i h x hh hx => k.2 (n + i) h x (by simpa [List.getElem?_drop] using hh) (by simpa [List.getElem?_drop] using hx)⟩
theorem DnD.drop (k : DnD d hs xs p) (n : Nat) : DnD d (hs.drop n) (xs.drop n) p := fun i h x hh hx => k (n + i) h x (by simpa [List.getElem?_drop] using hh) (by simpa [List.getElem?_drop] using hx)
theorem RelD.take (k : RelD d w hs xs) (n : Nat) : RelD d w (hs.take n) (xs.take n) := ⟨by simp [k.1], fun i h x hh hx => by
  rw [List.getElem?_take] at hh hx
  split at hh
  · rw [if_pos (by assumption)] at hx; exact k.2 i h x hh hx
  · cases hh⟩
theorem DnD.take (k : DnD d hs xs p) (n : Nat) : DnD d (hs.take n) (xs.take n) p := fun i h x hh hx => by
  rw [List.getElem?_take] at hh hx
  split at hh
  · rw [if_pos (by assumption)] at hx; exact k i h x hh hx
  · cases hh
/-- an element, read -/
theorem RelD.at (k : RelD d w hs xs) (dh : H) (dx : X) {j : Nat} (hj : j < xs.length) : ∃ h, hs.getD j dh = h ∧ d.rel w h (xs.getD j dx) := by
  have hj2 : j < hs.length := by rw [k.1]; exact hj
  refine ⟨_, rfl, k.2 j _ _ ?_ ?_⟩
  · simp [List.getD, hj2]
  · simp [List.getD, hj]
theorem DnD.at (k : DnD d hs xs p) (hl : hs.length = xs.length) {dh : H} {dx : X} {j : Nat} (hj : j < xs.length) {h : H} (hh : hs.getD j dh = h) : d.dn h (xs.getD j dx) p := by
  have hj2 : j < hs.length := by rw [hl]; exact hj
  subst hh
  exact k j _ _ (by simp [List.getD, hj2]) (by simp [List.getD, hj])
end
section
variable {P : Program} {N : Nat} {L : Slots} {w : World} {o : Oper} {u v : Value}
theorem Yld.to (h : Yld P N w o L u) (e : u = v) : Yld P N w o L v := e ▸ h
end
section
variable {P : Program} {N : Nat} {L : Slots} {w : World}
end
end Go.Proofs.YtofenpiiihhigaaDoor

 /- Arguments, opened: slices of structs that hold slices. -/
namespace Go.Proofs.YtofenpiiihhigaaDoor
open Go Go.RowKit Go.WideShapes Go.ChangeShapes Go.ChangeAt Go.Joins Go.Deep
instance : Inhabited Hdr := ⟨hd0⟩
section
variable {H : Type} {enc : TypeId × Value → H} {P : Program} {W : World}
theorem open_rdi1 {t e : TypeId} {fuel : Nat} {v : Value} {x : DataW H × List MemPlace} (ht : P.underlying t = some (.slice e)) (he : P.underlying e = some (.int .i64)) (hc : P.cellsOf e = 1)
    (h : DataW.trod enc P W 0 (fun _ => true) true fuel t [v] = some x) : ∃ A c l, v = .slice A l.length c ∧ Rd vi W A c l ∧ (∀ x ∈ l, (Lit.int .i64 x).wf = true) := by
  rcases open_ints ht he hc h with ⟨hcs, hx⟩ | ⟨a, len', cap', ss, hcs, _, hl, hm, hz, hx, hcell, hws⟩
  · simp only [List.cons.injEq, and_true] at hcs
    subst hcs
    exact ⟨none, 0, [], rfl, Rd.nil _ _ (by simp [maxLen]), by simp⟩
  · simp only [List.cons.injEq, and_true] at hcs
    subst hcs
    simp only [if_true] at hz
    have hlen : (ss.take len').length = len' := by rw [List.length_take]; omega
    refine ⟨some a, cap', ss.take len', by rw [hlen], ⟨by rw [hlen]; exact hl, hm, fun _ => ⟨a, rfl, fun j x hj => ?_⟩⟩, fun x hx => hws x (List.mem_of_mem_take hx)⟩
    rw [List.getElem?_take] at hj
    split at hj
    · have hjs : j < ss.length := by omega
      have h1 := hcell j hjs
      rw [List.getElem?_eq_getElem hjs] at hj
      have hg : ss.getD j 0 = ss[j] := by rw [List.getD_eq_getElem?_getD, List.getElem?_eq_getElem hjs]; rfl
      rw [h1, hg, Option.some.inj hj]
      rfl
    · cases hj
theorem rel_choose {α β : Type} {d : DE α β} {Q : β → Prop} : ∀ {hs : List α}, (∀ h ∈ hs, ∃ x, d.rel W h x ∧ Q x) → ∃ xs, RelD d W hs xs ∧ ∀ x ∈ xs, Q x
  | [], _ => ⟨[], RelD.nil, fun x hx => by cases hx⟩
  | h :: hs, hh => by
    obtain ⟨x, h1, h2⟩ := hh h (List.mem_cons_self ..)
    obtain ⟨xs, h3, h4⟩ := rel_choose fun h' hm => hh h' (List.mem_cons_of_mem _ hm)
    refine ⟨x :: xs, RelD.cons h1 h3, fun y hy => ?_⟩
    rcases List.mem_cons.1 hy with rfl | hy
    · exact h2
    · exact h4 y hy
theorem open_rdF {α β : Type} [Inhabited α] {k : Nat} {f : α → List Value} {de : DE α β} {Q : β → Prop} {b0 : Nat} {t e : TypeId} {v : Value} {d : DataW H} {p : List MemPlace} (hf : OneK k f) (ht : P.underlying t = some (.slice e)) (hc : P.cellsOf e = k)
    (hE : ∀ n cs y, DataW.trod enc P W 0 (fun _ => true) true n e cs = some y → cs.length = k → ∃ h x, cs = f h ∧ de.rel W h x ∧ Q x)
    (hval : Value.okWide P W .any b0 t v) (h : DataW.Trod enc P W 0 (fun _ => true) true t v d p) : ∃ A c hs xs, v = .slice A xs.length c ∧ RdK k f W A c hs ∧ RelD de W hs xs ∧ ∀ x ∈ xs, Q x := by
  obtain ⟨A, c, hs, hv, hR, hq⟩ := open_rdK (Q := fun h => ∃ x, de.rel W h x ∧ Q x) hf ht hc (fun n cs y h1 h2 => by
    obtain ⟨h, x, e1, e2, e3⟩ := hE n cs y h1 h2
    exact ⟨h, e1, x, e2, e3⟩) hval h
  obtain ⟨xs, h3, h4⟩ := rel_choose hq
  exact ⟨A, c, hs, xs, by rw [hv, h3.1], hR, h3, h4⟩
end
end Go.Proofs.YtofenpiiihhigaaDoor


 /- Printed by a program (wip/vg): elements of several cells. -/
namespace Go.Proofs.YtofenpiiihhigaaDoor
open Go Go.RowKit

end Go.Proofs.YtofenpiiihhigaaDoor

 /- Printed by a program (wip/vg): elements that hold slices. -/
namespace Go.Proofs.YtofenpiiihhigaaDoor
open Go Go.RowKit
abbrev de28 : DE (Int × Hdr × Hdr) (Int × List Int × List Int) := (DE.pr (DE.flat Int) (DE.pr (DE.sl vi) (DE.sl vi)))
def encH28 (h : Int × Hdr × Hdr) : List Value := [.int .i64 h.1, vh h.2.1, vh h.2.2]
theorem encH28_ok : OneK 3 encH28 := ⟨by omega, fun _ => rfl, fun _ => (all1c rfl (all1c rfl (all1c rfl all1n)))⟩
theorem ow22 : ckOwK Tryd.prog 22 28 3 56 = true := by kernel_rfl
end Go.Proofs.YtofenpiiihhigaaDoor

 /- Pools: maps from texts to pointers at boxes that lie apart; one of them may be open. -/
namespace Go.Proofs.YtofenpiiihhigaaDoor
open Go Go.RowKit
section
variable {κ ν μ : Type} [DecidableEq κ]
def mmap (g : ν → μ) (m : List (κ × ν)) : List (κ × μ) := m.map fun p => (p.1, g p.2)
theorem mput_mmap (g : ν → μ) (k : κ) (v : ν) : ∀ m : List (κ × ν), mput (mmap g m) k (g v) = mmap g (mput m k v)
  | [] => rfl
  | p :: m => by
    show (if p.1 = k then (k, g v) :: mmap g m else (p.1, g p.2) :: mput (mmap g m) k (g v)) = mmap g (if p.1 = k then (k, v) :: m else p :: mput m k v)
    split
    · rfl
    · rw [mput_mmap g k v m]; rfl
theorem mget_keys : ∀ {a : List (κ × ν)} {b : List (κ × μ)}, a.map (·.1) = b.map (·.1) → ∀ k, (mget a k).isSome = (mget b k).isSome
  | [], [], _, _ => rfl
  | [], _ :: _, h, _ => by simp at h
  | _ :: _, [], h, _ => by simp at h
  | p :: a, r :: b, h, k => by
    simp only [List.map_cons, List.cons.injEq] at h
    unfold mget
    rw [h.1]
    split
    · rfl
    · exact mget_keys h.2 k
end
abbrev PH := Nat × Option Nat
def vP (o : Option PH) : Value := .pointer (o.map fun h => ⟨h.1, 0, none⟩)
theorem getD_some {α : Type} {o : Option α} {z : α} (h : o.isSome = true) : o = some (o.getD z) := by
  cases o with
  | none => cases h
  | some x => rfl
section
variable {ps : List (Option Nat)} {Q : Option Nat → Prop} {n m : Nat} {F qs : List (Option Nat)} {q row : Option Nat} {w : World}
theorem InA.mem (h : ∀ p, List.Mem p F → List.Mem p ps) : AllP (InP ps n) F := fun p hp => InP.mem (h p hp)
theorem InA.ge (h : AllP (fun p => Ge p n) F) : AllP (InP ps n) F := fun p hp => InP.ge (h p hp)
theorem InA.trans (h : AllP (InP qs m) F) (k : AllP (InP ps n) qs) (hm : n ≤ m) : AllP (InP ps n) F := fun p hp => (h p hp).trans k hm
theorem InA.toGe (h : AllP (InP qs m) F) (k : AllP (fun q => Ge q n) qs) (hm : n ≤ m) : AllP (fun q => Ge q n) F := fun p hp => (h p hp).toGe k hm
theorem InA.dj (h : AllP (InP qs m) F) (hq : Lt q m) (k : AllP (Dj q) qs) : AllP (Dj q) F := fun p hp => ((h p hp).dj hq k).symm
theorem InA.dn {α : Type} {xs : List α} (h : AllP (InP qs m) F) (hq : xs ≠ [] → Lt q m) (k : AllP (Dn xs q) qs) : AllP (Dn xs q) F := fun p hp => (h p hp).dn hq k
end
/-- where a pool lies: its map, its boxes, what hangs on them; without the one that is open -/
def FP (m : Nat) (hs : List (List UInt8 × PH)) (q0 : Option (List UInt8)) : List (Option Nat) := some m :: (hs.filter fun h => decide (some h.1 ≠ q0)).flatMap fun h => [some h.2.1, h.2.2]
structure PE (X : Type) where
  rel : World → PH → X → Prop
  goL : ∀ {w w' : World} {h : PH} {x : X} {ps : List (Option Nat)}, rel w h x → GrL ps w w' → AllP (Dj (some h.1)) ps → AllP (Dj h.2) ps → rel w' h x
  lt : ∀ {w : World} {h : PH} {x : X}, rel w h x → Lt (some h.1) w.heap.size ∧ Lt h.2 w.heap.size
  isc : Nat → Bool
  sc : X → Nat → Value
  hsc : ∀ {w : World} {h : PH} {x : X} {o : Nat}, isc o = true → rel w h x → w.cell? ⟨h.1, o, none⟩ = some (sc x o)
  noat : ∀ {w : World} {h : PH} {x : X}, rel w h x → NoAt w (some h.1) ∧ NoAt w h.2
structure PoolO {X : Type} (d : PE X) (w : World) (m : Nat) (hs : List (List UInt8 × PH)) (fs : List (List UInt8 × X)) (q0 : Option (List UInt8)) : Prop where
  map : MapB vs okS vP w m (mmap some hs)
  keys : hs.map (·.1) = fs.map (·.1)
  rel : ∀ q h x, mget hs q = some h → mget fs q = some x → some q ≠ q0 → d.rel w h x
  dm : ∀ q h, mget hs q = some h → some q ≠ q0 → Dj (some m) (some h.1) ∧ Dj (some m) h.2
  dd : ∀ q q' h h', q ≠ q' → mget hs q = some h → mget hs q' = some h' → some q ≠ q0 → some q' ≠ q0 → Dj (some h.1) (some h'.1) ∧ Dj (some h.1) h'.2 ∧ Dj h.2 (some h'.1) ∧ Dj h.2 h'.2
section
variable {X : Type} {d : PE X} {w w' : World} {m : Nat} {hs : List (List UInt8 × PH)} {fs : List (List UInt8 × X)} {q0 : Option (List UInt8)} {Q : Option Nat → Prop} {ps : List (Option Nat)} {row p : Option Nat} {q : List UInt8} {x x' : X} {b : Nat} {r r' : Option Nat}
theorem PoolO.uq (h : PoolO d w m hs fs q0) : Uq hs := by
  have := h.map.uq
  unfold Uq mmap at *
  rw [List.map_map] at this
  exact this
theorem PoolO.some_iff (h : PoolO d w m hs fs q0) (q : List UInt8) : (mget hs q).isSome = (mget fs q).isSome := mget_keys h.keys q
theorem allFP (hu : Uq hs) : AllP Q (FP m hs q0) ↔ Q (some m) ∧ ∀ q h, mget hs q = some h → some q ≠ q0 → Q (some h.1) ∧ Q h.2 := by
  constructor
  · intro h
    refine ⟨h _ (List.Mem.head _), fun q k hk hq => ?_⟩
    have hm := (mget_mem hu).1 hk
    have hf : (q, k) ∈ hs.filter fun h => decide (some h.1 ≠ q0) := List.mem_filter.2 ⟨hm, by simpa using hq⟩
    exact ⟨h _ (List.Mem.tail _ (List.mem_flatMap.2 ⟨_, hf, by simp⟩)), h _ (List.Mem.tail _ (List.mem_flatMap.2 ⟨_, hf, by simp⟩))⟩
  · rintro ⟨h1, h2⟩ p hp
    cases hp with
    | head => exact h1
    | tail _ hp =>
      obtain ⟨k, hk, hp⟩ := List.mem_flatMap.1 hp
      obtain ⟨hm, hq⟩ := List.mem_filter.1 hk
      have h3 := h2 k.1 k.2 ((mget_mem hu).2 hm) (by simpa using hq)
      simp only [List.mem_cons, List.not_mem_nil, or_false] at hp
      rcases hp with rfl | rfl
      · exact h3.1
      · exact h3.2
theorem PoolO.goL (h : PoolO d w m hs fs q0) (hg : GrL ps w w') (hd : AllP (fun r => AllP (Dj r) (FP m hs q0)) ps) : PoolO d w' m hs fs q0 :=
  ⟨h.map.goL hg fun p hp => (((allFP h.uq).1 (hd p hp)).1).symm, h.keys, fun q k x hk hx hq => d.goL (h.rel q k x hk hx hq) hg (fun p hp => ((((allFP h.uq).1 (hd p hp)).2 q k hk hq).1).symm) (fun p hp => ((((allFP h.uq).1 (hd p hp)).2 q k hk hq).2).symm), h.dm, h.dd⟩
theorem PoolO.go (h : PoolO d w m hs fs q0) (hg : w.grownBy w' row) (hd : AllP (Dj row) (FP m hs q0)) : PoolO d w' m hs fs q0 := h.goL (GrL.of1 hg) (apC hd apN)
theorem PoolO.g0 (h : PoolO d w m hs fs q0) (hg : w.grownBy w' none) : PoolO d w' m hs fs q0 := h.goL (ps := []) (GrL.of0 hg) apN
theorem PoolO.eqv (hw : Eqv w w') (h : PoolO d w m hs fs q0) : PoolO d w' m hs fs q0 := h.g0 (gr_eqv (gr_refl w none) hw)
theorem PoolO.lts (h : PoolO d w m hs fs q0) (hf : (∀ q, (mget hs q).isSome = (mget fs q).isSome)) : AllP (fun p => Lt p w.heap.size) (FP m hs q0) := (allFP h.uq).2 ⟨h.map.lt', fun q k hk hq => by
  have h1 := hf q
  rw [hk, Option.isSome_some] at h1
  obtain ⟨x, hx⟩ := Option.isSome_iff_exists.1 h1.symm
  exact d.lt (h.rel q k x hk hx hq)⟩
theorem PoolO.lt' (h : PoolO d w m hs fs q0) : AllP (fun p => Lt p w.heap.size) (FP m hs q0) := h.lts h.some_iff
/-- what is new lies apart from it -/
theorem PoolO.new (h : PoolO d w m hs fs q0) (hp : Ge p w.heap.size) : AllP (Dj p) (FP m hs q0) := fun r hr => (Dj.new (h.lt' r hr) hp).symm
theorem PoolO.inp (h : PoolO d w m hs fs q0) (hp : InP ps w.heap.size p) (hd : AllP (fun r => AllP (Dj r) (FP m hs q0)) ps) : AllP (Dj p) (FP m hs q0) := fun r hr => InP.dj hp (h.lt' r hr) (fun s hs' => (hd s hs' r hr).symm)
theorem PoolO.app {p' : Option Nat} (h : PoolO d w m hs fs q0) (k : AllP (Dj p) (FP m hs q0)) (hk : ∀ g, p' = some g → p = some g ∨ w.heap.size ≤ g) : AllP (Dj p') (FP m hs q0) := fun r hr => Dj.app (k r hr) (h.lt' r hr) hk
/-- one is opened -/
theorem PoolO.open (h : PoolO d w m hs fs none) (hx : mget fs q = some x) : ∃ b r, mget hs q = some (b, r) ∧ d.rel w (b, r) x ∧ PoolO d w m hs fs (some q) ∧ AllP (Dj (some b)) (FP m hs (some q)) ∧ AllP (Dj r) (FP m hs (some q)) := by
  have h1 := h.some_iff q
  rw [hx, Option.isSome_some] at h1
  obtain ⟨⟨b, r⟩, hk⟩ := Option.isSome_iff_exists.1 h1
  have hm := h.dm q _ hk (by simp)
  refine ⟨b, r, hk, h.rel q _ x hk hx (by simp), ⟨h.map, h.keys, fun q' k y hk' hy _ => h.rel q' k y hk' hy (by simp), fun q' k hk' _ => h.dm q' k hk' (by simp), fun q' q2 k k2 hne hk' hk2 _ _ => h.dd q' q2 k k2 hne hk' hk2 (by simp) (by simp)⟩, ?_, ?_⟩
  · refine (allFP h.uq).2 ⟨hm.1.symm, fun q' k hk' hq' => ?_⟩
    have := h.dd q q' _ k (fun e => hq' (by rw [e])) hk hk' (by simp) (by simp)
    exact ⟨this.1, this.2.1⟩
  · refine (allFP h.uq).2 ⟨hm.2.symm, fun q' k hk' hq' => ?_⟩
    have := h.dd q q' _ k (fun e => hq' (by rw [e])) hk hk' (by simp) (by simp)
    exact ⟨this.2.2.1, this.2.2.2⟩
theorem PoolO.sub (h : PoolO d w m hs fs q0) (k : AllP Q (FP m hs none)) : AllP Q (FP m hs (some q)) := (allFP h.uq).2 ⟨((allFP h.uq).1 k).1, fun q' k' hk' _ => ((allFP h.uq).1 k).2 q' k' hk' (by simp)⟩
theorem PoolO.at1 (h : PoolO d w m hs fs q0) (hk : mget hs q = some (b, r)) (k : AllP Q (FP m hs none)) : Q (some b) := (((allFP h.uq).1 k).2 q _ hk (by simp)).1
theorem PoolO.at2 (h : PoolO d w m hs fs q0) (hk : mget hs q = some (b, r)) (k : AllP Q (FP m hs none)) : Q r := (((allFP h.uq).1 k).2 q _ hk (by simp)).2
theorem PoolO.back (h : PoolO d w m hs fs (some q)) (hk : mget hs q = some (b, r)) (hx : mget fs q = some x) (hr : d.rel w (b, r) x) (h1 : AllP (Dj (some b)) (FP m hs (some q))) (h2 : AllP (Dj r) (FP m hs (some q))) : PoolO d w m hs fs none := by
  have hu := h.uq
  have h1' := (allFP hu).1 h1
  have h2' := (allFP hu).1 h2
  refine ⟨h.map, h.keys, fun q' k y hk' hy _ => ?_, fun q' k hk' _ => ?_, fun q1 q2 k1 k2 hne hk1 hk2 _ _ => ?_⟩
  · by_cases e : q' = q
    · subst e; rw [hk] at hk'; rw [hx] at hy; cases hk'; cases hy; exact hr
    · exact h.rel q' k y hk' hy (fun e2 => e (Option.some.inj e2))
  · by_cases e : q' = q
    · subst e; rw [hk] at hk'; cases hk'; exact ⟨h1'.1.symm, h2'.1.symm⟩
    · exact h.dm q' k hk' (fun e2 => e (Option.some.inj e2))
  · by_cases e1 : q1 = q
    · subst e1
      rw [hk] at hk1; cases hk1
      have e2 : some q2 ≠ some q1 := fun e => hne (Option.some.inj e).symm
      have a := h1'.2 q2 k2 hk2 e2
      have c := h2'.2 q2 k2 hk2 e2
      exact ⟨a.1, a.2, c.1, c.2⟩
    · by_cases e2 : q2 = q
      · subst e2
        rw [hk] at hk2; cases hk2
        have e3 : some q1 ≠ some q2 := fun e => hne (Option.some.inj e)
        have a := h1'.2 q1 k1 hk1 e3
        have c := h2'.2 q1 k1 hk1 e3
        exact ⟨a.1.symm, c.1.symm, a.2.symm, c.2.symm⟩
      · exact h.dd q1 q2 k1 k2 hne hk1 hk2 (fun e => e1 (Option.some.inj e)) (fun e => e2 (Option.some.inj e))
theorem PoolO.put (h : PoolO d w m hs fs none) (hM : MapB vs okS vP w' m (mput (mmap some hs) q (some (b, r)))) (hg : w.grownBy w' (some m)) (hr : d.rel w (b, r) x) (h1 : AllP (Dj (some b)) (FP m hs none)) (h2 : AllP (Dj r) (FP m hs none)) : PoolO d w' m (mput hs q (b, r)) (mput fs q x) none := by
  have hu := h.uq
  have h1' := (allFP hu).1 h1
  have h2' := (allFP hu).1 h2
  have old : ∀ {q' k}, mget (mput hs q (b, r)) q' = some k → (q' = q ∧ k = (b, r)) ∨ (q' ≠ q ∧ mget hs q' = some k) := fun {q' k} e => by
    rw [mget_mput] at e
    split at e
    · rename_i e2; simp only [Option.some.injEq] at e; exact .inl ⟨e2.symm, e.symm⟩
    · rename_i e2; exact .inr ⟨fun e3 => e2 e3.symm, e⟩
  have hkeys : (mput hs q (b, r)).map (·.1) = (mput fs q x).map (·.1) := by
    rw [mput_keys, mput_keys, h.some_iff q, h.keys]
  rw [mput_mmap] at hM
  refine ⟨hM, hkeys, ?_, ?_, ?_⟩
  · intro q' k x0 hk' hx _
    rw [mget_mput] at hx
    rcases old hk' with ⟨rfl, rfl⟩ | ⟨hq', hk'⟩
    · rw [if_pos rfl] at hx
      cases hx
      exact d.goL hr (GrL.of1 hg) (apC h1'.1 apN) (apC h2'.1 apN)
    · rw [if_neg (fun e => hq' e.symm)] at hx
      have hm := h.dm q' k hk' (by simp)
      exact d.goL (h.rel q' k x0 hk' hx (by simp)) (GrL.of1 hg) (apC hm.1.symm apN) (apC hm.2.symm apN)
  · intro q' k hk' _
    rcases old hk' with ⟨rfl, rfl⟩ | ⟨hq', hk'⟩
    · exact ⟨h1'.1.symm, h2'.1.symm⟩
    · exact h.dm q' k hk' (by simp)
  · intro q1 q2 k1 k2 hne hk1 hk2 _ _
    rcases old hk1 with ⟨rfl, rfl⟩ | ⟨hq1, hj1⟩ <;> rcases old hk2 with ⟨rfl, rfl⟩ | ⟨hq2, hj2⟩
    · exact absurd rfl hne
    · have a := h1'.2 q2 k2 hj2 (by simp)
      have c := h2'.2 q2 k2 hj2 (by simp)
      exact ⟨a.1, a.2, c.1, c.2⟩
    · have a := h1'.2 q1 k1 hj1 (by simp)
      have c := h2'.2 q1 k1 hj1 (by simp)
      exact ⟨a.1.symm, c.1.symm, a.2.symm, c.2.symm⟩
    · exact h.dd q1 q2 k1 k2 hne hj1 hj2 (by simp) (by simp)
theorem PoolO.empty (d : PE X) (h : MapB vs okS vP w m ([] : List (List UInt8 × Option PH))) : PoolO d w m [] [] none := ⟨h, rfl, fun q k x hk => by simp [mget] at hk, fun q k hk => by simp [mget] at hk, fun q q' k k' _ hk => by simp [mget] at hk⟩
theorem FP.nil (h : Q (some m)) : AllP Q (FP m [] q0) := by
  unfold FP
  exact apC h apN
/-! the rules -/
variable {P : Program} {N : Nat} {L : Slots} {ty t t' k e : TypeId} {pos : String} {af : Array Edge} {dd : Option Tmp} {y z u : Operand}
end
end Go.Proofs.YtofenpiiihhigaaDoor

 /- Slices of slices, of the call's own: the outer one holds the inner ones' heads, each in a block of its own. -/
namespace Go.Proofs.YtofenpiiihhigaaDoor
open Go Go.RowKit
/-- an inner slice's place and room -/
abbrev Hd := Option Addr × Nat
def hz : Hd := (none, 0)
def hA (hs : List Hd) (j : Nat) : Option Addr := (hs.getD j hz).1
def hC (hs : List Hd) (j : Nat) : Nat := (hs.getD j hz).2
def hv {α : Type} (y : List α × Hd) : Value := .slice y.2.1 y.1.length y.2.2
/-- where it lies; without the one that is open -/
def FPd (A : Option Addr) (hs : List Hd) (q0 : Option Nat) : List (Option Nat) := blk A :: ((List.range hs.length).filter fun j => decide (some j ≠ q0)).map fun j => blk (hA hs j)
structure DeepO {α : Type} (f : α → Value) (w : World) (B : Nat) (e e' : TypeId) (A : Option Addr) (c : Nat) (hs : List Hd) (xs : List (List α)) (q0 : Option Nat) : Prop where
  out : Own hv w B e A c (xs.zip hs)
  len : hs.length = xs.length
  inn : ∀ j, j < xs.length → some j ≠ q0 → Own f w B e' (hA hs j) (hC hs j) (xs.getD j [])
  dm : ∀ j, j < xs.length → some j ≠ q0 → Dj (blk A) (blk (hA hs j))
  dd : ∀ i j, i ≠ j → i < xs.length → j < xs.length → some i ≠ q0 → some j ≠ q0 → Dj (blk (hA hs i)) (blk (hA hs j))
section
variable {α : Type} {f : α → Value} {w w' : World} {B n : Nat} {e e' : TypeId} {A A' : Option Addr} {c c' : Nat} {hs : List Hd} {xs : List (List α)} {ys : List α} {q0 : Option Nat} {Q : Option Nat → Prop} {ps : List (Option Nat)} {row p : Option Nat} {j : Nat}
theorem allFPd : AllP Q (FPd A hs q0) ↔ Q (blk A) ∧ ∀ j, j < hs.length → some j ≠ q0 → Q (blk (hA hs j)) := by
  constructor
  · intro h
    exact ⟨h _ (List.Mem.head _), fun j hj hq => h _ (List.Mem.tail _ (List.mem_map.2 ⟨j, List.mem_filter.2 ⟨List.mem_range.2 hj, by simpa using hq⟩, rfl⟩))⟩
  · rintro ⟨h1, h2⟩ p hp
    cases hp with
    | head => exact h1
    | tail _ hp =>
      obtain ⟨j, hj, rfl⟩ := List.mem_map.1 hp
      obtain ⟨hm, hq⟩ := List.mem_filter.1 hj
      exact h2 j (List.mem_range.1 hm) (by simpa using hq)
theorem DeepO.goL (h : DeepO f w B e e' A c hs xs q0) (hg : GrL ps w w') (hd : AllP (fun r => AllP (Dj r) (FPd A hs q0)) ps) : DeepO f w' B e e' A c hs xs q0 :=
  ⟨h.out.goL hg fun p hp => ((allFPd.1 (hd p hp)).1).symm, h.len, fun j hj hq => (h.inn j hj hq).goL hg fun p hp => ((allFPd.1 (hd p hp)).2 j (by rw [h.len]; exact hj) hq).symm, h.dm, h.dd⟩
theorem DeepO.go (h : DeepO f w B e e' A c hs xs q0) (hg : w.grownBy w' row) (hd : AllP (Dj row) (FPd A hs q0)) : DeepO f w' B e e' A c hs xs q0 := h.goL (GrL.of1 hg) (apC hd apN)
theorem DeepO.g0 (h : DeepO f w B e e' A c hs xs q0) (hg : w.grownBy w' none) : DeepO f w' B e e' A c hs xs q0 := h.goL (ps := []) (GrL.of0 hg) apN
theorem DeepO.eqv (hw : Eqv w w') (h : DeepO f w B e e' A c hs xs q0) : DeepO f w' B e e' A c hs xs q0 := h.g0 (gr_eqv (gr_refl w none) hw)
theorem DeepO.lt' (h : DeepO f w B e e' A c hs xs q0) : AllP (fun p => Lt p w.heap.size) (FPd A hs q0) := allFPd.2 ⟨h.out.lt', fun j hj hq => (h.inn j (by rw [← h.len]; exact hj) hq).lt'⟩
theorem DeepO.ge' (h : DeepO f w B e e' A c hs xs q0) : AllP (fun p => Ge p B) (FPd A hs q0) := allFPd.2 ⟨h.out.ge', fun j hj hq => (h.inn j (by rw [← h.len]; exact hj) hq).ge'⟩
theorem DeepO.new (h : DeepO f w B e e' A c hs xs q0) (hp : Ge p w.heap.size) : AllP (Dj p) (FPd A hs q0) := fun r hr => (Dj.new (h.lt' r hr) hp).symm
theorem DeepO.inp (h : DeepO f w B e e' A c hs xs q0) (hp : InP ps w.heap.size p) (hd : AllP (fun r => AllP (Dj r) (FPd A hs q0)) ps) : AllP (Dj p) (FPd A hs q0) := fun r hr => InP.dj hp (h.lt' r hr) (fun s hs' => (hd s hs' r hr).symm)
theorem DeepO.app {p' : Option Nat} (h : DeepO f w B e e' A c hs xs q0) (k : AllP (Dj p) (FPd A hs q0)) (hk : ∀ g, p' = some g → p = some g ∨ w.heap.size ≤ g) : AllP (Dj p') (FPd A hs q0) := fun r hr => Dj.app (k r hr) (h.lt' r hr) hk
/-- an inner one is read -/
theorem DeepO.rd (h : DeepO f w B e e' A c hs xs none) (hj : j < xs.length) : Rd f w (hA hs j) (hC hs j) (xs.getD j []) := (h.inn j hj (by simp)).rd
/-- an inner one is opened -/
theorem DeepO.open (h : DeepO f w B e e' A c hs xs none) (hj : j < xs.length) : Own f w B e' (hA hs j) (hC hs j) (xs.getD j []) ∧ DeepO f w B e e' A c hs xs (some j) ∧ AllP (Dj (blk (hA hs j))) (FPd A hs (some j)) := by
  refine ⟨h.inn j hj (by simp), ⟨h.out, h.len, fun i hi _ => h.inn i hi (by simp), fun i hi _ => h.dm i hi (by simp), fun i k hik hi hk _ _ => h.dd i k hik hi hk (by simp) (by simp)⟩, allFPd.2 ⟨(h.dm j hj (by simp)).symm, fun i hi hq => ?_⟩⟩
  exact h.dd j i (fun e => hq (by rw [e])) hj (by rw [← h.len]; exact hi) (by simp) (by simp)
theorem FPd.sub (k : AllP Q (FPd A hs none)) : AllP Q (FPd A hs (some j)) := allFPd.2 ⟨(allFPd.1 k).1, fun i hi _ => (allFPd.1 k).2 i hi (by simp)⟩
theorem FPd.at (hl : j < hs.length) (k : AllP Q (FPd A hs none)) : Q (blk (hA hs j)) := (allFPd.1 k).2 j hl (by simp)
theorem DeepO.at (h : DeepO f w B e e' A c hs xs q0) (hj : j < xs.length) (k : AllP Q (FPd A hs none)) : Q (blk (hA hs j)) := FPd.at (by rw [h.len]; exact hj) k
theorem FPd.made {l : List (List α × Hd)} (k : Q (blk A)) (kl : AllP Q (l.map fun y => blk y.2.1)) : AllP Q (FPd A (l.map (·.2)) none) := by
  refine allFPd.2 ⟨k, fun j hj _ => ?_⟩
  rw [List.length_map] at hj
  refine kl _ ?_
  have : blk (hA (l.map (·.2)) j) = blk l[j].2.1 := by simp [hA, List.getD, hj]
  rw [this]
  exact List.mem_map.2 ⟨_, List.getElem_mem hj, rfl⟩
theorem DeepO.sub (h : DeepO f w B e e' A c hs xs none) (j : Nat) : DeepO f w B e e' A c hs xs (some j) := ⟨h.out, h.len, fun i hi _ => h.inn i hi (by simp), fun i hi _ => h.dm i hi (by simp), fun i k hik hi hk _ _ => h.dd i k hik hi hk (by simp) (by simp)⟩
/-- closed as_ it was -/
theorem DeepO.back (h : DeepO f w B e e' A c hs xs (some j)) (hE : Own f w B e' (hA hs j) (hC hs j) (xs.getD j [])) (hd : AllP (Dj (blk (hA hs j))) (FPd A hs (some j))) : DeepO f w B e e' A c hs xs none := by
  have hd' := allFPd.1 hd
  refine ⟨h.out, h.len, fun i hi _ => ?_, fun i hi _ => ?_, fun i k hik hi hk _ _ => ?_⟩
  · by_cases e : i = j
    · subst e; exact hE
    · exact h.inn i hi (fun e2 => e (Option.some.inj e2))
  · by_cases e : i = j
    · subst e; exact hd'.1.symm
    · exact h.dm i hi (fun e2 => e (Option.some.inj e2))
  · by_cases e : i = j
    · subst e
      exact hd'.2 k (by rw [h.len]; exact hk) (fun e2 => hik (Option.some.inj e2).symm)
    · by_cases e2 : k = j
      · subst e2
        exact (hd'.2 i (by rw [h.len]; exact hi) (fun e3 => hik (Option.some.inj e3))).symm
      · exact h.dd i k hik hi hk (fun e3 => e (Option.some.inj e3)) (fun e3 => e2 (Option.some.inj e3))
/-- built of some that are there -/
theorem DeepO.made {l : List (List α × Hd)} (hO : Own hv w B e A c l) (h1 : ∀ y ∈ l, Own f w B e' y.2.1 y.2.2 y.1 ∧ Dj (blk A) (blk y.2.1)) (h2 : l.Pairwise fun y z => Dj (blk y.2.1) (blk z.2.1)) : DeepO f w B e e' A c (l.map (·.2)) (l.map (·.1)) none := by
  have hz2 : (l.map (·.1)).zip (l.map (·.2)) = l := by
    clear hO h1 h2
    induction l with
    | nil => rfl
    | cons y l ih => rw [List.map_cons, List.map_cons, List.zip_cons_cons, ih]
  have hat : ∀ {j}, j < (l.map (·.1)).length → ∃ hj : j < l.length, hA (l.map (·.2)) j = l[j].2.1 ∧ hC (l.map (·.2)) j = l[j].2.2 ∧ (l.map (·.1)).getD j [] = l[j].1 := fun {j} hj => by
    rw [List.length_map] at hj
    exact ⟨hj, by simp [hA, List.getD, hj], by simp [hC, List.getD, hj], by simp [List.getD, hj]⟩
  refine ⟨by rw [hz2]; exact hO, by rw [List.length_map, List.length_map], fun j hj _ => ?_, fun j hj _ => ?_, fun i j hij hi hj _ _ => ?_⟩
  · obtain ⟨h, e1, e2, e3⟩ := hat hj
    rw [e1, e2, e3]; exact (h1 _ (List.getElem_mem h)).1
  · obtain ⟨h, e1, _, _⟩ := hat hj
    rw [e1]; exact (h1 _ (List.getElem_mem h)).2
  · obtain ⟨h, e1, _, _⟩ := hat hi
    obtain ⟨h', e1', _, _⟩ := hat hj
    rw [e1, e1']
    rcases Nat.lt_or_gt_of_ne hij with hlt | hlt
    · exact (List.pairwise_iff_getElem.1 h2) i j h h' hlt
    · exact ((List.pairwise_iff_getElem.1 h2) j i h' h hlt).symm
/-- made: so many that are nil -/
theorem DeepO.rep (hO : Own hv w B e A c (List.replicate n (([], hz) : List α × Hd))) : DeepO f w B e e' A c (List.replicate n hz) (List.replicate n []) none := by
  have h := DeepO.made (f := f) (e' := e') hO (fun y hy => by rw [List.eq_of_mem_replicate hy]; exact ⟨Own.nil f w B e', Dj.nr⟩) (by
    rw [List.pairwise_iff_getElem]
    intro i j hi hj _
    rw [List.getElem_replicate]
    exact Dj.nl)
  rw [List.map_replicate, List.map_replicate] at h
  exact h
theorem FPd.rep (k : Q (blk A)) (k0 : Q none) : AllP Q (FPd A (List.replicate n hz) none) := by
  refine allFPd.2 ⟨k, fun j hj _ => ?_⟩
  rw [List.length_replicate] at hj
  have : hA (List.replicate n hz) j = none := by unfold hA; simp [List.getD, hj, hz]
  rw [this]; exact k0
/-! the rules -/
variable {P : Program} {N : Nat} {L : Slots} {ty t : TypeId} {pos : String} {af : Array Edge} {dd : Option Tmp} {x y : Operand} {T : Tab}
end
section
variable {P : Program} {N : Nat} {ops : Array Oper} {fl : Nat → Bool} {D : Nat → World → Prop} {Q : Post} {L : Slots} {w : World} {k d : Nat} {ty : TypeId} {pos : String} {af : Array Edge} {rest : List Oper}
end
end Go.Proofs.YtofenpiiihhigaaDoor

 namespace Go.Proofs.YtofenpiiihhigaaDoor
open Go Go.RowKit
attribute [local irreducible] WL WC WX WQ Yld Eff Fn
/-! numbers: digits to the base of 10^9, the lowest first -/
def val : List Nat → Nat
  | [] => 0
  | x :: xs => x + 1000000000 * val xs
theorem val_app : ∀ a b : List Nat, val (a ++ b) = val a + 1000000000 ^ a.length * val b
  | [], b => by simp [val]
  | x :: a, b => by
    have := val_app a b
    simp only [List.cons_append, val, this, List.length_cons]
    grind
theorem val_one (d : Nat) : val [d] = d := rfl
theorem val_push (a : List Nat) (d : Nat) : val (a ++ [d]) = val a + 1000000000 ^ a.length * d := by rw [val_app, val_one]
theorem take_push (l : List Nat) (k : Nat) (h : k < l.length) : l.take (k + 1) = l.take k ++ [l.getD k 0] := by
  rw [List.take_succ_eq_append_getElem h]; simp [List.getD, h]
theorem val_take (l : List Nat) (k : Nat) : val (l.take (k + 1)) = val (l.take k) + 1000000000 ^ k * l.getD k 0 := by
  rcases Nat.lt_or_ge k l.length with h | h
  · rw [take_push l k h, val_push, List.length_take, Nat.min_eq_left (by omega)]
  · have e : l.getD k 0 = 0 := by simp [List.getD, List.getElem?_eq_none h]
    rw [List.take_of_length_le (by omega), List.take_of_length_le h, e]
    omega
/-- each digit is one -/
def Dg (l : List Nat) : Prop := ∀ i : Nat, l.getD i 0 < 1000000000
theorem Dg.nil : Dg [] := fun i => by simp
theorem Dg.push {l : List Nat} (h : Dg l) {d : Nat} (hd : d < 1000000000) : Dg (l ++ [d]) := fun i => by
  rcases Nat.lt_trichotomy i l.length with h1 | h1 | h1
  · have := h i
    simpa [List.getD, List.getElem?_append, h1] using this
  · subst h1; simpa [List.getD] using hd
  · have e : (l ++ [d]).getD i 0 = 0 := by simp only [List.getD]; rw [List.getElem?_eq_none (by simp; omega)]; rfl
    omega
theorem Dg.take {l : List Nat} (h : Dg l) (k : Nat) : Dg (l.take k) := fun i => by
  rcases Nat.lt_or_ge i k with h1 | h1
  · have := h i
    simpa [List.getD, List.getElem?_take, h1] using this
  · have e : (l.take k).getD i 0 = 0 := by simp only [List.getD]; rw [List.getElem?_eq_none (by simp; omega)]; rfl
    omega
theorem val_lt {l : List Nat} (h : Dg l) : ∀ k, val (l.take k) < 1000000000 ^ k
  | 0 => by simp [val]
  | k + 1 => by
    have h1 := val_lt h k
    have h2 := h k
    rw [val_take, Nat.pow_succ]
    generalize 1000000000 ^ k = p at *
    generalize l.getD k 0 = d at *
    have : p * d ≤ p * 999999999 := Nat.mul_le_mul_left _ (by omega)
    omega
theorem val_lt' {l : List Nat} (h : Dg l) : val l < 1000000000 ^ l.length := by
  have := val_lt h l.length
  rwa [List.take_of_length_le (Nat.le_refl _)] at this
/-- no needless digit at the end -/
def Can (l : List Nat) : Prop := l ≠ [] → l.getD (l.length - 1) 0 ≠ 0
theorem val_ge {l : List Nat} (h : Can l) (hl : l ≠ []) : 1000000000 ^ (l.length - 1) ≤ val l := by
  have h1 := h hl
  have hp : 0 < l.length := List.length_pos_iff.mpr hl
  have e := val_take l (l.length - 1)
  rw [show l.length - 1 + 1 = l.length by omega, List.take_of_length_le (Nat.le_refl _)] at e
  rw [e]
  generalize 1000000000 ^ (l.length - 1) = p at *
  generalize l.getD (l.length - 1) 0 = d at *
  have : p * 1 ≤ p * d := Nat.mul_le_mul_left _ (by omega)
  omega
theorem val_zero {l : List Nat} (h : Can l) : val l = 0 ↔ l = [] := by
  constructor
  · intro e
    rcases Classical.em (l = []) with h1 | h1
    · exact h1
    · have := val_ge h h1
      have : 0 < 1000000000 ^ (l.length - 1) := Nat.pow_pos (by omega)
      omega
  · intro e; subst e; rfl
/-- a number, as_ the program has it: canonical, of at most m digits of the base -/
structure Nm (w : World) (v : Value) (z : Int) (m : Nat) : Prop where
  at_ : ∃ (neg : Bool) (A : Option Addr) (c : Nat) (l : List Nat), v = .agg ⟨[.bool neg, .slice A l.length c]⟩ ∧ Rd vd w A c l ∧ Dg l ∧ Can l ∧ l.length ≤ m ∧ (neg = true → l ≠ []) ∧ z = bif neg then -(val l : Int) else (val l : Int)
theorem Nm.grown {w w' : World} {v : Value} {z : Int} {m : Nat} (h : Nm w v z m) (hg : w.grownBy w' none) : Nm w' v z m := by
  obtain ⟨neg, A, c, l, h1, h2, h3⟩ := h
  exact ⟨neg, A, c, l, h1, h2.grown hg, h3⟩
theorem Nm.mono {w : World} {v : Value} {z : Int} {m m' : Nat} (h : Nm w v z m) (hm : m ≤ m') : Nm w v z m' := by
  obtain ⟨neg, A, c, l, h1, h2, h3, h4, h5, h6⟩ := h
  exact ⟨neg, A, c, l, h1, h2, h3, h4, by omega, h6⟩
theorem made_end {w w' : World} {g : Nat} {neg : Bool} {A : Option Addr} {c : Nat} {l j : List Nat} (hR : Rd vd w A c j) (hg : w.grownBy w' (some g)) (hA : blk A ≠ some g ∨ j = []) (hD : Dg j) (hC : Can j) (hj : j.length ≤ l.length) (hv : val j = val l) :
    Nm w' (.agg ⟨[.bool (bif neg then decide ((0 : Int) < (j.length : Int)) else false), .slice A j.length c]⟩) (bif neg then -(val l : Int) else (val l : Int)) l.length := by
  refine ⟨_, A, c, j, rfl, hR.keep' hg (fun hne q hq e => ?_), hD, hC, hj, fun h => ?_, ?_⟩
  · injection hq with hq
    subst hq
    rcases hA with hA | hA
    · exact hA e
    · exact hne hA
  · cases neg
    · cases h
    · intro e; subst e; simp at h
  · rw [← hv]
    cases neg
    · rfl
    · rcases Classical.em (j = []) with e | e
      · subst e; rfl
      · have : 0 < j.length := List.length_pos_iff.mpr e
        simp [this]
/-- v's digits lie in a block of which p holds -/
def Lies (v : Value) (p : Nat → Prop) : Prop := ∀ neg A n c, v = .agg ⟨[.bool neg, .slice A n c]⟩ → ∀ g, blk A = some g → p g
theorem Lies.mk {neg : Bool} {A : Option Addr} {n c : Nat} {p : Nat → Prop} (h : ∀ g, blk A = some g → p g) : Lies (.agg ⟨[.bool neg, .slice A n c]⟩) p := fun neg' A' n' c' e => by
  simp only [Value.agg.injEq, Array.mk.injEq, List.cons.injEq, Value.slice.injEq] at e
  obtain ⟨_, ⟨rfl, _⟩, _⟩ := e
  exact h
theorem made_fn' (neg : Bool) (A : Option Addr) (c : Nat) (l : List Nat) (w : World) (hR : Rd vd w A c l) (hD : Dg l) (hl : l.length ≤ 1000000) :
    Fn Tryd.prog 37 ⟨[.bool neg, .slice A l.length c]⟩ w fun v w' => Nm w' v (bif neg then -(val l : Int) else (val l : Int)) l.length ∧ w.grownBy w' none ∧ Lies v (fun q => blk A = some q) := by
  refine Fn.enter (by kernel_rfl) Tryd.func37 rfl Tryd.ntmps37 rfl ?_
  repeat (first | refine WC.seq ?_ | refine WC.block ?_ | refine WC.region ?_ | refine WL.nil ?_ | refine WX.then_normal ?_ | refine WC.skip ?_ | refine WC.exit ?_ | refine WC.ret ?_ | refine WX.then_exit ?_ | refine WX.then_ret ?_ | refine WX.block_normal ?_ | refine WX.block_ret ?_ | refine WX.block_same ?_ | refine WX.block_other rfl ?_ | refine WC.label ?_ | refine WC.scope ?_ | refine WX.scope_normal ?_ | refine WX.scope_ret ?_ | refine WX.scope_exit ?_ | refine WL.y rfl (Yld.sub rfl rfl (by simp only [In]; omega)) ?_ | refine WL.y rfl (Yld.pure tab_ok rfl) ?_ | refine WL.y rfl (Yld.pickV rfl rfl rfl) ?_ | refine WL.gno rfl rfl rfl rfl ?_ | refine WL.gyes rfl rfl rfl rfl (Yld.sub rfl rfl (by simp only [In]; omega)) ?_ | refine WL.gyes rfl rfl rfl rfl (Yld.pure tab_ok rfl) ?_)
  refine WL.alloc rfl zero46 (fun g w1 hB1 hg1 hl1 => ?_)
  repeat (first | refine WC.seq ?_ | refine WC.block ?_ | refine WC.region ?_ | refine WL.nil ?_ | refine WX.then_normal ?_ | refine WC.skip ?_ | refine WC.exit ?_ | refine WC.ret ?_ | refine WX.then_exit ?_ | refine WX.then_ret ?_ | refine WX.block_normal ?_ | refine WX.block_ret ?_ | refine WX.block_same ?_ | refine WX.block_other rfl ?_ | refine WC.label ?_ | refine WC.scope ?_ | refine WX.scope_normal ?_ | refine WX.scope_ret ?_ | refine WX.scope_exit ?_ | refine WL.y rfl (Yld.sub rfl rfl (by simp only [In]; omega)) ?_ | refine WL.y rfl (Yld.pure tab_ok rfl) ?_ | refine WL.y rfl (Yld.pickV rfl rfl rfl) ?_ | refine WL.gno rfl rfl rfl rfl ?_ | refine WL.gyes rfl rfl rfl rfl (Yld.sub rfl rfl (by simp only [In]; omega)) ?_ | refine WL.gyes rfl rfl rfl rfl (Yld.pure tab_ok rfl) ?_)
  refine WC.loop3 (fun j _ _ => j.length) (fun j A' c' => [(1, .slice A' j.length c'), (0, .bool neg), (4, .pointer (some ⟨g, 0, none⟩))])
    (fun j A' c' w2 => Dg j ∧ j.length ≤ l.length ∧ val j = val l ∧ Rd vd w1 A' c' j ∧ (blk A' ≠ some g ∨ j = []) ∧ (∀ q, blk A' = some q → blk A = some q) ∧ w2 = w1) l A c ⟨hD, by simp, rfl, hR.grown hg1, ?_, fun _ e => e, rfl⟩ (by repeat (first | exact Sub.nil | refine Sub.cons rfl ?_)) (fun j A' c' w2 ⟨hDj, hk, hv, hR2, hgA, hbA, hw2⟩ => ?_)
  · rcases Classical.em (l = []) with e | e
    · exact .inr e
    · exact .inl fun q => by have := hR.lt e q; omega
  subst hw2
  repeat (first | refine WC.seq ?_ | refine WC.block ?_ | refine WC.region ?_ | refine WL.nil ?_ | refine WX.then_normal ?_ | refine WC.skip ?_ | refine WC.exit ?_ | refine WC.ret ?_ | refine WX.then_exit ?_ | refine WX.then_ret ?_ | refine WX.block_normal ?_ | refine WX.block_ret ?_ | refine WX.block_same ?_ | refine WX.block_other rfl ?_ | refine WC.label ?_ | refine WC.scope ?_ | refine WX.scope_normal ?_ | refine WX.scope_ret ?_ | refine WX.scope_exit ?_ | refine WL.y rfl (Yld.sub rfl rfl (by simp only [In]; omega)) ?_ | refine WL.y rfl (Yld.pure tab_ok rfl) ?_ | refine WL.y rfl (Yld.pickV rfl rfl rfl) ?_ | refine WL.gno rfl rfl rfl rfl ?_ | refine WL.gyes rfl rfl rfl rfl (Yld.sub rfl rfl (by simp only [In]; omega)) ?_ | refine WL.gyes rfl rfl rfl rfl (Yld.pure tab_ok rfl) ?_)
  generalize hb : decide ((0 : Int) < (j.length : Int)) = b
  cases b
  · simp only [decide_eq_false_iff_not] at hb
    obtain rfl : j = [] := List.length_eq_zero_iff.mp (by omega)
    have hCj : Can [] := fun h => absurd rfl h
    repeat (first | refine WC.seq ?_ | refine WC.block ?_ | refine WC.region ?_ | refine WL.nil ?_ | refine WX.then_normal ?_ | refine WC.skip ?_ | refine WC.exit ?_ | refine WC.ret ?_ | refine WX.then_exit ?_ | refine WX.then_ret ?_ | refine WX.block_normal ?_ | refine WX.block_ret ?_ | refine WX.block_same ?_ | refine WX.block_other rfl ?_ | refine WC.label ?_ | refine WC.scope ?_ | refine WX.scope_normal ?_ | refine WX.scope_ret ?_ | refine WX.scope_exit ?_ | refine WL.y rfl (Yld.sub rfl rfl (by simp only [In]; omega)) ?_ | refine WL.y rfl (Yld.pure tab_ok rfl) ?_ | refine WL.y rfl (Yld.pickV rfl rfl rfl) ?_ | refine WL.gno rfl rfl rfl rfl ?_ | refine WL.gyes rfl rfl rfl rfl (Yld.sub rfl rfl (by simp only [In]; omega)) ?_ | refine WL.gyes rfl rfl rfl rfl (Yld.pure tab_ok rfl) ?_)
    refine WC.cond rfl (fun h => by cases h) (fun _ => ?_)
    repeat (first | refine WC.seq ?_ | refine WC.block ?_ | refine WC.region ?_ | refine WL.nil ?_ | refine WX.then_normal ?_ | refine WC.skip ?_ | refine WC.exit ?_ | refine WC.ret ?_ | refine WX.then_exit ?_ | refine WX.then_ret ?_ | refine WX.block_normal ?_ | refine WX.block_ret ?_ | refine WX.block_same ?_ | refine WX.block_other rfl ?_ | refine WC.label ?_ | refine WC.scope ?_ | refine WX.scope_normal ?_ | refine WX.scope_ret ?_ | refine WX.scope_exit ?_ | refine WL.y rfl (Yld.sub rfl rfl (by simp only [In]; omega)) ?_ | refine WL.y rfl (Yld.pure tab_ok rfl) ?_ | refine WL.y rfl (Yld.pickV rfl rfl rfl) ?_ | refine WL.gno rfl rfl rfl rfl ?_ | refine WL.gyes rfl rfl rfl rfl (Yld.sub rfl rfl (by simp only [In]; omega)) ?_ | refine WL.gyes rfl rfl rfl rfl (Yld.pure tab_ok rfl) ?_)
    cases neg
    · repeat (first | refine WC.seq ?_ | refine WC.block ?_ | refine WC.region ?_ | refine WL.nil ?_ | refine WX.then_normal ?_ | refine WC.skip ?_ | refine WC.exit ?_ | refine WC.ret ?_ | refine WX.then_exit ?_ | refine WX.then_ret ?_ | refine WX.block_normal ?_ | refine WX.block_ret ?_ | refine WX.block_same ?_ | refine WX.block_other rfl ?_ | refine WC.label ?_ | refine WC.scope ?_ | refine WX.scope_normal ?_ | refine WX.scope_ret ?_ | refine WX.scope_exit ?_ | refine WL.y rfl (Yld.sub rfl rfl (by simp only [In]; omega)) ?_ | refine WL.y rfl (Yld.pure tab_ok rfl) ?_ | refine WL.y rfl (Yld.pickV rfl rfl rfl) ?_ | refine WL.gno rfl rfl rfl rfl ?_ | refine WL.gyes rfl rfl rfl rfl (Yld.sub rfl rfl (by simp only [In]; omega)) ?_ | refine WL.gyes rfl rfl rfl rfl (Yld.pure tab_ok rfl) ?_)
      refine WL.y rfl (Yld.struct (us := [.bool (bif false then decide ((0 : Int) < (([] : List Nat).length : Int)) else false), .slice A' ([] : List Nat).length c']) zero46 places46 rfl rfl) ?_
      refine WL.storeW (vs := [.bool (bif false then decide ((0 : Int) < (([] : List Nat).length : Int)) else false), .slice A' ([] : List Nat).length c']) tab_ok rfl rfl rfl (by intro u hu; simp at hu; rcases hu with rfl | rfl <;> rfl) hB1 rfl rfl (fun w3 hB3 hg3 => ?_)
      repeat (first | refine WC.seq ?_ | refine WC.block ?_ | refine WC.region ?_ | refine WL.nil ?_ | refine WX.then_normal ?_ | refine WC.skip ?_ | refine WC.exit ?_ | refine WC.ret ?_ | refine WX.then_exit ?_ | refine WX.then_ret ?_ | refine WX.block_normal ?_ | refine WX.block_ret ?_ | refine WX.block_same ?_ | refine WX.block_other rfl ?_ | refine WC.label ?_ | refine WC.scope ?_ | refine WX.scope_normal ?_ | refine WX.scope_ret ?_ | refine WX.scope_exit ?_ | refine WL.y rfl (Yld.sub rfl rfl (by simp only [In]; omega)) ?_ | refine WL.y rfl (Yld.pure tab_ok rfl) ?_ | refine WL.y rfl (Yld.pickV rfl rfl rfl) ?_ | refine WL.gno rfl rfl rfl rfl ?_ | refine WL.gyes rfl rfl rfl rfl (Yld.sub rfl rfl (by simp only [In]; omega)) ?_ | refine WL.gyes rfl rfl rfl rfl (Yld.pure tab_ok rfl) ?_)
      exact WX.retc tab_ok rfl rfl rfl hB3 rfl ⟨made_end hR2 hg3 hgA hDj hCj (by first | exact hk | simp) hv, gr_new hg1 hg3 hl1, Lies.mk hbA⟩
    · repeat (first | refine WC.seq ?_ | refine WC.block ?_ | refine WC.region ?_ | refine WL.nil ?_ | refine WX.then_normal ?_ | refine WC.skip ?_ | refine WC.exit ?_ | refine WC.ret ?_ | refine WX.then_exit ?_ | refine WX.then_ret ?_ | refine WX.block_normal ?_ | refine WX.block_ret ?_ | refine WX.block_same ?_ | refine WX.block_other rfl ?_ | refine WC.label ?_ | refine WC.scope ?_ | refine WX.scope_normal ?_ | refine WX.scope_ret ?_ | refine WX.scope_exit ?_ | refine WL.y rfl (Yld.sub rfl rfl (by simp only [In]; omega)) ?_ | refine WL.y rfl (Yld.pure tab_ok rfl) ?_ | refine WL.y rfl (Yld.pickV rfl rfl rfl) ?_ | refine WL.gno rfl rfl rfl rfl ?_ | refine WL.gyes rfl rfl rfl rfl (Yld.sub rfl rfl (by simp only [In]; omega)) ?_ | refine WL.gyes rfl rfl rfl rfl (Yld.pure tab_ok rfl) ?_)
      refine WL.y rfl (Yld.struct (us := [.bool (bif true then decide ((0 : Int) < (([] : List Nat).length : Int)) else false), .slice A' ([] : List Nat).length c']) zero46 places46 rfl rfl) ?_
      refine WL.storeW (vs := [.bool (bif true then decide ((0 : Int) < (([] : List Nat).length : Int)) else false), .slice A' ([] : List Nat).length c']) tab_ok rfl rfl rfl (by intro u hu; simp at hu; rcases hu with rfl | rfl <;> rfl) hB1 rfl rfl (fun w3 hB3 hg3 => ?_)
      repeat (first | refine WC.seq ?_ | refine WC.block ?_ | refine WC.region ?_ | refine WL.nil ?_ | refine WX.then_normal ?_ | refine WC.skip ?_ | refine WC.exit ?_ | refine WC.ret ?_ | refine WX.then_exit ?_ | refine WX.then_ret ?_ | refine WX.block_normal ?_ | refine WX.block_ret ?_ | refine WX.block_same ?_ | refine WX.block_other rfl ?_ | refine WC.label ?_ | refine WC.scope ?_ | refine WX.scope_normal ?_ | refine WX.scope_ret ?_ | refine WX.scope_exit ?_ | refine WL.y rfl (Yld.sub rfl rfl (by simp only [In]; omega)) ?_ | refine WL.y rfl (Yld.pure tab_ok rfl) ?_ | refine WL.y rfl (Yld.pickV rfl rfl rfl) ?_ | refine WL.gno rfl rfl rfl rfl ?_ | refine WL.gyes rfl rfl rfl rfl (Yld.sub rfl rfl (by simp only [In]; omega)) ?_ | refine WL.gyes rfl rfl rfl rfl (Yld.pure tab_ok rfl) ?_)
      exact WX.retc tab_ok rfl rfl rfl hB3 rfl ⟨made_end hR2 hg3 hgA hDj hCj (by first | exact hk | simp) hv, gr_new hg1 hg3 hl1, Lies.mk hbA⟩
  · simp only [decide_eq_true_eq] at hb
    repeat (first | refine WL.gyes rfl rfl rfl rfl (Yld.iaddr tab_ok hR2 rfl rfl rfl rfl (by omega) (by omega)) ?_ | refine WL.gyes rfl rfl rfl rfl (Yld.iload 0 tab_ok hR2 rfl rfl (by omega)) ?_ | refine WC.seq ?_ | refine WC.block ?_ | refine WC.region ?_ | refine WL.nil ?_ | refine WX.then_normal ?_ | refine WC.skip ?_ | refine WC.exit ?_ | refine WC.ret ?_ | refine WX.then_exit ?_ | refine WX.then_ret ?_ | refine WX.block_normal ?_ | refine WX.block_ret ?_ | refine WX.block_same ?_ | refine WX.block_other rfl ?_ | refine WC.label ?_ | refine WC.scope ?_ | refine WX.scope_normal ?_ | refine WX.scope_ret ?_ | refine WX.scope_exit ?_ | refine WL.y rfl (Yld.sub rfl rfl (by simp only [In]; omega)) ?_ | refine WL.y rfl (Yld.pure tab_ok rfl) ?_ | refine WL.y rfl (Yld.pickV rfl rfl rfl) ?_ | refine WL.gno rfl rfl rfl rfl ?_ | refine WL.gyes rfl rfl rfl rfl (Yld.sub rfl rfl (by simp only [In]; omega)) ?_ | refine WL.gyes rfl rfl rfl rfl (Yld.pure tab_ok rfl) ?_)
    have hjt : ((j.length : Int) - 1).toNat = j.length - 1 := by omega
    rw [hjt]
    refine WC.cond rfl (fun h => ?_) (fun h => ?_)
    · simp only [cond_true, decide_eq_true_eq] at h
      repeat (first | refine WC.seq ?_ | refine WC.block ?_ | refine WC.region ?_ | refine WL.nil ?_ | refine WX.then_normal ?_ | refine WC.skip ?_ | refine WC.exit ?_ | refine WC.ret ?_ | refine WX.then_exit ?_ | refine WX.then_ret ?_ | refine WX.block_normal ?_ | refine WX.block_ret ?_ | refine WX.block_same ?_ | refine WX.block_other rfl ?_ | refine WC.label ?_ | refine WC.scope ?_ | refine WX.scope_normal ?_ | refine WX.scope_ret ?_ | refine WX.scope_exit ?_ | refine WL.y rfl (Yld.sub rfl rfl (by simp only [In]; omega)) ?_ | refine WL.y rfl (Yld.pure tab_ok rfl) ?_ | refine WL.y rfl (Yld.pickV rfl rfl rfl) ?_ | refine WL.gno rfl rfl rfl rfl ?_ | refine WL.gyes rfl rfl rfl rfl (Yld.sub rfl rfl (by simp only [In]; omega)) ?_ | refine WL.gyes rfl rfl rfl rfl (Yld.pure tab_ok rfl) ?_)
      refine WL.cut tab_ok hR2 rfl rfl rfl rfl rfl rfl (by omega) (by omega) (by omega) (fun A2 c2 hR3 hb3 => ?_)
      have he : (j.drop (0 : Int).toNat).take (((j.length : Int) - 1).toNat - (0 : Int).toNat) = j.take (j.length - 1) := by rw [hjt]; simp
      rw [he] at hR3 ⊢
      repeat (first | refine WC.seq ?_ | refine WC.block ?_ | refine WC.region ?_ | refine WL.nil ?_ | refine WX.then_normal ?_ | refine WC.skip ?_ | refine WC.exit ?_ | refine WC.ret ?_ | refine WX.then_exit ?_ | refine WX.then_ret ?_ | refine WX.block_normal ?_ | refine WX.block_ret ?_ | refine WX.block_same ?_ | refine WX.block_other rfl ?_ | refine WC.label ?_ | refine WC.scope ?_ | refine WX.scope_normal ?_ | refine WX.scope_ret ?_ | refine WX.scope_exit ?_ | refine WL.y rfl (Yld.sub rfl rfl (by simp only [In]; omega)) ?_ | refine WL.y rfl (Yld.pure tab_ok rfl) ?_ | refine WL.y rfl (Yld.pickV rfl rfl rfl) ?_ | refine WL.gno rfl rfl rfl rfl ?_ | refine WL.gyes rfl rfl rfl rfl (Yld.sub rfl rfl (by simp only [In]; omega)) ?_ | refine WL.gyes rfl rfl rfl rfl (Yld.pure tab_ok rfl) ?_)
      refine WX.round3 (j.take (j.length - 1)) A2 c2 ⟨hDj.take _, by rw [List.length_take]; omega, ?_, hR3, ?_, fun q e => hbA q (hb3 q e), rfl⟩ (by rw [List.length_take]; omega) (by repeat (first | exact Sub.nil | refine Sub.cons rfl ?_))
      · have e := val_take j (j.length - 1)
        rw [show j.length - 1 + 1 = j.length by omega, List.take_of_length_le (Nat.le_refl _), show j.getD (j.length - 1) 0 = 0 by omega] at e
        omega
      · rcases hgA with h1 | h1
        · exact .inl fun q => h1 (hb3 _ q)
        · subst h1; simp at hb
    · simp only [cond_true, decide_eq_false_iff_not] at h
      have hCj : Can j := fun _ e => h (by rw [e]; rfl)
      repeat (first | refine WC.seq ?_ | refine WC.block ?_ | refine WC.region ?_ | refine WL.nil ?_ | refine WX.then_normal ?_ | refine WC.skip ?_ | refine WC.exit ?_ | refine WC.ret ?_ | refine WX.then_exit ?_ | refine WX.then_ret ?_ | refine WX.block_normal ?_ | refine WX.block_ret ?_ | refine WX.block_same ?_ | refine WX.block_other rfl ?_ | refine WC.label ?_ | refine WC.scope ?_ | refine WX.scope_normal ?_ | refine WX.scope_ret ?_ | refine WX.scope_exit ?_ | refine WL.y rfl (Yld.sub rfl rfl (by simp only [In]; omega)) ?_ | refine WL.y rfl (Yld.pure tab_ok rfl) ?_ | refine WL.y rfl (Yld.pickV rfl rfl rfl) ?_ | refine WL.gno rfl rfl rfl rfl ?_ | refine WL.gyes rfl rfl rfl rfl (Yld.sub rfl rfl (by simp only [In]; omega)) ?_ | refine WL.gyes rfl rfl rfl rfl (Yld.pure tab_ok rfl) ?_)
      cases neg
      · repeat (first | refine WC.seq ?_ | refine WC.block ?_ | refine WC.region ?_ | refine WL.nil ?_ | refine WX.then_normal ?_ | refine WC.skip ?_ | refine WC.exit ?_ | refine WC.ret ?_ | refine WX.then_exit ?_ | refine WX.then_ret ?_ | refine WX.block_normal ?_ | refine WX.block_ret ?_ | refine WX.block_same ?_ | refine WX.block_other rfl ?_ | refine WC.label ?_ | refine WC.scope ?_ | refine WX.scope_normal ?_ | refine WX.scope_ret ?_ | refine WX.scope_exit ?_ | refine WL.y rfl (Yld.sub rfl rfl (by simp only [In]; omega)) ?_ | refine WL.y rfl (Yld.pure tab_ok rfl) ?_ | refine WL.y rfl (Yld.pickV rfl rfl rfl) ?_ | refine WL.gno rfl rfl rfl rfl ?_ | refine WL.gyes rfl rfl rfl rfl (Yld.sub rfl rfl (by simp only [In]; omega)) ?_ | refine WL.gyes rfl rfl rfl rfl (Yld.pure tab_ok rfl) ?_)
        refine WL.y rfl (Yld.struct (us := [.bool (bif false then decide ((0 : Int) < (j.length : Int)) else false), .slice A' j.length c']) zero46 places46 rfl rfl) ?_
        refine WL.storeW (vs := [.bool (bif false then decide ((0 : Int) < (j.length : Int)) else false), .slice A' j.length c']) tab_ok rfl rfl rfl (by intro u hu; simp at hu; rcases hu with rfl | rfl <;> rfl) hB1 rfl rfl (fun w3 hB3 hg3 => ?_)
        repeat (first | refine WC.seq ?_ | refine WC.block ?_ | refine WC.region ?_ | refine WL.nil ?_ | refine WX.then_normal ?_ | refine WC.skip ?_ | refine WC.exit ?_ | refine WC.ret ?_ | refine WX.then_exit ?_ | refine WX.then_ret ?_ | refine WX.block_normal ?_ | refine WX.block_ret ?_ | refine WX.block_same ?_ | refine WX.block_other rfl ?_ | refine WC.label ?_ | refine WC.scope ?_ | refine WX.scope_normal ?_ | refine WX.scope_ret ?_ | refine WX.scope_exit ?_ | refine WL.y rfl (Yld.sub rfl rfl (by simp only [In]; omega)) ?_ | refine WL.y rfl (Yld.pure tab_ok rfl) ?_ | refine WL.y rfl (Yld.pickV rfl rfl rfl) ?_ | refine WL.gno rfl rfl rfl rfl ?_ | refine WL.gyes rfl rfl rfl rfl (Yld.sub rfl rfl (by simp only [In]; omega)) ?_ | refine WL.gyes rfl rfl rfl rfl (Yld.pure tab_ok rfl) ?_)
        exact WX.retc tab_ok rfl rfl rfl hB3 rfl ⟨made_end hR2 hg3 hgA hDj hCj (by first | exact hk | simp) hv, gr_new hg1 hg3 hl1, Lies.mk hbA⟩
      · repeat (first | refine WC.seq ?_ | refine WC.block ?_ | refine WC.region ?_ | refine WL.nil ?_ | refine WX.then_normal ?_ | refine WC.skip ?_ | refine WC.exit ?_ | refine WC.ret ?_ | refine WX.then_exit ?_ | refine WX.then_ret ?_ | refine WX.block_normal ?_ | refine WX.block_ret ?_ | refine WX.block_same ?_ | refine WX.block_other rfl ?_ | refine WC.label ?_ | refine WC.scope ?_ | refine WX.scope_normal ?_ | refine WX.scope_ret ?_ | refine WX.scope_exit ?_ | refine WL.y rfl (Yld.sub rfl rfl (by simp only [In]; omega)) ?_ | refine WL.y rfl (Yld.pure tab_ok rfl) ?_ | refine WL.y rfl (Yld.pickV rfl rfl rfl) ?_ | refine WL.gno rfl rfl rfl rfl ?_ | refine WL.gyes rfl rfl rfl rfl (Yld.sub rfl rfl (by simp only [In]; omega)) ?_ | refine WL.gyes rfl rfl rfl rfl (Yld.pure tab_ok rfl) ?_)
        refine WL.y rfl (Yld.struct (us := [.bool (bif true then decide ((0 : Int) < (j.length : Int)) else false), .slice A' j.length c']) zero46 places46 rfl rfl) ?_
        refine WL.storeW (vs := [.bool (bif true then decide ((0 : Int) < (j.length : Int)) else false), .slice A' j.length c']) tab_ok rfl rfl rfl (by intro u hu; simp at hu; rcases hu with rfl | rfl <;> rfl) hB1 rfl rfl (fun w3 hB3 hg3 => ?_)
        repeat (first | refine WC.seq ?_ | refine WC.block ?_ | refine WC.region ?_ | refine WL.nil ?_ | refine WX.then_normal ?_ | refine WC.skip ?_ | refine WC.exit ?_ | refine WC.ret ?_ | refine WX.then_exit ?_ | refine WX.then_ret ?_ | refine WX.block_normal ?_ | refine WX.block_ret ?_ | refine WX.block_same ?_ | refine WX.block_other rfl ?_ | refine WC.label ?_ | refine WC.scope ?_ | refine WX.scope_normal ?_ | refine WX.scope_ret ?_ | refine WX.scope_exit ?_ | refine WL.y rfl (Yld.sub rfl rfl (by simp only [In]; omega)) ?_ | refine WL.y rfl (Yld.pure tab_ok rfl) ?_ | refine WL.y rfl (Yld.pickV rfl rfl rfl) ?_ | refine WL.gno rfl rfl rfl rfl ?_ | refine WL.gyes rfl rfl rfl rfl (Yld.sub rfl rfl (by simp only [In]; omega)) ?_ | refine WL.gyes rfl rfl rfl rfl (Yld.pure tab_ok rfl) ?_)
        exact WX.retc tab_ok rfl rfl rfl hB3 rfl ⟨made_end hR2 hg3 hgA hDj hCj (by first | exact hk | simp) hv, gr_new hg1 hg3 hl1, Lies.mk hbA⟩
end Go.Proofs.YtofenpiiihhigaaDoor

 /- Numbers, where a seat has few of num's functions: the lemmas that name none of the others. -/
namespace Go.Proofs.YtofenpiiihhigaaDoor
open Go Go.RowKit
theorem Rd.ofBl' {α : Type} {f : α → Value} {w : World} {g : Nat} {e : TypeId} {xs : List α} {m : Nat} (h : Bl w g e (xs.map f)) (hm : xs.length ≤ m) (h63 : m ≤ maxLen) : Rd f w (some ⟨g, 0, none⟩) m xs :=
  ⟨hm, h63, fun _ => ⟨_, rfl, fun j x hj => by rw [Addr.add_mid, Nat.zero_add, h.cell]; simp [hj]⟩⟩
theorem Rd.apart {α : Type} {f : α → Value} {w : World} {A : Option Addr} {c g : Nat} {e : TypeId} {xs : List α} {us : List Value} (h : Rd f w A c xs) (hB : Bl w g e us) (hn : ∀ u ∈ us, ∀ x, u ≠ f x) (hx : xs ≠ []) : blk A ≠ some g := by
  intro e1
  obtain ⟨ad, rfl, hc⟩ := h.cells hx
  obtain ⟨x, l, rfl⟩ := List.exists_cons_of_ne_nil hx
  have h0 := hc 0 x rfl
  have hb : (ad.add 0).block = g := by rw [addr_block]; simpa [blk] using e1
  unfold World.cell? at h0
  unfold Bl at hB
  rw [hb, hB] at h0
  simp only at h0
  split at h0
  · cases h0
  · have h1 : us[(ad.add 0).off]? = some (f x) := by simpa using h0
    exact hn _ (List.mem_of_getElem? h1) x rfl
/-- a number, stored over a number's block, is that number still -/
theorem Nm.stored {w w' : World} {g : Nat} {e : TypeId} {us : List Value} {v : Value} {z : Int} {m : Nat} (h : Nm w v z m) (hB : Bl w g e us) (hn : ∀ u ∈ us, ∀ x, u ≠ vd x) (hg : w.grownBy w' (some g)) : Nm w' v z m := by
  obtain ⟨neg, A, c, l, h1, h2, h3⟩ := h
  exact ⟨neg, A, c, l, h1, h2.keep' hg (fun hne q hq => by injection hq with hq; subst hq; exact h2.apart hB hn hne), h3⟩
theorem Nm.agg {w : World} {v : Value} {z : Int} {m : Nat} (h : Nm w v z m) : ∃ a b, v = .agg ⟨[a, b]⟩ ∧ a.oneCell' = true ∧ b.oneCell' = true := by
  obtain ⟨neg, A, c, l, h1, _⟩ := h
  exact ⟨_, _, h1, rfl, rfl⟩
theorem zero_no : ∀ u ∈ [Value.bool false, Value.slice none 0 0], ∀ x, u ≠ vd x := by
  intro u hu x
  simp only [List.mem_cons, List.not_mem_nil, or_false] at hu
  rcases hu with rfl | rfl <;> intro e <;> cases e
theorem val_pos {l : List Nat} (hC : Can l) (h : l ≠ []) : 0 < val l := by
  have := (val_zero hC).mp
  rcases Nat.eq_zero_or_pos (val l) with e | e
  · exact absurd (this e) h
  · exact e
end Go.Proofs.YtofenpiiihhigaaDoor

 /- Decimal digits, plainly. -/
namespace Go.Proofs.YtofenpiiihhigaaDoor
open Go Go.RowKit
/-- a digit's byte -/
def dc (n : Nat) : UInt8 := UInt8.ofNat (48 + n % 10)
theorem dc_toNat (n : Nat) : (dc n).toNat = 48 + n % 10 := by unfold dc; simp; omega
/-- k digits, the lowest first -/
def pd : Nat → Nat → List UInt8
  | 0, _ => []
  | k + 1, n => dc n :: pd k (n / 10)
/-- the digits of a number without needless ones, the lowest first -/
def dd (n : Nat) : List UInt8 := if h : n = 0 then [] else dc n :: dd (n / 10)
 decreasing_by omega
theorem dd_zero : dd 0 = [] := by rw [dd]; simp
theorem dd_pos {n : Nat} (h : 0 < n) : dd n = dc n :: dd (n / 10) := by rw [dd]; simp [Nat.ne_of_gt h]
theorem pd_dd : ∀ (k x y : Nat), x < 10 ^ k → 0 < y → dd (x + 10 ^ k * y) = pd k x ++ dd y
  | 0, x, y, hx, _ => by
    have : x = 0 := by simpa using hx
    subst this; simp [pd]
  | k + 1, x, y, hx, hy => by
    have hp : 0 < 10 ^ k := Nat.pow_pos (by omega)
    have h1 : 0 < x + 10 ^ (k + 1) * y := by
      have : 0 < 10 ^ (k + 1) * y := Nat.mul_pos (Nat.pow_pos (by omega)) hy
      omega
    have e : 10 ^ (k + 1) * y = 10 * (10 ^ k * y) := by rw [Nat.pow_succ]; grind
    rw [dd_pos h1, e]
    have h2 : (x + 10 * (10 ^ k * y)) / 10 = x / 10 + 10 ^ k * y := by omega
    have h3 : dc (x + 10 * (10 ^ k * y)) = dc x := by unfold dc; congr 2; omega
    rw [h2, h3, pd_dd k (x / 10) y (by rw [Nat.pow_succ] at hx; omega) hy]
    rfl
/-- what is still to come of a number whose lower part is v (of 9 - k digits), the upper one y -/
def rest (k v y : Nat) : List UInt8 := if y = 0 then dd v else pd (9 - k) v ++ dd y
theorem rest_start (x y : Nat) (hx : x < 1000000000) : dd (x + 1000000000 * y) = rest 0 x y := by
  unfold rest
  split
  · rename_i h; subst h; simp
  · exact pd_dd 9 x y (by omega) (by omega)
theorem rest_step (k v y : Nat) (hk : k < 9) (h : 0 < v ∨ 0 < y) : rest k v y = dc v :: rest (k + 1) (v / 10) y := by
  unfold rest
  split
  · exact dd_pos (by omega)
  · rw [show 9 - k = (9 - (k + 1)) + 1 by omega]; rfl
theorem rest_end (k v y : Nat) (hk : k ≤ 9) (hv : v < 10 ^ (9 - k)) (h : ¬ (k < 9 ∧ (0 < v ∨ 0 < y))) : rest k v y = dd y := by
  unfold rest
  rcases Nat.lt_or_ge k 9 with h9 | h9
  · have : v = 0 ∧ y = 0 := by omega
    rw [this.1, this.2]; simp
  · obtain rfl : k = 9 := by omega
    have : v = 0 := by simpa using hv
    subst this
    split
    · rename_i h; rw [h]
    · simp [pd]
theorem drop_cons' (l : List Nat) (i : Nat) (h : i < l.length) : val (l.drop i) = l.getD i 0 + 1000000000 * val (l.drop (i + 1)) := by
  rw [List.drop_eq_getElem_cons h]; simp [List.getD, h, val]
theorem drop_pos {l : List Nat} (hC : Can l) (i : Nat) : i < l.length ↔ 0 < val (l.drop i) := by
  constructor
  · intro h
    have hne : l.drop i ≠ [] := by intro e; have := congrArg List.length e; simp at this; omega
    have hC2 : Can (l.drop i) := fun _ => by
      have h1 := hC (by intro e; subst e; simp at h)
      rw [List.length_drop]
      have : (l.drop i).getD (l.length - i - 1) 0 = l.getD (l.length - 1) 0 := by
        simp only [List.getD, List.getElem?_drop]; congr 2; omega
      rw [this]; exact h1
    have := (val_zero hC2)
    rcases Nat.eq_zero_or_pos (val (l.drop i)) with e | e
    · exact absurd (this.mp e) hne
    · exact e
  · intro h
    rcases Nat.lt_or_ge i l.length with h1 | h1
    · exact h1
    · rw [List.drop_eq_nil_of_le h1] at h; simp [val] at h
/-- a number's text -/
def txt (x : Int) : List UInt8 := if x = 0 then [48] else (if x < 0 then [45] else []) ++ (dd x.natAbs).reverse
theorem dd_len : ∀ (m n : Nat), n < 10 ^ m → (dd n).length ≤ m
  | 0, n, h => by
    have : n = 0 := by simpa using h
    subst this; simp [dd_zero]
  | m + 1, n, h => by
    rcases Nat.eq_zero_or_pos n with e | e
    · subst e; simp [dd_zero]
    · rw [dd_pos e]
      have := dd_len m (n / 10) (by rw [Nat.pow_succ] at h; omega)
      simp; omega
end Go.Proofs.YtofenpiiihhigaaDoor

 /- Values behind the interface val.Value, and sets of them, that nobody changes: plainly, and in the world. -/
namespace Go.Proofs.YtofenpiiihhigaaDoor
open Go Go.RowKit
inductive PV where
  | nil
  | none
  | int (z : Int)
  | emp
  | tup (l : List Int)
  deriving DecidableEq, Inhabited
/-- a set: where it lies, its order, its own items, those beneath, how deep it stands, whether it has none -/
inductive PS where
  | nil
  | mk (id : Nat) (order : Int) (own : List PV) (fr : List PS) (deep : Int) (empty : Bool)
def PS.isNil : PS → Bool
  | .nil => true
  | _ => false
def PS.id : PS → Nat
  | .nil => 0
  | .mk i _ _ _ _ _ => i
def PS.order : PS → Int
  | .nil => 0
  | .mk _ o _ _ _ _ => o
def PS.own : PS → List PV
  | .nil => []
  | .mk _ _ l _ _ _ => l
def PS.fr : PS → List PS
  | .nil => []
  | .mk _ _ _ l _ _ => l
def PS.deep : PS → Int
  | .nil => 0
  | .mk _ _ _ _ d _ => d
def PS.empty : PS → Bool
  | .nil => true
  | .mk _ _ _ _ _ e => e
inductive Reach (s : PS) : PS → Prop
  | refl : Reach s s
  | step {x f : PS} : Reach s x → f ∈ x.fr → Reach s f
/-- a value's key -/
def keyP : PV → List UInt8
  | .int z => 73 :: (txt z ++ [59])
  | _ => []
/-- a cell's value, and the blocks that it leads to -/
def OV := { v : Value // v.oneCell' = true }
abbrev VH := OV × (Nat → Prop)
def vv (h : VH) : Value := h.1.1
theorem One.vv : One vv := fun h => h.1.2
abbrev vnil : OV := ⟨.nilIface, rfl⟩
abbrev pnil : OV := ⟨.pointer none, rfl⟩
abbrev noF : Nat → Prop := fun _ => False
def vh0 : VH := (vnil, noF)
/-- a whole number, as_ a value -/
def AI (w : World) (F : Nat → Prop) (v : Value) (z : Int) : Prop := ∃ a b, v = .iface 128 (.agg ⟨[a, b]⟩) ∧ Nm w (.agg ⟨[a, b]⟩) z 3 ∧ Lies (.agg ⟨[a, b]⟩) F
def VR (w : World) (F : Nat → Prop) (v : Value) : PV → Prop
  | .nil => v = .nilIface
  | .none => v = .iface 101 (.agg ⟨[]⟩)
  | .int z => AI w F v z
  | .emp => ∃ g A c, v = .iface 59 (.pointer (some ⟨g, 0, none⟩)) ∧ Bl w g 108 [.slice A 0 c, .bool false, .int .i64 0] ∧ c ≤ maxLen ∧ F g
  | .tup l => ∃ g A c, ∃ hs : List VH, v = .iface 113 (.pointer (some ⟨g, 0, none⟩)) ∧ Bl w g 115 [.slice A l.length c] ∧ Rd vv w A c hs ∧ hs.length = l.length ∧ (∀ q, blk A = some q → F q) ∧ F g ∧ ∀ (i : Nat) (h : VH) (z : Int), hs[i]? = some h → l[i]? = some z → AI w F h.1.1 z
def SRn : Nat → World → (Nat → Prop) → Value → PS → Prop
  | _, _, _, v, .nil => v = .pointer none
  | 0, _, _, _, .mk .. => False
  | n + 1, w, F, v, .mk id order own fr deep empty => v = .pointer (some ⟨id, 0, none⟩) ∧ F id ∧ ∃ Ao co Ak ck Af cf, ∃ ho hf : List VH,
      Bl w id 83 [.int .i64 order, .slice Ao own.length co, .slice Ak own.length ck, .slice Af fr.length cf, .int .i64 deep, .bool empty] ∧
      Rd vv w Ao co ho ∧ ho.length = own.length ∧ (∀ q, blk Ao = some q → F q) ∧ (∀ (i : Nat) (h : VH) (x : PV), ho[i]? = some h → own[i]? = some x → ∃ z, x = .int z ∧ AI w F h.1.1 z) ∧
      Rd vs w Ak ck (own.map keyP) ∧ (∀ q, blk Ak = some q → F q) ∧
      Rd vv w Af cf hf ∧ hf.length = fr.length ∧ (∀ q, blk Af = some q → F q) ∧ (∀ (i : Nat) (h : VH) (x : PS), hf[i]? = some h → fr[i]? = some x → x ≠ .nil ∧ SRn n w F h.1.1 x)
section
variable {w w' : World} {F F' : Nat → Prop} {v : Value} {ps : List (Option Nat)}
theorem Rd.goF {α : Type} {f : α → Value} {A : Option Addr} {c : Nat} {xs : List α} (h : Rd f w A c xs) (hb : ∀ q, blk A = some q → F q) (hg : GrL ps w w') (hd : AllP (fun p => ∀ g, p = some g → ¬ F g) ps) : Rd f w' A c xs :=
  h.goL hg fun p hp _ g hg' e => hd p hp g e (hb g hg')
theorem Bl.goF {g : Nat} {e : TypeId} {us : List Value} (h : Bl w g e us) (hb : F g) (hg : GrL ps w w') (hd : AllP (fun p => ∀ g, p = some g → ¬ F g) ps) : Bl w' g e us :=
  h.goL hg fun p hp q hq e => by cases hq; exact hd p hp g e hb
theorem AI.goL {z : Int} (h : AI w F v z) (hg : GrL ps w w') (hd : AllP (fun p => ∀ g, p = some g → ¬ F g) ps) : AI w' F v z := by
  obtain ⟨a, b, rfl, hN, hL⟩ := h
  refine ⟨a, b, rfl, ?_, hL⟩
  obtain ⟨neg, A, c, l, h1, h2, h3⟩ := hN
  exact ⟨neg, A, c, l, h1, h2.goF (fun q hq => hL _ _ _ _ h1 q hq) hg hd, h3⟩
theorem AI.mono {z : Int} (h : AI w F v z) (hF : ∀ g, F g → F' g) : AI w F' v z := by
  obtain ⟨a, b, rfl, hN, hL⟩ := h
  exact ⟨a, b, rfl, hN, fun _ _ _ _ e g hg => hF g (hL _ _ _ _ e g hg)⟩
theorem VR.goL {p : PV} (h : VR w F v p) (hg : GrL ps w w') (hd : AllP (fun p => ∀ g, p = some g → ¬ F g) ps) : VR w' F v p := by
  cases p with
  | nil => exact h
  | none => exact h
  | int z => exact AI.goL h hg hd
  | emp => obtain ⟨g, A, c, h1, h2, h3, h4⟩ := h; exact ⟨g, A, c, h1, h2.goF h4 hg hd, h3, h4⟩
  | tup l =>
    obtain ⟨g, A, c, hs, h1, h2, h3, h4, h5, h6, h7⟩ := h
    exact ⟨g, A, c, hs, h1, h2.goF h6 hg hd, h3.goF h5 hg hd, h4, h5, h6, fun i h z hh hz => (h7 i h z hh hz).goL hg hd⟩
theorem VR.mono {p : PV} (h : VR w F v p) (hF : ∀ g, F g → F' g) : VR w F' v p := by
  cases p with
  | nil => exact h
  | none => exact h
  | int z => exact AI.mono h hF
  | emp => obtain ⟨g, A, c, h1, h2, h3, h4⟩ := h; exact ⟨g, A, c, h1, h2, h3, hF g h4⟩
  | tup l =>
    obtain ⟨g, A, c, hs, h1, h2, h3, h4, h5, h6, h7⟩ := h
    exact ⟨g, A, c, hs, h1, h2, h3, h4, fun q hq => hF q (h5 q hq), hF g h6, fun i h z hh hz => (h7 i h z hh hz).mono hF⟩
theorem SRn.goL : ∀ {n : Nat} {v : Value} {p : PS}, SRn n w F v p → GrL ps w w' → AllP (fun p => ∀ g, p = some g → ¬ F g) ps → SRn n w' F v p
  | n, v, .nil, h, _, _ => by cases n <;> exact h
  | 0, v, .mk .., h, _, _ => h.elim
  | n + 1, v, .mk .., h, hg, hd => by
    obtain ⟨h1, h2, Ao, co, Ak, ck, Af, cf, ho, hf, hB, o1, o2, o3, o4, k1, k2, f1, f2, f3, f4⟩ := h
    exact ⟨h1, h2, Ao, co, Ak, ck, Af, cf, ho, hf, hB.goF h2 hg hd, o1.goF o3 hg hd, o2, o3, fun i h x hh hx => by obtain ⟨z, e, k⟩ := o4 i h x hh hx; exact ⟨z, e, k.goL hg hd⟩,
      k1.goF k2 hg hd, k2, f1.goF f3 hg hd, f2, f3, fun i h x hh hx => ⟨(f4 i h x hh hx).1, SRn.goL (f4 i h x hh hx).2 hg hd⟩⟩
theorem SRn.mono (hF : ∀ g, F g → F' g) : ∀ {n : Nat} {v : Value} {p : PS}, SRn n w F v p → SRn n w F' v p
  | n, v, .nil, h => by cases n <;> exact h
  | 0, v, .mk .., h => h.elim
  | n + 1, v, .mk .., h => by
    obtain ⟨h1, h2, Ao, co, Ak, ck, Af, cf, ho, hf, hB, o1, o2, o3, o4, k1, k2, f1, f2, f3, f4⟩ := h
    exact ⟨h1, hF _ h2, Ao, co, Ak, ck, Af, cf, ho, hf, hB, o1, o2, fun q hq => hF q (o3 q hq), fun i h x hh hx => by obtain ⟨z, e, k⟩ := o4 i h x hh hx; exact ⟨z, e, k.mono hF⟩,
      k1, fun q hq => hF q (k2 q hq), f1, f2, fun q hq => hF q (f3 q hq), fun i h x hh hx => ⟨(f4 i h x hh hx).1, SRn.mono hF (f4 i h x hh hx).2⟩⟩
theorem SRn.up : ∀ {n : Nat} {v : Value} {p : PS}, SRn n w F v p → SRn (n + 1) w F v p
  | n, v, .nil, h => by cases n <;> exact h
  | 0, v, .mk .., h => h.elim
  | n + 1, v, .mk .., h => by
    obtain ⟨h1, h2, Ao, co, Ak, ck, Af, cf, ho, hf, hB, o1, o2, o3, o4, k1, k2, f1, f2, f3, f4⟩ := h
    exact ⟨h1, h2, Ao, co, Ak, ck, Af, cf, ho, hf, hB, o1, o2, o3, o4, k1, k2, f1, f2, f3, fun i h x hh hx => ⟨(f4 i h x hh hx).1, SRn.up (f4 i h x hh hx).2⟩⟩
theorem SRn.le {n m : Nat} {p : PS} (h : SRn n w F v p) (hm : n ≤ m) : SRn m w F v p := by
  induction hm with
  | refl => exact h
  | step _ ih => exact ih.up
end
def deV : DE VH PV where
  rel w h x := VR w h.2 h.1.1 x ∧ ∀ g, h.2 g → g < w.heap.size
  dn h _ p := ∀ g, p = some g → ¬ h.2 g
  goL h k a := ⟨h.1.goL k a, fun g hg => Nat.lt_of_lt_of_le (h.2 g hg) k.size⟩
  new h k := fun g e hg => by have := h.2 g hg; have := k g e; omega
  app h a k := fun g e hg => by
    rcases k g e with h1 | h1
    · have := h.2 g hg; omega
    · exact a _ h1 g rfl hg
def deS : DE VH PS where
  rel w h x := (∃ n, SRn n w h.2 h.1.1 x) ∧ ∀ g, h.2 g → g < w.heap.size
  dn h _ p := ∀ g, p = some g → ¬ h.2 g
  goL h k a := ⟨h.1.elim fun n h => ⟨n, h.goL k a⟩, fun g hg => Nat.lt_of_lt_of_le (h.2 g hg) k.size⟩
  new h k := fun g e hg => by have := h.2 g hg; have := k g e; omega
  app h a k := fun g e hg => by
    rcases k g e with h1 | h1
    · have := h.2 g hg; omega
    · exact a _ h1 g rfl hg
section
variable {H X : Type} {d : DE H X} {w : World} {h : H} {x : X} {p : Option Nat} {F : Nat → Prop} {v : Value}
theorem RelD.nilx {w : World} {hs : List H} {xs : List X} (k : RelD d w hs xs) (e : hs = []) : xs = [] := by
  subst e
  exact List.length_eq_zero_iff.1 k.1.symm
theorem RelD.one (k : RelD d w [h] [x]) : d.rel w h x := k.2 0 h x rfl rfl
theorem DnD.one (k : DnD d [h] [x] p) : d.dn h x p := k 0 h x rfl rfl
theorem deS_nil : RelD deS w [(pnil, noF)] [.nil] := RelD.cons ⟨⟨0, rfl⟩, fun _ h => h.elim⟩ RelD.nil
theorem deS_nilD : DnD deS [(pnil, noF)] [.nil] p := DnD.cons (fun _ _ h => h) DnD.nil
theorem VR.one {p : PV} (h : VR w F v p) : v.oneCell' = true := by
  cases p with
  | nil => rw [h]; rfl
  | none => rw [h]; rfl
  | int z => obtain ⟨a, b, rfl, _⟩ := h; rfl
  | emp => obtain ⟨g, A, c, rfl, _⟩ := h; rfl
  | tup l => obtain ⟨g, A, c, hs, rfl, _⟩ := h; rfl
theorem SRn.ptr {n : Nat} {p : PS} (h : SRn n w F v p) : v = .pointer (if p.isNil then none else some ⟨p.id, 0, none⟩) := by
  cases p with
  | nil => cases n <;> exact h
  | mk => cases n with
    | zero => exact h.elim
    | succ n => exact h.1
theorem SRn.reach {n : Nat} {s y : PS} (h : SRn n w F v s) (k : Reach s y) : y ≠ .nil → ∃ m u, SRn m w F u y := by
  have key : s = .nil ∨ ∃ m u, SRn m w F u y := by
    induction k with
    | refl => exact .inr ⟨n, v, h⟩
    | @step x f hx hf ih =>
      rcases ih with e | ⟨m, u, hm⟩
      · exact .inl e
      · cases x with
        | nil => simp [PS.fr] at hf
        | mk id o own fr d e =>
          cases m with
          | zero => exact hm.elim
          | succ m =>
            obtain ⟨_, _, Ao, co, Ak, ck, Af, cf, ho, hq, _, _, _, _, _, _, _, _, f2, _, f4⟩ := hm
            obtain ⟨j, hj, rfl⟩ := List.getElem_of_mem hf
            exact .inr ⟨m, _, (f4 j _ _ (List.getElem?_eq_getElem (by rw [f2]; exact hj)) (List.getElem?_eq_getElem hj)).2⟩
  intro hn
  rcases key with e | h'
  · subst e
    exfalso
    have : ∀ y, Reach PS.nil y → y = .nil := fun y k => by
      induction k with
      | refl => rfl
      | step _ hf ih => subst ih; simp [PS.fr] at hf
    exact hn (this y k)
  · exact h'
theorem deS_fresh {hs : List VH} {xs : List PS} {x y : PS} {i : Nat} (h : RelD deS w hs xs) (hx : x ∈ xs) (hr : Reach x y) (hn : y ≠ .nil) (hi : w.heap.size ≤ i) : y.id ≠ i := by
  obtain ⟨j, hj, rfl⟩ := List.getElem_of_mem hx
  obtain ⟨⟨n, k⟩, hF⟩ := h.2 j _ _ (List.getElem?_eq_getElem (by rw [h.1]; exact hj)) (List.getElem?_eq_getElem hj)
  obtain ⟨m, u, k⟩ := k.reach hr hn
  cases y with
  | nil => exact absurd rfl hn
  | mk => cases m with
    | zero => exact k.elim
    | succ n => have := hF _ k.2.1; simp only [PS.id]; omega
end
section
variable {P : Program} {N : Nat} {L : Slots} {w : World} {ty : TypeId} {pos : String} {af : Array Edge} {dd : Option Tmp} {t t' e : TypeId} {x y : Operand} {v : OV} {F : Nat → Prop} {s : PS}
theorem nilpV {ad : Addr} (hv : v.1 = .pointer (some ad)) (hx : opv L x = some v.1) : Yld P N w ⟨dd, .nilCheck x, ty, pos, af, none⟩ L (.pointer (some ad)) := fun a w1 _ ha => by
  have hx' := ha.ev hx
  rw [hv] at hx'
  unfold execOp
  simp [hx']
theorem deS_eqnil (ht : P.underlying t = some (.pointer e)) (h : RelD deS w [(v, F)] [s]) (hx : opv L x = some v.1) (hy : opv L y = some (.pointer none)) : Yld P N w ⟨dd, .binOp .eql t x y t', ty, pos, af, none⟩ L (.bool s.isNil) := by
  obtain ⟨⟨n, h⟩, _⟩ := h.one
  have h2 := h.ptr
  rw [h2] at hx
  have := Yld.peqnil (w := w) (N := N) (dd := dd) (ty := ty) (t' := t') (pos := pos) (af := af) ht hx hy
  cases s <;> exact this
end
/-! ## what lies behind the interface -/
def tyP : PV → Option TypeId
  | .nil => Option.none
  | .none => some 101
  | .int _ => some 128
  | .emp => some 59
  | .tup _ => some 113
def tys : List TypeId := [101, 128, 59, 113]
theorem VR.ty {w : World} {F : Nat → Prop} {v : Value} {p : PV} (h : VR w F v p) : (tyP p = Option.none ∧ v = .nilIface) ∨ ∃ t u, tyP p = some t ∧ t ∈ tys ∧ v = .iface t u := by
  cases p with
  | nil => exact .inl ⟨rfl, h⟩
  | none => exact .inr ⟨_, _, rfl, by simp [tys], h⟩
  | int z => obtain ⟨a, b, h, _⟩ := h; exact .inr ⟨_, _, rfl, by simp [tys], h⟩
  | emp => obtain ⟨g, A, c, h, _⟩ := h; exact .inr ⟨_, _, rfl, by simp [tys], h⟩
  | tup l => obtain ⟨g, A, c, hs, h, _⟩ := h; exact .inr ⟨_, _, rfl, by simp [tys], h⟩
def notIface : TypeDesc → Bool
  | .interface _ => false
  | _ => true
theorem tyP_no {ta : TypeId} (h : (tys.all fun t => !Nat.beq t ta) = true) (p : PV) : tyP p ≠ some ta := fun e => by
  simp only [tys, List.all_cons, List.all_nil, Bool.and_true, Bool.and_eq_true, Bool.not_eq_true'] at h
  obtain ⟨h1, h2, h3, h4⟩ := h
  cases p <;> simp only [tyP, Option.some.injEq, reduceCtorEq] at e
  · exact Nat.ne_of_beq_eq_false h1 e
  · exact Nat.ne_of_beq_eq_false h2 e
  · exact Nat.ne_of_beq_eq_false h3 e
  · exact Nat.ne_of_beq_eq_false h4 e
theorem tyP_none {p : PV} (h : p ≠ .none) : tyP p ≠ some 101 := fun e => by
  cases p <;> first | (exact h rfl) | (simp only [tyP, Option.some.injEq, reduceCtorEq] at e; try exact absurd e (by decide))
theorem tyP_int {p : PV} (h : ∀ z, p ≠ .int z) : tyP p ≠ some 128 := fun e => by
  cases p <;> first | (exact h _ rfl) | (simp only [tyP, Option.some.injEq, reduceCtorEq] at e; try exact absurd e (by decide))
theorem tyP_emp {p : PV} (h : p ≠ .emp) : tyP p ≠ some 59 := fun e => by
  cases p <;> first | (exact h rfl) | (simp only [tyP, Option.some.injEq, reduceCtorEq] at e; try exact absurd e (by decide))
theorem tyP_tup {p : PV} (h : ∀ l, p ≠ .tup l) : tyP p ≠ some 113 := fun e => by
  cases p <;> first | (exact h _ rfl) | (simp only [tyP, Option.some.injEq, reduceCtorEq] at e; try exact absurd e (by decide))
theorem PV.intCases (p : PV) : (∃ z, p = .int z) ∨ ∀ z, p ≠ .int z := by
  cases p with
  | int z => exact .inl ⟨z, rfl⟩
  | _ => exact .inr fun z h => by cases h
theorem PV.tupCases (p : PV) : (∃ l, p = .tup l) ∨ ∀ l, p ≠ .tup l := by
  cases p with
  | tup l => exact .inl ⟨l, rfl⟩
  | _ => exact .inr fun z h => by cases h
theorem PV.empCases (p : PV) : p = .emp ∨ p ≠ .emp := by
  cases p with
  | emp => exact .inl rfl
  | _ => exact .inr fun h => by cases h
section
variable {P : Program} {N : Nat} {L : Slots} {w w0 : World} {ty : TypeId} {pos : String} {af : Array Edge} {dd : Option Tmp} {t ta : TypeId} {x : Operand} {v : OV} {F : Nat → Prop} {p : PV} {d : TypeDesc} {z u : Value}
theorem assertNoV (hu : P.underlying ta = some d) (hd : notIface d = true) (hz : ∀ w, (zeroValue ta).run P w = .ok z w) (h : RelD deV w0 [(v, F)] [p]) (hx : opv L x = some v.1) (hn : tyP p ≠ some ta) :
    Yld P N w ⟨dd, .typeAssert x t ta true, ty, pos, af, none⟩ L (.tuple #[z, .bool false]) := fun a w1 _ ha => by
  have hx' := ha.ev hx
  rcases h.one.1.ty with ⟨h1, h2⟩ | ⟨t', u, h1, _, h2⟩
  · replace h2 : v.1 = .nilIface := h2
    rw [h2] at hx'
    simp only [execOp, Instr.typeAssert, Sem.run_bind, run_underlying hu, hx', Result.andThen_ok]
    cases d <;> first | (simp [notIface] at hd; done) | simp [hz]
  · have hne : t' ≠ ta := fun e => hn (by rw [h1, e])
    replace h2 : v.1 = .iface t' u := h2
    rw [h2] at hx'
    simp only [execOp, Instr.typeAssert, Sem.run_bind, run_underlying hu, hx', Result.andThen_ok]
    cases d <;> first | (simp [notIface] at hd; done) | simp [hz, hne]
theorem assertYesV (hu : P.underlying ta = some d) (hd : notIface d = true) (hx : opv L x = some v.1) (hv : v.1 = .iface ta u) : Yld P N w ⟨dd, .typeAssert x t ta true, ty, pos, af, none⟩ L (.tuple #[u, .bool true]) := fun a w1 _ ha => by
  have hx' := ha.ev hx
  rw [hv] at hx'
  simp only [execOp, Instr.typeAssert, Sem.run_bind, run_underlying hu, hx', Result.andThen_ok]
  cases d <;> first | (simp [notIface] at hd; done) | simp
def lacks1 (want : Array (String × TypeId)) (got : Array Method) : Bool := !(want.toList.filter fun (x : String × TypeId) => !got.any fun m => m.name == x.1 && m.sig == x.2).isEmpty
def lacksM (P : Program) (want : Array (String × TypeId)) : Bool := tys.all fun t => match P.info? t with
  | some i => lacks1 want i.methods
  | none => false
theorem least_some : ∀ {l : List String}, l ≠ [] → (Instr.least l).isSome = true
  | [], h => absurd rfl h
  | _ :: _, _ => rfl
theorem lacks1_ok {want : Array (String × TypeId)} {got : Array Method} (h : lacks1 want got = true) : (Instr.missingMethod want got).isSome = true := by
  unfold lacks1 at h
  simp only [Bool.not_eq_true', List.isEmpty_eq_false_iff] at h
  unfold Instr.missingMethod
  simp only [List.partition_eq_filter_filter]
  generalize hm : (want.toList.filter fun (x : String × TypeId) => !got.any fun m => m.name == x.1 && m.sig == x.2) = M at h
  obtain ⟨x, M', rfl⟩ := List.exists_cons_of_ne_nil h
  have key : ∀ (q : String → Bool) (f : String → String) (l : List String), l ≠ [] → (Instr.least (l.filter fun a => !q a) <|> Instr.least ((l.filter q).map f)).isSome = true := fun q f l hl => by
    by_cases h1 : (l.filter fun a => !q a) = []
    · have h2 : l.filter q ≠ [] := fun h2 => by
        obtain ⟨y, l', rfl⟩ := List.exists_cons_of_ne_nil hl
        rw [List.filter_eq_nil_iff] at h1 h2
        have := h1 y (by simp); have := h2 y (by simp)
        simp_all
      have := least_some (l := (l.filter q).map f) (by simpa using h2)
      cases hq : Instr.least (l.filter fun a => !q a) with
      | some => rfl
      | none => simpa [HOrElse.hOrElse, OrElse.orElse, Option.orElse] using this
    · have := least_some h1
      cases hq : Instr.least (l.filter fun a => !q a) with
      | some => rfl
      | none => rw [hq] at this; cases this
  exact key (fun a => a.contains '.') (fun id => (id.splitOn ".").getLastD id) _ (by simp)
theorem assertNoI {want : Array (String × TypeId)} (hu : P.underlying ta = some (.interface want)) (hz : ∀ w, (zeroValue ta).run P w = .ok z w) (hm : lacksM P want = true) (h : RelD deV w0 [(v, F)] [p]) (hx : opv L x = some v.1) :
    Yld P N w ⟨dd, .typeAssert x t ta true, ty, pos, af, none⟩ L (.tuple #[z, .bool false]) := fun a w1 _ ha => by
  have hx' := ha.ev hx
  rcases h.one.1.ty with ⟨h1, h2⟩ | ⟨t', u, h1, ht, h2⟩
  · replace h2 : v.1 = .nilIface := h2
    rw [h2] at hx'
    simp [execOp, Instr.typeAssert, run_underlying hu, hx', hz]
  · replace h2 : v.1 = .iface t' u := h2
    rw [h2] at hx'
    have := List.all_eq_true.1 hm t' ht
    split at this
    · rename_i i hi
      replace this := lacks1_ok this
      cases hq : Instr.missingMethod want i.methods with
      | none => rw [hq] at this; cases this
      | some m => simp [execOp, Instr.typeAssert, run_underlying hu, hx', typeInfo, hi, hq, hz]
    · cases this
end
section
variable {w : World} {v : OV} {F : Nat → Prop} {p : PV} {s : PS}
theorem VR.intOut {n : Int} (h : RelD deV w [(v, F)] [p]) (hp : p = .int n) : ∃ a b, v.1 = .iface 128 (.agg ⟨[a, b]⟩) ∧ Nm w (.agg ⟨[a, b]⟩) n 3 ∧ a.oneCell' = true ∧ b.oneCell' = true ∧ Lies (.agg ⟨[a, b]⟩) F := by
  subst hp
  obtain ⟨a, b, h1, h2, hL⟩ := h.one.1
  obtain ⟨a', b', e, ha, hb⟩ := h2.agg
  injection e with e; injection e with e; injection e with e1 e; injection e with e2
  subst e1; subst e2
  exact ⟨a, b, h1, h2, ha, hb, hL⟩
theorem Nm.goV {w w' : World} {F : Nat → Prop} {a : Value} {z : Int} {m : Nat} {ps : List (Option Nat)} (h : Nm w a z m) (hL : Lies a F) (hg : GrL ps w w') (hd : AllP (fun p => ∀ g, p = some g → ¬ F g) ps) : Nm w' a z m := by
  obtain ⟨neg, A, c, l, h1, h2, h3⟩ := h
  exact ⟨neg, A, c, l, h1, h2.goF (fun q hq => hL _ _ _ _ h1 q hq) hg hd, h3⟩
theorem VR.empOut (h : RelD deV w [(v, F)] [p]) (hp : p = .emp) : ∃ g A c, v.1 = .iface 59 (.pointer (some ⟨g, 0, none⟩)) ∧ Bl w g 108 [.slice A ([] : List PV).length c, .bool false, .int .i64 0] ∧ Rd vv w A c [] ∧ RelD deV w [] [] ∧ ∀ q, DnD deV [(v, F)] [p] q → Dj (some g) q := by
  subst hp
  obtain ⟨g, A, c, h1, h2, h3, h4⟩ := h.one.1
  exact ⟨g, A, c, h1, h2, Rd.nil _ _ h3, RelD.nil, fun q hq g' e e2 => by cases e; exact hq.one g e2 h4⟩
theorem Rd.frm {w : World} {A : Option Addr} {c : Nat} {hs : List VH} (F : Nat → Prop) (h : Rd vv w A c hs) : Rd vv w A c (hs.map fun h => ((h.1, F) : VH)) :=
  ⟨by simpa using h.cap, h.max, fun hx => by
    obtain ⟨ad, e, k⟩ := h.cells (fun e => hx (by rw [e]; rfl))
    refine ⟨ad, e, fun j x hj => ?_⟩
    rw [List.getElem?_map] at hj
    obtain ⟨y, hy, rfl⟩ := Option.map_eq_some_iff.1 hj
    exact k j y hy⟩
theorem RelD.frm {X : Type} {d : DE VH X} {hs : List VH} {xs : List X} (hl : hs.length = xs.length) (k : ∀ (i : Nat) (h : VH) (x : X), hs[i]? = some h → xs[i]? = some x → d.rel w (h.1, F) x) : RelD d w (hs.map fun h => ((h.1, F) : VH)) xs :=
  ⟨by simpa using hl, fun i h x hh hx => by
    rw [List.getElem?_map] at hh
    obtain ⟨y, hy, rfl⟩ := Option.map_eq_some_iff.1 hh
    exact k i y x hy hx⟩
theorem VR.tupOut {l : List Int} (h : RelD deV w [(v, F)] [p]) (hp : p = .tup l) : ∃ g A c, ∃ hs : List VH, v.1 = .iface 113 (.pointer (some ⟨g, 0, none⟩)) ∧ Bl w g 115 [.slice A (l.map PV.int).length c] ∧ Rd vv w A c hs ∧ RelD deV w hs (l.map PV.int) ∧
    (∀ q, DnD deV [(v, F)] [p] q → Dj (some g) q) ∧ (∀ q, DnD deV [(v, F)] [p] q → Dn hs (blk A) q) ∧ (∀ q, DnD deV [(v, F)] [p] q → DnD deV hs (l.map PV.int) q) := by
  subst hp
  obtain ⟨⟨g, A, c, hs, h1, h2, h3, h4, h5, h6, h7⟩, hF⟩ := h.one
  refine ⟨g, A, c, hs.map fun h => ((h.1, F) : VH), h1, by rw [List.length_map]; exact h2, h3.frm F, RelD.frm (d := deV) (by rw [List.length_map]; exact h4) (fun i h x hh hx => ?_), fun q hq g' e e2 => ?_, fun q hq _ g' e e2 => hq.one g' e2 (h5 g' e), fun q hq i h x hh hx => ?_⟩
  · rw [List.getElem?_map] at hx
    obtain ⟨z, hz, rfl⟩ := Option.map_eq_some_iff.1 hx
    exact ⟨h7 i h z hh hz, hF⟩
  · cases e; exact hq.one g e2 h6
  · rw [List.getElem?_map] at hh
    obtain ⟨y, hy, rfl⟩ := Option.map_eq_some_iff.1 hh
    exact hq.one
theorem SR.out (h : RelD deS w [(v, F)] [s]) (hs : s ≠ .nil) : ∃ Ao co Ak ck Af cf, ∃ ho hf : List VH, v.1 = .pointer (some ⟨s.id, 0, none⟩) ∧
    Bl w s.id 83 [.int .i64 s.order, .slice Ao s.own.length co, .slice Ak (s.own.map keyP).length ck, .slice Af s.fr.length cf, .int .i64 s.deep, .bool s.empty] ∧
    Rd vv w Ao co ho ∧ RelD deV w ho s.own ∧ Rd vs w Ak ck (s.own.map keyP) ∧ Rd vv w Af cf hf ∧ RelD deS w hf s.fr ∧
    (∀ q, DnD deS [(v, F)] [s] q → Dj (some s.id) q) ∧ (∀ q, DnD deS [(v, F)] [s] q → Dn ho (blk Ao) q) ∧ (∀ q, DnD deS [(v, F)] [s] q → DnD deV ho s.own q) ∧
    (∀ q, DnD deS [(v, F)] [s] q → Dn (s.own.map keyP) (blk Ak) q) ∧ (∀ q, DnD deS [(v, F)] [s] q → Dn hf (blk Af) q) ∧ (∀ q, DnD deS [(v, F)] [s] q → DnD deS hf s.fr q) := by
  cases s with
  | nil => exact absurd rfl hs
  | mk id order own fr deep empty =>
    obtain ⟨⟨n, h⟩, hF⟩ := h.one
    cases n with
    | zero => exact h.elim
    | succ n =>
      obtain ⟨h1, h2, Ao, co, Ak, ck, Af, cf, ho, hf, hB, o1, o2, o3, o4, k1, k2, f1, f2, f3, f4⟩ := h
      refine ⟨Ao, co, Ak, ck, Af, cf, ho.map fun h => ((h.1, F) : VH), hf.map fun h => ((h.1, F) : VH), h1, by simpa [PS.own, PS.fr, PS.id, PS.order, PS.deep, PS.empty] using hB, o1.frm F, RelD.frm (d := deV) o2 (fun i h x hh hx => ?_), k1, f1.frm F, RelD.frm (d := deS) f2 (fun i h x hh hx => ⟨⟨n, (f4 i h x hh hx).2⟩, hF⟩),
        fun q hq g' e e2 => ?_, fun q hq _ g' e e2 => hq.one g' e2 (o3 g' e), fun q hq i h x hh hx => ?_, fun q hq _ g' e e2 => hq.one g' e2 (k2 g' e), fun q hq _ g' e e2 => hq.one g' e2 (f3 g' e), fun q hq i h x hh hx => ?_⟩
      · obtain ⟨z, rfl, hz⟩ := o4 i h x hh hx
        exact ⟨hz, hF⟩
      · cases e; exact hq.one _ e2 h2
      · rw [List.getElem?_map] at hh
        obtain ⟨y, hy, rfl⟩ := Option.map_eq_some_iff.1 hh
        exact hq.one
      · rw [List.getElem?_map] at hh
        obtain ⟨y, hy, rfl⟩ := Option.map_eq_some_iff.1 hh
        exact hq.one
end
/-! ## a field of a struct of which other fields take no cells -/
def ckFa (P : Program) (t : TypeId) (f o : Nat) : Bool := match P.underlying t with
  | some (.struct fs) => (match fs[f]? with
    | some fd => Nat.beq fd.offset o && (match P.info? fd.type with
      | some i => !Nat.beq i.size 0
      | none => false)
    | none => false)
  | _ => false
theorem Yld.fa0 {P : Program} {N : Nat} {L : Slots} {w : World} {ty : TypeId} {pos : String} {af : Array Edge} {dd : Option Tmp} {t : TypeId} {x : Operand} {f o b p : Nat} (hc : ckFa P t f o = true) (hx : opv L x = some (.pointer (some ⟨b, p, none⟩))) : Yld P N w ⟨dd, .fieldAddr t x f, ty, pos, af, none⟩ L (.pointer (some ⟨b, p + o, none⟩)) := fun a w1 _ ha => by
  unfold ckFa at hc
  split at hc
  · rename_i fs hu
    split at hc
    · rename_i fd hfd
      simp only [Bool.and_eq_true] at hc
      obtain ⟨h1, h2⟩ := hc
      have h1 := Nat.eq_of_beq_eq_true h1
      subst h1
      split at h2
      · rename_i i hi
        simp only [Bool.not_eq_true'] at h2
        have h2 := Nat.ne_of_beq_eq_false h2
        unfold execOp
        simp [ha.ev hx, Instr.fieldAt, run_underlying hu, hfd, Instr.sureAddr, fieldPlace, sizeOf, typeInfo, hi, h2, Addr.add_mid]
      · cases h2
    · cases hc
  · cases hc
/-! ## a set is made -/
abbrev ovP (g : Nat) : OV := ⟨.pointer (some ⟨g, 0, none⟩), rfl⟩
def FS (g : Nat) (Ao Ak Af : Option Addr) (ho hf : List VH) : Nat → Prop := fun q => q = g ∨ blk Ao = some q ∨ blk Ak = some q ∨ blk Af = some q ∨ (∃ h, h ∈ ho ∧ h.2 q) ∨ ∃ h, h ∈ hf ∧ h.2 q
def OrD {H X : Type} (Q : Option Nat → Prop) (d : DE H X) (hs : List H) (xs : List X) (n : Nat) : Prop := ∀ p : Option Nat, (∀ g, p = some g → g < n) → Q p → DnD d hs xs p
section
variable {H X : Type} {d : DE H X} {hs hs' : List H} {xs xs' : List X} {h : H} {x : X} {n : Nat} {Q : Option Nat → Prop}
theorem OrD.append (hl : hs.length = xs.length) (a : OrD Q d hs xs n) (b : OrD Q d hs' xs' n) : OrD Q d (hs ++ hs') (xs ++ xs') n := fun p hp q => DnD.append hl (a p hp q) (b p hp q)
theorem OrD.cons (a : ∀ p : Option Nat, (∀ g, p = some g → g < n) → Q p → d.dn h x p) (b : OrD Q d hs xs n) : OrD Q d (h :: hs) (x :: xs) n := fun p hp q => DnD.cons (a p hp q) (b p hp q)
end
theorem SRn.all {w : World} {F : Nat → Prop} : ∀ {hf : List VH} {fr : List PS}, hf.length = fr.length → (∀ (i : Nat) (h : VH) (x : PS), hf[i]? = some h → fr[i]? = some x → ∃ n, SRn n w F h.1.1 x) → ∃ n, ∀ (i : Nat) (h : VH) (x : PS), hf[i]? = some h → fr[i]? = some x → SRn n w F h.1.1 x
  | [], _, _, _ => ⟨0, fun i h x hh => by simp at hh⟩
  | h :: hf, [], hl, _ => by simp at hl
  | h :: hf, x :: fr, hl, k => by
    obtain ⟨n, hn⟩ := SRn.all (hf := hf) (fr := fr) (by simpa using hl) (fun i h x hh hx => k (i + 1) h x (by simpa using hh) (by simpa using hx))
    obtain ⟨m, hm⟩ := k 0 h x rfl rfl
    refine ⟨max n m, fun i h' x' hh hx => ?_⟩
    cases i with
    | zero => simp only [List.getElem?_cons_zero, Option.some.injEq] at hh hx; subst hh; subst hx; exact hm.le (Nat.le_max_right _ _)
    | succ i => exact (hn i h' x' (by simpa using hh) (by simpa using hx)).le (Nat.le_max_left _ _)
theorem deS_pack {w : World} {g co ck cf : Nat} {order deep : Int} {empty : Bool} {own : List PV} {fr : List PS} {keys : List (List UInt8)} {Ao Ak Af : Option Addr} {ho hf : List VH}
    (hB : Bl w g 83 [.int .i64 order, .slice Ao own.length co, .slice Ak keys.length ck, .slice Af fr.length cf, .int .i64 deep, .bool empty])
    (hO : Rd vv w Ao co ho) (rO : RelD deV w ho own) (h1 : ∀ x ∈ own, ∃ z, x = PV.int z) (h2 : keys = own.map keyP) (hK : Rd vs w Ak ck keys) (hF : Rd vv w Af cf hf) (rF : RelD deS w hf fr) (h3 : ∀ x ∈ fr, x ≠ PS.nil)
    (lO : Lt (blk Ao) w.heap.size) (lK : Lt (blk Ak) w.heap.size) (lF : Lt (blk Af) w.heap.size) :
    RelD deS w [(ovP g, FS g Ao Ak Af ho hf)] [PS.mk g order own fr deep empty] ∧ ∀ q, Dj (some g) q → Dj (blk Ao) q → Dj (blk Ak) q → Dj (blk Af) q → DnD deV ho own q → DnD deS hf fr q → DnD deS [(ovP g, FS g Ao Ak Af ho hf)] [PS.mk g order own fr deep empty] q := by
  subst h2
  have at1 : ∀ h ∈ ho, ∃ i x, ho[i]? = some h ∧ own[i]? = some x := fun h hh => by
    obtain ⟨i, hi, rfl⟩ := List.getElem_of_mem hh
    exact ⟨i, _, List.getElem?_eq_getElem hi, List.getElem?_eq_getElem (by rw [← rO.1]; exact hi)⟩
  have at2 : ∀ h ∈ hf, ∃ i x, hf[i]? = some h ∧ fr[i]? = some x := fun h hh => by
    obtain ⟨i, hi, rfl⟩ := List.getElem_of_mem hh
    exact ⟨i, _, List.getElem?_eq_getElem hi, List.getElem?_eq_getElem (by rw [← rF.1]; exact hi)⟩
  obtain ⟨n, hn⟩ := SRn.all (F := FS g Ao Ak Af ho hf) rF.1 (fun i h x hh hx => by
    obtain ⟨⟨n, k⟩, _⟩ := rF.2 i h x hh hx
    exact ⟨n, k.mono fun q hq => .inr (.inr (.inr (.inr (.inr ⟨h, List.mem_of_getElem? hh, hq⟩))))⟩)
  refine ⟨RelD.cons ⟨⟨n + 1, rfl, .inl rfl, Ao, co, Ak, ck, Af, cf, ho, hf, by rw [List.length_map] at hB; exact hB, hO, rO.1, fun q hq => .inr (.inl hq), fun i h x hh hx => ?_, hK, fun q hq => .inr (.inr (.inl hq)), hF, rF.1, fun q hq => .inr (.inr (.inr (.inl hq))), fun i h x hh hx => ⟨h3 x (List.mem_of_getElem? hx), hn i h x hh hx⟩⟩, fun q hq => ?_⟩ RelD.nil, fun q d1 d2 d3 d4 d5 d6 => DnD.cons (fun q' e hq => ?_) DnD.nil⟩
  · obtain ⟨z, rfl⟩ := h1 x (List.mem_of_getElem? hx)
    exact ⟨z, rfl, AI.mono (rO.2 i h _ hh hx).1 fun q hq => .inr (.inr (.inr (.inr (.inl ⟨h, List.mem_of_getElem? hh, hq⟩))))⟩
  · rcases hq with rfl | hq | hq | hq | ⟨h, hh, hq⟩ | ⟨h, hh, hq⟩
    · exact hB.lt
    · exact lO q hq
    · exact lK q hq
    · exact lF q hq
    · obtain ⟨i, x, a, b⟩ := at1 h hh; exact (rO.2 i h x a b).2 q hq
    · obtain ⟨i, x, a, b⟩ := at2 h hh; exact (rF.2 i h x a b).2 q hq
  · subst e
    rcases hq with rfl | hq | hq | hq | ⟨h, hh, hq⟩ | ⟨h, hh, hq⟩
    · exact d1 _ rfl rfl
    · exact d2 _ hq rfl
    · exact d3 _ hq rfl
    · exact d4 _ hq rfl
    · obtain ⟨i, x, a, b⟩ := at1 h hh; exact d5 i h x a b _ rfl hq
    · obtain ⟨i, x, a, b⟩ := at2 h hh; exact d6 i h x a b _ rfl hq
end Go.Proofs.YtofenpiiihhigaaDoor


 /- Sets of sets, plainly: who is reached, what is told, in which order. -/
namespace Go.Proofs.YtofenpiiihhigaaDoor
open Go Go.RowKit
/-- how deep a set stands, at most -/
def dep : Nat → PS → Prop
  | _, .nil => True
  | 0, .mk .. => False
  | n + 1, .mk _ _ _ fr _ _ => ∀ f ∈ fr, dep n f
/-- what has been told: which sets, which keys, which items -/
structure TS where
  sets : List Nat
  keys : List (List UInt8)
  out : List PV
def ownT : List PV → TS → TS
  | [], t => t
  | v :: l, t => ownT l (if keyP v ∈ t.keys then t else { t with keys := t.keys ++ [keyP v], out := t.out ++ [v] })
def tellN : Nat → Int → PS → TS → TS
  | 0, _, _, t => t
  | n + 1, o, s, t => if s.id ∈ t.sets then t else
    let t1 : TS := { t with sets := t.sets ++ [s.id] }
    let t2 := if o = 1 then ownT s.own t1 else t1
    let t3 := (if o = 3 then s.fr.reverse else s.fr).foldl (fun t f => tellN n o f t) t2
    if o = 1 then t3 else ownT (if o = 3 then s.own.reverse else s.own) t3
def ts0 : TS := ⟨[], [], []⟩
def allN (n : Nat) (s : PS) : List PV := if s.order = 3 then (tellN n s.order s ts0).out.reverse else (tellN n s.order s ts0).out
/-- l: some of those that s is made of, each once -/
structure Some' (s : PS) (l : List PS) : Prop where
  nd : (l.map PS.id).Nodup
  re : ∀ x ∈ l, Reach s x
/-- l: all of them -/
structure SetsOf (s : PS) (l : List PS) : Prop extends Some' s l where
  top : s ∈ l
  cl : ∀ x ∈ l, ∀ f ∈ x.fr, ∃ y ∈ l, y.id = f.id
/-- items, each once -/
def dedP : List PV → List PV
  | l => (ownT l ts0).out
def M_pdeps_Set_All (s : PS) (K : List PV → Er → Prop) : Prop := s ≠ .nil ∧ ∀ n, dep n s → (tellN n s.order s ts0).sets.length ≤ 100000 ∧ (tellN n s.order s ts0).out.length ≤ 1024 ∧ K (allN n s) .ok
def M_pdeps_Set_sets (s : PS) (K : List PS → Prop) : Prop := s ≠ .nil ∧ (∀ l, Some' s l → l.length ≤ 100000) ∧ ∀ l, SetsOf s l → K l
def M_smithylaw13_small (n : Int) (K : PV → Prop) : Prop := (-9223372036854775808 ≤ n ∧ n ≤ 9223372036854775807) ∧ K (.int n)
def M_val_Tuple (l : List PV) (K : PV → Prop) : Prop := l.length ≤ 1000000 ∧ ∃ zs : List Int, l = zs.map .int ∧ K (.tup zs)
/-- numbers with commas between -/
def comT : List Int → List UInt8
  | [] => []
  | [z] => txt z
  | z :: y :: l => txt z ++ [44, 32] ++ comT (y :: l)
def tupT (l : List Int) : List UInt8 := [40] ++ comT l ++ (if l.length = 1 then [44, 41] else [41])
end Go.Proofs.YtofenpiiihhigaaDoor


 namespace Go.Proofs.YtofenpiiihhigaaDoor
open Go Go.RowKit
attribute [local irreducible] WL WC WX WQ WK Yld Eff Ef0 Fn
theorem conv_u64 (n : Int) (h1 : -9223372036854775808 ≤ n) (h2 : n ≤ 9223372036854775807) : IntKind.u64.wrap n = if n < 0 then n + 18446744073709551616 else n := by
  split
  · simp [IntKind.wrap, IntKind.bits, IntKind.signed]; omega
  · simp [IntKind.wrap, IntKind.bits, IntKind.signed]; omega
theorem of_fn' (n : Int) (w : World) (h1 : -9223372036854775808 ≤ n) (h2 : n ≤ 9223372036854775807) :
    Fn Tryd.prog 14 ⟨[.int .i64 n]⟩ w fun r w' => Nm w' r n 3 ∧ w.grownBy w' none ∧ Lies r (fun q => w.heap.size ≤ q ∧ q < w'.heap.size) := by
  refine Fn.enter (by kernel_rfl) Tryd.func14 rfl Tryd.ntmps14 rfl ?_
  repeat (first | refine WC.seq ?_ | refine WC.block ?_ | refine WC.region ?_ | refine WL.nil ?_ | refine WX.then_normal ?_ | refine WC.skip ?_ | refine WC.exit ?_ | refine WC.ret ?_ | refine WX.then_exit ?_ | refine WX.then_ret ?_ | refine WX.block_normal ?_ | refine WX.block_ret ?_ | refine WX.block_same ?_ | refine WX.block_other rfl ?_ | refine WC.label ?_ | refine WC.scope ?_ | refine WX.scope_normal ?_ | refine WX.scope_ret ?_ | refine WX.scope_exit ?_ | refine WL.y rfl (Yld.add rfl rfl (by simp only [In]; omega)) ?_ | refine WL.y rfl (Yld.sub rfl rfl (by simp only [In]; omega)) ?_ | refine WL.y rfl (Yld.mul rfl rfl (by simp only [In]; omega)) ?_ | refine WL.y rfl (Yld.convB tab_ok rfl rfl rfl rfl) ?_ | refine WL.y rfl (Yld.conv tab_ok rfl rfl rfl (by simp only [In]; omega)) ?_ | refine WL.y rfl (Yld.quo rfl rfl (by omega) (by omega) (by simp only [In]; omega)) ?_ | refine WL.y rfl (Yld.rem rfl rfl (by omega) (by omega)) ?_ | refine WL.y rfl (Yld.shl rfl rfl (by omega)) ?_ | refine WL.y rfl (Yld.shr rfl rfl (by omega)) ?_ | refine WL.y rfl (Yld.pure tab_ok rfl) ?_ | refine WL.y rfl (Yld.fld flds_ok rfl rfl rfl) ?_ | refine WL.y rfl (Yld.max2 rfl rfl) ?_ | refine WL.y rfl (Yld.min2 rfl rfl) ?_ | refine WL.y rfl (Yld.pickV rfl rfl rfl) ?_ | refine WL.gno rfl rfl rfl rfl ?_ | refine WL.gyes rfl rfl rfl rfl (Yld.add rfl rfl (by simp only [In]; omega)) ?_ | refine WL.gyes rfl rfl rfl rfl (Yld.sub rfl rfl (by simp only [In]; omega)) ?_ | refine WL.gyes rfl rfl rfl rfl (Yld.mul rfl rfl (by simp only [In]; omega)) ?_ | refine WL.gyes rfl rfl rfl rfl (Yld.convB tab_ok rfl rfl rfl rfl) ?_ | refine WL.gyes rfl rfl rfl rfl (Yld.conv tab_ok rfl rfl rfl (by simp only [In]; omega)) ?_ | refine WL.gyes rfl rfl rfl rfl (Yld.quo rfl rfl (by omega) (by omega) (by simp only [In]; omega)) ?_ | refine WL.gyes rfl rfl rfl rfl (Yld.rem rfl rfl (by omega) (by omega)) ?_ | refine WL.gyes rfl rfl rfl rfl (Yld.shl rfl rfl (by omega)) ?_ | refine WL.gyes rfl rfl rfl rfl (Yld.shr rfl rfl (by omega)) ?_ | refine WL.gyes rfl rfl rfl rfl (Yld.pure tab_ok rfl) ?_ | refine WL.gyes rfl rfl rfl rfl (Yld.fld flds_ok rfl rfl rfl) ?_ | refine WL.gyes rfl rfl rfl rfl (Yld.max2 rfl rfl) ?_ | refine WL.gyes rfl rfl rfl rfl (Yld.min2 rfl rfl) ?_ | refine WL.gyes rfl rfl rfl rfl (Yld.pickV rfl rfl rfl) ?_)
  refine WL.alloc rfl zero46 (fun g w1 hB1 hg1 hl1 => ?_)
  repeat (first | refine WC.seq ?_ | refine WC.block ?_ | refine WC.region ?_ | refine WL.nil ?_ | refine WX.then_normal ?_ | refine WC.skip ?_ | refine WC.exit ?_ | refine WC.ret ?_ | refine WX.then_exit ?_ | refine WX.then_ret ?_ | refine WX.block_normal ?_ | refine WX.block_ret ?_ | refine WX.block_same ?_ | refine WX.block_other rfl ?_ | refine WC.label ?_ | refine WC.scope ?_ | refine WX.scope_normal ?_ | refine WX.scope_ret ?_ | refine WX.scope_exit ?_ | refine WL.y rfl (Yld.add rfl rfl (by simp only [In]; omega)) ?_ | refine WL.y rfl (Yld.sub rfl rfl (by simp only [In]; omega)) ?_ | refine WL.y rfl (Yld.mul rfl rfl (by simp only [In]; omega)) ?_ | refine WL.y rfl (Yld.convB tab_ok rfl rfl rfl rfl) ?_ | refine WL.y rfl (Yld.conv tab_ok rfl rfl rfl (by simp only [In]; omega)) ?_ | refine WL.y rfl (Yld.quo rfl rfl (by omega) (by omega) (by simp only [In]; omega)) ?_ | refine WL.y rfl (Yld.rem rfl rfl (by omega) (by omega)) ?_ | refine WL.y rfl (Yld.shl rfl rfl (by omega)) ?_ | refine WL.y rfl (Yld.shr rfl rfl (by omega)) ?_ | refine WL.y rfl (Yld.pure tab_ok rfl) ?_ | refine WL.y rfl (Yld.fld flds_ok rfl rfl rfl) ?_ | refine WL.y rfl (Yld.max2 rfl rfl) ?_ | refine WL.y rfl (Yld.min2 rfl rfl) ?_ | refine WL.y rfl (Yld.pickV rfl rfl rfl) ?_ | refine WL.gno rfl rfl rfl rfl ?_ | refine WL.gyes rfl rfl rfl rfl (Yld.add rfl rfl (by simp only [In]; omega)) ?_ | refine WL.gyes rfl rfl rfl rfl (Yld.sub rfl rfl (by simp only [In]; omega)) ?_ | refine WL.gyes rfl rfl rfl rfl (Yld.mul rfl rfl (by simp only [In]; omega)) ?_ | refine WL.gyes rfl rfl rfl rfl (Yld.convB tab_ok rfl rfl rfl rfl) ?_ | refine WL.gyes rfl rfl rfl rfl (Yld.conv tab_ok rfl rfl rfl (by simp only [In]; omega)) ?_ | refine WL.gyes rfl rfl rfl rfl (Yld.quo rfl rfl (by omega) (by omega) (by simp only [In]; omega)) ?_ | refine WL.gyes rfl rfl rfl rfl (Yld.rem rfl rfl (by omega) (by omega)) ?_ | refine WL.gyes rfl rfl rfl rfl (Yld.shl rfl rfl (by omega)) ?_ | refine WL.gyes rfl rfl rfl rfl (Yld.shr rfl rfl (by omega)) ?_ | refine WL.gyes rfl rfl rfl rfl (Yld.pure tab_ok rfl) ?_ | refine WL.gyes rfl rfl rfl rfl (Yld.fld flds_ok rfl rfl rfl) ?_ | refine WL.gyes rfl rfl rfl rfl (Yld.max2 rfl rfl) ?_ | refine WL.gyes rfl rfl rfl rfl (Yld.min2 rfl rfl) ?_ | refine WL.gyes rfl rfl rfl rfl (Yld.pickV rfl rfl rfl) ?_)
  refine WC.merge [(3, .int .u64 ((n.natAbs : Nat) : Int)), (0, .int .i64 n), (2, .pointer (some ⟨g, 0, none⟩))] rfl (fun h Q' hQ => ?_) (fun h Q' hQ => ?_) ?_
  · simp only [decide_eq_true_eq] at h
    have hc := conv_u64 n h1 h2
    rw [if_pos h] at hc
    repeat (first | refine WC.seq ?_ | refine WC.block ?_ | refine WC.region ?_ | refine WL.nil ?_ | refine WX.then_normal ?_ | refine WC.skip ?_ | refine WC.exit ?_ | refine WC.ret ?_ | refine WX.then_exit ?_ | refine WX.then_ret ?_ | refine WX.block_normal ?_ | refine WX.block_ret ?_ | refine WX.block_same ?_ | refine WX.block_other rfl ?_ | refine WC.label ?_ | refine WC.scope ?_ | refine WX.scope_normal ?_ | refine WX.scope_ret ?_ | refine WX.scope_exit ?_ | refine WL.y rfl (Yld.add rfl rfl (by simp only [In]; omega)) ?_ | refine WL.y rfl (Yld.sub rfl rfl (by simp only [In]; omega)) ?_ | refine WL.y rfl (Yld.mul rfl rfl (by simp only [In]; omega)) ?_ | refine WL.y rfl (Yld.convB tab_ok rfl rfl rfl rfl) ?_ | refine WL.y rfl (Yld.conv tab_ok rfl rfl rfl (by simp only [In]; omega)) ?_ | refine WL.y rfl (Yld.quo rfl rfl (by omega) (by omega) (by simp only [In]; omega)) ?_ | refine WL.y rfl (Yld.rem rfl rfl (by omega) (by omega)) ?_ | refine WL.y rfl (Yld.shl rfl rfl (by omega)) ?_ | refine WL.y rfl (Yld.shr rfl rfl (by omega)) ?_ | refine WL.y rfl (Yld.pure tab_ok rfl) ?_ | refine WL.y rfl (Yld.fld flds_ok rfl rfl rfl) ?_ | refine WL.y rfl (Yld.max2 rfl rfl) ?_ | refine WL.y rfl (Yld.min2 rfl rfl) ?_ | refine WL.y rfl (Yld.pickV rfl rfl rfl) ?_ | refine WL.gno rfl rfl rfl rfl ?_ | refine WL.gyes rfl rfl rfl rfl (Yld.add rfl rfl (by simp only [In]; omega)) ?_ | refine WL.gyes rfl rfl rfl rfl (Yld.sub rfl rfl (by simp only [In]; omega)) ?_ | refine WL.gyes rfl rfl rfl rfl (Yld.mul rfl rfl (by simp only [In]; omega)) ?_ | refine WL.gyes rfl rfl rfl rfl (Yld.convB tab_ok rfl rfl rfl rfl) ?_ | refine WL.gyes rfl rfl rfl rfl (Yld.conv tab_ok rfl rfl rfl (by simp only [In]; omega)) ?_ | refine WL.gyes rfl rfl rfl rfl (Yld.quo rfl rfl (by omega) (by omega) (by simp only [In]; omega)) ?_ | refine WL.gyes rfl rfl rfl rfl (Yld.rem rfl rfl (by omega) (by omega)) ?_ | refine WL.gyes rfl rfl rfl rfl (Yld.shl rfl rfl (by omega)) ?_ | refine WL.gyes rfl rfl rfl rfl (Yld.shr rfl rfl (by omega)) ?_ | refine WL.gyes rfl rfl rfl rfl (Yld.pure tab_ok rfl) ?_ | refine WL.gyes rfl rfl rfl rfl (Yld.fld flds_ok rfl rfl rfl) ?_ | refine WL.gyes rfl rfl rfl rfl (Yld.max2 rfl rfl) ?_ | refine WL.gyes rfl rfl rfl rfl (Yld.min2 rfl rfl) ?_ | refine WL.gyes rfl rfl rfl rfl (Yld.pickV rfl rfl rfl) ?_)
    rw [hc]
    have hc2 : IntKind.u64.wrap (0 - (n + 18446744073709551616)) = ((n.natAbs : Nat) : Int) := by
      simp [IntKind.wrap, IntKind.bits, IntKind.signed]; omega
    rw [hc2]
    exact WX.weaken (by repeat (first | exact Sub.nil | refine Sub.cons rfl ?_)) hQ
  · simp only [decide_eq_false_iff_not] at h
    have hc : IntKind.u64.wrap n = ((n.natAbs : Nat) : Int) := by rw [conv_u64 n h1 h2, if_neg h]; omega
    rw [hc]
    repeat (first | refine WC.seq ?_ | refine WC.block ?_ | refine WC.region ?_ | refine WL.nil ?_ | refine WX.then_normal ?_ | refine WC.skip ?_ | refine WC.exit ?_ | refine WC.ret ?_ | refine WX.then_exit ?_ | refine WX.then_ret ?_ | refine WX.block_normal ?_ | refine WX.block_ret ?_ | refine WX.block_same ?_ | refine WX.block_other rfl ?_ | refine WC.label ?_ | refine WC.scope ?_ | refine WX.scope_normal ?_ | refine WX.scope_ret ?_ | refine WX.scope_exit ?_ | refine WL.y rfl (Yld.add rfl rfl (by simp only [In]; omega)) ?_ | refine WL.y rfl (Yld.sub rfl rfl (by simp only [In]; omega)) ?_ | refine WL.y rfl (Yld.mul rfl rfl (by simp only [In]; omega)) ?_ | refine WL.y rfl (Yld.convB tab_ok rfl rfl rfl rfl) ?_ | refine WL.y rfl (Yld.conv tab_ok rfl rfl rfl (by simp only [In]; omega)) ?_ | refine WL.y rfl (Yld.quo rfl rfl (by omega) (by omega) (by simp only [In]; omega)) ?_ | refine WL.y rfl (Yld.rem rfl rfl (by omega) (by omega)) ?_ | refine WL.y rfl (Yld.shl rfl rfl (by omega)) ?_ | refine WL.y rfl (Yld.shr rfl rfl (by omega)) ?_ | refine WL.y rfl (Yld.pure tab_ok rfl) ?_ | refine WL.y rfl (Yld.fld flds_ok rfl rfl rfl) ?_ | refine WL.y rfl (Yld.max2 rfl rfl) ?_ | refine WL.y rfl (Yld.min2 rfl rfl) ?_ | refine WL.y rfl (Yld.pickV rfl rfl rfl) ?_ | refine WL.gno rfl rfl rfl rfl ?_ | refine WL.gyes rfl rfl rfl rfl (Yld.add rfl rfl (by simp only [In]; omega)) ?_ | refine WL.gyes rfl rfl rfl rfl (Yld.sub rfl rfl (by simp only [In]; omega)) ?_ | refine WL.gyes rfl rfl rfl rfl (Yld.mul rfl rfl (by simp only [In]; omega)) ?_ | refine WL.gyes rfl rfl rfl rfl (Yld.convB tab_ok rfl rfl rfl rfl) ?_ | refine WL.gyes rfl rfl rfl rfl (Yld.conv tab_ok rfl rfl rfl (by simp only [In]; omega)) ?_ | refine WL.gyes rfl rfl rfl rfl (Yld.quo rfl rfl (by omega) (by omega) (by simp only [In]; omega)) ?_ | refine WL.gyes rfl rfl rfl rfl (Yld.rem rfl rfl (by omega) (by omega)) ?_ | refine WL.gyes rfl rfl rfl rfl (Yld.shl rfl rfl (by omega)) ?_ | refine WL.gyes rfl rfl rfl rfl (Yld.shr rfl rfl (by omega)) ?_ | refine WL.gyes rfl rfl rfl rfl (Yld.pure tab_ok rfl) ?_ | refine WL.gyes rfl rfl rfl rfl (Yld.fld flds_ok rfl rfl rfl) ?_ | refine WL.gyes rfl rfl rfl rfl (Yld.max2 rfl rfl) ?_ | refine WL.gyes rfl rfl rfl rfl (Yld.min2 rfl rfl) ?_ | refine WL.gyes rfl rfl rfl rfl (Yld.pickV rfl rfl rfl) ?_)
    exact WX.weaken (by repeat (first | exact Sub.nil | refine Sub.cons rfl ?_)) hQ
  repeat (first | refine WC.seq ?_ | refine WC.block ?_ | refine WC.region ?_ | refine WL.nil ?_ | refine WX.then_normal ?_ | refine WC.skip ?_ | refine WC.exit ?_ | refine WC.ret ?_ | refine WX.then_exit ?_ | refine WX.then_ret ?_ | refine WX.block_normal ?_ | refine WX.block_ret ?_ | refine WX.block_same ?_ | refine WX.block_other rfl ?_ | refine WC.label ?_ | refine WC.scope ?_ | refine WX.scope_normal ?_ | refine WX.scope_ret ?_ | refine WX.scope_exit ?_ | refine WL.y rfl (Yld.add rfl rfl (by simp only [In]; omega)) ?_ | refine WL.y rfl (Yld.sub rfl rfl (by simp only [In]; omega)) ?_ | refine WL.y rfl (Yld.mul rfl rfl (by simp only [In]; omega)) ?_ | refine WL.y rfl (Yld.convB tab_ok rfl rfl rfl rfl) ?_ | refine WL.y rfl (Yld.conv tab_ok rfl rfl rfl (by simp only [In]; omega)) ?_ | refine WL.y rfl (Yld.quo rfl rfl (by omega) (by omega) (by simp only [In]; omega)) ?_ | refine WL.y rfl (Yld.rem rfl rfl (by omega) (by omega)) ?_ | refine WL.y rfl (Yld.shl rfl rfl (by omega)) ?_ | refine WL.y rfl (Yld.shr rfl rfl (by omega)) ?_ | refine WL.y rfl (Yld.pure tab_ok rfl) ?_ | refine WL.y rfl (Yld.fld flds_ok rfl rfl rfl) ?_ | refine WL.y rfl (Yld.max2 rfl rfl) ?_ | refine WL.y rfl (Yld.min2 rfl rfl) ?_ | refine WL.y rfl (Yld.pickV rfl rfl rfl) ?_ | refine WL.gno rfl rfl rfl rfl ?_ | refine WL.gyes rfl rfl rfl rfl (Yld.add rfl rfl (by simp only [In]; omega)) ?_ | refine WL.gyes rfl rfl rfl rfl (Yld.sub rfl rfl (by simp only [In]; omega)) ?_ | refine WL.gyes rfl rfl rfl rfl (Yld.mul rfl rfl (by simp only [In]; omega)) ?_ | refine WL.gyes rfl rfl rfl rfl (Yld.convB tab_ok rfl rfl rfl rfl) ?_ | refine WL.gyes rfl rfl rfl rfl (Yld.conv tab_ok rfl rfl rfl (by simp only [In]; omega)) ?_ | refine WL.gyes rfl rfl rfl rfl (Yld.quo rfl rfl (by omega) (by omega) (by simp only [In]; omega)) ?_ | refine WL.gyes rfl rfl rfl rfl (Yld.rem rfl rfl (by omega) (by omega)) ?_ | refine WL.gyes rfl rfl rfl rfl (Yld.shl rfl rfl (by omega)) ?_ | refine WL.gyes rfl rfl rfl rfl (Yld.shr rfl rfl (by omega)) ?_ | refine WL.gyes rfl rfl rfl rfl (Yld.pure tab_ok rfl) ?_ | refine WL.gyes rfl rfl rfl rfl (Yld.fld flds_ok rfl rfl rfl) ?_ | refine WL.gyes rfl rfl rfl rfl (Yld.max2 rfl rfl) ?_ | refine WL.gyes rfl rfl rfl rfl (Yld.min2 rfl rfl) ?_ | refine WL.gyes rfl rfl rfl rfl (Yld.pickV rfl rfl rfl) ?_)
  generalize hU : n.natAbs = U
  have hU1 : U ≤ 9223372036854775808 := by omega
  refine WC.loop4 (S1 := Nat) (S2 := List Nat) (S3 := Option Addr) (S4 := Nat) (fun u _ _ _ => u)
    (fun u l A c => [(3, .int .u64 (u : Int)), (4, .slice A l.length c), (0, .int .i64 n), (2, .pointer (some ⟨g, 0, none⟩))])
    (fun u l A c w2 => u ≤ 9223372036854775808 ∧ Dg l ∧ l.length ≤ 3 ∧ u < 1000000000 ^ (3 - l.length) ∧ val l + 1000000000 ^ l.length * u = U ∧ Own vd w2 w1.heap.size 91 A c l ∧ w1.grownBy w2 none) U [] none 0
    ⟨hU1, Dg.nil, by simp, by simp only [List.length_nil]; omega, by simp [val], Own.nil _ _ _ _, gr_refl _ _⟩ (by repeat (first | exact Sub.nil | refine Sub.cons rfl ?_)) (fun u l A c w2 ⟨hu, hD, hl, hp, hv, hO, hg2⟩ => ?_)
  repeat (first | refine WC.seq ?_ | refine WC.block ?_ | refine WC.region ?_ | refine WL.nil ?_ | refine WX.then_normal ?_ | refine WC.skip ?_ | refine WC.exit ?_ | refine WC.ret ?_ | refine WX.then_exit ?_ | refine WX.then_ret ?_ | refine WX.block_normal ?_ | refine WX.block_ret ?_ | refine WX.block_same ?_ | refine WX.block_other rfl ?_ | refine WC.label ?_ | refine WC.scope ?_ | refine WX.scope_normal ?_ | refine WX.scope_ret ?_ | refine WX.scope_exit ?_ | refine WL.y rfl (Yld.add rfl rfl (by simp only [In]; omega)) ?_ | refine WL.y rfl (Yld.sub rfl rfl (by simp only [In]; omega)) ?_ | refine WL.y rfl (Yld.mul rfl rfl (by simp only [In]; omega)) ?_ | refine WL.y rfl (Yld.convB tab_ok rfl rfl rfl rfl) ?_ | refine WL.y rfl (Yld.conv tab_ok rfl rfl rfl (by simp only [In]; omega)) ?_ | refine WL.y rfl (Yld.quo rfl rfl (by omega) (by omega) (by simp only [In]; omega)) ?_ | refine WL.y rfl (Yld.rem rfl rfl (by omega) (by omega)) ?_ | refine WL.y rfl (Yld.shl rfl rfl (by omega)) ?_ | refine WL.y rfl (Yld.shr rfl rfl (by omega)) ?_ | refine WL.y rfl (Yld.pure tab_ok rfl) ?_ | refine WL.y rfl (Yld.fld flds_ok rfl rfl rfl) ?_ | refine WL.y rfl (Yld.max2 rfl rfl) ?_ | refine WL.y rfl (Yld.min2 rfl rfl) ?_ | refine WL.y rfl (Yld.pickV rfl rfl rfl) ?_ | refine WL.gno rfl rfl rfl rfl ?_ | refine WL.gyes rfl rfl rfl rfl (Yld.add rfl rfl (by simp only [In]; omega)) ?_ | refine WL.gyes rfl rfl rfl rfl (Yld.sub rfl rfl (by simp only [In]; omega)) ?_ | refine WL.gyes rfl rfl rfl rfl (Yld.mul rfl rfl (by simp only [In]; omega)) ?_ | refine WL.gyes rfl rfl rfl rfl (Yld.convB tab_ok rfl rfl rfl rfl) ?_ | refine WL.gyes rfl rfl rfl rfl (Yld.conv tab_ok rfl rfl rfl (by simp only [In]; omega)) ?_ | refine WL.gyes rfl rfl rfl rfl (Yld.quo rfl rfl (by omega) (by omega) (by simp only [In]; omega)) ?_ | refine WL.gyes rfl rfl rfl rfl (Yld.rem rfl rfl (by omega) (by omega)) ?_ | refine WL.gyes rfl rfl rfl rfl (Yld.shl rfl rfl (by omega)) ?_ | refine WL.gyes rfl rfl rfl rfl (Yld.shr rfl rfl (by omega)) ?_ | refine WL.gyes rfl rfl rfl rfl (Yld.pure tab_ok rfl) ?_ | refine WL.gyes rfl rfl rfl rfl (Yld.fld flds_ok rfl rfl rfl) ?_ | refine WL.gyes rfl rfl rfl rfl (Yld.max2 rfl rfl) ?_ | refine WL.gyes rfl rfl rfl rfl (Yld.min2 rfl rfl) ?_ | refine WL.gyes rfl rfl rfl rfl (Yld.pickV rfl rfl rfl) ?_)
  refine WC.cond rfl (fun h => ?_) (fun h => ?_)
  · simp only [decide_eq_true_eq] at h
    have hl3 : l.length < 3 := by
      rcases Nat.lt_or_ge l.length 3 with h3 | h3
      · exact h3
      · rw [show 3 - l.length = 0 by omega] at hp; omega
    repeat (first | refine WC.seq ?_ | refine WC.block ?_ | refine WC.region ?_ | refine WL.nil ?_ | refine WX.then_normal ?_ | refine WC.skip ?_ | refine WC.exit ?_ | refine WC.ret ?_ | refine WX.then_exit ?_ | refine WX.then_ret ?_ | refine WX.block_normal ?_ | refine WX.block_ret ?_ | refine WX.block_same ?_ | refine WX.block_other rfl ?_ | refine WC.label ?_ | refine WC.scope ?_ | refine WX.scope_normal ?_ | refine WX.scope_ret ?_ | refine WX.scope_exit ?_ | refine WL.y rfl (Yld.add rfl rfl (by simp only [In]; omega)) ?_ | refine WL.y rfl (Yld.sub rfl rfl (by simp only [In]; omega)) ?_ | refine WL.y rfl (Yld.mul rfl rfl (by simp only [In]; omega)) ?_ | refine WL.y rfl (Yld.convB tab_ok rfl rfl rfl rfl) ?_ | refine WL.y rfl (Yld.conv tab_ok rfl rfl rfl (by simp only [In]; omega)) ?_ | refine WL.y rfl (Yld.quo rfl rfl (by omega) (by omega) (by simp only [In]; omega)) ?_ | refine WL.y rfl (Yld.rem rfl rfl (by omega) (by omega)) ?_ | refine WL.y rfl (Yld.shl rfl rfl (by omega)) ?_ | refine WL.y rfl (Yld.shr rfl rfl (by omega)) ?_ | refine WL.y rfl (Yld.pure tab_ok rfl) ?_ | refine WL.y rfl (Yld.fld flds_ok rfl rfl rfl) ?_ | refine WL.y rfl (Yld.max2 rfl rfl) ?_ | refine WL.y rfl (Yld.min2 rfl rfl) ?_ | refine WL.y rfl (Yld.pickV rfl rfl rfl) ?_ | refine WL.gno rfl rfl rfl rfl ?_ | refine WL.gyes rfl rfl rfl rfl (Yld.add rfl rfl (by simp only [In]; omega)) ?_ | refine WL.gyes rfl rfl rfl rfl (Yld.sub rfl rfl (by simp only [In]; omega)) ?_ | refine WL.gyes rfl rfl rfl rfl (Yld.mul rfl rfl (by simp only [In]; omega)) ?_ | refine WL.gyes rfl rfl rfl rfl (Yld.convB tab_ok rfl rfl rfl rfl) ?_ | refine WL.gyes rfl rfl rfl rfl (Yld.conv tab_ok rfl rfl rfl (by simp only [In]; omega)) ?_ | refine WL.gyes rfl rfl rfl rfl (Yld.quo rfl rfl (by omega) (by omega) (by simp only [In]; omega)) ?_ | refine WL.gyes rfl rfl rfl rfl (Yld.rem rfl rfl (by omega) (by omega)) ?_ | refine WL.gyes rfl rfl rfl rfl (Yld.shl rfl rfl (by omega)) ?_ | refine WL.gyes rfl rfl rfl rfl (Yld.shr rfl rfl (by omega)) ?_ | refine WL.gyes rfl rfl rfl rfl (Yld.pure tab_ok rfl) ?_ | refine WL.gyes rfl rfl rfl rfl (Yld.fld flds_ok rfl rfl rfl) ?_ | refine WL.gyes rfl rfl rfl rfl (Yld.max2 rfl rfl) ?_ | refine WL.gyes rfl rfl rfl rfl (Yld.min2 rfl rfl) ?_ | refine WL.gyes rfl rfl rfl rfl (Yld.pickV rfl rfl rfl) ?_)
    have hd : (u : Int) % 1000000000 = ((u % 1000000000 : Nat) : Int) := by omega
    have hq : (u : Int) / 1000000000 = ((u / 1000000000 : Nat) : Int) := by omega
    rw [hd]
    refine WL.lit (us := [vd (u % 1000000000)]) tab_ok rfl rfl rfl (by intro u hu; rw [List.mem_singleton] at hu; rw [hu]; rfl) rfl (by omega) (fun g3 w3 hL3 hg3 hl3 => ?_)
    have hR3 : Rd vd w3 (some ⟨g3, 0, none⟩) 1 [u % 1000000000] := Rd.ofBl' hL3 (by simp) (by simp [maxLen])
    have hO3 := hO.grown hg3
    have hz2 := hg2.size
    have hz3 := hg3.size
    refine WL.append tab_ok rfl rfl One.d hO3 rfl rfl hR3 rfl rfl (by simp only [List.length_cons, List.length_nil]; omega) (by simp only [maxLen, List.length_cons, List.length_nil]; omega) (by omega) (fun A4 c4 w4 hO4 hg4 hf4 => ?_)
    repeat (first | refine WC.seq ?_ | refine WC.block ?_ | refine WC.region ?_ | refine WL.nil ?_ | refine WX.then_normal ?_ | refine WC.skip ?_ | refine WC.exit ?_ | refine WC.ret ?_ | refine WX.then_exit ?_ | refine WX.then_ret ?_ | refine WX.block_normal ?_ | refine WX.block_ret ?_ | refine WX.block_same ?_ | refine WX.block_other rfl ?_ | refine WC.label ?_ | refine WC.scope ?_ | refine WX.scope_normal ?_ | refine WX.scope_ret ?_ | refine WX.scope_exit ?_ | refine WL.y rfl (Yld.add rfl rfl (by simp only [In]; omega)) ?_ | refine WL.y rfl (Yld.sub rfl rfl (by simp only [In]; omega)) ?_ | refine WL.y rfl (Yld.mul rfl rfl (by simp only [In]; omega)) ?_ | refine WL.y rfl (Yld.convB tab_ok rfl rfl rfl rfl) ?_ | refine WL.y rfl (Yld.conv tab_ok rfl rfl rfl (by simp only [In]; omega)) ?_ | refine WL.y rfl (Yld.quo rfl rfl (by omega) (by omega) (by simp only [In]; omega)) ?_ | refine WL.y rfl (Yld.rem rfl rfl (by omega) (by omega)) ?_ | refine WL.y rfl (Yld.shl rfl rfl (by omega)) ?_ | refine WL.y rfl (Yld.shr rfl rfl (by omega)) ?_ | refine WL.y rfl (Yld.pure tab_ok rfl) ?_ | refine WL.y rfl (Yld.fld flds_ok rfl rfl rfl) ?_ | refine WL.y rfl (Yld.max2 rfl rfl) ?_ | refine WL.y rfl (Yld.min2 rfl rfl) ?_ | refine WL.y rfl (Yld.pickV rfl rfl rfl) ?_ | refine WL.gno rfl rfl rfl rfl ?_ | refine WL.gyes rfl rfl rfl rfl (Yld.add rfl rfl (by simp only [In]; omega)) ?_ | refine WL.gyes rfl rfl rfl rfl (Yld.sub rfl rfl (by simp only [In]; omega)) ?_ | refine WL.gyes rfl rfl rfl rfl (Yld.mul rfl rfl (by simp only [In]; omega)) ?_ | refine WL.gyes rfl rfl rfl rfl (Yld.convB tab_ok rfl rfl rfl rfl) ?_ | refine WL.gyes rfl rfl rfl rfl (Yld.conv tab_ok rfl rfl rfl (by simp only [In]; omega)) ?_ | refine WL.gyes rfl rfl rfl rfl (Yld.quo rfl rfl (by omega) (by omega) (by simp only [In]; omega)) ?_ | refine WL.gyes rfl rfl rfl rfl (Yld.rem rfl rfl (by omega) (by omega)) ?_ | refine WL.gyes rfl rfl rfl rfl (Yld.shl rfl rfl (by omega)) ?_ | refine WL.gyes rfl rfl rfl rfl (Yld.shr rfl rfl (by omega)) ?_ | refine WL.gyes rfl rfl rfl rfl (Yld.pure tab_ok rfl) ?_ | refine WL.gyes rfl rfl rfl rfl (Yld.fld flds_ok rfl rfl rfl) ?_ | refine WL.gyes rfl rfl rfl rfl (Yld.max2 rfl rfl) ?_ | refine WL.gyes rfl rfl rfl rfl (Yld.min2 rfl rfl) ?_ | refine WL.gyes rfl rfl rfl rfl (Yld.pickV rfl rfl rfl) ?_)
    rw [hq]
    refine WX.round4 (u / 1000000000) (l ++ [u % 1000000000]) A4 c4 ⟨by omega, hD.push (by omega), by simp; omega, ?_, ?_, hO4, gr_own (gr_trans hg2 hg3) hO3 hg4 (Nat.le_refl _)⟩ (by omega) (by repeat (first | exact Sub.nil | refine Sub.cons rfl ?_))
    · rw [show (l ++ [u % 1000000000]).length = l.length + 1 by simp]
      rw [show 3 - l.length = (3 - (l.length + 1)) + 1 by omega, Nat.pow_succ] at hp
      omega
    · rw [val_push, List.length_append, List.length_singleton, Nat.pow_succ]
      have : u = u % 1000000000 + 1000000000 * (u / 1000000000) := by omega
      generalize u % 1000000000 = a at *
      generalize u / 1000000000 = b at *
      subst this
      grind
  · simp only [decide_eq_false_iff_not] at h
    obtain rfl : u = 0 := by omega
    have hB2 := hB1.keep hg2 (by simp)
    repeat (first | refine WC.seq ?_ | refine WC.block ?_ | refine WC.region ?_ | refine WL.nil ?_ | refine WX.then_normal ?_ | refine WC.skip ?_ | refine WC.exit ?_ | refine WC.ret ?_ | refine WX.then_exit ?_ | refine WX.then_ret ?_ | refine WX.block_normal ?_ | refine WX.block_ret ?_ | refine WX.block_same ?_ | refine WX.block_other rfl ?_ | refine WC.label ?_ | refine WC.scope ?_ | refine WX.scope_normal ?_ | refine WX.scope_ret ?_ | refine WX.scope_exit ?_ | refine WL.y rfl (Yld.add rfl rfl (by simp only [In]; omega)) ?_ | refine WL.y rfl (Yld.sub rfl rfl (by simp only [In]; omega)) ?_ | refine WL.y rfl (Yld.mul rfl rfl (by simp only [In]; omega)) ?_ | refine WL.y rfl (Yld.convB tab_ok rfl rfl rfl rfl) ?_ | refine WL.y rfl (Yld.conv tab_ok rfl rfl rfl (by simp only [In]; omega)) ?_ | refine WL.y rfl (Yld.quo rfl rfl (by omega) (by omega) (by simp only [In]; omega)) ?_ | refine WL.y rfl (Yld.rem rfl rfl (by omega) (by omega)) ?_ | refine WL.y rfl (Yld.shl rfl rfl (by omega)) ?_ | refine WL.y rfl (Yld.shr rfl rfl (by omega)) ?_ | refine WL.y rfl (Yld.pure tab_ok rfl) ?_ | refine WL.y rfl (Yld.fld flds_ok rfl rfl rfl) ?_ | refine WL.y rfl (Yld.max2 rfl rfl) ?_ | refine WL.y rfl (Yld.min2 rfl rfl) ?_ | refine WL.y rfl (Yld.pickV rfl rfl rfl) ?_ | refine WL.gno rfl rfl rfl rfl ?_ | refine WL.gyes rfl rfl rfl rfl (Yld.add rfl rfl (by simp only [In]; omega)) ?_ | refine WL.gyes rfl rfl rfl rfl (Yld.sub rfl rfl (by simp only [In]; omega)) ?_ | refine WL.gyes rfl rfl rfl rfl (Yld.mul rfl rfl (by simp only [In]; omega)) ?_ | refine WL.gyes rfl rfl rfl rfl (Yld.convB tab_ok rfl rfl rfl rfl) ?_ | refine WL.gyes rfl rfl rfl rfl (Yld.conv tab_ok rfl rfl rfl (by simp only [In]; omega)) ?_ | refine WL.gyes rfl rfl rfl rfl (Yld.quo rfl rfl (by omega) (by omega) (by simp only [In]; omega)) ?_ | refine WL.gyes rfl rfl rfl rfl (Yld.rem rfl rfl (by omega) (by omega)) ?_ | refine WL.gyes rfl rfl rfl rfl (Yld.shl rfl rfl (by omega)) ?_ | refine WL.gyes rfl rfl rfl rfl (Yld.shr rfl rfl (by omega)) ?_ | refine WL.gyes rfl rfl rfl rfl (Yld.pure tab_ok rfl) ?_ | refine WL.gyes rfl rfl rfl rfl (Yld.fld flds_ok rfl rfl rfl) ?_ | refine WL.gyes rfl rfl rfl rfl (Yld.max2 rfl rfl) ?_ | refine WL.gyes rfl rfl rfl rfl (Yld.min2 rfl rfl) ?_ | refine WL.gyes rfl rfl rfl rfl (Yld.pickV rfl rfl rfl) ?_)
    refine WL.call rfl rfl (made_fn' (decide (n < 0)) A c l w2 hO.rd hD (by omega)) ?_
    rintro r w8 ⟨hN, hg8, hLs⟩
    have hB8 := hB2.keep hg8 (by simp)
    obtain ⟨a, b, rfl, ha, hb⟩ := hN.agg
    refine WL.storeW (vs := [a, b]) tab_ok rfl rfl rfl (by intro u hu; simp at hu; rcases hu with rfl | rfl <;> assumption) hB8 rfl rfl (fun w9 hB9 hg9 => ?_)
    repeat (first | refine WC.seq ?_ | refine WC.block ?_ | refine WC.region ?_ | refine WL.nil ?_ | refine WX.then_normal ?_ | refine WC.skip ?_ | refine WC.exit ?_ | refine WC.ret ?_ | refine WX.then_exit ?_ | refine WX.then_ret ?_ | refine WX.block_normal ?_ | refine WX.block_ret ?_ | refine WX.block_same ?_ | refine WX.block_other rfl ?_ | refine WC.label ?_ | refine WC.scope ?_ | refine WX.scope_normal ?_ | refine WX.scope_ret ?_ | refine WX.scope_exit ?_ | refine WL.y rfl (Yld.add rfl rfl (by simp only [In]; omega)) ?_ | refine WL.y rfl (Yld.sub rfl rfl (by simp only [In]; omega)) ?_ | refine WL.y rfl (Yld.mul rfl rfl (by simp only [In]; omega)) ?_ | refine WL.y rfl (Yld.convB tab_ok rfl rfl rfl rfl) ?_ | refine WL.y rfl (Yld.conv tab_ok rfl rfl rfl (by simp only [In]; omega)) ?_ | refine WL.y rfl (Yld.quo rfl rfl (by omega) (by omega) (by simp only [In]; omega)) ?_ | refine WL.y rfl (Yld.rem rfl rfl (by omega) (by omega)) ?_ | refine WL.y rfl (Yld.shl rfl rfl (by omega)) ?_ | refine WL.y rfl (Yld.shr rfl rfl (by omega)) ?_ | refine WL.y rfl (Yld.pure tab_ok rfl) ?_ | refine WL.y rfl (Yld.fld flds_ok rfl rfl rfl) ?_ | refine WL.y rfl (Yld.max2 rfl rfl) ?_ | refine WL.y rfl (Yld.min2 rfl rfl) ?_ | refine WL.y rfl (Yld.pickV rfl rfl rfl) ?_ | refine WL.gno rfl rfl rfl rfl ?_ | refine WL.gyes rfl rfl rfl rfl (Yld.add rfl rfl (by simp only [In]; omega)) ?_ | refine WL.gyes rfl rfl rfl rfl (Yld.sub rfl rfl (by simp only [In]; omega)) ?_ | refine WL.gyes rfl rfl rfl rfl (Yld.mul rfl rfl (by simp only [In]; omega)) ?_ | refine WL.gyes rfl rfl rfl rfl (Yld.convB tab_ok rfl rfl rfl rfl) ?_ | refine WL.gyes rfl rfl rfl rfl (Yld.conv tab_ok rfl rfl rfl (by simp only [In]; omega)) ?_ | refine WL.gyes rfl rfl rfl rfl (Yld.quo rfl rfl (by omega) (by omega) (by simp only [In]; omega)) ?_ | refine WL.gyes rfl rfl rfl rfl (Yld.rem rfl rfl (by omega) (by omega)) ?_ | refine WL.gyes rfl rfl rfl rfl (Yld.shl rfl rfl (by omega)) ?_ | refine WL.gyes rfl rfl rfl rfl (Yld.shr rfl rfl (by omega)) ?_ | refine WL.gyes rfl rfl rfl rfl (Yld.pure tab_ok rfl) ?_ | refine WL.gyes rfl rfl rfl rfl (Yld.fld flds_ok rfl rfl rfl) ?_ | refine WL.gyes rfl rfl rfl rfl (Yld.max2 rfl rfl) ?_ | refine WL.gyes rfl rfl rfl rfl (Yld.min2 rfl rfl) ?_ | refine WL.gyes rfl rfl rfl rfl (Yld.pickV rfl rfl rfl) ?_)
    have hz : (bif decide (n < 0) then -(val l : Int) else (val l : Int)) = n := by
      rcases Int.lt_or_le n 0 with h | h
      · simp [h]; omega
      · simp [Int.not_lt.mpr h]; omega
    rw [hz] at hN
    exact WX.retc tab_ok rfl rfl rfl hB9 rfl ⟨(hN.stored hB8 zero_no hg9).mono hl, gr_new (gr_trans (gr_trans hg1 hg2) hg8) hg9 hl1, fun _ _ _ _ e q hq => ⟨Nat.le_trans hg1.size (hO.lt (hLs _ _ _ _ e q hq)).1, Nat.lt_of_lt_of_le (hO.lt (hLs _ _ _ _ e q hq)).2 (Nat.le_trans hg8.size hg9.size)⟩⟩
theorem of_fn (n : Int) (w : World) (h1 : -9223372036854775808 ≤ n) (h2 : n ≤ 9223372036854775807) :
    Fn Tryd.prog 14 ⟨[.int .i64 n]⟩ w fun r w' => Nm w' r n 3 ∧ w.grownBy w' none := (of_fn' n w h1 h2).mono fun _ _ h => ⟨h.1, h.2.1⟩
end Go.Proofs.YtofenpiiihhigaaDoor

 namespace Go.Proofs.YtofenpiiihhigaaDoor
open Go Go.RowKit
attribute [local irreducible] WL WC WX WQ WK WJ Yld Eff Ef0 Fn
theorem getD_set_eqB (l : List UInt8) (j : Nat) (d : UInt8) (h : j < l.length) : (l.set j d).getD j 0 = d := by simp [List.getD, h]
theorem getD_set_neB (l : List UInt8) (j i : Nat) (d : UInt8) (h : j ≠ i) : (l.set j d).getD i 0 = l.getD i 0 := by simp [List.getD, List.getElem?_set_ne h]
theorem gr_row {a b c : World} {row : Option Nat} (h : a.grownBy b row) (k : b.grownBy c row) : a.grownBy c row := gr_trans h k
theorem rev_end (xs ys : List UInt8) (i : Nat) (hl : ys.length = xs.length) (hi : xs.length ≤ 2 * i + 1) (h : ∀ t, t < xs.length → ys.getD t 0 = if t < i ∨ xs.length - i ≤ t then xs.getD (xs.length - 1 - t) 0 else xs.getD t 0) : ys = xs.reverse := by
  apply List.ext_getElem
  · simp [hl]
  · intro t h1 h2
    have h3 : t < xs.length := by omega
    have e := h t h3
    rw [List.getElem_reverse]
    have e1 : ys.getD t 0 = ys[t] := by simp [List.getD, h1]
    have e2 : xs.getD (xs.length - 1 - t) 0 = xs[xs.length - 1 - t] := by simp [List.getD, (by omega : xs.length - 1 - t < xs.length)]
    rw [← e1, ← e2, e]
    split
    · rfl
    · congr 1; omega
set_option maxHeartbeats 1000000 in
theorem reverse_fn (A : Option Addr) (c B : Nat) (xs : List UInt8) (w : World) (hO : Own vb w B 5 A c xs) : Fn Tryd.prog 38 ⟨[.slice A xs.length c]⟩ w fun v w' => v = .tuple #[] ∧ Own vb w' B 5 A c xs.reverse ∧ w.grownBy w' (blk A) := by
  have hlen := hO.len
  simp only [maxLen] at hlen
  refine Fn.enter (by kernel_rfl) Tryd.func38 rfl Tryd.ntmps38 rfl ?_
  repeat (first | refine WC.seq ?_ | refine WC.block ?_ | refine WC.region ?_ | refine WL.nil ?_ | refine WX.then_normal ?_ | refine WC.skip ?_ | refine WC.exit ?_ | refine WC.ret ?_ | refine WX.then_exit ?_ | refine WX.then_ret ?_ | refine WX.block_normal ?_ | refine WX.block_ret ?_ | refine WX.block_same ?_ | refine WX.block_other rfl ?_ | refine WC.label ?_ | refine WC.scope ?_ | refine WX.scope_normal ?_ | refine WX.scope_ret ?_ | refine WX.scope_exit ?_ | refine WL.y rfl (Yld.add rfl rfl (by simp only [In]; omega)) ?_ | refine WL.y rfl (Yld.sub rfl rfl (by simp only [In]; omega)) ?_ | refine WL.y rfl (Yld.mul rfl rfl (by simp only [In]; omega)) ?_ | refine WL.y rfl (Yld.convB tab_ok rfl rfl rfl rfl) ?_ | refine WL.y rfl (Yld.conv tab_ok rfl rfl rfl (by simp only [In]; omega)) ?_ | refine WL.y rfl (Yld.quo rfl rfl (by omega) (by omega) (by simp only [In]; omega)) ?_ | refine WL.y rfl (Yld.rem rfl rfl (by omega) (by omega)) ?_ | refine WL.y rfl (Yld.shl rfl rfl (by omega)) ?_ | refine WL.y rfl (Yld.shr rfl rfl (by omega)) ?_ | refine WL.y rfl (Yld.pure tab_ok rfl) ?_ | refine WL.y rfl (Yld.fld flds_ok rfl rfl rfl) ?_ | refine WL.y rfl (Yld.max2 rfl rfl) ?_ | refine WL.y rfl (Yld.min2 rfl rfl) ?_ | refine WL.y rfl (Yld.pickV rfl rfl rfl) ?_ | refine WL.gno rfl rfl rfl rfl ?_ | refine WL.gyes rfl rfl rfl rfl (Yld.add rfl rfl (by simp only [In]; omega)) ?_ | refine WL.gyes rfl rfl rfl rfl (Yld.sub rfl rfl (by simp only [In]; omega)) ?_ | refine WL.gyes rfl rfl rfl rfl (Yld.mul rfl rfl (by simp only [In]; omega)) ?_ | refine WL.gyes rfl rfl rfl rfl (Yld.convB tab_ok rfl rfl rfl rfl) ?_ | refine WL.gyes rfl rfl rfl rfl (Yld.conv tab_ok rfl rfl rfl (by simp only [In]; omega)) ?_ | refine WL.gyes rfl rfl rfl rfl (Yld.quo rfl rfl (by omega) (by omega) (by simp only [In]; omega)) ?_ | refine WL.gyes rfl rfl rfl rfl (Yld.rem rfl rfl (by omega) (by omega)) ?_ | refine WL.gyes rfl rfl rfl rfl (Yld.shl rfl rfl (by omega)) ?_ | refine WL.gyes rfl rfl rfl rfl (Yld.shr rfl rfl (by omega)) ?_ | refine WL.gyes rfl rfl rfl rfl (Yld.pure tab_ok rfl) ?_ | refine WL.gyes rfl rfl rfl rfl (Yld.fld flds_ok rfl rfl rfl) ?_ | refine WL.gyes rfl rfl rfl rfl (Yld.max2 rfl rfl) ?_ | refine WL.gyes rfl rfl rfl rfl (Yld.min2 rfl rfl) ?_ | refine WL.gyes rfl rfl rfl rfl (Yld.pickV rfl rfl rfl) ?_)
  refine WC.loop2 (S1 := Nat) (S2 := List UInt8) (fun i _ => xs.length - i) (fun i _ => [(2, vi i), (3, .int .i64 ((xs.length : Int) - 1 - (i : Int))), (0, .slice A xs.length c)])
    (fun i ys w2 => ys.length = xs.length ∧ 2 * i ≤ xs.length + 1 ∧ (∀ t, t < xs.length → ys.getD t 0 = if t < i ∨ xs.length - i ≤ t then xs.getD (xs.length - 1 - t) 0 else xs.getD t 0) ∧ Own vb w2 B 5 A c ys ∧ w.grownBy w2 (blk A))
    0 xs ⟨rfl, by omega, fun t ht => by rw [if_neg (by omega)], hO, gr_refl _ _⟩ (by rw [show (xs.length : Int) - 1 - ((0 : Nat) : Int) = (xs.length : Int) - 1 by omega]; repeat (first | exact Sub.nil | refine Sub.cons rfl ?_)) (fun i ys w2 ⟨hyl, hi, hy, hO2, hg2⟩ => ?_)
  repeat (first | refine WC.seq ?_ | refine WC.block ?_ | refine WC.region ?_ | refine WL.nil ?_ | refine WX.then_normal ?_ | refine WC.skip ?_ | refine WC.exit ?_ | refine WC.ret ?_ | refine WX.then_exit ?_ | refine WX.then_ret ?_ | refine WX.block_normal ?_ | refine WX.block_ret ?_ | refine WX.block_same ?_ | refine WX.block_other rfl ?_ | refine WC.label ?_ | refine WC.scope ?_ | refine WX.scope_normal ?_ | refine WX.scope_ret ?_ | refine WX.scope_exit ?_ | refine WL.y rfl (Yld.add rfl rfl (by simp only [In]; omega)) ?_ | refine WL.y rfl (Yld.sub rfl rfl (by simp only [In]; omega)) ?_ | refine WL.y rfl (Yld.mul rfl rfl (by simp only [In]; omega)) ?_ | refine WL.y rfl (Yld.convB tab_ok rfl rfl rfl rfl) ?_ | refine WL.y rfl (Yld.conv tab_ok rfl rfl rfl (by simp only [In]; omega)) ?_ | refine WL.y rfl (Yld.quo rfl rfl (by omega) (by omega) (by simp only [In]; omega)) ?_ | refine WL.y rfl (Yld.rem rfl rfl (by omega) (by omega)) ?_ | refine WL.y rfl (Yld.shl rfl rfl (by omega)) ?_ | refine WL.y rfl (Yld.shr rfl rfl (by omega)) ?_ | refine WL.y rfl (Yld.pure tab_ok rfl) ?_ | refine WL.y rfl (Yld.fld flds_ok rfl rfl rfl) ?_ | refine WL.y rfl (Yld.max2 rfl rfl) ?_ | refine WL.y rfl (Yld.min2 rfl rfl) ?_ | refine WL.y rfl (Yld.pickV rfl rfl rfl) ?_ | refine WL.gno rfl rfl rfl rfl ?_ | refine WL.gyes rfl rfl rfl rfl (Yld.add rfl rfl (by simp only [In]; omega)) ?_ | refine WL.gyes rfl rfl rfl rfl (Yld.sub rfl rfl (by simp only [In]; omega)) ?_ | refine WL.gyes rfl rfl rfl rfl (Yld.mul rfl rfl (by simp only [In]; omega)) ?_ | refine WL.gyes rfl rfl rfl rfl (Yld.convB tab_ok rfl rfl rfl rfl) ?_ | refine WL.gyes rfl rfl rfl rfl (Yld.conv tab_ok rfl rfl rfl (by simp only [In]; omega)) ?_ | refine WL.gyes rfl rfl rfl rfl (Yld.quo rfl rfl (by omega) (by omega) (by simp only [In]; omega)) ?_ | refine WL.gyes rfl rfl rfl rfl (Yld.rem rfl rfl (by omega) (by omega)) ?_ | refine WL.gyes rfl rfl rfl rfl (Yld.shl rfl rfl (by omega)) ?_ | refine WL.gyes rfl rfl rfl rfl (Yld.shr rfl rfl (by omega)) ?_ | refine WL.gyes rfl rfl rfl rfl (Yld.pure tab_ok rfl) ?_ | refine WL.gyes rfl rfl rfl rfl (Yld.fld flds_ok rfl rfl rfl) ?_ | refine WL.gyes rfl rfl rfl rfl (Yld.max2 rfl rfl) ?_ | refine WL.gyes rfl rfl rfl rfl (Yld.min2 rfl rfl) ?_ | refine WL.gyes rfl rfl rfl rfl (Yld.pickV rfl rfl rfl) ?_)
  refine WC.cond rfl (fun h => ?_) (fun h => ?_)
  · simp only [decide_eq_true_eq] at h
    have hR2 := hO2.rd
    have hjt : ((xs.length : Int) - 1 - (i : Int)).toNat = xs.length - 1 - i := by omega
    repeat (first | refine WC.seq ?_ | refine WC.block ?_ | refine WC.region ?_ | refine WL.nil ?_ | refine WX.then_normal ?_ | refine WC.skip ?_ | refine WC.exit ?_ | refine WC.ret ?_ | refine WX.then_exit ?_ | refine WX.then_ret ?_ | refine WX.block_normal ?_ | refine WX.block_ret ?_ | refine WX.block_same ?_ | refine WX.block_other rfl ?_ | refine WC.label ?_ | refine WC.scope ?_ | refine WX.scope_normal ?_ | refine WX.scope_ret ?_ | refine WX.scope_exit ?_ | refine WL.y rfl (Yld.add rfl rfl (by simp only [In]; omega)) ?_ | refine WL.y rfl (Yld.sub rfl rfl (by simp only [In]; omega)) ?_ | refine WL.y rfl (Yld.mul rfl rfl (by simp only [In]; omega)) ?_ | refine WL.y rfl (Yld.convB tab_ok rfl rfl rfl rfl) ?_ | refine WL.y rfl (Yld.conv tab_ok rfl rfl rfl (by simp only [In]; omega)) ?_ | refine WL.y rfl (Yld.quo rfl rfl (by omega) (by omega) (by simp only [In]; omega)) ?_ | refine WL.y rfl (Yld.rem rfl rfl (by omega) (by omega)) ?_ | refine WL.y rfl (Yld.shl rfl rfl (by omega)) ?_ | refine WL.y rfl (Yld.shr rfl rfl (by omega)) ?_ | refine WL.y rfl (Yld.pure tab_ok rfl) ?_ | refine WL.y rfl (Yld.fld flds_ok rfl rfl rfl) ?_ | refine WL.y rfl (Yld.max2 rfl rfl) ?_ | refine WL.y rfl (Yld.min2 rfl rfl) ?_ | refine WL.y rfl (Yld.pickV rfl rfl rfl) ?_ | refine WL.gno rfl rfl rfl rfl ?_ | refine WL.gyes rfl rfl rfl rfl (Yld.add rfl rfl (by simp only [In]; omega)) ?_ | refine WL.gyes rfl rfl rfl rfl (Yld.sub rfl rfl (by simp only [In]; omega)) ?_ | refine WL.gyes rfl rfl rfl rfl (Yld.mul rfl rfl (by simp only [In]; omega)) ?_ | refine WL.gyes rfl rfl rfl rfl (Yld.convB tab_ok rfl rfl rfl rfl) ?_ | refine WL.gyes rfl rfl rfl rfl (Yld.conv tab_ok rfl rfl rfl (by simp only [In]; omega)) ?_ | refine WL.gyes rfl rfl rfl rfl (Yld.quo rfl rfl (by omega) (by omega) (by simp only [In]; omega)) ?_ | refine WL.gyes rfl rfl rfl rfl (Yld.rem rfl rfl (by omega) (by omega)) ?_ | refine WL.gyes rfl rfl rfl rfl (Yld.shl rfl rfl (by omega)) ?_ | refine WL.gyes rfl rfl rfl rfl (Yld.shr rfl rfl (by omega)) ?_ | refine WL.gyes rfl rfl rfl rfl (Yld.pure tab_ok rfl) ?_ | refine WL.gyes rfl rfl rfl rfl (Yld.fld flds_ok rfl rfl rfl) ?_ | refine WL.gyes rfl rfl rfl rfl (Yld.max2 rfl rfl) ?_ | refine WL.gyes rfl rfl rfl rfl (Yld.min2 rfl rfl) ?_ | refine WL.gyes rfl rfl rfl rfl (Yld.pickV rfl rfl rfl) ?_)
    refine WC.chainJ (fun k => !(Nat.beq k 13 || Nat.beq k 15)) (LD [7, 11] (fun w' => Rd vb w' A c ys)) mixed (by kernel_rfl) (fun k w' e _ => rd_eqv e hR2) ?_
    have hyl3 : xs.length = (ys.set i (ys.getD (xs.length - 1 - i) 0)).length := by simp [hyl]
    repeat (first | refine WJ.y rfl rfl (fun _ _ => Yld.iaddrNW tab_ok hR2 rfl rfl hyl.symm rfl (by omega)) ?_ | refine WJ.y rfl rfl (fun _ _ => Yld.iaddrW tab_ok hR2 rfl rfl hyl.symm rfl (by omega) (by omega)) ?_ | refine WJ.y rfl rfl (fun w' h => Yld.iload 0 tab_ok (h rfl) rfl rfl (by omega)) ?_ | refine WJ.y rfl rfl (fun _ _ => Yld.add rfl rfl (by simp only [In]; omega)) ?_ | refine WJ.y rfl rfl (fun _ _ => Yld.sub rfl rfl (by simp only [In]; omega)) ?_ | refine WJ.y rfl rfl (fun _ _ => Yld.mul rfl rfl (by simp only [In]; omega)) ?_ | refine WJ.y rfl rfl (fun _ _ => Yld.convB tab_ok rfl rfl rfl rfl) ?_ | refine WJ.y rfl rfl (fun _ _ => Yld.conv tab_ok rfl rfl rfl (by simp only [In]; omega)) ?_ | refine WJ.y rfl rfl (fun _ _ => Yld.quo rfl rfl (by omega) (by omega) (by simp only [In]; omega)) ?_ | refine WJ.y rfl rfl (fun _ _ => Yld.rem rfl rfl (by omega) (by omega)) ?_ | refine WJ.y rfl rfl (fun _ _ => Yld.shl rfl rfl (by omega)) ?_ | refine WJ.y rfl rfl (fun _ _ => Yld.shr rfl rfl (by omega)) ?_ | refine WJ.y rfl rfl (fun _ _ => Yld.pure tab_ok rfl) ?_ | refine WJ.y rfl rfl (fun _ _ => Yld.fld flds_ok rfl rfl rfl) ?_ | refine WJ.y rfl rfl (fun _ _ => Yld.max2 rfl rfl) ?_ | refine WJ.y rfl rfl (fun _ _ => Yld.min2 rfl rfl) ?_ | refine WJ.y rfl rfl (fun _ _ => Yld.pickV rfl rfl rfl) ?_ | refine WJ.no rfl rfl rfl rfl ?_ | refine WJ.gun rfl rfl rfl rfl ?_ | refine WJ.yw rfl (wants_some rfl rfl rfl) rfl (fun _ _ => Yld.add rfl rfl (by simp only [In]; omega)) ?_ | refine WJ.yw rfl (wants_some rfl rfl rfl) rfl (fun _ _ => Yld.sub rfl rfl (by simp only [In]; omega)) ?_ | refine WJ.yw rfl (wants_some rfl rfl rfl) rfl (fun _ _ => Yld.mul rfl rfl (by simp only [In]; omega)) ?_ | refine WJ.yw rfl (wants_some rfl rfl rfl) rfl (fun _ _ => Yld.convB tab_ok rfl rfl rfl rfl) ?_ | refine WJ.yw rfl (wants_some rfl rfl rfl) rfl (fun _ _ => Yld.conv tab_ok rfl rfl rfl (by simp only [In]; omega)) ?_ | refine WJ.yw rfl (wants_some rfl rfl rfl) rfl (fun _ _ => Yld.quo rfl rfl (by omega) (by omega) (by simp only [In]; omega)) ?_ | refine WJ.yw rfl (wants_some rfl rfl rfl) rfl (fun _ _ => Yld.rem rfl rfl (by omega) (by omega)) ?_ | refine WJ.yw rfl (wants_some rfl rfl rfl) rfl (fun _ _ => Yld.shl rfl rfl (by omega)) ?_ | refine WJ.yw rfl (wants_some rfl rfl rfl) rfl (fun _ _ => Yld.shr rfl rfl (by omega)) ?_ | refine WJ.yw rfl (wants_some rfl rfl rfl) rfl (fun _ _ => Yld.pure tab_ok rfl) ?_)
    rw [hjt]
    refine WJ.eff rfl (Ef0.ostore (v := ys.getD (xs.length - 1 - i) 0) one5 One.b hO2 rfl rfl (by omega)) (fun w' _ => DD.past (by kernel_rfl)) ?_
    rintro w3 ⟨hO3, hg3⟩
    repeat (first | refine WJ.y rfl rfl (fun _ _ => Yld.iaddrNW tab_ok hR2 rfl rfl hyl.symm rfl (by omega)) ?_ | refine WJ.y rfl rfl (fun _ _ => Yld.iaddrW tab_ok hR2 rfl rfl hyl.symm rfl (by omega) (by omega)) ?_ | refine WJ.y rfl rfl (fun _ _ => Yld.add rfl rfl (by simp only [In]; omega)) ?_ | refine WJ.y rfl rfl (fun _ _ => Yld.sub rfl rfl (by simp only [In]; omega)) ?_ | refine WJ.y rfl rfl (fun _ _ => Yld.mul rfl rfl (by simp only [In]; omega)) ?_ | refine WJ.y rfl rfl (fun _ _ => Yld.convB tab_ok rfl rfl rfl rfl) ?_ | refine WJ.y rfl rfl (fun _ _ => Yld.conv tab_ok rfl rfl rfl (by simp only [In]; omega)) ?_ | refine WJ.y rfl rfl (fun _ _ => Yld.quo rfl rfl (by omega) (by omega) (by simp only [In]; omega)) ?_ | refine WJ.y rfl rfl (fun _ _ => Yld.rem rfl rfl (by omega) (by omega)) ?_ | refine WJ.y rfl rfl (fun _ _ => Yld.shl rfl rfl (by omega)) ?_ | refine WJ.y rfl rfl (fun _ _ => Yld.shr rfl rfl (by omega)) ?_ | refine WJ.y rfl rfl (fun _ _ => Yld.pure tab_ok rfl) ?_ | refine WJ.y rfl rfl (fun _ _ => Yld.fld flds_ok rfl rfl rfl) ?_ | refine WJ.y rfl rfl (fun _ _ => Yld.max2 rfl rfl) ?_ | refine WJ.y rfl rfl (fun _ _ => Yld.min2 rfl rfl) ?_ | refine WJ.y rfl rfl (fun _ _ => Yld.pickV rfl rfl rfl) ?_ | refine WJ.no rfl rfl rfl rfl ?_ | refine WJ.gun rfl rfl rfl rfl ?_ | refine WJ.yw rfl (wants_some rfl rfl rfl) rfl (fun _ _ => Yld.add rfl rfl (by simp only [In]; omega)) ?_ | refine WJ.yw rfl (wants_some rfl rfl rfl) rfl (fun _ _ => Yld.sub rfl rfl (by simp only [In]; omega)) ?_ | refine WJ.yw rfl (wants_some rfl rfl rfl) rfl (fun _ _ => Yld.mul rfl rfl (by simp only [In]; omega)) ?_ | refine WJ.yw rfl (wants_some rfl rfl rfl) rfl (fun _ _ => Yld.convB tab_ok rfl rfl rfl rfl) ?_ | refine WJ.yw rfl (wants_some rfl rfl rfl) rfl (fun _ _ => Yld.conv tab_ok rfl rfl rfl (by simp only [In]; omega)) ?_ | refine WJ.yw rfl (wants_some rfl rfl rfl) rfl (fun _ _ => Yld.quo rfl rfl (by omega) (by omega) (by simp only [In]; omega)) ?_ | refine WJ.yw rfl (wants_some rfl rfl rfl) rfl (fun _ _ => Yld.rem rfl rfl (by omega) (by omega)) ?_ | refine WJ.yw rfl (wants_some rfl rfl rfl) rfl (fun _ _ => Yld.shl rfl rfl (by omega)) ?_ | refine WJ.yw rfl (wants_some rfl rfl rfl) rfl (fun _ _ => Yld.shr rfl rfl (by omega)) ?_ | refine WJ.yw rfl (wants_some rfl rfl rfl) rfl (fun _ _ => Yld.pure tab_ok rfl) ?_)
    rw [hjt]
    refine WJ.eff rfl (Ef0.ostore (v := ys.getD i 0) one5 One.b hO3 rfl rfl (by simp; omega)) (fun w' _ => DD.past (by kernel_rfl)) ?_
    rintro w4 ⟨hO4, hg4⟩
    refine WJ.nil ?_
    repeat (first | refine WC.seq ?_ | refine WC.block ?_ | refine WC.region ?_ | refine WL.nil ?_ | refine WX.then_normal ?_ | refine WC.skip ?_ | refine WC.exit ?_ | refine WC.ret ?_ | refine WX.then_exit ?_ | refine WX.then_ret ?_ | refine WX.block_normal ?_ | refine WX.block_ret ?_ | refine WX.block_same ?_ | refine WX.block_other rfl ?_ | refine WC.label ?_ | refine WC.scope ?_ | refine WX.scope_normal ?_ | refine WX.scope_ret ?_ | refine WX.scope_exit ?_ | refine WL.y rfl (Yld.add rfl rfl (by simp only [In]; omega)) ?_ | refine WL.y rfl (Yld.sub rfl rfl (by simp only [In]; omega)) ?_ | refine WL.y rfl (Yld.mul rfl rfl (by simp only [In]; omega)) ?_ | refine WL.y rfl (Yld.convB tab_ok rfl rfl rfl rfl) ?_ | refine WL.y rfl (Yld.conv tab_ok rfl rfl rfl (by simp only [In]; omega)) ?_ | refine WL.y rfl (Yld.quo rfl rfl (by omega) (by omega) (by simp only [In]; omega)) ?_ | refine WL.y rfl (Yld.rem rfl rfl (by omega) (by omega)) ?_ | refine WL.y rfl (Yld.shl rfl rfl (by omega)) ?_ | refine WL.y rfl (Yld.shr rfl rfl (by omega)) ?_ | refine WL.y rfl (Yld.pure tab_ok rfl) ?_ | refine WL.y rfl (Yld.fld flds_ok rfl rfl rfl) ?_ | refine WL.y rfl (Yld.max2 rfl rfl) ?_ | refine WL.y rfl (Yld.min2 rfl rfl) ?_ | refine WL.y rfl (Yld.pickV rfl rfl rfl) ?_ | refine WL.gno rfl rfl rfl rfl ?_ | refine WL.gyes rfl rfl rfl rfl (Yld.add rfl rfl (by simp only [In]; omega)) ?_ | refine WL.gyes rfl rfl rfl rfl (Yld.sub rfl rfl (by simp only [In]; omega)) ?_ | refine WL.gyes rfl rfl rfl rfl (Yld.mul rfl rfl (by simp only [In]; omega)) ?_ | refine WL.gyes rfl rfl rfl rfl (Yld.convB tab_ok rfl rfl rfl rfl) ?_ | refine WL.gyes rfl rfl rfl rfl (Yld.conv tab_ok rfl rfl rfl (by simp only [In]; omega)) ?_ | refine WL.gyes rfl rfl rfl rfl (Yld.quo rfl rfl (by omega) (by omega) (by simp only [In]; omega)) ?_ | refine WL.gyes rfl rfl rfl rfl (Yld.rem rfl rfl (by omega) (by omega)) ?_ | refine WL.gyes rfl rfl rfl rfl (Yld.shl rfl rfl (by omega)) ?_ | refine WL.gyes rfl rfl rfl rfl (Yld.shr rfl rfl (by omega)) ?_ | refine WL.gyes rfl rfl rfl rfl (Yld.pure tab_ok rfl) ?_ | refine WL.gyes rfl rfl rfl rfl (Yld.fld flds_ok rfl rfl rfl) ?_ | refine WL.gyes rfl rfl rfl rfl (Yld.max2 rfl rfl) ?_ | refine WL.gyes rfl rfl rfl rfl (Yld.min2 rfl rfl) ?_ | refine WL.gyes rfl rfl rfl rfl (Yld.pickV rfl rfl rfl) ?_)
    have e1 : (i : Int) + 1 = ((i + 1 : Nat) : Int) := by omega
    have e2 : (xs.length : Int) - 1 - (i : Int) - 1 = (xs.length : Int) - 1 - ((i + 1 : Nat) : Int) := by omega
    rw [e1, e2]
    refine WX.round2 (i + 1) ((ys.set i (ys.getD (xs.length - 1 - i) 0)).set (xs.length - 1 - i) (ys.getD i 0)) ⟨by simp [hyl], by omega, fun t ht => ?_, hO4, gr_row (gr_row hg2 hg3) hg4⟩ (by omega) (by repeat (first | exact Sub.nil | refine Sub.cons rfl ?_))
    have hy1 := hy i (by omega)
    have hy2 := hy (xs.length - 1 - i) (by omega)
    rw [if_neg (by omega)] at hy1 hy2
    rcases Classical.em (xs.length - 1 - i = t) with et | et
    · subst et
      rw [getD_set_eqB _ _ _ (by simp; omega), if_pos (by omega), hy1]
      congr 1; omega
    · rw [getD_set_neB _ _ _ _ et]
      rcases Classical.em (i = t) with et2 | et2
      · subst et2
        rw [getD_set_eqB _ _ _ (by omega), if_pos (by omega), hy2]
      · rw [getD_set_neB _ _ _ _ et2, hy t ht]
        by_cases hc : t < i ∨ xs.length - i ≤ t
        · rw [if_pos hc, if_pos (by omega)]
        · rw [if_neg hc, if_neg (by omega)]
  · simp only [decide_eq_false_iff_not] at h
    repeat (first | refine WC.seq ?_ | refine WC.block ?_ | refine WC.region ?_ | refine WL.nil ?_ | refine WX.then_normal ?_ | refine WC.skip ?_ | refine WC.exit ?_ | refine WC.ret ?_ | refine WX.then_exit ?_ | refine WX.then_ret ?_ | refine WX.block_normal ?_ | refine WX.block_ret ?_ | refine WX.block_same ?_ | refine WX.block_other rfl ?_ | refine WC.label ?_ | refine WC.scope ?_ | refine WX.scope_normal ?_ | refine WX.scope_ret ?_ | refine WX.scope_exit ?_ | refine WL.y rfl (Yld.add rfl rfl (by simp only [In]; omega)) ?_ | refine WL.y rfl (Yld.sub rfl rfl (by simp only [In]; omega)) ?_ | refine WL.y rfl (Yld.mul rfl rfl (by simp only [In]; omega)) ?_ | refine WL.y rfl (Yld.convB tab_ok rfl rfl rfl rfl) ?_ | refine WL.y rfl (Yld.conv tab_ok rfl rfl rfl (by simp only [In]; omega)) ?_ | refine WL.y rfl (Yld.quo rfl rfl (by omega) (by omega) (by simp only [In]; omega)) ?_ | refine WL.y rfl (Yld.rem rfl rfl (by omega) (by omega)) ?_ | refine WL.y rfl (Yld.shl rfl rfl (by omega)) ?_ | refine WL.y rfl (Yld.shr rfl rfl (by omega)) ?_ | refine WL.y rfl (Yld.pure tab_ok rfl) ?_ | refine WL.y rfl (Yld.fld flds_ok rfl rfl rfl) ?_ | refine WL.y rfl (Yld.max2 rfl rfl) ?_ | refine WL.y rfl (Yld.min2 rfl rfl) ?_ | refine WL.y rfl (Yld.pickV rfl rfl rfl) ?_ | refine WL.gno rfl rfl rfl rfl ?_ | refine WL.gyes rfl rfl rfl rfl (Yld.add rfl rfl (by simp only [In]; omega)) ?_ | refine WL.gyes rfl rfl rfl rfl (Yld.sub rfl rfl (by simp only [In]; omega)) ?_ | refine WL.gyes rfl rfl rfl rfl (Yld.mul rfl rfl (by simp only [In]; omega)) ?_ | refine WL.gyes rfl rfl rfl rfl (Yld.convB tab_ok rfl rfl rfl rfl) ?_ | refine WL.gyes rfl rfl rfl rfl (Yld.conv tab_ok rfl rfl rfl (by simp only [In]; omega)) ?_ | refine WL.gyes rfl rfl rfl rfl (Yld.quo rfl rfl (by omega) (by omega) (by simp only [In]; omega)) ?_ | refine WL.gyes rfl rfl rfl rfl (Yld.rem rfl rfl (by omega) (by omega)) ?_ | refine WL.gyes rfl rfl rfl rfl (Yld.shl rfl rfl (by omega)) ?_ | refine WL.gyes rfl rfl rfl rfl (Yld.shr rfl rfl (by omega)) ?_ | refine WL.gyes rfl rfl rfl rfl (Yld.pure tab_ok rfl) ?_ | refine WL.gyes rfl rfl rfl rfl (Yld.fld flds_ok rfl rfl rfl) ?_ | refine WL.gyes rfl rfl rfl rfl (Yld.max2 rfl rfl) ?_ | refine WL.gyes rfl rfl rfl rfl (Yld.min2 rfl rfl) ?_ | refine WL.gyes rfl rfl rfl rfl (Yld.pickV rfl rfl rfl) ?_)
    have e := rev_end xs ys i hyl (by omega) hy
    subst e
    exact WX.end0 rfl ⟨rfl, hO2, hg2⟩
end Go.Proofs.YtofenpiiihhigaaDoor

 namespace Go.Proofs.YtofenpiiihhigaaDoor
open Go Go.RowKit
attribute [local irreducible] WL WC WX WQ WK WJ Yld Eff Ef0 Fn
set_option maxHeartbeats 2000000 in
theorem text_fn (v : Value) (x : Int) (m : Nat) (w : World) (hN : Nm w v x m) (hm : m ≤ 90000) : Fn Tryd.prog 15 ⟨[v]⟩ w fun r w' => r = vs (txt x) ∧ w.grownBy w' none := by
  obtain ⟨neg, A, c, l, rfl, hR, hD, hC, hl, hn, hz⟩ := hN
  refine Fn.enter (by kernel_rfl) Tryd.func15 rfl Tryd.ntmps15 rfl ?_
  repeat (first | refine WC.seq ?_ | refine WC.block ?_ | refine WC.region ?_ | refine WL.nil ?_ | refine WX.then_normal ?_ | refine WC.skip ?_ | refine WC.exit ?_ | refine WC.ret ?_ | refine WX.then_exit ?_ | refine WX.then_ret ?_ | refine WX.block_normal ?_ | refine WX.block_ret ?_ | refine WX.block_same ?_ | refine WX.block_other rfl ?_ | refine WC.label ?_ | refine WC.scope ?_ | refine WX.scope_normal ?_ | refine WX.scope_ret ?_ | refine WX.scope_exit ?_ | refine WL.y rfl (Yld.add rfl rfl (by simp only [In]; omega)) ?_ | refine WL.y rfl (Yld.sub rfl rfl (by simp only [In]; omega)) ?_ | refine WL.y rfl (Yld.convB tab_ok rfl rfl rfl rfl) ?_ | refine WL.y rfl (Yld.conv tab_ok rfl rfl rfl (by simp only [In]; omega)) ?_ | refine WL.y rfl (Yld.quo rfl rfl (by omega) (by omega) (by simp only [In]; omega)) ?_ | refine WL.y rfl (Yld.rem rfl rfl (by omega) (by omega)) ?_ | refine WL.y rfl (Yld.pure tab_ok rfl) ?_ | refine WL.y rfl (Yld.pickV rfl rfl rfl) ?_ | refine WL.gno rfl rfl rfl rfl ?_ | refine WL.gyes rfl rfl rfl rfl (Yld.sub rfl rfl (by simp only [In]; omega)) ?_ | refine WL.gyes rfl rfl rfl rfl (Yld.pure tab_ok rfl) ?_ | refine WL.gyes rfl rfl rfl rfl (Yld.pickV rfl rfl rfl) ?_)
  refine WL.box (us := [.bool neg, .slice A l.length c]) rfl rfl rfl (fun g1 w1 hB1 hg1 hl1 => ?_)
  repeat (first | refine WL.y rfl (Yld.bload tab_ok hB1 rfl rfl rfl) ?_ | refine WC.seq ?_ | refine WC.block ?_ | refine WC.region ?_ | refine WL.nil ?_ | refine WX.then_normal ?_ | refine WC.skip ?_ | refine WC.exit ?_ | refine WC.ret ?_ | refine WX.then_exit ?_ | refine WX.then_ret ?_ | refine WX.block_normal ?_ | refine WX.block_ret ?_ | refine WX.block_same ?_ | refine WX.block_other rfl ?_ | refine WC.label ?_ | refine WC.scope ?_ | refine WX.scope_normal ?_ | refine WX.scope_ret ?_ | refine WX.scope_exit ?_ | refine WL.y rfl (Yld.add rfl rfl (by simp only [In]; omega)) ?_ | refine WL.y rfl (Yld.sub rfl rfl (by simp only [In]; omega)) ?_ | refine WL.y rfl (Yld.convB tab_ok rfl rfl rfl rfl) ?_ | refine WL.y rfl (Yld.conv tab_ok rfl rfl rfl (by simp only [In]; omega)) ?_ | refine WL.y rfl (Yld.quo rfl rfl (by omega) (by omega) (by simp only [In]; omega)) ?_ | refine WL.y rfl (Yld.rem rfl rfl (by omega) (by omega)) ?_ | refine WL.y rfl (Yld.pure tab_ok rfl) ?_ | refine WL.y rfl (Yld.pickV rfl rfl rfl) ?_ | refine WL.gno rfl rfl rfl rfl ?_ | refine WL.gyes rfl rfl rfl rfl (Yld.sub rfl rfl (by simp only [In]; omega)) ?_ | refine WL.gyes rfl rfl rfl rfl (Yld.pure tab_ok rfl) ?_ | refine WL.gyes rfl rfl rfl rfl (Yld.pickV rfl rfl rfl) ?_)
  refine WC.cond rfl (fun h => ?_) (fun h => ?_)
  · simp only [decide_eq_true_eq] at h
    have hl0 : l = [] := List.length_eq_zero_iff.mp (by omega)
    have hx0 : x = 0 := by subst hl0; cases neg <;> simpa [val] using hz
    repeat (first | refine WC.seq ?_ | refine WC.block ?_ | refine WC.region ?_ | refine WL.nil ?_ | refine WX.then_normal ?_ | refine WC.skip ?_ | refine WC.exit ?_ | refine WC.ret ?_ | refine WX.then_exit ?_ | refine WX.then_ret ?_ | refine WX.block_normal ?_ | refine WX.block_ret ?_ | refine WX.block_same ?_ | refine WX.block_other rfl ?_ | refine WC.label ?_ | refine WC.scope ?_ | refine WX.scope_normal ?_ | refine WX.scope_ret ?_ | refine WX.scope_exit ?_ | refine WL.y rfl (Yld.add rfl rfl (by simp only [In]; omega)) ?_ | refine WL.y rfl (Yld.sub rfl rfl (by simp only [In]; omega)) ?_ | refine WL.y rfl (Yld.convB tab_ok rfl rfl rfl rfl) ?_ | refine WL.y rfl (Yld.conv tab_ok rfl rfl rfl (by simp only [In]; omega)) ?_ | refine WL.y rfl (Yld.quo rfl rfl (by omega) (by omega) (by simp only [In]; omega)) ?_ | refine WL.y rfl (Yld.rem rfl rfl (by omega) (by omega)) ?_ | refine WL.y rfl (Yld.pure tab_ok rfl) ?_ | refine WL.y rfl (Yld.pickV rfl rfl rfl) ?_ | refine WL.gno rfl rfl rfl rfl ?_ | refine WL.gyes rfl rfl rfl rfl (Yld.sub rfl rfl (by simp only [In]; omega)) ?_ | refine WL.gyes rfl rfl rfl rfl (Yld.pure tab_ok rfl) ?_ | refine WL.gyes rfl rfl rfl rfl (Yld.pickV rfl rfl rfl) ?_)
    exact WX.ret1 rfl rfl ⟨by rw [hx0]; rfl, hg1⟩
  · simp only [decide_eq_false_iff_not] at h
    have hl0 : l ≠ [] := fun e => h (by rw [e]; rfl)
    have hpos := val_pos hC hl0
    have hx0 : x ≠ 0 := by cases neg <;> simp at hz <;> omega
    have hR1 := hR.grown hg1
    repeat (first | refine WL.y rfl (Yld.bload tab_ok hB1 rfl rfl rfl) ?_ | refine WC.seq ?_ | refine WC.block ?_ | refine WC.region ?_ | refine WL.nil ?_ | refine WX.then_normal ?_ | refine WC.skip ?_ | refine WC.exit ?_ | refine WC.ret ?_ | refine WX.then_exit ?_ | refine WX.then_ret ?_ | refine WX.block_normal ?_ | refine WX.block_ret ?_ | refine WX.block_same ?_ | refine WX.block_other rfl ?_ | refine WC.label ?_ | refine WC.scope ?_ | refine WX.scope_normal ?_ | refine WX.scope_ret ?_ | refine WX.scope_exit ?_ | refine WL.y rfl (Yld.add rfl rfl (by simp only [In]; omega)) ?_ | refine WL.y rfl (Yld.sub rfl rfl (by simp only [In]; omega)) ?_ | refine WL.y rfl (Yld.convB tab_ok rfl rfl rfl rfl) ?_ | refine WL.y rfl (Yld.conv tab_ok rfl rfl rfl (by simp only [In]; omega)) ?_ | refine WL.y rfl (Yld.quo rfl rfl (by omega) (by omega) (by simp only [In]; omega)) ?_ | refine WL.y rfl (Yld.rem rfl rfl (by omega) (by omega)) ?_ | refine WL.y rfl (Yld.pure tab_ok rfl) ?_ | refine WL.y rfl (Yld.pickV rfl rfl rfl) ?_ | refine WL.gno rfl rfl rfl rfl ?_ | refine WL.gyes rfl rfl rfl rfl (Yld.sub rfl rfl (by simp only [In]; omega)) ?_ | refine WL.gyes rfl rfl rfl rfl (Yld.pure tab_ok rfl) ?_ | refine WL.gyes rfl rfl rfl rfl (Yld.pickV rfl rfl rfl) ?_)
    refine WC.loop4 (S1 := Nat) (S2 := List UInt8) (S3 := Option Addr) (S4 := Nat) (fun i _ _ _ => l.length - i)
      (fun i b A' c' => [(14, vi i), (13, .int .i64 (l.length : Int)), (12, .slice A l.length c), (3, .slice A' b.length c'), (1, .pointer (some ⟨g1, 0, none⟩))])
      (fun i b A' c' w2 => i ≤ l.length ∧ b ++ dd (val (l.drop i)) = dd (val l) ∧ b.length ≤ 9 * i ∧ Own vb w2 w1.heap.size 5 A' c' b ∧ w1.grownBy w2 none) 0 [] none 0 ⟨by omega, rfl, by simp, Own.nil _ _ _ _, gr_refl _ _⟩ (by repeat (first | exact Sub.nil | refine Sub.cons rfl ?_)) (fun i b A' c' w2 ⟨hi, hb, hbl, hO, hg2⟩ => ?_)
    have hR2 := hR1.grown hg2
    repeat (first | refine WC.seq ?_ | refine WC.block ?_ | refine WC.region ?_ | refine WL.nil ?_ | refine WX.then_normal ?_ | refine WC.skip ?_ | refine WC.exit ?_ | refine WC.ret ?_ | refine WX.then_exit ?_ | refine WX.then_ret ?_ | refine WX.block_normal ?_ | refine WX.block_ret ?_ | refine WX.block_same ?_ | refine WX.block_other rfl ?_ | refine WC.label ?_ | refine WC.scope ?_ | refine WX.scope_normal ?_ | refine WX.scope_ret ?_ | refine WX.scope_exit ?_ | refine WL.y rfl (Yld.add rfl rfl (by simp only [In]; omega)) ?_ | refine WL.y rfl (Yld.sub rfl rfl (by simp only [In]; omega)) ?_ | refine WL.y rfl (Yld.convB tab_ok rfl rfl rfl rfl) ?_ | refine WL.y rfl (Yld.conv tab_ok rfl rfl rfl (by simp only [In]; omega)) ?_ | refine WL.y rfl (Yld.quo rfl rfl (by omega) (by omega) (by simp only [In]; omega)) ?_ | refine WL.y rfl (Yld.rem rfl rfl (by omega) (by omega)) ?_ | refine WL.y rfl (Yld.pure tab_ok rfl) ?_ | refine WL.y rfl (Yld.pickV rfl rfl rfl) ?_ | refine WL.gno rfl rfl rfl rfl ?_ | refine WL.gyes rfl rfl rfl rfl (Yld.sub rfl rfl (by simp only [In]; omega)) ?_ | refine WL.gyes rfl rfl rfl rfl (Yld.pure tab_ok rfl) ?_ | refine WL.gyes rfl rfl rfl rfl (Yld.pickV rfl rfl rfl) ?_)
    refine WC.cond rfl (fun h => ?_) (fun h => ?_)
    · simp only [decide_eq_true_eq] at h
      have hxi := hD i
      have hdc := drop_cons' l i (by omega)
      have hyy : i + 1 < l.length ↔ 0 < val (l.drop (i + 1)) := by
        have := drop_pos hC (i + 1)
        omega
      repeat (first | refine WL.y rfl (Yld.iaddrN tab_ok hR2 rfl rfl rfl rfl (by omega)) ?_ | refine WL.y rfl (Yld.iload 0 tab_ok hR2 rfl rfl (by omega)) ?_ | refine WC.seq ?_ | refine WC.block ?_ | refine WC.region ?_ | refine WL.nil ?_ | refine WX.then_normal ?_ | refine WC.skip ?_ | refine WC.exit ?_ | refine WC.ret ?_ | refine WX.then_exit ?_ | refine WX.then_ret ?_ | refine WX.block_normal ?_ | refine WX.block_ret ?_ | refine WX.block_same ?_ | refine WX.block_other rfl ?_ | refine WC.label ?_ | refine WC.scope ?_ | refine WX.scope_normal ?_ | refine WX.scope_ret ?_ | refine WX.scope_exit ?_ | refine WL.y rfl (Yld.add rfl rfl (by simp only [In]; omega)) ?_ | refine WL.y rfl (Yld.sub rfl rfl (by simp only [In]; omega)) ?_ | refine WL.y rfl (Yld.convB tab_ok rfl rfl rfl rfl) ?_ | refine WL.y rfl (Yld.conv tab_ok rfl rfl rfl (by simp only [In]; omega)) ?_ | refine WL.y rfl (Yld.quo rfl rfl (by omega) (by omega) (by simp only [In]; omega)) ?_ | refine WL.y rfl (Yld.rem rfl rfl (by omega) (by omega)) ?_ | refine WL.y rfl (Yld.pure tab_ok rfl) ?_ | refine WL.y rfl (Yld.pickV rfl rfl rfl) ?_ | refine WL.gno rfl rfl rfl rfl ?_ | refine WL.gyes rfl rfl rfl rfl (Yld.sub rfl rfl (by simp only [In]; omega)) ?_ | refine WL.gyes rfl rfl rfl rfl (Yld.pure tab_ok rfl) ?_ | refine WL.gyes rfl rfl rfl rfl (Yld.pickV rfl rfl rfl) ?_)
      generalize l.getD i 0 = d at *
      generalize hY : val (l.drop (i + 1)) = y at *
      refine WC.loop5 (S1 := Nat) (S2 := Nat) (S3 := List UInt8) (S4 := Option Addr) (S5 := Nat) (fun k _ _ _ _ => 9 - k)
        (fun k v b A' c' => [(6, vi k), (5, vd v), (4, vi i), (14, vi i), (13, .int .i64 (l.length : Int)), (12, .slice A l.length c), (3, .slice A' b.length c'), (1, .pointer (some ⟨g1, 0, none⟩))])
        (fun k v b A' c' w3 => k ≤ 9 ∧ v < 10 ^ (9 - k) ∧ b ++ rest k v y = dd (val l) ∧ b.length ≤ 9 * i + k ∧ Own vb w3 w1.heap.size 5 A' c' b ∧ w1.grownBy w3 none) 0 d b A' c' ⟨by omega, by omega, by rw [← rest_start d y hxi, ← hdc]; exact hb, by omega, hO, hg2⟩ (by repeat (first | exact Sub.nil | refine Sub.cons rfl ?_)) (fun k v b A' c' w3 ⟨hk, hv, hb3, hbl3, hO3, hg3⟩ => ?_)
      have hB3 := hB1.keep hg3 (by simp)
      refine WC.seq ?_
      refine WC.seqW [(32, .bool (decide (k < 9 ∧ (0 < v ∨ 0 < y)))), (6, vi k), (5, vd v), (4, vi i), (14, vi i), (13, .int .i64 (l.length : Int)), (12, .slice A l.length c), (3, .slice A' b.length c'), (1, .pointer (some ⟨g1, 0, none⟩))] (fun Q' hQ => ?_) ?_
      · repeat (first | refine WC.seq ?_ | refine WC.block ?_ | refine WC.region ?_ | refine WL.nil ?_ | refine WX.then_normal ?_ | refine WC.skip ?_ | refine WC.exit ?_ | refine WC.ret ?_ | refine WX.then_exit ?_ | refine WX.then_ret ?_ | refine WX.block_normal ?_ | refine WX.block_ret ?_ | refine WX.block_same ?_ | refine WX.block_other rfl ?_ | refine WC.label ?_ | refine WC.scope ?_ | refine WX.scope_normal ?_ | refine WX.scope_ret ?_ | refine WX.scope_exit ?_ | refine WL.y rfl (Yld.add rfl rfl (by simp only [In]; omega)) ?_ | refine WL.y rfl (Yld.sub rfl rfl (by simp only [In]; omega)) ?_ | refine WL.y rfl (Yld.convB tab_ok rfl rfl rfl rfl) ?_ | refine WL.y rfl (Yld.conv tab_ok rfl rfl rfl (by simp only [In]; omega)) ?_ | refine WL.y rfl (Yld.quo rfl rfl (by omega) (by omega) (by simp only [In]; omega)) ?_ | refine WL.y rfl (Yld.rem rfl rfl (by omega) (by omega)) ?_ | refine WL.y rfl (Yld.pure tab_ok rfl) ?_ | refine WL.y rfl (Yld.pickV rfl rfl rfl) ?_ | refine WL.gno rfl rfl rfl rfl ?_ | refine WL.gyes rfl rfl rfl rfl (Yld.sub rfl rfl (by simp only [In]; omega)) ?_ | refine WL.gyes rfl rfl rfl rfl (Yld.pure tab_ok rfl) ?_ | refine WL.gyes rfl rfl rfl rfl (Yld.pickV rfl rfl rfl) ?_)
        rcases Nat.lt_or_ge k 9 with h9 | h9
        · have e9 : decide ((k : Int) < 9) = true := by simp; omega
          rw [e9]
          repeat (first | refine WL.gyes rfl rfl rfl rfl (Yld.bload tab_ok hB3 rfl rfl rfl) ?_ | refine WC.seq ?_ | refine WC.block ?_ | refine WC.region ?_ | refine WL.nil ?_ | refine WX.then_normal ?_ | refine WC.skip ?_ | refine WC.exit ?_ | refine WC.ret ?_ | refine WX.then_exit ?_ | refine WX.then_ret ?_ | refine WX.block_normal ?_ | refine WX.block_ret ?_ | refine WX.block_same ?_ | refine WX.block_other rfl ?_ | refine WC.label ?_ | refine WC.scope ?_ | refine WX.scope_normal ?_ | refine WX.scope_ret ?_ | refine WX.scope_exit ?_ | refine WL.y rfl (Yld.add rfl rfl (by simp only [In]; omega)) ?_ | refine WL.y rfl (Yld.sub rfl rfl (by simp only [In]; omega)) ?_ | refine WL.y rfl (Yld.convB tab_ok rfl rfl rfl rfl) ?_ | refine WL.y rfl (Yld.conv tab_ok rfl rfl rfl (by simp only [In]; omega)) ?_ | refine WL.y rfl (Yld.quo rfl rfl (by omega) (by omega) (by simp only [In]; omega)) ?_ | refine WL.y rfl (Yld.rem rfl rfl (by omega) (by omega)) ?_ | refine WL.y rfl (Yld.pure tab_ok rfl) ?_ | refine WL.y rfl (Yld.pickV rfl rfl rfl) ?_ | refine WL.gno rfl rfl rfl rfl ?_ | refine WL.gyes rfl rfl rfl rfl (Yld.sub rfl rfl (by simp only [In]; omega)) ?_ | refine WL.gyes rfl rfl rfl rfl (Yld.pure tab_ok rfl) ?_ | refine WL.gyes rfl rfl rfl rfl (Yld.pickV rfl rfl rfl) ?_)
          rcases Nat.lt_or_ge (i + 1) l.length with h8 | h8
          · have e8 : decide ((i : Int) < (l.length : Int) - 1) = true := by simp; omega
            have ee : decide (k < 9 ∧ (0 < v ∨ 0 < y)) = true := decide_eq_true ⟨h9, .inr (hyy.mp h8)⟩
            rw [e8]
            rw [ee] at hQ
            repeat (first | refine WC.seq ?_ | refine WC.block ?_ | refine WC.region ?_ | refine WL.nil ?_ | refine WX.then_normal ?_ | refine WC.skip ?_ | refine WC.exit ?_ | refine WC.ret ?_ | refine WX.then_exit ?_ | refine WX.then_ret ?_ | refine WX.block_normal ?_ | refine WX.block_ret ?_ | refine WX.block_same ?_ | refine WX.block_other rfl ?_ | refine WC.label ?_ | refine WC.scope ?_ | refine WX.scope_normal ?_ | refine WX.scope_ret ?_ | refine WX.scope_exit ?_ | refine WL.y rfl (Yld.add rfl rfl (by simp only [In]; omega)) ?_ | refine WL.y rfl (Yld.sub rfl rfl (by simp only [In]; omega)) ?_ | refine WL.y rfl (Yld.convB tab_ok rfl rfl rfl rfl) ?_ | refine WL.y rfl (Yld.conv tab_ok rfl rfl rfl (by simp only [In]; omega)) ?_ | refine WL.y rfl (Yld.quo rfl rfl (by omega) (by omega) (by simp only [In]; omega)) ?_ | refine WL.y rfl (Yld.rem rfl rfl (by omega) (by omega)) ?_ | refine WL.y rfl (Yld.pure tab_ok rfl) ?_ | refine WL.y rfl (Yld.pickV rfl rfl rfl) ?_ | refine WL.gno rfl rfl rfl rfl ?_ | refine WL.gyes rfl rfl rfl rfl (Yld.sub rfl rfl (by simp only [In]; omega)) ?_ | refine WL.gyes rfl rfl rfl rfl (Yld.pure tab_ok rfl) ?_ | refine WL.gyes rfl rfl rfl rfl (Yld.pickV rfl rfl rfl) ?_ | refine WL.gun rfl rfl rfl rfl ?_)
            exact WX.weaken (by repeat (first | exact Sub.nil | refine Sub.cons rfl ?_)) hQ
          · have e8 : decide ((i : Int) < (l.length : Int) - 1) = false := by simp; omega
            have hy0 : ¬ 0 < y := fun e => by have := hyy.mpr e; omega
            have ee : decide (k < 9 ∧ (0 < v ∨ 0 < y)) = decide ((0 : Int) < (v : Int)) := by
              rw [decide_eq_decide]; omega
            rw [e8]
            rw [ee] at hQ
            repeat (first | refine WC.seq ?_ | refine WC.block ?_ | refine WC.region ?_ | refine WL.nil ?_ | refine WX.then_normal ?_ | refine WC.skip ?_ | refine WC.exit ?_ | refine WC.ret ?_ | refine WX.then_exit ?_ | refine WX.then_ret ?_ | refine WX.block_normal ?_ | refine WX.block_ret ?_ | refine WX.block_same ?_ | refine WX.block_other rfl ?_ | refine WC.label ?_ | refine WC.scope ?_ | refine WX.scope_normal ?_ | refine WX.scope_ret ?_ | refine WX.scope_exit ?_ | refine WL.y rfl (Yld.add rfl rfl (by simp only [In]; omega)) ?_ | refine WL.y rfl (Yld.sub rfl rfl (by simp only [In]; omega)) ?_ | refine WL.y rfl (Yld.convB tab_ok rfl rfl rfl rfl) ?_ | refine WL.y rfl (Yld.conv tab_ok rfl rfl rfl (by simp only [In]; omega)) ?_ | refine WL.y rfl (Yld.quo rfl rfl (by omega) (by omega) (by simp only [In]; omega)) ?_ | refine WL.y rfl (Yld.rem rfl rfl (by omega) (by omega)) ?_ | refine WL.y rfl (Yld.pure tab_ok rfl) ?_ | refine WL.y rfl (Yld.pickV rfl rfl rfl) ?_ | refine WL.gno rfl rfl rfl rfl ?_ | refine WL.gyes rfl rfl rfl rfl (Yld.sub rfl rfl (by simp only [In]; omega)) ?_ | refine WL.gyes rfl rfl rfl rfl (Yld.pure tab_ok rfl) ?_ | refine WL.gyes rfl rfl rfl rfl (Yld.pickV rfl rfl rfl) ?_ | refine WL.gun rfl rfl rfl rfl ?_)
            exact WX.weaken (by repeat (first | exact Sub.nil | refine Sub.cons rfl ?_)) hQ
        · have e9 : decide ((k : Int) < 9) = false := by simp; omega
          have ee : decide (k < 9 ∧ (0 < v ∨ 0 < y)) = false := decide_eq_false (by omega)
          rw [e9]
          rw [ee] at hQ
          repeat (first | refine WC.seq ?_ | refine WC.block ?_ | refine WC.region ?_ | refine WL.nil ?_ | refine WX.then_normal ?_ | refine WC.skip ?_ | refine WC.exit ?_ | refine WC.ret ?_ | refine WX.then_exit ?_ | refine WX.then_ret ?_ | refine WX.block_normal ?_ | refine WX.block_ret ?_ | refine WX.block_same ?_ | refine WX.block_other rfl ?_ | refine WC.label ?_ | refine WC.scope ?_ | refine WX.scope_normal ?_ | refine WX.scope_ret ?_ | refine WX.scope_exit ?_ | refine WL.y rfl (Yld.add rfl rfl (by simp only [In]; omega)) ?_ | refine WL.y rfl (Yld.sub rfl rfl (by simp only [In]; omega)) ?_ | refine WL.y rfl (Yld.convB tab_ok rfl rfl rfl rfl) ?_ | refine WL.y rfl (Yld.conv tab_ok rfl rfl rfl (by simp only [In]; omega)) ?_ | refine WL.y rfl (Yld.quo rfl rfl (by omega) (by omega) (by simp only [In]; omega)) ?_ | refine WL.y rfl (Yld.rem rfl rfl (by omega) (by omega)) ?_ | refine WL.y rfl (Yld.pure tab_ok rfl) ?_ | refine WL.y rfl (Yld.pickV rfl rfl rfl) ?_ | refine WL.gno rfl rfl rfl rfl ?_ | refine WL.gyes rfl rfl rfl rfl (Yld.sub rfl rfl (by simp only [In]; omega)) ?_ | refine WL.gyes rfl rfl rfl rfl (Yld.pure tab_ok rfl) ?_ | refine WL.gyes rfl rfl rfl rfl (Yld.pickV rfl rfl rfl) ?_ | refine WL.gun rfl rfl rfl rfl ?_)
          exact WX.weaken (by repeat (first | exact Sub.nil | refine Sub.cons rfl ?_)) hQ
      · repeat (first | refine WC.seq ?_ | refine WC.block ?_ | refine WC.region ?_ | refine WL.nil ?_ | refine WX.then_normal ?_ | refine WC.skip ?_ | refine WC.exit ?_ | refine WC.ret ?_ | refine WX.then_exit ?_ | refine WX.then_ret ?_ | refine WX.block_normal ?_ | refine WX.block_ret ?_ | refine WX.block_same ?_ | refine WX.block_other rfl ?_ | refine WC.label ?_ | refine WC.scope ?_ | refine WX.scope_normal ?_ | refine WX.scope_ret ?_ | refine WX.scope_exit ?_ | refine WL.y rfl (Yld.add rfl rfl (by simp only [In]; omega)) ?_ | refine WL.y rfl (Yld.sub rfl rfl (by simp only [In]; omega)) ?_ | refine WL.y rfl (Yld.convB tab_ok rfl rfl rfl rfl) ?_ | refine WL.y rfl (Yld.conv tab_ok rfl rfl rfl (by simp only [In]; omega)) ?_ | refine WL.y rfl (Yld.quo rfl rfl (by omega) (by omega) (by simp only [In]; omega)) ?_ | refine WL.y rfl (Yld.rem rfl rfl (by omega) (by omega)) ?_ | refine WL.y rfl (Yld.pure tab_ok rfl) ?_ | refine WL.y rfl (Yld.pickV rfl rfl rfl) ?_ | refine WL.gno rfl rfl rfl rfl ?_ | refine WL.gyes rfl rfl rfl rfl (Yld.sub rfl rfl (by simp only [In]; omega)) ?_ | refine WL.gyes rfl rfl rfl rfl (Yld.pure tab_ok rfl) ?_ | refine WL.gyes rfl rfl rfl rfl (Yld.pickV rfl rfl rfl) ?_)
        refine WC.cond rfl (fun h' => ?_) (fun h' => ?_)
        · have h' := of_decide_eq_true h'
          have hst := rest_step k v y h'.1 h'.2
          have hv32 : v < 10 ^ 9 := Nat.lt_of_lt_of_le hv (Nat.pow_le_pow_right (by omega) (by omega))
          repeat (first | refine WC.seq ?_ | refine WC.block ?_ | refine WC.region ?_ | refine WL.nil ?_ | refine WX.then_normal ?_ | refine WC.skip ?_ | refine WC.exit ?_ | refine WC.ret ?_ | refine WX.then_exit ?_ | refine WX.then_ret ?_ | refine WX.block_normal ?_ | refine WX.block_ret ?_ | refine WX.block_same ?_ | refine WX.block_other rfl ?_ | refine WC.label ?_ | refine WC.scope ?_ | refine WX.scope_normal ?_ | refine WX.scope_ret ?_ | refine WX.scope_exit ?_ | refine WL.y rfl (Yld.add rfl rfl (by simp only [In]; omega)) ?_ | refine WL.y rfl (Yld.sub rfl rfl (by simp only [In]; omega)) ?_ | refine WL.y rfl (Yld.convB tab_ok rfl rfl rfl rfl) ?_ | refine WL.y rfl (Yld.conv tab_ok rfl rfl rfl (by simp only [In]; omega)) ?_ | refine WL.y rfl (Yld.quo rfl rfl (by omega) (by omega) (by simp only [In]; omega)) ?_ | refine WL.y rfl (Yld.rem rfl rfl (by omega) (by omega)) ?_ | refine WL.y rfl (Yld.pure tab_ok rfl) ?_ | refine WL.y rfl (Yld.pickV rfl rfl rfl) ?_ | refine WL.gno rfl rfl rfl rfl ?_ | refine WL.gyes rfl rfl rfl rfl (Yld.sub rfl rfl (by simp only [In]; omega)) ?_ | refine WL.gyes rfl rfl rfl rfl (Yld.pure tab_ok rfl) ?_ | refine WL.gyes rfl rfl rfl rfl (Yld.pickV rfl rfl rfl) ?_)
          have hd : (48 : Int) + (v : Int) % 10 = ((dc v).toNat : Int) := by rw [dc_toNat]; omega
          have hq : (v : Int) / 10 = ((v / 10 : Nat) : Int) := by omega
          rw [hd]
          refine WL.lit (us := [vb (dc v)]) tab_ok rfl rfl rfl (by intro u hu; rw [List.mem_singleton] at hu; rw [hu]; rfl) rfl (by omega) (fun g4 w4 hL4 hg4 hl4 => ?_)
          have hR4 : Rd vb w4 (some ⟨g4, 0, none⟩) 1 [dc v] := Rd.ofBl' hL4 (by simp) (by simp [maxLen])
          have hO4 := hO3.grown hg4
          have hz3 := hg3.size
          have hz4 := hg4.size
          refine WL.append tab_ok rfl rfl One.b hO4 rfl rfl hR4 rfl rfl (by simp only [List.length_cons, List.length_nil]; omega) (by simp only [maxLen, List.length_cons, List.length_nil]; omega) (by omega) (fun A5 c5 w5 hO5 hg5 hf5 => ?_)
          repeat (first | refine WC.seq ?_ | refine WC.block ?_ | refine WC.region ?_ | refine WL.nil ?_ | refine WX.then_normal ?_ | refine WC.skip ?_ | refine WC.exit ?_ | refine WC.ret ?_ | refine WX.then_exit ?_ | refine WX.then_ret ?_ | refine WX.block_normal ?_ | refine WX.block_ret ?_ | refine WX.block_same ?_ | refine WX.block_other rfl ?_ | refine WC.label ?_ | refine WC.scope ?_ | refine WX.scope_normal ?_ | refine WX.scope_ret ?_ | refine WX.scope_exit ?_ | refine WL.y rfl (Yld.add rfl rfl (by simp only [In]; omega)) ?_ | refine WL.y rfl (Yld.sub rfl rfl (by simp only [In]; omega)) ?_ | refine WL.y rfl (Yld.convB tab_ok rfl rfl rfl rfl) ?_ | refine WL.y rfl (Yld.conv tab_ok rfl rfl rfl (by simp only [In]; omega)) ?_ | refine WL.y rfl (Yld.quo rfl rfl (by omega) (by omega) (by simp only [In]; omega)) ?_ | refine WL.y rfl (Yld.rem rfl rfl (by omega) (by omega)) ?_ | refine WL.y rfl (Yld.pure tab_ok rfl) ?_ | refine WL.y rfl (Yld.pickV rfl rfl rfl) ?_ | refine WL.gno rfl rfl rfl rfl ?_ | refine WL.gyes rfl rfl rfl rfl (Yld.sub rfl rfl (by simp only [In]; omega)) ?_ | refine WL.gyes rfl rfl rfl rfl (Yld.pure tab_ok rfl) ?_ | refine WL.gyes rfl rfl rfl rfl (Yld.pickV rfl rfl rfl) ?_)
          rw [hq]
          refine WX.round5 (k + 1) (v / 10) (b ++ [dc v]) A5 c5 ⟨by omega, ?_, ?_, by simp; omega, hO5, gr_own (gr_trans hg3 hg4) hO4 hg5 (Nat.le_refl _)⟩ (by omega) (by repeat (first | exact Sub.nil | refine Sub.cons rfl ?_))
          · rw [show 9 - k = (9 - (k + 1)) + 1 by omega, Nat.pow_succ] at hv
            omega
          · rw [List.append_assoc, ← hb3, hst]; rfl
        · have h' := of_decide_eq_false h'
          have hen := rest_end k v y hk hv h'
          repeat (first | refine WC.seq ?_ | refine WC.block ?_ | refine WC.region ?_ | refine WL.nil ?_ | refine WX.then_normal ?_ | refine WC.skip ?_ | refine WC.exit ?_ | refine WC.ret ?_ | refine WX.then_exit ?_ | refine WX.then_ret ?_ | refine WX.block_normal ?_ | refine WX.block_ret ?_ | refine WX.block_same ?_ | refine WX.block_other rfl ?_ | refine WC.label ?_ | refine WC.scope ?_ | refine WX.scope_normal ?_ | refine WX.scope_ret ?_ | refine WX.scope_exit ?_ | refine WL.y rfl (Yld.add rfl rfl (by simp only [In]; omega)) ?_ | refine WL.y rfl (Yld.sub rfl rfl (by simp only [In]; omega)) ?_ | refine WL.y rfl (Yld.convB tab_ok rfl rfl rfl rfl) ?_ | refine WL.y rfl (Yld.conv tab_ok rfl rfl rfl (by simp only [In]; omega)) ?_ | refine WL.y rfl (Yld.quo rfl rfl (by omega) (by omega) (by simp only [In]; omega)) ?_ | refine WL.y rfl (Yld.rem rfl rfl (by omega) (by omega)) ?_ | refine WL.y rfl (Yld.pure tab_ok rfl) ?_ | refine WL.y rfl (Yld.pickV rfl rfl rfl) ?_ | refine WL.gno rfl rfl rfl rfl ?_ | refine WL.gyes rfl rfl rfl rfl (Yld.sub rfl rfl (by simp only [In]; omega)) ?_ | refine WL.gyes rfl rfl rfl rfl (Yld.pure tab_ok rfl) ?_ | refine WL.gyes rfl rfl rfl rfl (Yld.pickV rfl rfl rfl) ?_)
          refine WX.round4 (i + 1) b A' c' ⟨by omega, by rw [hY, ← hen]; exact hb3, by omega, hO3, hg3⟩ (by omega) (by repeat (first | exact Sub.nil | refine Sub.cons rfl ?_))
    · simp only [decide_eq_false_iff_not] at h
      obtain rfl : i = l.length := by omega
      rw [List.drop_eq_nil_of_le (Nat.le_refl _)] at hb
      have hb' : b = dd (val l) := by simpa [val, dd_zero] using hb
      have hB2 := hB1.keep hg2 (by simp)
      repeat (first | refine WL.y rfl (Yld.bload tab_ok hB2 rfl rfl rfl) ?_ | refine WC.seq ?_ | refine WC.block ?_ | refine WC.region ?_ | refine WL.nil ?_ | refine WX.then_normal ?_ | refine WC.skip ?_ | refine WC.exit ?_ | refine WC.ret ?_ | refine WX.then_exit ?_ | refine WX.then_ret ?_ | refine WX.block_normal ?_ | refine WX.block_ret ?_ | refine WX.block_same ?_ | refine WX.block_other rfl ?_ | refine WC.label ?_ | refine WC.scope ?_ | refine WX.scope_normal ?_ | refine WX.scope_ret ?_ | refine WX.scope_exit ?_ | refine WL.y rfl (Yld.add rfl rfl (by simp only [In]; omega)) ?_ | refine WL.y rfl (Yld.sub rfl rfl (by simp only [In]; omega)) ?_ | refine WL.y rfl (Yld.convB tab_ok rfl rfl rfl rfl) ?_ | refine WL.y rfl (Yld.conv tab_ok rfl rfl rfl (by simp only [In]; omega)) ?_ | refine WL.y rfl (Yld.quo rfl rfl (by omega) (by omega) (by simp only [In]; omega)) ?_ | refine WL.y rfl (Yld.rem rfl rfl (by omega) (by omega)) ?_ | refine WL.y rfl (Yld.pure tab_ok rfl) ?_ | refine WL.y rfl (Yld.pickV rfl rfl rfl) ?_ | refine WL.gno rfl rfl rfl rfl ?_ | refine WL.gyes rfl rfl rfl rfl (Yld.sub rfl rfl (by simp only [In]; omega)) ?_ | refine WL.gyes rfl rfl rfl rfl (Yld.pure tab_ok rfl) ?_ | refine WL.gyes rfl rfl rfl rfl (Yld.pickV rfl rfl rfl) ?_)
      have hval : x.natAbs = val l := by cases neg <;> simp at hz <;> omega
      refine WC.mergeW (S := List UInt8 × Option Addr × Nat) (fun s => [(3, .slice s.2.1 s.1.length s.2.2)]) (fun s w' => s.1 = dd (val l) ++ (if x < 0 then [45] else []) ∧ Own vb w' w1.heap.size 5 s.2.1 s.2.2 s.1 ∧ w1.grownBy w' none) rfl (fun h Q' hQ => ?_) (fun h Q' hQ => ?_) ?_
      · subst h
        have hneg : x < 0 := by simp at hz; omega
        repeat (first | refine WC.seq ?_ | refine WC.block ?_ | refine WC.region ?_ | refine WL.nil ?_ | refine WX.then_normal ?_ | refine WC.skip ?_ | refine WC.exit ?_ | refine WC.ret ?_ | refine WX.then_exit ?_ | refine WX.then_ret ?_ | refine WX.block_normal ?_ | refine WX.block_ret ?_ | refine WX.block_same ?_ | refine WX.block_other rfl ?_ | refine WC.label ?_ | refine WC.scope ?_ | refine WX.scope_normal ?_ | refine WX.scope_ret ?_ | refine WX.scope_exit ?_ | refine WL.y rfl (Yld.add rfl rfl (by simp only [In]; omega)) ?_ | refine WL.y rfl (Yld.sub rfl rfl (by simp only [In]; omega)) ?_ | refine WL.y rfl (Yld.convB tab_ok rfl rfl rfl rfl) ?_ | refine WL.y rfl (Yld.conv tab_ok rfl rfl rfl (by simp only [In]; omega)) ?_ | refine WL.y rfl (Yld.quo rfl rfl (by omega) (by omega) (by simp only [In]; omega)) ?_ | refine WL.y rfl (Yld.rem rfl rfl (by omega) (by omega)) ?_ | refine WL.y rfl (Yld.pure tab_ok rfl) ?_ | refine WL.y rfl (Yld.pickV rfl rfl rfl) ?_ | refine WL.gno rfl rfl rfl rfl ?_ | refine WL.gyes rfl rfl rfl rfl (Yld.sub rfl rfl (by simp only [In]; omega)) ?_ | refine WL.gyes rfl rfl rfl rfl (Yld.pure tab_ok rfl) ?_ | refine WL.gyes rfl rfl rfl rfl (Yld.pickV rfl rfl rfl) ?_)
        refine WL.lit (us := [vb 45]) tab_ok rfl rfl rfl (by intro u hu; rw [List.mem_singleton] at hu; rw [hu]; rfl) rfl (by omega) (fun g4 w4 hL4 hg4 hl4 => ?_)
        have hR4 : Rd vb w4 (some ⟨g4, 0, none⟩) 1 [45] := Rd.ofBl' hL4 (by simp) (by simp [maxLen])
        have hO4 := hO.grown hg4
        have hz3 := hg2.size
        have hz4 := hg4.size
        refine WL.append tab_ok rfl rfl One.b hO4 rfl rfl hR4 rfl rfl (by simp only [List.length_cons, List.length_nil]; omega) (by simp only [maxLen, List.length_cons, List.length_nil]; omega) (by omega) (fun A5 c5 w5 hO5 hg5 hf5 => ?_)
        repeat (first | refine WC.seq ?_ | refine WC.block ?_ | refine WC.region ?_ | refine WL.nil ?_ | refine WX.then_normal ?_ | refine WC.skip ?_ | refine WC.exit ?_ | refine WC.ret ?_ | refine WX.then_exit ?_ | refine WX.then_ret ?_ | refine WX.block_normal ?_ | refine WX.block_ret ?_ | refine WX.block_same ?_ | refine WX.block_other rfl ?_ | refine WC.label ?_ | refine WC.scope ?_ | refine WX.scope_normal ?_ | refine WX.scope_ret ?_ | refine WX.scope_exit ?_ | refine WL.y rfl (Yld.add rfl rfl (by simp only [In]; omega)) ?_ | refine WL.y rfl (Yld.sub rfl rfl (by simp only [In]; omega)) ?_ | refine WL.y rfl (Yld.convB tab_ok rfl rfl rfl rfl) ?_ | refine WL.y rfl (Yld.conv tab_ok rfl rfl rfl (by simp only [In]; omega)) ?_ | refine WL.y rfl (Yld.quo rfl rfl (by omega) (by omega) (by simp only [In]; omega)) ?_ | refine WL.y rfl (Yld.rem rfl rfl (by omega) (by omega)) ?_ | refine WL.y rfl (Yld.pure tab_ok rfl) ?_ | refine WL.y rfl (Yld.pickV rfl rfl rfl) ?_ | refine WL.gno rfl rfl rfl rfl ?_ | refine WL.gyes rfl rfl rfl rfl (Yld.sub rfl rfl (by simp only [In]; omega)) ?_ | refine WL.gyes rfl rfl rfl rfl (Yld.pure tab_ok rfl) ?_ | refine WL.gyes rfl rfl rfl rfl (Yld.pickV rfl rfl rfl) ?_)
        exact WX.weaken (by repeat (first | exact Sub.nil | refine Sub.cons rfl ?_)) (hQ (_, A5, c5) w5 ⟨by rw [if_pos hneg, hb'], hO5, gr_own (gr_trans hg2 hg4) hO4 hg5 (Nat.le_refl _)⟩)
      · subst h
        have hneg : ¬ x < 0 := by simp at hz; omega
        repeat (first | refine WC.seq ?_ | refine WC.block ?_ | refine WC.region ?_ | refine WL.nil ?_ | refine WX.then_normal ?_ | refine WC.skip ?_ | refine WC.exit ?_ | refine WC.ret ?_ | refine WX.then_exit ?_ | refine WX.then_ret ?_ | refine WX.block_normal ?_ | refine WX.block_ret ?_ | refine WX.block_same ?_ | refine WX.block_other rfl ?_ | refine WC.label ?_ | refine WC.scope ?_ | refine WX.scope_normal ?_ | refine WX.scope_ret ?_ | refine WX.scope_exit ?_ | refine WL.y rfl (Yld.add rfl rfl (by simp only [In]; omega)) ?_ | refine WL.y rfl (Yld.sub rfl rfl (by simp only [In]; omega)) ?_ | refine WL.y rfl (Yld.convB tab_ok rfl rfl rfl rfl) ?_ | refine WL.y rfl (Yld.conv tab_ok rfl rfl rfl (by simp only [In]; omega)) ?_ | refine WL.y rfl (Yld.quo rfl rfl (by omega) (by omega) (by simp only [In]; omega)) ?_ | refine WL.y rfl (Yld.rem rfl rfl (by omega) (by omega)) ?_ | refine WL.y rfl (Yld.pure tab_ok rfl) ?_ | refine WL.y rfl (Yld.pickV rfl rfl rfl) ?_ | refine WL.gno rfl rfl rfl rfl ?_ | refine WL.gyes rfl rfl rfl rfl (Yld.sub rfl rfl (by simp only [In]; omega)) ?_ | refine WL.gyes rfl rfl rfl rfl (Yld.pure tab_ok rfl) ?_ | refine WL.gyes rfl rfl rfl rfl (Yld.pickV rfl rfl rfl) ?_)
        exact WX.weaken (by repeat (first | exact Sub.nil | refine Sub.cons rfl ?_)) (hQ (_, A', c') w2 ⟨by rw [if_neg hneg, hb']; simp, hO, hg2⟩)
      · rintro ⟨b2, A2, c2⟩ w3 ⟨he, hO3, hg3⟩
        simp only at he hO3
        repeat (first | refine WC.seq ?_ | refine WC.block ?_ | refine WC.region ?_ | refine WL.nil ?_ | refine WX.then_normal ?_ | refine WC.skip ?_ | refine WC.exit ?_ | refine WC.ret ?_ | refine WX.then_exit ?_ | refine WX.then_ret ?_ | refine WX.block_normal ?_ | refine WX.block_ret ?_ | refine WX.block_same ?_ | refine WX.block_other rfl ?_ | refine WC.label ?_ | refine WC.scope ?_ | refine WX.scope_normal ?_ | refine WX.scope_ret ?_ | refine WX.scope_exit ?_ | refine WL.y rfl (Yld.add rfl rfl (by simp only [In]; omega)) ?_ | refine WL.y rfl (Yld.sub rfl rfl (by simp only [In]; omega)) ?_ | refine WL.y rfl (Yld.convB tab_ok rfl rfl rfl rfl) ?_ | refine WL.y rfl (Yld.conv tab_ok rfl rfl rfl (by simp only [In]; omega)) ?_ | refine WL.y rfl (Yld.quo rfl rfl (by omega) (by omega) (by simp only [In]; omega)) ?_ | refine WL.y rfl (Yld.rem rfl rfl (by omega) (by omega)) ?_ | refine WL.y rfl (Yld.pure tab_ok rfl) ?_ | refine WL.y rfl (Yld.pickV rfl rfl rfl) ?_ | refine WL.gno rfl rfl rfl rfl ?_ | refine WL.gyes rfl rfl rfl rfl (Yld.sub rfl rfl (by simp only [In]; omega)) ?_ | refine WL.gyes rfl rfl rfl rfl (Yld.pure tab_ok rfl) ?_ | refine WL.gyes rfl rfl rfl rfl (Yld.pickV rfl rfl rfl) ?_)
        refine WL.call rfl rfl (reverse_fn A2 c2 _ b2 w3 hO3) ?_
        rintro _ w4 ⟨rfl, hO4, hg4⟩
        repeat (first | refine WL.y rfl (Yld.b2s tab_ok hO4.rd rfl rfl rfl rfl (by simp)) ?_ | refine WC.seq ?_ | refine WC.block ?_ | refine WC.region ?_ | refine WL.nil ?_ | refine WX.then_normal ?_ | refine WC.skip ?_ | refine WC.exit ?_ | refine WC.ret ?_ | refine WX.then_exit ?_ | refine WX.then_ret ?_ | refine WX.block_normal ?_ | refine WX.block_ret ?_ | refine WX.block_same ?_ | refine WX.block_other rfl ?_ | refine WC.label ?_ | refine WC.scope ?_ | refine WX.scope_normal ?_ | refine WX.scope_ret ?_ | refine WX.scope_exit ?_ | refine WL.y rfl (Yld.add rfl rfl (by simp only [In]; omega)) ?_ | refine WL.y rfl (Yld.sub rfl rfl (by simp only [In]; omega)) ?_ | refine WL.y rfl (Yld.convB tab_ok rfl rfl rfl rfl) ?_ | refine WL.y rfl (Yld.conv tab_ok rfl rfl rfl (by simp only [In]; omega)) ?_ | refine WL.y rfl (Yld.quo rfl rfl (by omega) (by omega) (by simp only [In]; omega)) ?_ | refine WL.y rfl (Yld.rem rfl rfl (by omega) (by omega)) ?_ | refine WL.y rfl (Yld.pure tab_ok rfl) ?_ | refine WL.y rfl (Yld.pickV rfl rfl rfl) ?_ | refine WL.gno rfl rfl rfl rfl ?_ | refine WL.gyes rfl rfl rfl rfl (Yld.sub rfl rfl (by simp only [In]; omega)) ?_ | refine WL.gyes rfl rfl rfl rfl (Yld.pure tab_ok rfl) ?_ | refine WL.gyes rfl rfl rfl rfl (Yld.pickV rfl rfl rfl) ?_)
        refine WX.ret1 rfl rfl ⟨?_, gr_trans hg1 (gr_own hg3 hO3 hg4 (Nat.le_refl _))⟩
        unfold txt
        rw [if_neg hx0, hval, he, List.reverse_append]
        split <;> rfl
end Go.Proofs.YtofenpiiihhigaaDoor

 /- Two contracts of package num in the generator's form, where a seat has few of its functions. -/
namespace Go.Proofs.YtofenpiiihhigaaDoor
open Go Go.RowKit
abbrev RNum (K : Int → Nat → Prop) (w : World) (v : Value) (w' : World) : Prop := w.grownBy w' none ∧ ∃ (a b : Value) (z : Int) (m : Nat), v = .agg ⟨[a, b]⟩ ∧ Nm w' (.agg ⟨[a, b]⟩) z m ∧ a.oneCell' = true ∧ b.oneCell' = true ∧ K z m
theorem rnum {K : Int → Nat → Prop} {w w' : World} {v : Value} {z : Int} {m : Nat} (h : Nm w' v z m) (hg : w.grownBy w' none) (H : K z m) : RNum K w v w' := by
  obtain ⟨a, b, rfl, ha, hb⟩ := h.agg
  exact ⟨hg, a, b, z, m, rfl, h, ha, hb, H⟩
def M_num_Of (n : Int) (K : Int → Nat → Prop) : Prop := -9223372036854775808 ≤ n ∧ n ≤ 9223372036854775807 ∧ K n 3
theorem W_num_Of {w : World} {n : Int} {K : Int → Nat → Prop} (H : M_num_Of n K) : Fn Tryd.prog 14 ⟨[.int .i64 n]⟩ w (RNum K w) :=
  (of_fn n w H.1 H.2.1).mono fun _ _ ⟨hN, hg⟩ => rnum hN hg H.2.2
def M_num_Num_Text (x : Int) (m : Nat) (K : List UInt8 → Prop) : Prop := m ≤ 90000 ∧ K (txt x)
theorem W_num_Num_Text {w : World} {a b : Value} {x : Int} {m : Nat} {K : List UInt8 → Prop} (h1 : Nm w (.agg ⟨[a, b]⟩) x m) (H : M_num_Num_Text x m K) : Fn Tryd.prog 15 ⟨[.agg ⟨[a, b]⟩]⟩ w (fun v w' => w.grownBy w' none ∧ ∃ r : List UInt8, v = vs r ∧ K r) :=
  (text_fn _ x m w h1 H.1).mono fun _ _ ⟨hv, hg⟩ => ⟨hg, _, hv, H.2⟩
end Go.Proofs.YtofenpiiihhigaaDoor


 