/- Texts of this claim, joined by a program: K, K2, Enc, Cat, GVa, Vis, GPr, GSa. -/
import Derived.Test.YtcfljnfaakjdjaaDoorJ3
import Derived.Sort.OwnSorted
/- Slices whose elements take k cells each: structs and arrays; their rules. -/
namespace Go.Proofs.YtcfljnfaakjdjaaDoor
open Go Go.RowKit

/-- f's values take k cells. -/
structure OneK {α : Type} (k : Nat) (f : α → List Value) : Prop where
  pos : 0 < k
  len : ∀ x, (f x).length = k
  one : ∀ x, ∀ u ∈ f x, u.oneCell' = true
structure RdK {α : Type} (k : Nat) (f : α → List Value) (w : World) (A : Option Addr) (c : Nat) (xs : List α) : Prop where
  ok : OneK k f
  cap : xs.length ≤ c
  max : c ≤ maxLen
  cells : xs ≠ [] → ∃ g o, A = some ⟨g, o, none⟩ ∧ ∀ j x i u, xs[j]? = some x → (f x)[i]? = some u → w.cell? ⟨g, o + (j * k + i), none⟩ = some u
def OwnK {α : Type} (k : Nat) (f : α → List Value) (w : World) (B : Nat) (e : TypeId) (A : Option Addr) (c : Nat) (xs : List α) : Prop := OneK k f ∧ w.ownsRow B e k (.slice A xs.length c) xs.length (xs.flatMap f)

section
variable {α : Type} {k : Nat} {f : α → List Value}
theorem OneK.flen (h : OneK k f) : ∀ xs : List α, (xs.flatMap f).length = xs.length * k
  | [] => by simp
  | x :: xs => by simp [List.flatMap_cons, h.flen xs, h.len x, Nat.add_mul, Nat.add_comm]
theorem OneK.fget (h : OneK k f) : ∀ (xs : List α) (j : Nat) (x : α) (i : Nat), xs[j]? = some x → i < k → (xs.flatMap f)[j * k + i]? = (f x)[i]?
  | [], _, _, _, hx, _ => by simp at hx
  | y :: xs, 0, x, i, hx, hi => by
    simp only [List.getElem?_cons_zero, Option.some.injEq] at hx
    subst hx
    rw [List.flatMap_cons, Nat.zero_mul, Nat.zero_add, List.getElem?_append_left (by rw [h.len]; exact hi)]
  | y :: xs, j + 1, x, i, hx, hi => by
    have e : (j + 1) * k + i = (f y).length + (j * k + i) := by rw [h.len, Nat.add_mul]; omega
    rw [List.flatMap_cons, e, List.getElem?_append_right (by omega)]
    simp only [Nat.add_sub_cancel_left]
    exact h.fget xs j x i (by simpa using hx) hi
theorem OneK.fset (h : OneK k f) : ∀ (xs : List α) (j : Nat) (y : α), j < xs.length → (xs.set j y).flatMap f = (xs.flatMap f).take (j * k) ++ f y ++ (xs.flatMap f).drop (j * k + k)
  | [], _, _, hj => by simp at hj
  | x :: xs, 0, y, _ => by
    have e : List.drop (0 * k + k) (f x ++ xs.flatMap f) = xs.flatMap f := by rw [Nat.zero_mul, Nat.zero_add, List.drop_left' (h.len x)]
    rw [List.set_cons_zero, List.flatMap_cons, List.flatMap_cons, e]
    simp
  | x :: xs, j + 1, y, hj => by
    have e1 : (j + 1) * k = (f x).length + j * k := by rw [h.len, Nat.add_mul]; omega
    have e2 : (j + 1) * k + k = (f x).length + (j * k + k) := by rw [e1]; omega
    rw [List.set_cons_succ, List.flatMap_cons, List.flatMap_cons, h.fset xs j y (by simpa using hj), e2, e1, List.take_length_add_append, List.drop_length_add_append]
    simp
theorem OneK.fset1 (h : OneK k f) {xs : List α} {j : Nat} {x y : α} {i : Nat} {u : Value} (hx : xs[j]? = some x) (hi : i < k) (hy : f y = (f x).set i u) : (xs.set j y).flatMap f = (xs.flatMap f).set (j * k + i) u := by
  have hj : j < xs.length := by
    rcases Nat.lt_or_ge j xs.length with h1 | h1
    · exact h1
    · rw [List.getElem?_eq_none h1] at hx; cases hx
  have hl := h.flen xs
  have hjk : j * k + k ≤ xs.length * k := by rw [← Nat.succ_mul]; exact Nat.mul_le_mul_right k hj
  rw [h.fset xs j y hj, hy]
  have hmid : ((xs.flatMap f).drop (j * k)).take k = f x := by
    apply List.ext_getElem?
    intro p
    by_cases hp : p < k
    · rw [List.getElem?_take, if_pos hp, List.getElem?_drop, h.fget xs j x p hx hp]
    · rw [List.getElem?_eq_none (by simp; omega), List.getElem?_eq_none (by rw [h.len]; omega)]
  have hsplit : xs.flatMap f = (xs.flatMap f).take (j * k) ++ (f x ++ (xs.flatMap f).drop (j * k + k)) := by
    rw [← hmid, ← List.drop_drop, List.take_append_drop, List.take_append_drop]
  generalize hq : xs.flatMap f = q at *
  have ht : (q.take (j * k)).length = j * k := by simp; omega
  have e3 : q.set (j * k + i) u = (q.take (j * k) ++ (f x ++ q.drop (j * k + k))).set (j * k + i) u := by rw [← hsplit]
  rw [e3, List.set_append_right _ _ (by omega), ht, Nat.add_sub_cancel_left, List.set_append_left _ _ (by rw [h.len]; exact hi), List.append_assoc]
theorem OneK.mem (h : OneK k f) {xs : List α} : ∀ u ∈ xs.flatMap f, u.oneCell' = true := fun u hu => by
  obtain ⟨x, _, hx⟩ := List.mem_flatMap.1 hu
  exact h.one x u hx
end

section
variable {α : Type} {k : Nat} {f : α → List Value} {w w' : World} {A : Option Addr} {c B g : Nat} {xs : List α} {e : TypeId} {row : Option Nat}
theorem RdK.nil (h : OneK k f) (w : World) {A : Option Addr} {c : Nat} (hc : c ≤ maxLen) : RdK k f w A c [] := ⟨h, Nat.zero_le _, hc, fun h => absurd rfl h⟩
theorem RdK.lt (h : RdK k f w A c xs) (hx : xs ≠ []) {g : Nat} (hg : blk A = some g) : g < w.heap.size := by
  obtain ⟨g', o, rfl, hc⟩ := h.cells hx
  obtain ⟨x, l, rfl⟩ := List.exists_cons_of_ne_nil hx
  have h0 : 0 < (f x).length := by rw [h.ok.len]; exact h.ok.pos
  have := World.block_lt_of_cell? w _ (hc 0 x 0 _ rfl (List.getElem?_eq_getElem h0))
  simp only [blk, Option.map_some, Option.some.injEq] at hg
  subst hg
  exact this
theorem RdK.keep (h : RdK k f w A c xs) (hg : w.grownBy w' row) (hne : xs ≠ [] → ∀ g, row = some g → blk A ≠ some g) : RdK k f w' A c xs :=
  ⟨h.ok, h.cap, h.max, fun hx => by
    obtain ⟨g', o, rfl, hc⟩ := h.cells hx
    refine ⟨g', o, rfl, fun j x i u hj hi => hg.cell (hc j x i u hj hi) (fun e => ?_)⟩
    exact hne hx _ e.symm (by simp [blk])⟩
theorem RdK.grown (h : RdK k f w A c xs) (hg : w.grownBy w' none) : RdK k f w' A c xs := h.keep hg (by simp)
theorem RdK.go (h : RdK k f w A c xs) (hg : w.grownBy w' row) (hd : Dn xs (blk A) row) : RdK k f w' A c xs := h.keep hg fun hx g e k => hd hx g k e
theorem RdK.lt' (h : RdK k f w A c xs) (hx : xs ≠ []) : Lt (blk A) w.heap.size := fun _ hg => h.lt hx hg
theorem RdK.eqv (hw : Eqv w w') (h : RdK k f w A c xs) : RdK k f w' A c xs := h.grown (gr_eqv (gr_refl w none) hw)
theorem RdK.cut (h : RdK k f w A c xs) {l m : Nat} (hl : l ≤ m) (hm : m ≤ xs.length) : RdK k f w (if c = l then A else A.map (·.add (l * k))) (c - l) ((xs.drop l).take (m - l)) := by
  have hlen : ((xs.drop l).take (m - l)).length = m - l := by simp; omega
  refine ⟨h.ok, by have := h.cap; omega, by have := h.max; omega, fun hx => ?_⟩
  have hx' : 0 < m - l := by
    rw [← hlen]
    exact List.length_pos_iff.2 hx
  obtain ⟨g', o, rfl, hc⟩ := h.cells (fun e => by rw [e] at hm; simp at hm; omega)
  rw [if_neg (by have := h.cap; omega)]
  refine ⟨g', o + l * k, by simp [Addr.add_mid], fun j x i u hj hi => ?_⟩
  have := hc (l + j) x i u (by
    rw [List.getElem?_take] at hj
    split at hj
    · rw [List.getElem?_drop] at hj; exact hj
    · cases hj) hi
  rw [show o + l * k + (j * k + i) = o + ((l + j) * k + i) by rw [Nat.add_mul]; omega]
  exact this
theorem blk_cutK {l m : Nat} : ∀ g, blk (if c = l then A else A.map (·.add m)) = some g → blk A = some g := fun g hg => by
  split at hg
  · exact hg
  · cases A with
    | none => simp [blk] at hg
    | some a => simpa [blk, addr_block] using hg
theorem OwnK.nil (h : OneK k f) (w : World) (B : Nat) (e : TypeId) : OwnK k f w B e none 0 [] := ⟨h, World.ownsRow_nil w B e k⟩
theorem OwnK.rd (h : OwnK k f w B e A c xs) : RdK k f w A c xs := by
  have h2 := h.2
  rcases h2.2 with ⟨hv, hn⟩ | ⟨g, cap, cur, hv, hb, hg, hnc, hcm, hcs, htake⟩
  · simp only [Value.slice.injEq] at hv
    obtain ⟨rfl, _, rfl⟩ := hv
    have : xs = [] := List.eq_nil_of_length_eq_zero hn
    subst this
    exact RdK.nil h.1 w (Nat.zero_le _)
  · simp only [Value.slice.injEq] at hv
    obtain ⟨rfl, _, rfl⟩ := hv
    refine ⟨h.1, hnc, hcm, fun _ => ⟨g, 0, rfl, fun j x i u hj hi => ?_⟩⟩
    have hik : i < k := by
      rcases Nat.lt_or_ge i k with h1 | h1
      · exact h1
      · rw [List.getElem?_eq_none (by rw [h.1.len]; exact h1)] at hi; cases hi
    have := h2.cells (g := g) rfl (j * k + i) u (by rw [h.1.fget xs j x i hj hik]; exact hi)
    rwa [Addr.add_mid] at this
theorem OwnK.keep (h : OwnK k f w B e A c xs) (hg : w.grownBy w' row) (hne : ∀ g, row = some g → blk A ≠ some g) : OwnK k f w' B e A c xs := by
  refine ⟨h.1, World.ownsRow.kept h.2 hg ?_⟩
  cases A with
  | none => exact .inl rfl
  | some a =>
    refine .inr ?_
    simp only [Value.ownBlock]
    intro e
    exact hne _ e.symm (by simp [blk])
theorem OwnK.grown (h : OwnK k f w B e A c xs) (hg : w.grownBy w' none) : OwnK k f w' B e A c xs := h.keep hg (by simp)
theorem OwnK.go (h : OwnK k f w B e A c xs) (hg : w.grownBy w' row) (hd : Dj (blk A) row) : OwnK k f w' B e A c xs := h.keep hg fun g e k => hd g k e
theorem OwnK.lt (h : OwnK k f w B e A c xs) {g : Nat} (hg : blk A = some g) : B ≤ g ∧ g < w.heap.size := by
  refine World.ownsRow.lt h.2 g ?_
  cases A with
  | none => simp [blk] at hg
  | some a => simpa [blk, Value.ownBlock] using hg
theorem OwnK.lt' (h : OwnK k f w B e A c xs) : Lt (blk A) w.heap.size := fun _ hg => (h.lt hg).2
theorem OwnK.ge' (h : OwnK k f w B e A c xs) : Ge (blk A) B := fun _ hg => (h.lt hg).1
theorem OwnK.eqv (hw : Eqv w w') (h : OwnK k f w B e A c xs) : OwnK k f w' B e A c xs := h.grown (gr_eqv (gr_refl w none) hw)
theorem OwnK.base {B' : Nat} (h : OwnK k f w B e A c xs) (hB : ∀ g, blk A = some g → B' ≤ g) : OwnK k f w B' e A c xs := by
  refine ⟨h.1, h.2.1, ?_⟩
  rcases h.2.2 with hn | ⟨g, cap, cur, hv, hb, rest⟩
  · exact .inl hn
  · refine .inr ⟨g, cap, cur, hv, ?_, rest⟩
    simp only [Value.slice.injEq] at hv
    exact hB g (by rw [hv.1]; rfl)
theorem OwnK.ofBl {m : Nat} (ho : OneK k f) (h : Bl w g e (xs.flatMap f)) (hB : B ≤ g) (hm : xs.length ≤ maxLen) (hn : m = xs.length) : OwnK k f w B e (some ⟨g, 0, none⟩) m xs := by
  subst hn
  refine ⟨ho, ho.flen xs, .inr ⟨g, _, _, rfl, hB, h, Nat.le_refl _, hm, by simpa using ho.flen xs, ?_⟩⟩
  rw [← ho.flen xs]
  exact List.take_length
theorem OwnK.take (h : OwnK k f w B e A c xs) (m : Nat) (hm : m ≤ xs.length) : OwnK k f w B e A c (xs.take m) := by
  rcases h.2.2 with ⟨hv, hn⟩ | ⟨g, cap, cur, hv, hb, hg, hnc, hcm, hcs, htake⟩
  · simp only [Value.slice.injEq] at hv
    obtain ⟨rfl, _, rfl⟩ := hv
    have : xs = [] := List.eq_nil_of_length_eq_zero hn
    subst this
    simpa using OwnK.nil h.1 w B e
  · simp only [Value.slice.injEq] at hv
    obtain ⟨rfl, _, rfl⟩ := hv
    have hl : (xs.take m).length = m := by simp; omega
    refine ⟨h.1, h.1.flen _, .inr ⟨g, c, cur, rfl, hb, hg, by omega, hcm, hcs, ?_⟩⟩
    rw [hl]
    have e1 : (xs.take m).flatMap f = (xs.flatMap f).take (m * k) := by
      have h2 := h.1.flen (xs.take m)
      rw [hl] at h2
      have h3 : xs.flatMap f = (xs.take m).flatMap f ++ (xs.drop m).flatMap f := by rw [← List.flatMap_append, List.take_append_drop]
      rw [h3, List.take_left' h2]
    rw [e1, ← htake, List.take_take, Nat.min_eq_left (Nat.mul_le_mul_right k hm)]
end

/-- elements' types of slices: size, bytes -/
def ckOwK (P : Program) (t e k b : Nat) : Bool := match P.underlying t with
  | some (.slice e') => Nat.beq e' e && (match P.info? e with
    | some i => Nat.beq i.size k && Nat.beq i.bytes b && (match i.zero with | some z => Nat.beq z.cells.size k | none => false)
    | _ => false)
  | _ => false
theorem ckOwK_spec {P : Program} {t e k b : Nat} (h : ckOwK P t e k b = true) : P.underlying t = some (.slice e) ∧ ∃ i z, P.info? e = some i ∧ i.zero = some z ∧ i.size = k ∧ i.bytes = b ∧ z.cells.size = k := by
  unfold ckOwK at h
  split at h
  · rename_i e' he
    simp only [Bool.and_eq_true] at h
    have h1 := Nat.eq_of_beq_eq_true h.1
    subst h1
    refine ⟨he, ?_⟩
    have h2 := h.2
    split at h2
    · rename_i i hi
      simp only [Bool.and_eq_true] at h2
      obtain ⟨⟨h3, h4⟩, h5⟩ := h2
      split at h5
      · rename_i z hz
        exact ⟨i, z, hi, hz, Nat.eq_of_beq_eq_true h3, Nat.eq_of_beq_eq_true h4, Nat.eq_of_beq_eq_true h5⟩
      · cases h5
    · cases h2
  · cases h

theorem splice_take {c v : List Value} {a k m : Nat} (hv : v.length = k) (h : a + k ≤ m) (hm : m ≤ c.length) : (c.take a ++ v ++ c.drop (a + k)).take m = (c.take m).take a ++ v ++ (c.take m).drop (a + k) := by
  have hl : (c.take a ++ v).length = a + k := by simp; omega
  rw [List.take_append, List.take_of_length_le (by omega), hl, List.take_take, Nat.min_eq_left (by omega), List.drop_take]
section rules
variable {P : Program} {T : Tab} {N : Nat} {ops : Array Oper} {Q : Post} {L : Slots} {w w0 : World} {rest : List Oper} {d : Nat} {dd : Option Tmp} {ty : TypeId} {pos : String} {af : Array Edge} {t t' : TypeId} {x y i : Operand} {kk kk' : IntKind} {q : Int}
variable {α : Type} {k : Nat} {f : α → List Value} {A : Option Addr} {c n B : Nat} {xs ys : List α} {e : TypeId} {us : List Value}
theorem Yld.iaddrK {e : TypeId} (hT : T.Ok P) (hR : RdK k f w0 A c xs) (hs : nk T.sl t = some (e, k)) (hx : opv L x = some (.slice A n c)) (hn : n = xs.length) (hi : opv L i = some (.int kk q)) (h0 : 0 ≤ q) (h1 : q < n) :
    Yld P N w ⟨dd, .indexAddr t x i, ty, pos, af, none⟩ L (.pointer (A.map (·.add (q.toNat * k)))) := fun a w1 _ ha => by
  obtain ⟨hu, j, hj, hj1⟩ := hT.sl hs
  obtain ⟨g, o, rfl, _⟩ := hR.cells (fun e => by rw [e] at hn; simp at hn; omega)
  unfold execOp
  simp [ha.ev hx, ha.ev hi, Instr.indexAt, run_underlying hu, asIntOf, h0, h1, sizeOf, typeInfo, hj, hj1]
theorem Yld.faddrK {m fi o j : Nat} {s : TypeId} {os : List Nat} (hT : T.Ok P) (hR : RdK k f w0 A c xs) (hj : j < xs.length) (hos : nk T.off s = some os) (ho : os[fi]? = some o) (hx : opv L x = some (.pointer (A.map (·.add m)))) :
    Yld P N w ⟨dd, .fieldAddr s x fi, ty, pos, af, none⟩ L (.pointer (A.map (·.add (m + o)))) := fun a w1 _ ha => by
  obtain ⟨g, p, rfl, _⟩ := hR.cells (fun e => by rw [e] at hj; simp at hj)
  obtain ⟨fs, hfs, hall⟩ := hT.off hos
  obtain ⟨fd, hfd, rfl, i, hi, hi0⟩ := hall _ _ ho
  unfold execOp
  simp [ha.ev hx, Instr.fieldAt, run_underlying hfs, hfd, Instr.sureAddr, fieldPlace, sizeOf, typeInfo, hi, hi0, Addr.add_mid, Nat.add_assoc]
theorem Yld.nilK {m j : Nat} (hR : RdK k f w0 A c xs) (hj : j < xs.length) (hx : opv L x = some (.pointer (A.map (·.add m)))) :
    Yld P N w ⟨dd, .nilCheck x, ty, pos, af, none⟩ L (.pointer (A.map (·.add m))) := fun a w1 _ ha => by
  obtain ⟨g, p, rfl, _⟩ := hR.cells (fun e => by rw [e] at hj; simp at hj)
  unfold execOp
  simp [ha.ev hx]
theorem RdK.cellsAt (hR : RdK k f w A c xs) (dv : α) {j : Nat} (hj : j < xs.length) : ∃ g o, A = some ⟨g, o, none⟩ ∧ ∀ i u, (f (xs.getD j dv))[i]? = some u → w.cell? ⟨g, o + (j * k + i), none⟩ = some u := by
  obtain ⟨g, o, hA, hc⟩ := hR.cells (fun e => by rw [e] at hj; simp at hj)
  exact ⟨g, o, hA, fun i u hi => hc j _ i u (by simp [List.getD, hj]) hi⟩
theorem Yld.iloadK (dv : α) {j : Nat} (hT : T.Ok P) (hR : RdK k f w A c xs) (hs : nk T.agg t = some k) (hx : opv L x = some (.pointer (A.map (·.add (j * k))))) (hj : j < xs.length) :
    Yld P N w ⟨dd, .load t x, ty, pos, af, none⟩ L (.agg ⟨f (xs.getD j dv)⟩) := fun a w1 hw ha => by
  obtain ⟨⟨de, hu, hr⟩, i, hi, hi1⟩ := hT.agg hs
  obtain ⟨g, o, rfl, hc⟩ := hR.cellsAt dv hj
  have hrow : de.isRow = true := by cases de <;> simp_all [isRow]
  have := run_loadVar_mid (P := P) w1 g (o + j * k) t (f (xs.getD j dv)) de (fun p v hv' => by
    rw [hw.cell, Nat.add_assoc]
    exact hc p v hv') hu hrow (by simp [hi, hi1, hR.ok.len])
  unfold execOp
  simp only [ha.ev hx, Option.map_some, Addr.add_mid, Instr.loadAt, Instr.sureAddr, Sem.run_bind, Sem.run_pure, Result.andThen_ok, this]
/-- a field that is itself a struct or an array -/
theorem Yld.iloadP (dv : α) {j o m : Nat} {vs : List Value} (hT : T.Ok P) (hR : RdK k f w A c xs) (hs : nk T.agg t = some m) (hx : opv L x = some (.pointer (A.map (·.add (j * k + o))))) (hj : j < xs.length) (hv : ((f (xs.getD j dv)).drop o).take m = vs) (hl : vs.length = m) :
    Yld P N w ⟨dd, .load t x, ty, pos, af, none⟩ L (.agg ⟨vs⟩) := fun a w1 hw ha => by
  obtain ⟨⟨de, hu, hr⟩, i, hi, hi1⟩ := hT.agg hs
  obtain ⟨g, p, rfl, hc⟩ := hR.cellsAt dv hj
  have hrow : de.isRow = true := by cases de <;> simp_all [isRow]
  have := run_loadVar_mid (P := P) w1 g (p + (j * k + o)) t vs de (fun r v hv' => by
    rw [hw.cell, Nat.add_assoc, Nat.add_assoc]
    refine hc (o + r) v ?_
    rw [← hv, List.getElem?_take] at hv'
    split at hv'
    · rw [List.getElem?_drop] at hv'; exact hv'
    · cases hv') hu hrow (by simp [hi, hi1, hl])
  unfold execOp
  simp only [ha.ev hx, Option.map_some, Addr.add_mid, Instr.loadAt, Instr.sureAddr, Sem.run_bind, Sem.run_pure, Result.andThen_ok, this]
theorem Yld.iloadF (dv : α) {j o : Nat} {u : Unit} {v : Value} (hT : T.Ok P) (hR : RdK k f w A c xs) (hs : nk T.one t = some u) (hx : opv L x = some (.pointer (A.map (·.add (j * k + o))))) (hj : j < xs.length) (hv : (f (xs.getD j dv))[o]? = some v) :
    Yld P N w ⟨dd, .load t x, ty, pos, af, none⟩ L v := by
  obtain ⟨g, p, rfl, hc⟩ := hR.cellsAt dv hj
  exact Yld.cell hT (hc o v hv) hs (by rw [hx, Option.map_some, Addr.add_mid])
/-- a piece of a slice -/
theorem Yld.cutK {e : TypeId} {lo hi : Option Operand} {l h : Int} (hT : T.Ok P) (hR : RdK k f w A c xs) (hs : nk T.sl t = some (e, k)) (hx : opv L x = some (.slice A n c)) (hn : n = xs.length)
    (hl : optv L lo 0 = some l) (hh : optv L hi n = some h) (h0 : 0 ≤ l) (h1 : l ≤ h) (h2 : h ≤ n) :
    Yld P N w ⟨dd, .slice t x lo hi none, ty, pos, af, none⟩ L (.slice (if c = l.toNat then A else A.map (·.add (l.toNat * k))) ((xs.drop l.toNat).take (h.toNat - l.toNat)).length (c - l.toNat)) := fun a w1 _ ha => by
  obtain ⟨hu, j, hj, hj1⟩ := hT.sl hs
  have hb := run_bounds (P := P) (len := n) (cap := c) (isS := true) ha hl hh h0 h1 (by have := hR.cap; omega) w1
  have hlen : ((xs.drop l.toNat).take (h.toNat - l.toNat)).length = h.toNat - l.toNat := by simp; omega
  rw [hlen]
  unfold execOp
  simp [ha.ev hx, Instr.sliceAt, run_underlying hu, Instr.slice, hb, sizeOf, typeInfo, hj, hj1]
theorem WL.cutK {e : TypeId} {lo hi : Option Operand} {l h : Int} (hT : T.Ok P) (hR : RdK k f w A c xs) (hd : Nat.blt d N = true) (hs : nk T.sl t = some (e, k)) (hx : opv L x = some (.slice A n c)) (hn : n = xs.length)
    (hl : optv L lo 0 = some l) (hh : optv L hi n = some h) (h0 : 0 ≤ l) (h1 : l ≤ h) (h2 : h ≤ n)
    (hk : ∀ A' c', RdK k f w A' c' ((xs.drop l.toNat).take (h.toNat - l.toNat)) → (∀ g, blk A' = some g → blk A = some g) → WL P N ops Q rest ((d, .slice A' ((xs.drop l.toNat).take (h.toNat - l.toNat)).length c') :: L) w) :
    WL P N ops Q (⟨some d, .slice t x lo hi none, ty, pos, af, none⟩ :: rest) L w :=
  WL.y hd (Yld.cutK hT hR hs hx hn hl hh h0 h1 h2) (hk _ _ (hR.cut (by omega) (by omega)) blk_cutK)
theorem WL.cutFK {e : TypeId} {lo : Operand} {l : Int} (hT : T.Ok P) (hR : RdK k f w A c xs) (hd : Nat.blt d N = true) (hs : nk T.sl t = some (e, k)) (hx : opv L x = some (.slice A n c)) (hn : n = xs.length) (hl : optv L (some lo) 0 = some l) (h0 : 0 ≤ l) (h1 : l ≤ (n : Int))
    (hk : ∀ A' c', RdK k f w A' c' (xs.drop l.toNat) → (∀ g, blk A' = some g → blk A = some g) → WL P N ops Q rest ((d, .slice A' (xs.drop l.toNat).length c') :: L) w) : WL P N ops Q (⟨some d, .slice t x (some lo) none none, ty, pos, af, none⟩ :: rest) L w := by
  refine WL.cutK (h := (n : Int)) hT hR hd hs hx hn hl rfl h0 h1 (Int.le_refl _) (fun A' c' => ?_)
  have e : (xs.drop l.toNat).take ((n : Int).toNat - l.toNat) = xs.drop l.toNat := List.take_of_length_le (by simp; omega)
  rw [e]
  exact hk A' c'
/-- x[:h], x of the call's own -/
theorem WL.ocutK {lo hi : Option Operand} {h : Int} (hT : T.Ok P) (hd : Nat.blt d N = true) (hs : nk T.sl t = some (e, k)) {e' : TypeId} (hO : OwnK k f w B e' A c xs) (hx : opv L x = some (.slice A n c)) (hn : n = xs.length)
    (hl : optv L lo 0 = some 0) (hh : optv L hi n = some h) (h1 : 0 ≤ h) (h2 : h ≤ n)
    (hk : OwnK k f w B e' A c (xs.take h.toNat) → WL P N ops Q rest ((d, .slice A (xs.take h.toNat).length c) :: L) w) :
    WL P N ops Q (⟨some d, .slice t x lo hi none, ty, pos, af, none⟩ :: rest) L w := by
  have hy := Yld.cutK (P := P) (N := N) (ty := ty) (pos := pos) (af := af) (dd := some d) hT hO.rd hs hx hn hl hh (by omega) h1 h2
  have e1 : (Value.slice (if c = (0 : Int).toNat then A else A.map (·.add ((0 : Int).toNat * k))) ((xs.drop (0 : Int).toNat).take (h.toNat - (0 : Int).toNat)).length (c - (0 : Int).toNat)) = .slice A (xs.take h.toNat).length c := by
    have : A.map (·.add 0) = A := by
      cases A with
      | none => rfl
      | some a => simp [Addr.add]
    simp [this]
  rw [e1] at hy
  exact WL.y hd hy (hk (hO.take h.toNat (by omega)))
/-- x[i].f = v in a slice of the call's own -/
theorem Ef0.ostoreF {j o : Nat} {u : Value} {v : α} (dv : α) (h1 : sz1 P t = true) (hu : u.oneCell' = true) (hO : OwnK k f w B e A c xs) (hx : opv L x = some (.pointer (A.map (·.add (j * k + o))))) (hy : opv L y = some u) (hj : j < xs.length) (ho : Nat.blt o k = true) (hv : f v = (f (xs.getD j dv)).set o u) :
    Ef0 P N w ⟨none, .store t x y, ty, pos, af, none⟩ L fun w' => OwnK k f w' B e A c (xs.set j v) ∧ w.grownBy w' (blk A) := by
  have ho : o < k := by simpa [Nat.blt_eq] using ho
  rcases hO.2.2 with ⟨hv, hn⟩ | ⟨g, cap, cur, hs, hb, hg, hnc, hcm, hcs, htake⟩
  · omega
  · simp only [Value.slice.injEq] at hs
    obtain ⟨rfl, _, rfl⟩ := hs
    have hcl : cur.toList.length = c * k := by simpa using hcs
    have hjk : j * k + k ≤ c * k := by rw [← Nat.succ_mul]; exact Nat.mul_le_mul_right k (by omega)
    have hxj : xs[j]? = some (xs.getD j dv) := by simp [List.getD, hj]
    have h := Ef0.store1 (P := P) (N := N) (L := L) (w := w) (ty := ty) (pos := pos) (af := af) (g := g) (o := j * k + o) (e := e) (us := cur.toList) h1 (by rw [hx, Option.map_some, Addr.add_mid, Nat.zero_add]) hy hu (by unfold Bl; exact hg) (by omega)
    intro a w1 hw ha
    obtain ⟨w', hr, hB', hgr⟩ := h a w1 hw ha
    refine ⟨w', hr, ⟨hO.1, hO.1.flen _, .inr ⟨g, c, _, by simp, hb, hB', by simpa using hnc, hcm, by simpa using hcs, ?_⟩⟩, hgr⟩
    rw [hO.1.fset1 hxj ho hv, List.length_set, List.take_set, ← htake]
theorem WL.ostoreF {j o : Nat} {u : Value} {v : α} (dv : α) (h1 : sz1 P t = true) (hu : u.oneCell' = true) (hO : OwnK k f w B e A c xs) (hx : opv L x = some (.pointer (A.map (·.add (j * k + o))))) (hy : opv L y = some u) (hj : j < xs.length) (ho : Nat.blt o k = true) (hv : f v = (f (xs.getD j dv)).set o u)
    (hk : ∀ w', OwnK k f w' B e A c (xs.set j v) → w.grownBy w' (blk A) → WL P N ops Q rest L w') : WL P N ops Q (⟨none, .store t x y, ty, pos, af, none⟩ :: rest) L w :=
  WL.eff (Ef0.ostoreF dv h1 hu hO hx hy hj ho hv) (fun w' ⟨h1, h2⟩ => hk w' h1 h2)
/-- x[i] = v in a slice of the call's own -/
theorem Ef0.ostoreK {j : Nat} {v : α} (hT : T.Ok P) (h1 : nk T.agg t = some k) (hO : OwnK k f w B e A c xs) (hx : opv L x = some (.pointer (A.map (·.add (j * k))))) (hy : opv L y = some (.agg ⟨f v⟩)) (hj : j < xs.length) :
    Ef0 P N w ⟨none, .store t x y, ty, pos, af, none⟩ L fun w' => OwnK k f w' B e A c (xs.set j v) ∧ w.grownBy w' (blk A) := by
  rcases hO.2.2 with ⟨hv, hn⟩ | ⟨g, cap, cur, hs, hb, hg, hnc, hcm, hcs, htake⟩
  · omega
  · simp only [Value.slice.injEq] at hs
    obtain ⟨rfl, _, rfl⟩ := hs
    have hcl : cur.toList.length = c * k := by simpa using hcs
    have hjk : j * k + k ≤ xs.length * k := by rw [← Nat.succ_mul]; exact Nat.mul_le_mul_right k (by omega)
    have hck : xs.length * k ≤ c * k := Nat.mul_le_mul_right k hnc
    have hfl := hO.1.flen xs
    intro a w1 hw ha
    obtain ⟨_, i, hi, hi1⟩ := hT.agg h1
    have hg1 : w1.heap[g]? = some (.cells cur e (0, 0)) := by rw [hw.heap]; exact hg
    have hst := run_storeCells_at P g (j * k) e (f v) 0 cur w1 hg1 (by rw [hO.1.len]; omega) (hO.1.one v)
    refine ⟨w1.setRow g (List.take (j * k + 0) cur.toList ++ f v ++ List.drop (j * k + 0 + (f v).length) cur.toList).toArray, ?_, ⟨hO.1, hO.1.flen _, .inr ⟨g, c, _, by simp, hb, setRow_heap w1 g cur _ e _ hg1, by simpa using hnc, hcm, ?_, ?_⟩⟩, eqv_gr hw ⟨rfl, rfl, rfl, by simp, fun p _ hp => setRow_other w1 g p _ (fun e => hp (by simp [blk, e]))⟩⟩
    · unfold execOp
      have hcell : (Value.agg ⟨f v⟩).cells = ⟨f v⟩ := rfl
      have hsz : (⟨f v⟩ : Array Value).size = k := hO.1.len v
      simp only [ha.ev hx, ha.ev hy, Option.map_some, Addr.add_mid, Nat.zero_add, Sem.run_bind, Instr.storeAt, Instr.sureAddr, Sem.run_pure, Result.andThen_ok, storeVar, hcell, sizeOf, typeInfo, program, Sem.run, hi, hi1]
      simp only [hsz, ne_eq, not_true_eq_false, if_false]
      rw [hst]
      rfl
    · simp only [List.size_toArray, List.length_append, List.length_take, List.length_drop, hO.1.len, hcl]
      omega
    · rw [hO.1.fset xs j v hj, List.length_set, ← htake]
      simp only [Nat.add_zero, hO.1.len]
      exact splice_take (hO.1.len v) (by omega) (by omega)
theorem WL.ostoreK {j : Nat} {v : α} (hT : T.Ok P) (h1 : nk T.agg t = some k) (hO : OwnK k f w B e A c xs) (hx : opv L x = some (.pointer (A.map (·.add (j * k))))) (hy : opv L y = some (.agg ⟨f v⟩)) (hj : j < xs.length)
    (hk : ∀ w', OwnK k f w' B e A c (xs.set j v) → w.grownBy w' (blk A) → WL P N ops Q rest L w') : WL P N ops Q (⟨none, .store t x y, ty, pos, af, none⟩ :: rest) L w :=
  WL.eff (Ef0.ostoreK hT h1 hO hx hy hj) (fun w' ⟨h1, h2⟩ => hk w' h1 h2)
end rules
end Go.Proofs.YtcfljnfaakjdjaaDoor
 /- Slices whose elements take k cells each: append, literals, make. -/
namespace Go.Proofs.YtcfljnfaakjdjaaDoor
open Go Go.RowKit
section
variable {α : Type} {k : Nat} {f : α → List Value}
theorem OneK.fidx (h : OneK k f) : ∀ (xs : List α) (p : Nat) (u : Value), (xs.flatMap f)[p]? = some u → ∃ j x i, p = j * k + i ∧ xs[j]? = some x ∧ (f x)[i]? = some u
  | [], p, u, hu => by simp at hu
  | x :: xs, p, u, hu => by
    rw [List.flatMap_cons] at hu
    by_cases hp : p < k
    · rw [List.getElem?_append_left (by rw [h.len]; exact hp)] at hu
      exact ⟨0, x, p, by omega, rfl, hu⟩
    · rw [List.getElem?_append_right (by rw [h.len]; omega), h.len] at hu
      obtain ⟨j, y, i, h1, h2, h3⟩ := h.fidx xs _ u hu
      exact ⟨j + 1, y, i, by rw [Nat.add_mul]; omega, by simpa using h2, h3⟩
/-- the parts' cells of a literal -/
def partsA (L : Slots) : Nat → List (Nat × Operand) → Option (List (List Value))
  | _, [] => some []
  | j, (i, x) :: r => bif Nat.beq i j then (match opv L x, partsA L (j + 1) r with
    | some (.agg ⟨vs⟩), some us => some (vs :: us)
    | _, _ => none) else none
theorem fill_partsA {N : Nat} {L : Slots} {a : Act} (ha : Has N L a) (k : Nat) : ∀ (ps : List (Nat × Operand)) (j : Nat) (vs : List (List Value)) (done : List Value) (cells : Array Value), partsA L j ps = some vs → (∀ u ∈ vs, u.length = k) → done.length = j * k → cells.toList.take (j * k) = done → cells.size = (j + vs.length) * k →
    Instr.fill (fun i => some (i * k, k)) cells (ps.map fun p => (p.1, a.eval p.2)) = some ⟨done ++ vs.flatten⟩
  | [], j, vs, done, cells, hp, _, hdl, ht, hs => by
    simp only [partsA, Option.some.injEq] at hp
    subst hp
    simp only [List.map_nil, Instr.fill, List.flatten_nil, List.append_nil]
    congr 1
    apply Array.ext'
    rw [← ht, List.take_of_length_le (by simp at hs ⊢; omega)]
  | (i, x) :: ps, j, vs, done, cells, hp, h1, hdl, ht, hs => by
    simp only [partsA] at hp
    cases hij : Nat.beq i j with
    | false => simp [hij] at hp
    | true =>
      have := Nat.eq_of_beq_eq_true hij
      subst this
      simp only [hij, cond_true] at hp
      split at hp
      · rename_i v us hv hus
        simp only [Option.some.injEq] at hp
        subst hp
        have hvk : v.length = k := h1 v (by simp)
        have hcs : (Value.agg ⟨v⟩).cells = ⟨v⟩ := rfl
        simp only [List.length_cons] at hs
        have hs2 : cells.size = i * k + k + us.length * k := by rw [hs, Nat.add_mul, Nat.add_mul]; omega
        simp only [List.map_cons, Instr.fill, ha.ev hv, hcs]
        have h5 : ((⟨v⟩ : Array Value).zipIdx.foldl (fun cs (x : Value × Nat) => match x with | (c, j) => cs.setIfInBounds (i * k + j) c) cells).toList = splice cells.toList (i * k) v := by
          have h3 := foldl_splice v 0 cells (i * k) (by omega)
          rw [Nat.add_zero] at h3
          have h4 : ((⟨v⟩ : Array Value).zipIdx.foldl (fun (cs : Array Value) (x : Value × Nat) => cs.setIfInBounds (i * k + x.2) x.1) cells).toList = splice cells.toList (i * k) v := by
            rw [← h3, ← Array.foldl_toList]
            simp
          exact h4
        generalize hq : (⟨v⟩ : Array Value).zipIdx.foldl (fun cs (x : Value × Nat) => match x with | (c, j) => cs.setIfInBounds (i * k + j) c) cells = q at h5
        rw [if_neg (by simp [hvk]; omega)]
        have hql : q.size = cells.size := by
          have := congrArg List.length h5
          rw [splice_length _ _ _ (by simp; omega)] at this
          simpa using this
        have := fill_partsA ha k ps (i + 1) us (done ++ v) q hus (fun u hu => h1 u (by simp [hu])) (by rw [List.length_append, hdl, hvk, Nat.add_mul]; omega) (by
          rw [h5, Nat.add_mul, Nat.one_mul]
          unfold splice
          rw [ht, List.take_left' (by rw [List.length_append, hdl, hvk])]) (by rw [hql, hs2, Nat.add_mul, Nat.add_mul]; omega)
        rw [this]
        simp
      · cases hp
theorem flatten_map (f : α → List Value) : ∀ xs : List α, (xs.map f).flatten = xs.flatMap f
  | [] => rfl
  | x :: xs => by simp [List.flatMap_cons, flatten_map f xs]
end
section rules
variable {P : Program} {T : Tab} {N : Nat} {ops : Array Oper} {Q : Post} {L : Slots} {w : World} {rest : List Oper} {d : Nat} {ty : TypeId} {pos : String} {af : Array Edge} {t t' : TypeId} {x y : Operand} {kk kk' : IntKind}
variable {α : Type} {k : Nat} {f : α → List Value} {A : Option Addr} {c n B : Nat} {xs ys : List α} {e : TypeId}
theorem Eff.litK {b m : Nat} {ps : List (Nat × Operand)} (hf : OneK k f) (hs : ckOwK P t e k b = true) (hp : partsA L 0 ps = some (xs.map f)) (hm : xs.length = m) (hm2 : Nat.ble (m * k) 16777216 = true) :
    Eff P N w ⟨some d, .buildSlice t m ⟨ps⟩, ty, pos, af, none⟩ L (fun v w' => v = .slice (some ⟨w.heap.size, 0, none⟩) m m ∧ Bl w' w.heap.size e (xs.flatMap f) ∧ w.grownBy w' none) := fun a w1 hw ha => by
    have hs1 : w1.heap.size = w.heap.size := by rw [hw.heap]
    have hm2 : m * k ≤ 16777216 := by simpa using hm2
    obtain ⟨hu, j, z, hj, hz, hj1, _, hz1⟩ := ckOwK_spec hs
    refine ⟨_, w1.alloc (.cells ⟨xs.flatMap f⟩ e), ?_, rfl, newBlock w1 hw _ e⟩
    have hne : ¬ (m * k > 2 ^ 24) := by omega
    have hmap : ((⟨ps⟩ : Array (Nat × Operand)).map fun p => (p.1, a.eval p.2)).toList = ps.map fun p => (p.1, a.eval p.2) := by simp
    have hfill : ∀ cells : Array Value, cells.size = m * k → Instr.fill (fun i => some (i * k, k)) cells (ps.map fun p => (p.1, a.eval p.2)) = some ⟨xs.flatMap f⟩ := fun cells hc => by
      have := fill_partsA ha k ps 0 (xs.map f) [] cells hp (fun u hu => by
        obtain ⟨y, _, rfl⟩ := List.mem_map.1 hu
        exact hf.len y) (by simp) (by simp) (by rw [hc, List.length_map, hm, Nat.zero_add])
      rw [this, flatten_map]
      rfl
    have hzr : (zeroValue e).run P w1 = .ok z w1 := by simp [zeroValue, typeInfo, hj, hz]
    unfold execOp
    simp only [Instr.buildSlice, Sem.run_bind, run_underlying hu, Result.andThen_ok, sizeOf, typeInfo, program, Sem.run, hj, hj1, hne, if_false, Sem.run_pure, hmap]
    by_cases hm0 : m * k = 0
    · simp only [hm0, if_true, Sem.run_bind, Sem.run_pure, Result.andThen_ok]
      rw [hfill _ (by simp [hm0])]
      simp only [newRow, newObj, Sem.run_bind, Sem.run_pure]
      rw [← hs1]; rfl
    · rw [if_neg hm0]
      simp only [Sem.run_bind, hzr, Result.andThen_ok, Sem.run_pure]
      rw [hfill _ (by simp)]
      simp only [newRow, newObj, Sem.run_bind, Sem.run_pure]
      rw [← hs1]; rfl
theorem WL.litK {b m : Nat} {ps : List (Nat × Operand)} (xs : List α) (hf : OneK k f) (hd : Nat.blt d N = true) (hs : ckOwK P t e k b = true) (hp : partsA L 0 ps = some (xs.map f)) (hm : xs.length = m) (hm2 : Nat.ble (m * k) 16777216 = true)
    (hk : ∀ g w', Bl w' g e (xs.flatMap f) → w.grownBy w' none → w.heap.size ≤ g → WL P N ops Q rest ((d, .slice (some ⟨g, 0, none⟩) m m) :: L) w') :
    WL P N ops Q (⟨some d, .buildSlice t m ⟨ps⟩, ty, pos, af, none⟩ :: rest) L w :=
  WL.put (R := fun v w' => v = .slice (some ⟨w.heap.size, 0, none⟩) m m ∧ Bl w' w.heap.size e (xs.flatMap f) ∧ w.grownBy w' none) hd (Eff.litK hf hs hp hm hm2) (fun v w' ⟨hv, hb, hg⟩ => by subst hv; exact hk _ _ hb hg (Nat.le_refl _))
theorem run_append_own_srcK {w1 : World} {tx : TypeId} {v : Value} {b m : Nat} {ys : List α} (hs : ckOwK P t e k b = true) (hO : OwnK k f w1 B e A c xs) (hS : Src P k tx v m (ys.flatMap f) w1) (hm : m = ys.length) (hl : (xs.length + ys.length) * b ≤ 140737488355328) (h63 : xs.length + ys.length ≤ maxLen) (hB : B ≤ w1.heap.size) (ty : TypeId) :
    ∃ A' c' w', (Builtin.append_ #[t, tx] ty #[.slice A xs.length c, v]).run P w1 = .ok (.slice A' (xs ++ ys).length c') w' ∧ OwnK k f w' B e A' c' (xs ++ ys) ∧ w1.grownBy w' (blk A) ∧ (∀ g, blk A' = some g → blk A = some g ∨ w1.heap.size ≤ g) := by
  obtain ⟨hu, i, z, hi, hz, hi1, hib, hz1⟩ := ckOwK_spec hs
  subst hib
  subst hm
  have h63' : ((xs.length + ys.length : Nat) : Int) ≤ 9223372036854775807 := by simp only [maxLen] at h63; omega
  have hf := hO.1
  have hfx := hf.flen xs
  have hfy := hf.flen ys
  have hge := grownCap_ge w1 (xs.length + ys.length) c e
  have hcm := grownCap_le_maxLen w1 (xs.length + ys.length) c e (by omega)
  have grow : c < xs.length + ys.length → ∃ A' c' w', (Builtin.append_ #[t, tx] ty #[.slice A xs.length c, v]).run P w1 = .ok (.slice A' (xs ++ ys).length c') w' ∧ OwnK k f w' B e A' c' (xs ++ ys) ∧ w1.grownBy w' (blk A) ∧ (∀ g, blk A' = some g → blk A = some g ∨ w1.heap.size ≤ g) := by
    intro hlt
    have hold : (Builtin.firstCells i.size xs.length (.slice A xs.length c)).run P w1.drew = .ok ((xs.flatMap f).toArray) w1.drew := by
      rw [hi1]
      rcases hO.2.2 with ⟨hv, hn⟩ | ⟨g, cap, cur, hv, hb, hg, hnc, hcm', hcs, htake⟩
      · simp only [Value.slice.injEq] at hv
        obtain ⟨rfl, _, rfl⟩ := hv
        have : xs = [] := List.eq_nil_of_length_eq_zero hn
        subst this
        exact run_firstCells_none w1.drew k 0 0 0
      · simp only [Value.slice.injEq] at hv
        obtain ⟨rfl, _, rfl⟩ := hv
        exact run_firstCells_some w1.drew k xs.length ⟨g, 0, none⟩ xs.length c (xs.flatMap f) hfx (fun j u hj => hO.2.cells (g := g) rfl j u hj)
    have hr := run_append_grow_src (P := P) w1 t tx ty e i z hu hi hz A xs.length c (xs.flatMap f) hold v ys.length (ys.flatMap f) (by rw [hi1]; exact hS) hlt h63' (growslice_fits hlt hl)
    refine ⟨_, _, _, by rw [hr, List.length_append], ⟨hf, ?_⟩, ?_, ?_⟩
    · refine ⟨hf.flen _, .inr ⟨w1.heap.size, _, _, by rw [List.length_append], hB, heap_alloc_new w1.drew _, by rw [List.length_append]; exact hge, hcm, ?_, ?_⟩⟩
      · have : (grownCap w1 (xs.length + ys.length) c e) * k = xs.length * k + ys.length * k + (grownCap w1 (xs.length + ys.length) c e - (xs.length + ys.length)) * k := by
          rw [← Nat.add_mul, ← Nat.add_mul]
          congr 1
          omega
        simp only [Array.size_append, List.size_toArray, List.length_append, size_zeroCells, hz1, hfx, hfy]
        omega
      · rw [hf.flen (xs ++ ys) |>.symm]
        simp only [Array.toList_append, List.flatMap_append]
        rw [List.take_left' (by simp)]
    · exact ⟨rfl, rfl, rfl, by simp, fun k hk _ => heap_alloc_old w1.drew _ hk⟩
    · intro g hg
      simp only [blk, Option.map_some, Option.some.injEq] at hg
      exact .inr (by omega)
  by_cases hroom : xs.length + ys.length ≤ c
  · rcases hO.2.2 with ⟨hv, hn⟩ | ⟨g, cap, cur, hv, hb, hg, hnc, hcm', hcs, htake⟩
    · simp only [Value.slice.injEq] at hv
      obtain ⟨rfl, _, rfl⟩ := hv
      have hx0 : xs = [] := List.eq_nil_of_length_eq_zero hn
      have hy0 : ys = [] := List.eq_nil_of_length_eq_zero (by omega)
      subst hx0; subst hy0
      refine ⟨none, 0, w1, ?_, OwnK.nil hf w1 B e, gr_refl _ _, fun g hg => by simp [blk] at hg⟩
      have := hS.cells
      rcases hS.kind with ⟨e', hk⟩ | hk <;> simp [Builtin.append_, run_underlying hu, run_underlying hk, sizeOf, typeInfo, hi, hi1, hS.len] <;> simp at this <;> simp [this]
    · simp only [Value.slice.injEq] at hv
      obtain ⟨rfl, _, rfl⟩ := hv
      have hB1 : Bl w1 g e cur.toList := hg
      have hcl : cur.toList.length = c * k := by simpa using hcs
      have hxk : xs.length * k + ys.length * k ≤ c * k := by rw [← Nat.add_mul]; exact Nat.mul_le_mul_right k hroom
      have hr := run_append_room_src (P := P) w1 t tx ty e i hu hi g 0 xs.length c v ys.length (ys.flatMap f) (by rw [hi1]; exact hS) hroom (fun j hj => by
        rw [hi1, hB1.cell]
        rw [List.getElem?_eq_getElem (by omega)]
        rfl) (fun j _ => hB1.frozen _)
      have hst := run_storeCells_at P g (xs.length * k) e (ys.flatMap f) 0 cur w1 hg (by simp at hcl; omega) hS.one
      have hst2 := run_storeCells_cells (P := P) g (xs.length * k) (ys.flatMap f) 0 w1 (fun j hj => by
        rw [hB1.cell]
        rw [List.getElem?_eq_getElem (by omega)]
        rfl) (fun j _ => hB1.frozen _) hS.one
      have hw : w1.setCells g (0 + xs.length * i.size) (ys.flatMap f) = w1.setRow g (List.take (xs.length * k + 0) cur.toList ++ ys.flatMap f ++ List.drop (xs.length * k + 0 + (ys.flatMap f).length) cur.toList).toArray := by
        rw [hst] at hst2
        injection hst2 with _ h2
        rw [hi1, Nat.zero_add]
        exact h2.symm
      rw [hw] at hr
      refine ⟨_, _, _, by rw [hr, List.length_append], ⟨hf, ?_⟩, ?_, fun g' hg' => .inl hg'⟩
      · refine ⟨hf.flen _, .inr ⟨g, c, _, by rw [List.length_append], hb, setRow_heap w1 g cur _ e _ hg, by rw [List.length_append]; exact hroom, hcm', ?_, ?_⟩⟩
        · simp only [List.size_toArray, List.length_append, List.length_take, List.length_drop, hcl, hfy]
          omega
        · rw [hf.flen (xs ++ ys) |>.symm]
          simp only [Nat.add_zero, htake, List.flatMap_append]
          rw [List.take_left' (by simp)]
      · exact ⟨rfl, rfl, rfl, by simp, fun k _ hk => setRow_other w1 g k _ (fun e => hk (by simp [blk, e]))⟩
  · exact grow (by omega)
theorem src_rdK {w1 : World} {A2 : Option Addr} {c2 : Nat} {ys : List α} {e' : TypeId} (hu : P.underlying t = some (.slice e')) (hR : RdK k f w1 A2 c2 ys) : Src P k t (.slice A2 ys.length c2) ys.length (ys.flatMap f) w1 := by
  by_cases hy : ys = []
  · subst hy
    cases A2 with
    | none => exact Src.ofNil w1 hu c2
    | some ad => exact Src.ofSlice w1 hu ad 0 c2 [] (by simp) (by simp) (by simp)
  · obtain ⟨g, o, rfl, hc⟩ := hR.cells hy
    exact Src.ofSlice w1 hu ⟨g, o, none⟩ ys.length c2 (ys.flatMap f) (hR.ok.flen ys) (fun p u hp => by
      obtain ⟨j, x, i, rfl, hx, hi⟩ := hR.ok.fidx ys p u hp
      rw [Addr.add_mid]
      exact hc j x i u hx hi) hR.ok.mem
theorem Eff.appendK {A2 : Option Addr} {c2 n2 : Nat} {ys : List α} {b : Nat} (hs : ckOwK P t e k b = true) (hO : OwnK k f w B e A c xs) (hx : opv L x = some (.slice A n c)) (hn : n = xs.length) (hR : RdK k f w A2 c2 ys) (hy : opv L y = some (.slice A2 n2 c2)) (hn2 : n2 = ys.length) (hl : (xs.length + ys.length) * b ≤ 140737488355328) (h63 : xs.length + ys.length ≤ maxLen) (hB : B ≤ w.heap.size) :
    Eff P N w ⟨some d, .call ⟨.builtin .append, ⟨[x, y]⟩, ⟨[t, t]⟩⟩, ty, pos, af, none⟩ L (fun v w' => ∃ A' c', v = .slice A' (xs ++ ys).length c' ∧ OwnK k f w' B e A' c' (xs ++ ys) ∧ w.grownBy w' (blk A) ∧ (∀ g, blk A' = some g → blk A = some g ∨ w.heap.size ≤ g)) := fun a w1 hw ha => by
    obtain ⟨hu, _⟩ := ckOwK_spec hs
    subst hn; subst hn2
    have hs1 : w1.heap.size = w.heap.size := by rw [hw.heap]
    obtain ⟨A', c', w', hr, h1, h2, h3⟩ := run_append_own_srcK (P := P) (ty := ty) hs (hO.eqv hw) (src_rdK hu (hR.eqv hw)) rfl hl h63 (by omega)
    refine ⟨_, w', ?_, A', c', rfl, h1, eqv_gr hw h2, fun g hg => by rw [← hs1]; exact h3 g hg⟩
    unfold execOp
    simp [resolve, invoke, builtin, ha.ev hx, ha.ev hy, hr]
theorem WL.appendK {A2 : Option Addr} {c2 n2 : Nat} {ys : List α} {b : Nat} (hd : Nat.blt d N = true) (hs : ckOwK P t e k b = true) (hO : OwnK k f w B e A c xs) (hx : opv L x = some (.slice A n c)) (hn : n = xs.length) (hR : RdK k f w A2 c2 ys) (hy : opv L y = some (.slice A2 n2 c2)) (hn2 : n2 = ys.length)
    (hl : (xs.length + ys.length) * b ≤ 140737488355328) (h63 : xs.length + ys.length ≤ maxLen) (hB : B ≤ w.heap.size)
    (hk : ∀ A' c' w', OwnK k f w' B e A' c' (xs ++ ys) → w.grownBy w' (blk A) → (∀ g, blk A' = some g → blk A = some g ∨ w.heap.size ≤ g) → WL P N ops Q rest ((d, .slice A' (xs ++ ys).length c') :: L) w') :
    WL P N ops Q (⟨some d, .call ⟨.builtin .append, ⟨[x, y]⟩, ⟨[t, t]⟩⟩, ty, pos, af, none⟩ :: rest) L w :=
  WL.put (R := fun v w' => ∃ A' c', v = .slice A' (xs ++ ys).length c' ∧ OwnK k f w' B e A' c' (xs ++ ys) ∧ w.grownBy w' (blk A) ∧ (∀ g, blk A' = some g → blk A = some g ∨ w.heap.size ≤ g)) hd (Eff.appendK hs hO hx hn hR hy hn2 hl h63 hB) (fun v w' ⟨A', c', hv, h1, h2, h3⟩ => by subst hv; exact hk A' c' w' h1 h2 h3)
/-- make([]T, m) -/
theorem made_flat (z : List Value) (k : Nat) (hk : z.length = k) (hp : 0 < k) : ∀ m, (madeCells ⟨z⟩ (m * k)).toList = (List.replicate m z).flatten := fun m => by
  apply List.ext_getElem?
  intro j
  have hl : ((List.replicate m z).flatten).length = m * k := by simp [hk]
  by_cases hj : j < m * k
  · have h1 : (madeCells ⟨z⟩ (m * k)).toList[j]? = z[j % k]? := by
      have hlt : j % k < z.length := by rw [hk]; exact Nat.mod_lt _ hp
      simp [madeCells, hj, hk, List.getElem?_eq_getElem hlt]
    rw [h1]
    have gen : ∀ m j, j < m * k → ((List.replicate m z).flatten)[j]? = z[j % k]? := by
      intro m
      induction m with
      | zero => intro j hj; omega
      | succ m ih =>
        intro j hj
        rw [List.replicate_succ, List.flatten_cons]
        by_cases h : j < k
        · rw [List.getElem?_append_left (by omega), Nat.mod_eq_of_lt h]
        · rw [List.getElem?_append_right (by omega), hk, ih (j - k) (by rw [Nat.add_mul] at hj; omega)]
          rw [Nat.mod_eq_sub_mod (a := j) (by omega)]
    rw [gen m j hj]
  · rw [List.getElem?_eq_none (by simp [madeCells]; omega), List.getElem?_eq_none (by omega)]
theorem Eff.makeCK {q : Int} {b : Nat} (hf : OneK k f) (hs : ckOwK P t e k b = true) (hx : opv L x = some (.int kk 0)) (hy : opv L y = some (.int kk' q)) (h0 : 0 ≤ q) (hm : q * (b : Int) ≤ 140737488355328) (h63 : q ≤ 140737488355328) (hB : B ≤ w.heap.size) :
    Eff P N w ⟨some d, .makeSlice t x y, ty, pos, af, none⟩ L (fun v w' => v = .slice (some ⟨w.heap.size, 0, none⟩) 0 q.toNat ∧ OwnK k f w' B e (some ⟨w.heap.size, 0, none⟩) q.toNat ([] : List α) ∧ w.grownBy w' none) := fun a w1 hw ha => by
    obtain ⟨hu, i, z0, hi, hz0, hi1, hib, hz1⟩ := ckOwK_spec hs
    have hs1 : w1.heap.size = w.heap.size := by rw [hw.heap]
    obtain ⟨m, rfl⟩ := Int.eq_ofNat_of_zero_le h0
    have hmb : m * b ≤ 140737488355328 := by
      have : ((m * b : Nat) : Int) ≤ 140737488355328 := by rw [Int.natCast_mul]; exact hm
      omega
    obtain ⟨w', hr, hO, hg⟩ := run_make_own (P := P) w1 B t e i z0 k hu hi hz0 hi1 kk kk' m (by rw [hib, Nat.mul_comm]; omega) (by simp only [maxLen]; omega) (by omega)
    simp only [Int.toNat_natCast]
    refine ⟨_, w', ?_, by rw [← hs1], ⟨hf, ?_⟩, eqv_gr hw hg⟩
    · unfold execOp
      simp only [ha.ev hx, ha.ev hy, Sem.run_bind, hr, Result.andThen_ok, Sem.run_pure]
    · rw [← hs1]
      exact hO
theorem Eff.makeZK {q : Int} {z : α} {b : Nat} (hf : OneK k f) (hs : ckOwK P t e k b = true) (hz : zeroOf P e = some (f z)) (hx : opv L x = some (.int kk q)) (hy : opv L y = some (.int kk' q)) (h0 : 0 ≤ q) (hm : q * (b : Int) ≤ 140737488355328) (h63 : q ≤ 140737488355328) (hB : B ≤ w.heap.size) :
    Eff P N w ⟨some d, .makeSlice t x y, ty, pos, af, none⟩ L (fun v w' => v = .slice (some ⟨w.heap.size, 0, none⟩) q.toNat q.toNat ∧ OwnK k f w' B e (some ⟨w.heap.size, 0, none⟩) q.toNat (List.replicate q.toNat z) ∧ w.grownBy w' none) := fun a w1 hw ha => by
  obtain ⟨hu, i, z0, hi, hz0, hi1, hib, hz1⟩ := ckOwK_spec hs
  have hs1 : w1.heap.size = w.heap.size := by rw [hw.heap]
  have hzc : z0.cells = ⟨f z⟩ := by
    unfold zeroOf at hz
    rw [hi] at hz
    simp only [hz0, Option.some.injEq] at hz
    apply Array.ext'
    rw [hz]
  obtain ⟨m, rfl⟩ := Int.eq_ofNat_of_zero_le h0
  have hmb : m * b ≤ 140737488355328 := by
    have : ((m * b : Nat) : Int) ≤ 140737488355328 := by rw [Int.natCast_mul]; exact hm
    omega
  obtain ⟨w', hr, hO, hg⟩ := run_make_full (P := P) w1 B t e i z0 k hu hi hz0 hi1 kk kk' m (by rw [hib, Nat.mul_comm]; omega) (by simp only [maxLen]; omega) (by omega)
  simp only [Int.toNat_natCast]
  refine ⟨_, w', ?_, by rw [← hs1], ⟨hf, ?_⟩, eqv_gr hw hg⟩
  · unfold execOp
    simp only [ha.ev hx, ha.ev hy, Sem.run_bind, hr, Result.andThen_ok, Sem.run_pure]
  · have e1 : (madeCells z0.cells (m * k)).toList = (List.replicate m z).flatMap f := by
      rw [hzc, made_flat _ k (hf.len z) hf.pos, ← flatten_map, List.map_replicate]
    rw [e1] at hO
    rw [← hs1, List.length_replicate]
    exact hO
theorem WL.makeZK {q : Int} (z : α) {b : Nat} (hf : OneK k f) (hd : Nat.blt d N = true) (hs : ckOwK P t e k b = true) (hz : zeroOf P e = some (f z)) (hx : opv L x = some (.int kk q)) (hy : opv L y = some (.int kk' q)) (h0 : 0 ≤ q) (hm : q * (b : Int) ≤ 140737488355328) (h63 : q ≤ 140737488355328) (hB : B ≤ w.heap.size)
    (hk : ∀ g w', OwnK k f w' B e (some ⟨g, 0, none⟩) q.toNat (List.replicate q.toNat z) → w.grownBy w' none → w.heap.size ≤ g → WL P N ops Q rest ((d, .slice (some ⟨g, 0, none⟩) q.toNat q.toNat) :: L) w') :
    WL P N ops Q (⟨some d, .makeSlice t x y, ty, pos, af, none⟩ :: rest) L w :=
  WL.put (R := fun v w' => v = .slice (some ⟨w.heap.size, 0, none⟩) q.toNat q.toNat ∧ OwnK k f w' B e (some ⟨w.heap.size, 0, none⟩) q.toNat (List.replicate q.toNat z) ∧ w.grownBy w' none) hd (Eff.makeZK hf hs hz hx hy h0 hm h63 hB) (fun v w' ⟨hv, h1, h2⟩ => by subst hv; exact hk _ w' h1 h2 (Nat.le_refl _))
/-- make([]T, 0, c) -/
theorem WL.makeCK {q : Int} {b : Nat} (hf : OneK k f) (hd : Nat.blt d N = true) (hs : ckOwK P t e k b = true) (hx : opv L x = some (.int kk 0)) (hy : opv L y = some (.int kk' q)) (h0 : 0 ≤ q) (hm : q * (b : Int) ≤ 140737488355328) (h63 : q ≤ 140737488355328) (hB : B ≤ w.heap.size)
    (hk : ∀ g w', OwnK k f w' B e (some ⟨g, 0, none⟩) q.toNat ([] : List α) → w.grownBy w' none → w.heap.size ≤ g → WL P N ops Q rest ((d, .slice (some ⟨g, 0, none⟩) 0 q.toNat) :: L) w') :
    WL P N ops Q (⟨some d, .makeSlice t x y, ty, pos, af, none⟩ :: rest) L w :=
  WL.put (R := fun v w' => v = .slice (some ⟨w.heap.size, 0, none⟩) 0 q.toNat ∧ OwnK k f w' B e (some ⟨w.heap.size, 0, none⟩) q.toNat ([] : List α) ∧ w.grownBy w' none) hd (fun a w1 hw ha => by
    obtain ⟨hu, i, z0, hi, hz0, hi1, hib, hz1⟩ := ckOwK_spec hs
    have hs1 : w1.heap.size = w.heap.size := by rw [hw.heap]
    obtain ⟨m, rfl⟩ := Int.eq_ofNat_of_zero_le h0
    have hmb : m * b ≤ 140737488355328 := by
      have : ((m * b : Nat) : Int) ≤ 140737488355328 := by rw [Int.natCast_mul]; exact hm
      omega
    obtain ⟨w', hr, hO, hg⟩ := run_make_own (P := P) w1 B t e i z0 k hu hi hz0 hi1 kk kk' m (by rw [hib, Nat.mul_comm]; omega) (by simp only [maxLen]; omega) (by omega)
    simp only [Int.toNat_natCast]
    refine ⟨_, w', ?_, by rw [← hs1], ⟨hf, ?_⟩, eqv_gr hw hg⟩
    · unfold execOp
      simp only [ha.ev hx, ha.ev hy, Sem.run_bind, hr, Result.andThen_ok, Sem.run_pure]
    · rw [← hs1]
      exact hO) (fun v w' ⟨hv, h1, h2⟩ => by subst hv; exact hk _ w' h1 h2 (Nat.le_refl _))
end rules
/-- arrays of 32 bytes, by value -/
def a32 (x : List UInt8) : List Value := [vb (x.getD 0 0), vb (x.getD 1 0), vb (x.getD 2 0), vb (x.getD 3 0), vb (x.getD 4 0), vb (x.getD 5 0), vb (x.getD 6 0), vb (x.getD 7 0), vb (x.getD 8 0), vb (x.getD 9 0), vb (x.getD 10 0), vb (x.getD 11 0), vb (x.getD 12 0), vb (x.getD 13 0), vb (x.getD 14 0), vb (x.getD 15 0), vb (x.getD 16 0), vb (x.getD 17 0), vb (x.getD 18 0), vb (x.getD 19 0), vb (x.getD 20 0), vb (x.getD 21 0), vb (x.getD 22 0), vb (x.getD 23 0), vb (x.getD 24 0), vb (x.getD 25 0), vb (x.getD 26 0), vb (x.getD 27 0), vb (x.getD 28 0), vb (x.getD 29 0), vb (x.getD 30 0), vb (x.getD 31 0)]
theorem a32_range (x : List UInt8) : a32 x = (List.range 32).map fun i => vb (x.getD i 0) := rfl
theorem a32_get (x : List UInt8) (i : Nat) (h : i < 32) : (a32 x)[i]? = some (vb (x.getD i 0)) := by
  rw [a32_range]; simp [h]
theorem a32_len (x : List UInt8) : (a32 x).length = 32 := rfl
theorem a32_one (x : List UInt8) : ∀ u ∈ a32 x, u.oneCell' = true := fun u hu => by
  rw [a32_range] at hu
  obtain ⟨i, _, rfl⟩ := List.mem_map.1 hu
  rfl
theorem a32_ok : OneK 32 a32 := ⟨by omega, a32_len, a32_one⟩
theorem a32_map (x : List UInt8) (h : x.length = 32) : a32 x = x.map vb := by
  apply List.ext_getElem?
  intro i
  by_cases hi : i < 32
  · rw [a32_get x i hi]; simp [List.getD, h, hi]
  · rw [List.getElem?_eq_none (by rw [a32_len]; omega), List.getElem?_eq_none (by simp; omega)]
theorem a32_set (x : List UInt8) (i : Nat) (b : UInt8) (hx : x.length = 32) : (a32 x).set i (vb b) = a32 (x.set i b) := by
  rw [a32_map x hx, a32_map _ (by simp [hx]), List.map_set]
theorem lt32 {i : Int} (h : 0 ≤ i ∧ i < 32) : i.toNat < 32 := by omega
theorem a32_getO (x : List UInt8) (i : Nat) (h : i < 32) : (a32 x)[0 + i * 1]? = some (vb (x.getD i 0)) := by rw [Nat.zero_add, Nat.mul_one]; exact a32_get x i h
theorem a32_setO {x : List UInt8} {i : Nat} {b : UInt8} (hx : x.length = 32) : (a32 x).set (0 + i * 1) (vb b) = a32 (x.set i b) := by rw [Nat.zero_add, Nat.mul_one]; exact a32_set x i b hx
theorem a32_lt {x : List UInt8} {i : Nat} (h : i < 32) : 0 + i * 1 < (a32 x).length := by rw [a32_len]; omega
theorem a32_zero : List.replicate 32 (.int .u8 0) = a32 (List.replicate 32 0) := by rw [a32_map _ (by simp), List.map_replicate]; rfl
theorem all1a {ao bs : List Value} (h : ∀ u ∈ ao, u.oneCell' = true) (k : ∀ u ∈ bs, u.oneCell' = true) : ∀ u ∈ ao ++ bs, u.oneCell' = true := fun u hu => (List.mem_append.1 hu).elim (h u) (k u)
theorem a32_inj {x y : List UInt8} (hx : x.length = 32) (hy : y.length = 32) (h : a32 x = a32 y) : x = y := by
  rw [a32_map x hx, a32_map y hy] at h
  have : Function.Injective vb := fun p q hpq => by
    unfold vb at hpq
    injection hpq with _ h1
    exact UInt8.toNat_inj.1 (by omega)
  exact (List.map_inj_right this).1 h
/-! ## what yields, guarded; make, by an integer; what grew of p is new -/
section
variable {P : Program} {T : Tab} {N : Nat} {ops : Array Oper} {Q : Post} {L : Slots} {w : World} {rest : List Oper} {d : Nat} {ty : TypeId} {pos : String} {af : Array Edge} {t : TypeId} {x y : Operand} {k k' : IntKind} {α : Type} {f : α → Value} {B : Nat} {e : TypeId}
theorem WL.putw {op : Op} {gd : Option (Nat × Bool)} {R : Value → World → Prop} (hg : Wants N ops L gd) (hd : Nat.blt d N = true) (hr : Eff P N w ⟨some d, op, ty, pos, af, none⟩ L R)
    (hk : ∀ v w', R v w' → WL P N ops Q rest ((d, v) :: L) w') : WL P N ops Q (⟨some d, op, ty, pos, af, gd⟩ :: rest) L w := fun a w1 e ha =>
  wpList_step fun K hK => by
    rw [if_pos (Wants.wanted (o := ⟨some d, op, ty, pos, af, gd⟩) hg ha)]
    obtain ⟨v, w', h, hR⟩ := hr a w1 e ha
    have h' : (execOp a.eval ⟨some d, op, ty, pos, af, gd⟩).run P w1 = .ok (.value v) w' := h
    unfold Oper.wp
    rw [h']
    exact hK _ _ (hk v w' hR _ w' (Eqv.refl _) (ha.put hd v))
theorem Ge.app {p p' : Option Nat} {n m : Nat} (h : Ge p n) (k : ∀ g, p' = some g → p = some g ∨ m ≤ g) (hm : n ≤ m) : Ge p' n := fun g hg => (k g hg).elim (h g) (Nat.le_trans hm)
theorem Eff.makeZI {q : Int} {z : α} {b : Nat} (hT : T.Ok P) (hs : nk T.ow t = some (e, b)) (hz : zeroOf P e = some [f z]) (hx : opv L x = some (.int k q)) (hy : opv L y = some (.int k' q)) (h0 : 0 ≤ q) (hm : q * (b : Int) ≤ 140737488355328) (h63 : q ≤ 140737488355328) (hB : B ≤ w.heap.size) :
    Eff P N w ⟨some d, .makeSlice t x y, ty, pos, af, none⟩ L (fun v w' => v = .slice (some ⟨w.heap.size, 0, none⟩) q.toNat q.toNat ∧ Own f w' B e (some ⟨w.heap.size, 0, none⟩) q.toNat (List.replicate q.toNat z) ∧ w.grownBy w' none) := by
  have e1 : ((q.toNat : Nat) : Int) = q := Int.toNat_of_nonneg h0
  have e2 : q.toNat * b ≤ 140737488355328 := by
    have : ((q.toNat * b : Nat) : Int) ≤ 140737488355328 := by rw [Int.natCast_mul, e1]; exact hm
    omega
  exact Eff.makeZ hT hs hz (by rw [e1]; exact hx) (by rw [e1]; exact hy) e2 (by omega) hB
theorem Eff.makeCI {q : Int} {b : Nat} (hT : T.Ok P) (hs : nk T.ow t = some (e, b)) (hx : opv L x = some (.int k 0)) (hy : opv L y = some (.int k' q)) (h0 : 0 ≤ q) (hm : q * (b : Int) ≤ 140737488355328) (h63 : q ≤ 140737488355328) (hB : B ≤ w.heap.size) :
    Eff P N w ⟨some d, .makeSlice t x y, ty, pos, af, none⟩ L (fun v w' => v = .slice (some ⟨w.heap.size, 0, none⟩) 0 q.toNat ∧ Own f w' B e (some ⟨w.heap.size, 0, none⟩) q.toNat [] ∧ w.grownBy w' none) := fun a w1 hw ha => by
  obtain ⟨m, rfl⟩ := Int.eq_ofNat_of_zero_le h0
  have e2 : m * b ≤ 140737488355328 := by
    have : ((m * b : Nat) : Int) ≤ 140737488355328 := by rw [Int.natCast_mul]; exact hm
    omega
  simp only [Int.toNat_natCast]
  obtain ⟨hu, i, z0, hi, hz0, hi1, hib, hz1⟩ := hT.ow hs
  have hs1 : w1.heap.size = w.heap.size := by rw [hw.heap]
  obtain ⟨w', hr, hO, hg⟩ := run_make_own (P := P) w1 B t e i z0 1 hu hi hz0 hi1 k k' m (by rw [hib, Nat.mul_comm]; omega) (by simp only [maxLen]; omega) (by omega)
  refine ⟨_, w', ?_, by rw [← hs1], ?_, eqv_gr hw hg⟩
  · unfold execOp
    simp only [ha.ev hx, ha.ev hy, Sem.run_bind, hr, Result.andThen_ok, Sem.run_pure]
  · unfold Own
    rw [← hs1]
    simpa using hO
def isIf : TypeDesc → Bool
  | .interface _ => true
  | _ => false
theorem Yld.mki {dd : Option Tmp} {v : Value} {td : TypeDesc} (hu : P.underlying t = some td) (hi : isIf td = false) (hv : opv L x = some v) : Yld P N w ⟨dd, .makeInterface t x, ty, pos, af, none⟩ L (.iface t v) := fun a w1 _ ha => by
  unfold execOp
  simp only [Instr.makeInterface, ha.ev hv, Sem.run_bind, run_underlying hu w1, Result.andThen_ok]
  cases td <;> simp_all [isIf]
end
theorem Yld.cutY {P : Program} {T : Tab} {N : Nat} {L : Slots} {w w0 : World} {ty : TypeId} {pos : String} {af : Array Edge} {dd : Option Tmp} {t e : TypeId} {x : Operand} {α : Type} {f : α → Value} {A : Option Addr} {c n : Nat} {xs : List α} {lo hi : Option Operand} {l h : Int} (hT : T.Ok P) (hR : Rd f w0 A c xs) (hs : nk T.sl t = some (e, 1)) (hx : opv L x = some (.slice A n c)) (hn : n = xs.length)
    (hl : optv L lo 0 = some l) (hh : optv L hi n = some h) (h0 : 0 ≤ l) (h1 : l ≤ h) (h2 : h ≤ n) :
    Yld P N w ⟨dd, .slice t x lo hi none, ty, pos, af, none⟩ L (.slice (if c = l.toNat then A else A.map (·.add l.toNat)) ((xs.drop l.toNat).take (h.toNat - l.toNat)).length (c - l.toNat)) := fun a w1 _ ha => by
  obtain ⟨hu, j, hj, hj1⟩ := hT.sl hs
  have hb := run_bounds (P := P) (len := n) (cap := c) (isS := true) ha hl hh h0 h1 (by have := hR.cap; omega) w1
  have hlen : ((xs.drop l.toNat).take (h.toNat - l.toNat)).length = h.toNat - l.toNat := by simp; omega
  rw [hlen]
  unfold execOp
  simp [ha.ev hx, Instr.sliceAt, run_underlying hu, Instr.slice, hb, sizeOf, typeInfo, hj, hj1]
theorem Yld.ocutY {P : Program} {T : Tab} {N : Nat} {L : Slots} {w w0 : World} {ty : TypeId} {pos : String} {af : Array Edge} {dd : Option Tmp} {t e : TypeId} {x : Operand} {α : Type} {f : α → Value} {A : Option Addr} {c n : Nat} {xs : List α} {lo hi : Option Operand} {h : Int} (hT : T.Ok P) (hR : Rd f w0 A c xs) (hs : nk T.sl t = some (e, 1)) (hx : opv L x = some (.slice A n c)) (hn : n = xs.length) (hl : optv L lo 0 = some 0) (hh : optv L hi n = some h) (h1 : 0 ≤ h) (h2 : h ≤ n) :
    Yld P N w ⟨dd, .slice t x lo hi none, ty, pos, af, none⟩ L (.slice A (xs.take h.toNat).length c) := by
  have hy := Yld.cutY (P := P) (N := N) (w := w) (ty := ty) (pos := pos) (af := af) (dd := dd) hT hR hs hx hn hl hh (by omega) h1 h2
  have e1 : (Value.slice (if c = (0 : Int).toNat then A else A.map (·.add (0 : Int).toNat)) ((xs.drop (0 : Int).toNat).take (h.toNat - (0 : Int).toNat)).length (c - (0 : Int).toNat)) = .slice A (xs.take h.toNat).length c := by
    have : A.map (·.add 0) = A := by
      cases A with
      | none => rfl
      | some a => simp [Addr.add]
    simp [this]
  rwa [e1] at hy
theorem Yld.cutFY {P : Program} {T : Tab} {N : Nat} {L : Slots} {w w0 : World} {ty : TypeId} {pos : String} {af : Array Edge} {dd : Option Tmp} {t e : TypeId} {x lo : Operand} {α : Type} {f : α → Value} {A : Option Addr} {c n : Nat} {xs : List α} {l : Int} (hT : T.Ok P) (hR : Rd f w0 A c xs) (hs : nk T.sl t = some (e, 1)) (hx : opv L x = some (.slice A n c)) (hn : n = xs.length) (hl : optv L (some lo) 0 = some l) (h0 : 0 ≤ l) (h1 : l ≤ (n : Int)) :
    Yld P N w ⟨dd, .slice t x (some lo) none none, ty, pos, af, none⟩ L (.slice (if c = l.toNat then A else A.map (·.add l.toNat)) (xs.drop l.toNat).length (c - l.toNat)) := by
  have hy := Yld.cutY (P := P) (N := N) (w := w) (ty := ty) (pos := pos) (af := af) (dd := dd) (hi := none) (h := (n : Int)) hT hR hs hx hn hl rfl h0 h1 (Int.le_refl _)
  have e1 : (xs.drop l.toNat).take ((n : Int).toNat - l.toNat) = xs.drop l.toNat := List.take_of_length_le (by simp; omega)
  rwa [e1] at hy
theorem Rd.take {α : Type} {f : α → Value} {w : World} {A : Option Addr} {c : Nat} {xs : List α} (h : Rd f w A c xs) (m : Nat) : Rd f w A c (xs.take m) :=
  ⟨by have := h.cap; simp; omega, h.max, fun hx => by
    obtain ⟨ad, e, hc⟩ := h.cells (fun e => hx (by rw [e]; simp))
    refine ⟨ad, e, fun j x hj => hc j x ?_⟩
    rw [List.getElem?_take] at hj
    split at hj
    · exact hj
    · cases hj⟩
theorem Rd.cut1 {α : Type} {f : α → Value} {w : World} {A : Option Addr} {c n : Nat} {xs : List α} {l : Int} (h : Rd f w A c xs) (hn : n = xs.length) (h0 : 0 ≤ l) (h1 : l ≤ (n : Int)) : Rd f w (if c = l.toNat then A else A.map (·.add l.toNat)) (c - l.toNat) (xs.drop l.toNat) := by
  have := h.cut (l := l.toNat) (k := xs.length) (by omega) (Nat.le_refl _)
  rwa [List.take_of_length_le (by simp)] at this
theorem Rd.cut2 {α : Type} {f : α → Value} {w : World} {A : Option Addr} {c n : Nat} {xs : List α} {l m : Int} (h : Rd f w A c xs) (hn : n = xs.length) (h0 : 0 ≤ l) (h1 : l ≤ m) (h2 : m ≤ (n : Int)) : Rd f w (if c = l.toNat then A else A.map (·.add l.toNat)) (c - l.toNat) ((xs.drop l.toNat).take (m.toNat - l.toNat)) := h.cut (by omega) (by omega)
theorem ErrR.goOK {S : List Nat} {α : Type} {k : Nat} {f : α → List Value} {w0 w w' : World} {v : Value} {e : Er} {t B c : Nat} {A : Option Addr} {xs : List α} (h : ErrR S w v e) (hG : GOK S w0) (h0 : w0.grownBy w none) (hg : w.grownBy w' (blk A)) (h1 : w0.grownBy w' none) (hO : OwnK k f w B t A c xs) (ht : Nat.beq t 85 = false) : ErrR S w' v e := by
  rcases hO.2.2 with ⟨hv, _⟩ | ⟨g, cap, cur, hv, _, hb, _⟩
  · simp only [Value.slice.injEq] at hv
    obtain ⟨rfl, _⟩ := hv
    exact h.grown hg
  · simp only [Value.slice.injEq] at hv
    obtain ⟨rfl, _⟩ := hv
    exact ErrR.go (g := g) (us := cur.toList) h hG h0 hg h1 hb ht
theorem eqvL {a b c : World} (h : a = b) (e : Eqv b c) : Eqv a c := by rw [h]; exact e
theorem cells1 {v : Value} (h : v.oneCell' = true) : v.cells.toList = [v] := by cases v <;> first | rfl | simp [Value.oneCell'] at h
/-! ## function values -/
section
variable {P : Program} {T : Tab} {N : Nat} {ops : Array Oper} {Q : Post} {L : Slots} {w : World} {rest : List Oper} {d : Nat} {ty : TypeId} {pos : String} {af : Array Edge}
theorem Yld.mkf {dd : Option Tmp} {f : FuncId} {cs : List Operand} {vs : List Value} (hv : opvs L cs = some vs) : Yld P N w ⟨dd, .makeFunc (.func f) ⟨[]⟩ ⟨cs⟩, ty, pos, af, none⟩ L (.func (.func f) #[] ⟨vs⟩) := fun a w1 _ ha => by
  have hm : (⟨cs⟩ : Array Operand).map a.eval = ⟨vs⟩ := by rw [← ha.evs hv]; simp
  unfold execOp
  simp only [Instr.makeFunc, hm, Sem.run_bind, Sem.run_pure, Result.andThen_ok]
  simp
theorem run_callv {a : Act} {w1 : World} {g : FuncId} {x : Operand} {ao : List Operand} {ts : Array TypeId} {vs cs : List Value} {dd : Option Tmp} (ha : Has N L a) (hgo : goesIn P g = true) (hx : opv L x = some (.func (.func g) #[] ⟨cs⟩)) (hv : opvs L ao = some vs) :
    (execOp a.eval ⟨dd, .call ⟨.value x, ⟨ao⟩, ts⟩, ty, pos, af, none⟩).run P w1 = .ok (.enter g ⟨vs ++ cs⟩) w1 := by
  have hm : (⟨ao⟩ : Array Operand).map a.eval = ⟨vs⟩ := by rw [← ha.evs hv]; simp
  unfold goesIn at hgo
  split at hgo
  · rename_i fn hfn
    simp only [Bool.and_eq_true, Bool.not_eq_true'] at hgo
    have hnone : fn.body.isNone = false := by cases hb : fn.body <;> simp_all
    unfold execOp
    simp only [resolve, ha.ev hx, hm, Deferred.ofValue, Sem.run_bind, Sem.run_pure, Result.andThen_ok, invoke, callFunc, program, Sem.run, hfn, hgo.1, hnone, Bool.false_eq_true, if_false]
    simp
  · cases hgo
theorem WL.callv {R : Value → World → Prop} {g : FuncId} {x : Operand} {ao : List Operand} {ts : Array TypeId} {vs cs : List Value} (hd : Nat.blt d N = true) (hx : opv L x = some (.func (.func g) #[] ⟨cs⟩)) (hv : opvs L ao = some vs) (hf : Fn P g ⟨vs ++ cs⟩ w R) (hk : ∀ v w', R v w' → WL P N ops Q rest ((d, v) :: L) w') :
    WL P N ops Q (⟨some d, .call ⟨.value x, ⟨ao⟩, ts⟩, ty, pos, af, none⟩ :: rest) L w := fun a w1 e ha =>
  wpList_plain rfl fun K hK => by
    obtain ⟨hgo, hC⟩ := hf
    unfold Oper.wp
    rw [run_callv ha hgo hx hv]
    refine (hC w1 e).mono ?_
    rintro en w' ⟨v, w0, rfl, h0, hR⟩
    exact hK _ _ (hk v w0 hR _ w' h0 (ha.put hd v))
end
end Go.Proofs.YtcfljnfaakjdjaaDoor
 /- Printed by a program (wip/vg): elements of several cells. -/
namespace Go.Proofs.YtcfljnfaakjdjaaDoor
open Go Go.RowKit
def enc24 (x : List UInt8 × List UInt8) : List Value := [vs x.1, vs x.2]
theorem enc24_ok : OneK 2 enc24 := ⟨by omega, fun _ => rfl, fun _ => (all1c rfl (all1c rfl all1n))⟩
theorem ow33 : ckOwK Tryd.prog 33 39 32 32 = true := by kernel_rfl
theorem ow34 : ckOwK Tryd.prog 34 38 32 32 = true := by kernel_rfl
theorem ow53 : ckOwK Tryd.prog 53 24 2 32 = true := by kernel_rfl
end Go.Proofs.YtcfljnfaakjdjaaDoor
 /- slices.Concat, Sort, Compact of texts; strings.Cut and Compare, in the generator's form. -/
namespace Go.Proofs.YtcfljnfaakjdjaaDoor
open Go Go.RowKit
section
attribute [local irreducible] WL WC WX WQ WK WJ Yld Eff Ef0 Fn
theorem growT_fn (m : Int) (w : World) (h0 : 0 ≤ m) (h1 : m ≤ 1073741824) :
    Fn Tryd.prog 122 ⟨[.slice none 0 0, vi m]⟩ w fun v w' => ∃ A c, v = .slice A 0 c ∧ Own vs w' w.heap.size 9 A c [] ∧ w.grownBy w' none ∧ (∀ g, blk A = some g → w.heap.size ≤ g) := by
  refine Fn.enter (by kernel_rfl) Tryd.func122 rfl Tryd.ntmps122 rfl ?_
  repeat (first | refine WC.seq ?_ | refine WC.block ?_ | refine WC.region ?_ | refine WL.nil ?_ | refine WX.then_normal ?_ | refine WC.skip ?_ | refine WC.exit ?_ | refine WC.ret ?_ | refine WX.then_exit ?_ | refine WX.then_ret ?_ | refine WX.block_normal ?_ | refine WX.block_ret ?_ | refine WX.block_same ?_ | refine WX.block_other rfl ?_ | refine WC.label ?_ | refine WC.scope ?_ | refine WX.scope_normal ?_ | refine WX.scope_ret ?_ | refine WX.scope_exit ?_ | refine WL.y rfl (Yld.add rfl rfl (by simp only [In]; omega)) ?_ | refine WL.y rfl (Yld.sub rfl rfl (by simp only [In]; omega)) ?_ | refine WL.y rfl (Yld.mul rfl rfl (by simp only [In]; omega)) ?_ | refine WL.y rfl (Yld.convB tab_ok rfl rfl rfl rfl) ?_ | refine WL.y rfl (Yld.conv tab_ok rfl rfl rfl (by simp only [In]; omega)) ?_ | refine WL.y rfl (Yld.quo rfl rfl (by omega) (by omega) (by simp only [In]; omega)) ?_ | refine WL.y rfl (Yld.rem rfl rfl (by omega) (by omega)) ?_ | refine WL.y rfl (Yld.shl rfl rfl (by omega)) ?_ | refine WL.y rfl (Yld.shr rfl rfl (by omega)) ?_ | refine WL.y rfl (Yld.pure tab_ok rfl) ?_)
  refine WC.cond rfl (fun h => ?_) (fun h => ?_)
  · simp only [decide_eq_true_eq] at h
    omega
  · repeat (first | refine WC.seq ?_ | refine WC.block ?_ | refine WC.region ?_ | refine WL.nil ?_ | refine WX.then_normal ?_ | refine WC.skip ?_ | refine WC.exit ?_ | refine WC.ret ?_ | refine WX.then_exit ?_ | refine WX.then_ret ?_ | refine WX.block_normal ?_ | refine WX.block_ret ?_ | refine WX.block_same ?_ | refine WX.block_other rfl ?_ | refine WC.label ?_ | refine WC.scope ?_ | refine WX.scope_normal ?_ | refine WX.scope_ret ?_ | refine WX.scope_exit ?_ | refine WL.y rfl (Yld.add rfl rfl (by simp only [In]; omega)) ?_ | refine WL.y rfl (Yld.sub rfl rfl (by simp only [In]; omega)) ?_ | refine WL.y rfl (Yld.mul rfl rfl (by simp only [In]; omega)) ?_ | refine WL.y rfl (Yld.convB tab_ok rfl rfl rfl rfl) ?_ | refine WL.y rfl (Yld.conv tab_ok rfl rfl rfl (by simp only [In]; omega)) ?_ | refine WL.y rfl (Yld.quo rfl rfl (by omega) (by omega) (by simp only [In]; omega)) ?_ | refine WL.y rfl (Yld.rem rfl rfl (by omega) (by omega)) ?_ | refine WL.y rfl (Yld.shl rfl rfl (by omega)) ?_ | refine WL.y rfl (Yld.shr rfl rfl (by omega)) ?_ | refine WL.y rfl (Yld.pure tab_ok rfl) ?_)
    have e : m - (((0 : Nat) : Int) - ((0 : Nat) : Int)) = m := by omega
    rw [e]
    refine WC.cond rfl (fun h => ?_) (fun h => ?_)
    · repeat (first | refine WC.seq ?_ | refine WC.block ?_ | refine WC.region ?_ | refine WL.nil ?_ | refine WX.then_normal ?_ | refine WC.skip ?_ | refine WC.exit ?_ | refine WC.ret ?_ | refine WX.then_exit ?_ | refine WX.then_ret ?_ | refine WX.block_normal ?_ | refine WX.block_ret ?_ | refine WX.block_same ?_ | refine WX.block_other rfl ?_ | refine WC.label ?_ | refine WC.scope ?_ | refine WX.scope_normal ?_ | refine WX.scope_ret ?_ | refine WX.scope_exit ?_ | refine WL.y rfl (Yld.add rfl rfl (by simp only [In]; omega)) ?_ | refine WL.y rfl (Yld.sub rfl rfl (by simp only [In]; omega)) ?_ | refine WL.y rfl (Yld.mul rfl rfl (by simp only [In]; omega)) ?_ | refine WL.y rfl (Yld.convB tab_ok rfl rfl rfl rfl) ?_ | refine WL.y rfl (Yld.conv tab_ok rfl rfl rfl (by simp only [In]; omega)) ?_ | refine WL.y rfl (Yld.quo rfl rfl (by omega) (by omega) (by simp only [In]; omega)) ?_ | refine WL.y rfl (Yld.rem rfl rfl (by omega) (by omega)) ?_ | refine WL.y rfl (Yld.shl rfl rfl (by omega)) ?_ | refine WL.y rfl (Yld.shr rfl rfl (by omega)) ?_ | refine WL.y rfl (Yld.pure tab_ok rfl) ?_)
      refine WL.ocut (f := vs) (lo := none) tab_ok rfl rfl (Own.nil vs w w.heap.size 9) rfl rfl rfl rfl (by omega) (by omega) (fun _ => ?_)
      repeat (first | refine WC.seq ?_ | refine WC.block ?_ | refine WC.region ?_ | refine WL.nil ?_ | refine WX.then_normal ?_ | refine WC.skip ?_ | refine WC.exit ?_ | refine WC.ret ?_ | refine WX.then_exit ?_ | refine WX.then_ret ?_ | refine WX.block_normal ?_ | refine WX.block_ret ?_ | refine WX.block_same ?_ | refine WX.block_other rfl ?_ | refine WC.label ?_ | refine WC.scope ?_ | refine WX.scope_normal ?_ | refine WX.scope_ret ?_ | refine WX.scope_exit ?_ | refine WL.y rfl (Yld.add rfl rfl (by simp only [In]; omega)) ?_ | refine WL.y rfl (Yld.sub rfl rfl (by simp only [In]; omega)) ?_ | refine WL.y rfl (Yld.mul rfl rfl (by simp only [In]; omega)) ?_ | refine WL.y rfl (Yld.convB tab_ok rfl rfl rfl rfl) ?_ | refine WL.y rfl (Yld.conv tab_ok rfl rfl rfl (by simp only [In]; omega)) ?_ | refine WL.y rfl (Yld.quo rfl rfl (by omega) (by omega) (by simp only [In]; omega)) ?_ | refine WL.y rfl (Yld.rem rfl rfl (by omega) (by omega)) ?_ | refine WL.y rfl (Yld.shl rfl rfl (by omega)) ?_ | refine WL.y rfl (Yld.shr rfl rfl (by omega)) ?_ | refine WL.y rfl (Yld.pure tab_ok rfl) ?_)
      refine WL.appendZ (f := vs) (z := []) tab_ok rfl rfl rfl zero9 rfl rfl h0 (by omega) (by omega) (Nat.le_refl _) (fun A' c' w' hO hg hf => ?_)
      repeat (first | refine WC.seq ?_ | refine WC.block ?_ | refine WC.region ?_ | refine WL.nil ?_ | refine WX.then_normal ?_ | refine WC.skip ?_ | refine WC.exit ?_ | refine WC.ret ?_ | refine WX.then_exit ?_ | refine WX.then_ret ?_ | refine WX.block_normal ?_ | refine WX.block_ret ?_ | refine WX.block_same ?_ | refine WX.block_other rfl ?_ | refine WC.label ?_ | refine WC.scope ?_ | refine WX.scope_normal ?_ | refine WX.scope_ret ?_ | refine WX.scope_exit ?_ | refine WL.y rfl (Yld.add rfl rfl (by simp only [In]; omega)) ?_ | refine WL.y rfl (Yld.sub rfl rfl (by simp only [In]; omega)) ?_ | refine WL.y rfl (Yld.mul rfl rfl (by simp only [In]; omega)) ?_ | refine WL.y rfl (Yld.convB tab_ok rfl rfl rfl rfl) ?_ | refine WL.y rfl (Yld.conv tab_ok rfl rfl rfl (by simp only [In]; omega)) ?_ | refine WL.y rfl (Yld.quo rfl rfl (by omega) (by omega) (by simp only [In]; omega)) ?_ | refine WL.y rfl (Yld.rem rfl rfl (by omega) (by omega)) ?_ | refine WL.y rfl (Yld.shl rfl rfl (by omega)) ?_ | refine WL.y rfl (Yld.shr rfl rfl (by omega)) ?_ | refine WL.y rfl (Yld.pure tab_ok rfl) ?_)
      refine WL.ocut (lo := none) tab_ok rfl rfl hO rfl (by simp) rfl rfl (by omega) (by omega) (fun hO2 => ?_)
      repeat (first | refine WC.seq ?_ | refine WC.block ?_ | refine WC.region ?_ | refine WL.nil ?_ | refine WX.then_normal ?_ | refine WC.skip ?_ | refine WC.exit ?_ | refine WC.ret ?_ | refine WX.then_exit ?_ | refine WX.then_ret ?_ | refine WX.block_normal ?_ | refine WX.block_ret ?_ | refine WX.block_same ?_ | refine WX.block_other rfl ?_ | refine WC.label ?_ | refine WC.scope ?_ | refine WX.scope_normal ?_ | refine WX.scope_ret ?_ | refine WX.scope_exit ?_ | refine WL.y rfl (Yld.add rfl rfl (by simp only [In]; omega)) ?_ | refine WL.y rfl (Yld.sub rfl rfl (by simp only [In]; omega)) ?_ | refine WL.y rfl (Yld.mul rfl rfl (by simp only [In]; omega)) ?_ | refine WL.y rfl (Yld.convB tab_ok rfl rfl rfl rfl) ?_ | refine WL.y rfl (Yld.conv tab_ok rfl rfl rfl (by simp only [In]; omega)) ?_ | refine WL.y rfl (Yld.quo rfl rfl (by omega) (by omega) (by simp only [In]; omega)) ?_ | refine WL.y rfl (Yld.rem rfl rfl (by omega) (by omega)) ?_ | refine WL.y rfl (Yld.shl rfl rfl (by omega)) ?_ | refine WL.y rfl (Yld.shr rfl rfl (by omega)) ?_ | refine WL.y rfl (Yld.pure tab_ok rfl) ?_)
      exact WX.ret1 rfl rfl ⟨A', c', rfl, hO2, hg, hf⟩
    · repeat (first | refine WC.seq ?_ | refine WC.block ?_ | refine WC.region ?_ | refine WL.nil ?_ | refine WX.then_normal ?_ | refine WC.skip ?_ | refine WC.exit ?_ | refine WC.ret ?_ | refine WX.then_exit ?_ | refine WX.then_ret ?_ | refine WX.block_normal ?_ | refine WX.block_ret ?_ | refine WX.block_same ?_ | refine WX.block_other rfl ?_ | refine WC.label ?_ | refine WC.scope ?_ | refine WX.scope_normal ?_ | refine WX.scope_ret ?_ | refine WX.scope_exit ?_ | refine WL.y rfl (Yld.add rfl rfl (by simp only [In]; omega)) ?_ | refine WL.y rfl (Yld.sub rfl rfl (by simp only [In]; omega)) ?_ | refine WL.y rfl (Yld.mul rfl rfl (by simp only [In]; omega)) ?_ | refine WL.y rfl (Yld.convB tab_ok rfl rfl rfl rfl) ?_ | refine WL.y rfl (Yld.conv tab_ok rfl rfl rfl (by simp only [In]; omega)) ?_ | refine WL.y rfl (Yld.quo rfl rfl (by omega) (by omega) (by simp only [In]; omega)) ?_ | refine WL.y rfl (Yld.rem rfl rfl (by omega) (by omega)) ?_ | refine WL.y rfl (Yld.shl rfl rfl (by omega)) ?_ | refine WL.y rfl (Yld.shr rfl rfl (by omega)) ?_ | refine WL.y rfl (Yld.pure tab_ok rfl) ?_)
      exact WX.ret1 rfl rfl ⟨none, 0, rfl, Own.nil _ _ _ _, gr_refl _ _, fun g hg => by simp [blk] at hg⟩
/-- a slice of texts, as_ a value: where it lies, its capacity, its texts -/
def vT (x : Option Addr × Nat × List (List UInt8)) : Value := .slice x.1 x.2.2.length x.2.1
theorem One.T : One vT := fun _ => rfl
def catT (l : List (Option Addr × Nat × List (List UInt8))) : List (List UInt8) := l.flatMap (·.2.2)
theorem catT_take (l : List (Option Addr × Nat × List (List UInt8))) (k : Nat) (h : k < l.length) : catT (l.take (k + 1)) = catT (l.take k) ++ (l.getD k (none, 0, [])).2.2 := by
  unfold catT
  rw [List.take_succ_eq_append_getElem h, List.flatMap_append]
  simp [List.getD, h]
theorem catT_le (l : List (Option Addr × Nat × List (List UInt8))) (k : Nat) : (catT (l.take k)).length ≤ (catT l).length := by
  unfold catT
  conv => rhs; rw [← List.take_append_drop k l, List.flatMap_append, List.length_append]
  omega
theorem concatT_fn (A : Option Addr) (c : Nat) (l : List (Option Addr × Nat × List (List UInt8))) (w : World) (hR : Rd vT w A c l) (hl : ∀ x ∈ l, Rd vs w x.1 x.2.1 x.2.2) (hs : (catT l).length ≤ 1073741824) :
    Fn Tryd.prog 89 ⟨[.slice A l.length c]⟩ w fun v w' => ∃ A' c', v = .slice A' (catT l).length c' ∧ Own vs w' w.heap.size 9 A' c' (catT l) ∧ w.grownBy w' none := by
  have hml : l.length ≤ 9223372036854775807 := by have h1 := hR.cap; have h2 := hR.max; unfold maxLen at h2; omega
  refine Fn.enter (by kernel_rfl) Tryd.func89 rfl Tryd.ntmps89 rfl ?_
  repeat (first | refine WC.seq ?_ | refine WC.block ?_ | refine WC.region ?_ | refine WL.nil ?_ | refine WX.then_normal ?_ | refine WC.skip ?_ | refine WC.exit ?_ | refine WC.ret ?_ | refine WX.then_exit ?_ | refine WX.then_ret ?_ | refine WX.block_normal ?_ | refine WX.block_ret ?_ | refine WX.block_same ?_ | refine WX.block_other rfl ?_ | refine WC.label ?_ | refine WC.scope ?_ | refine WX.scope_normal ?_ | refine WX.scope_ret ?_ | refine WX.scope_exit ?_ | refine WL.y rfl (Yld.add rfl rfl (by simp only [In]; omega)) ?_ | refine WL.y rfl (Yld.sub rfl rfl (by simp only [In]; omega)) ?_ | refine WL.y rfl (Yld.mul rfl rfl (by simp only [In]; omega)) ?_ | refine WL.y rfl (Yld.convB tab_ok rfl rfl rfl rfl) ?_ | refine WL.y rfl (Yld.conv tab_ok rfl rfl rfl (by simp only [In]; omega)) ?_ | refine WL.y rfl (Yld.quo rfl rfl (by omega) (by omega) (by simp only [In]; omega)) ?_ | refine WL.y rfl (Yld.rem rfl rfl (by omega) (by omega)) ?_ | refine WL.y rfl (Yld.shl rfl rfl (by omega)) ?_ | refine WL.y rfl (Yld.shr rfl rfl (by omega)) ?_ | refine WL.y rfl (Yld.pure tab_ok rfl) ?_)
  refine WC.loop (S := Nat) (fun i => l.length - i) (fun i => [(11, vi i), (3, vi (catT (l.take i)).length), (10, vi l.length), (9, .slice A l.length c), (0, .slice A l.length c)])
    (fun i w' => i ≤ l.length ∧ w' = w) 0 ⟨by omega, rfl⟩ (by repeat (first | exact Sub.nil | refine Sub.cons rfl ?_)) (fun i w' ⟨hi, hw⟩ => ?_)
  subst hw
  have hc1 := catT_le l i
  repeat (first | refine WC.seq ?_ | refine WC.block ?_ | refine WC.region ?_ | refine WL.nil ?_ | refine WX.then_normal ?_ | refine WC.skip ?_ | refine WC.exit ?_ | refine WC.ret ?_ | refine WX.then_exit ?_ | refine WX.then_ret ?_ | refine WX.block_normal ?_ | refine WX.block_ret ?_ | refine WX.block_same ?_ | refine WX.block_other rfl ?_ | refine WC.label ?_ | refine WC.scope ?_ | refine WX.scope_normal ?_ | refine WX.scope_ret ?_ | refine WX.scope_exit ?_ | refine WL.y rfl (Yld.add rfl rfl (by simp only [In]; omega)) ?_ | refine WL.y rfl (Yld.sub rfl rfl (by simp only [In]; omega)) ?_ | refine WL.y rfl (Yld.mul rfl rfl (by simp only [In]; omega)) ?_ | refine WL.y rfl (Yld.convB tab_ok rfl rfl rfl rfl) ?_ | refine WL.y rfl (Yld.conv tab_ok rfl rfl rfl (by simp only [In]; omega)) ?_ | refine WL.y rfl (Yld.quo rfl rfl (by omega) (by omega) (by simp only [In]; omega)) ?_ | refine WL.y rfl (Yld.rem rfl rfl (by omega) (by omega)) ?_ | refine WL.y rfl (Yld.shl rfl rfl (by omega)) ?_ | refine WL.y rfl (Yld.shr rfl rfl (by omega)) ?_ | refine WL.y rfl (Yld.pure tab_ok rfl) ?_)
  refine WC.cond rfl (fun h => ?_) (fun h => ?_)
  · simp only [decide_eq_true_eq] at h
    have hlt : i < l.length := by omega
    have hc2 := catT_le l (i + 1)
    have hc3 := catT_take l i hlt
    have hc4 : (catT (l.take (i + 1))).length = (catT (l.take i)).length + (l.getD i (none, 0, [])).2.2.length := by rw [hc3, List.length_append]
    repeat (first | refine WL.y rfl (Yld.iaddrN tab_ok hR rfl rfl rfl rfl (by omega)) ?_ | refine WL.y rfl (Yld.iload (none, 0, []) tab_ok hR rfl rfl (by omega)) ?_ | refine WC.seq ?_ | refine WC.block ?_ | refine WC.region ?_ | refine WL.nil ?_ | refine WX.then_normal ?_ | refine WC.skip ?_ | refine WC.exit ?_ | refine WC.ret ?_ | refine WX.then_exit ?_ | refine WX.then_ret ?_ | refine WX.block_normal ?_ | refine WX.block_ret ?_ | refine WX.block_same ?_ | refine WX.block_other rfl ?_ | refine WC.label ?_ | refine WC.scope ?_ | refine WX.scope_normal ?_ | refine WX.scope_ret ?_ | refine WX.scope_exit ?_ | refine WL.y rfl (Yld.add rfl rfl (by simp only [In]; omega)) ?_ | refine WL.y rfl (Yld.sub rfl rfl (by simp only [In]; omega)) ?_ | refine WL.y rfl (Yld.mul rfl rfl (by simp only [In]; omega)) ?_ | refine WL.y rfl (Yld.convB tab_ok rfl rfl rfl rfl) ?_ | refine WL.y rfl (Yld.conv tab_ok rfl rfl rfl (by simp only [In]; omega)) ?_ | refine WL.y rfl (Yld.quo rfl rfl (by omega) (by omega) (by simp only [In]; omega)) ?_ | refine WL.y rfl (Yld.rem rfl rfl (by omega) (by omega)) ?_ | refine WL.y rfl (Yld.shl rfl rfl (by omega)) ?_ | refine WL.y rfl (Yld.shr rfl rfl (by omega)) ?_ | refine WL.y rfl (Yld.pure tab_ok rfl) ?_)
    refine WC.cond rfl (fun h2 => ?_) (fun h2 => ?_)
    · simp only [decide_eq_true_eq] at h2
      omega
    · repeat (first | refine WC.seq ?_ | refine WC.block ?_ | refine WC.region ?_ | refine WL.nil ?_ | refine WX.then_normal ?_ | refine WC.skip ?_ | refine WC.exit ?_ | refine WC.ret ?_ | refine WX.then_exit ?_ | refine WX.then_ret ?_ | refine WX.block_normal ?_ | refine WX.block_ret ?_ | refine WX.block_same ?_ | refine WX.block_other rfl ?_ | refine WC.label ?_ | refine WC.scope ?_ | refine WX.scope_normal ?_ | refine WX.scope_ret ?_ | refine WX.scope_exit ?_ | refine WL.y rfl (Yld.add rfl rfl (by simp only [In]; omega)) ?_ | refine WL.y rfl (Yld.sub rfl rfl (by simp only [In]; omega)) ?_ | refine WL.y rfl (Yld.mul rfl rfl (by simp only [In]; omega)) ?_ | refine WL.y rfl (Yld.convB tab_ok rfl rfl rfl rfl) ?_ | refine WL.y rfl (Yld.conv tab_ok rfl rfl rfl (by simp only [In]; omega)) ?_ | refine WL.y rfl (Yld.quo rfl rfl (by omega) (by omega) (by simp only [In]; omega)) ?_ | refine WL.y rfl (Yld.rem rfl rfl (by omega) (by omega)) ?_ | refine WL.y rfl (Yld.shl rfl rfl (by omega)) ?_ | refine WL.y rfl (Yld.shr rfl rfl (by omega)) ?_ | refine WL.y rfl (Yld.pure tab_ok rfl) ?_)
      refine WX.round (i + 1) ⟨by omega, rfl⟩ (by omega) ?_
      refine Sub.cons rfl (Sub.cons ?_ (by repeat (first | exact Sub.nil | refine Sub.cons rfl ?_)))
      rw [hc4]
      rfl
  · simp only [decide_eq_false_iff_not] at h
    obtain rfl : i = l.length := by omega
    rw [List.take_of_length_le (Nat.le_refl _)] at *
    repeat (first | refine WC.seq ?_ | refine WC.block ?_ | refine WC.region ?_ | refine WL.nil ?_ | refine WX.then_normal ?_ | refine WC.skip ?_ | refine WC.exit ?_ | refine WC.ret ?_ | refine WX.then_exit ?_ | refine WX.then_ret ?_ | refine WX.block_normal ?_ | refine WX.block_ret ?_ | refine WX.block_same ?_ | refine WX.block_other rfl ?_ | refine WC.label ?_ | refine WC.scope ?_ | refine WX.scope_normal ?_ | refine WX.scope_ret ?_ | refine WX.scope_exit ?_ | refine WL.y rfl (Yld.add rfl rfl (by simp only [In]; omega)) ?_ | refine WL.y rfl (Yld.sub rfl rfl (by simp only [In]; omega)) ?_ | refine WL.y rfl (Yld.mul rfl rfl (by simp only [In]; omega)) ?_ | refine WL.y rfl (Yld.convB tab_ok rfl rfl rfl rfl) ?_ | refine WL.y rfl (Yld.conv tab_ok rfl rfl rfl (by simp only [In]; omega)) ?_ | refine WL.y rfl (Yld.quo rfl rfl (by omega) (by omega) (by simp only [In]; omega)) ?_ | refine WL.y rfl (Yld.rem rfl rfl (by omega) (by omega)) ?_ | refine WL.y rfl (Yld.shl rfl rfl (by omega)) ?_ | refine WL.y rfl (Yld.shr rfl rfl (by omega)) ?_ | refine WL.y rfl (Yld.pure tab_ok rfl) ?_)
    refine WL.call rfl rfl (growT_fn (catT l).length w' (by omega) (by omega)) ?_
    rintro _ w1 ⟨A1, c1, rfl, hO1, hg1, _⟩
    have hR1 := hR.grown hg1
    repeat (first | refine WC.seq ?_ | refine WC.block ?_ | refine WC.region ?_ | refine WL.nil ?_ | refine WX.then_normal ?_ | refine WC.skip ?_ | refine WC.exit ?_ | refine WC.ret ?_ | refine WX.then_exit ?_ | refine WX.then_ret ?_ | refine WX.block_normal ?_ | refine WX.block_ret ?_ | refine WX.block_same ?_ | refine WX.block_other rfl ?_ | refine WC.label ?_ | refine WC.scope ?_ | refine WX.scope_normal ?_ | refine WX.scope_ret ?_ | refine WX.scope_exit ?_ | refine WL.y rfl (Yld.add rfl rfl (by simp only [In]; omega)) ?_ | refine WL.y rfl (Yld.sub rfl rfl (by simp only [In]; omega)) ?_ | refine WL.y rfl (Yld.mul rfl rfl (by simp only [In]; omega)) ?_ | refine WL.y rfl (Yld.convB tab_ok rfl rfl rfl rfl) ?_ | refine WL.y rfl (Yld.conv tab_ok rfl rfl rfl (by simp only [In]; omega)) ?_ | refine WL.y rfl (Yld.quo rfl rfl (by omega) (by omega) (by simp only [In]; omega)) ?_ | refine WL.y rfl (Yld.rem rfl rfl (by omega) (by omega)) ?_ | refine WL.y rfl (Yld.shl rfl rfl (by omega)) ?_ | refine WL.y rfl (Yld.shr rfl rfl (by omega)) ?_ | refine WL.y rfl (Yld.pure tab_ok rfl) ?_)
    refine WC.loop (S := Nat × Option Addr × Nat) (fun s => l.length - s.1) (fun s => [(27, vi s.1), (6, .slice s.2.1 (catT (l.take s.1)).length s.2.2), (26, vi l.length), (25, .slice A l.length c)])
      (fun s w2 => s.1 ≤ l.length ∧ Own vs w2 w'.heap.size 9 s.2.1 s.2.2 (catT (l.take s.1)) ∧ w'.grownBy w2 none) (0, A1, c1) ⟨by simp, hO1, hg1⟩ (by repeat (first | exact Sub.nil | refine Sub.cons rfl ?_)) (fun ⟨i, A2, c2⟩ w2 ⟨hi, hO2, hg2⟩ => ?_)
    have hR2 := hR.grown hg2
    have hc1 := catT_le l i
    simp only at hi hO2
    repeat (first | refine WC.seq ?_ | refine WC.block ?_ | refine WC.region ?_ | refine WL.nil ?_ | refine WX.then_normal ?_ | refine WC.skip ?_ | refine WC.exit ?_ | refine WC.ret ?_ | refine WX.then_exit ?_ | refine WX.then_ret ?_ | refine WX.block_normal ?_ | refine WX.block_ret ?_ | refine WX.block_same ?_ | refine WX.block_other rfl ?_ | refine WC.label ?_ | refine WC.scope ?_ | refine WX.scope_normal ?_ | refine WX.scope_ret ?_ | refine WX.scope_exit ?_ | refine WL.y rfl (Yld.add rfl rfl (by simp only [In]; omega)) ?_ | refine WL.y rfl (Yld.sub rfl rfl (by simp only [In]; omega)) ?_ | refine WL.y rfl (Yld.mul rfl rfl (by simp only [In]; omega)) ?_ | refine WL.y rfl (Yld.convB tab_ok rfl rfl rfl rfl) ?_ | refine WL.y rfl (Yld.conv tab_ok rfl rfl rfl (by simp only [In]; omega)) ?_ | refine WL.y rfl (Yld.quo rfl rfl (by omega) (by omega) (by simp only [In]; omega)) ?_ | refine WL.y rfl (Yld.rem rfl rfl (by omega) (by omega)) ?_ | refine WL.y rfl (Yld.shl rfl rfl (by omega)) ?_ | refine WL.y rfl (Yld.shr rfl rfl (by omega)) ?_ | refine WL.y rfl (Yld.pure tab_ok rfl) ?_)
    refine WC.cond rfl (fun h => ?_) (fun h => ?_)
    · simp only [decide_eq_true_eq] at h
      have hlt : i < l.length := by omega
      have hc2 := catT_le l (i + 1)
      have hc3 := catT_take l i hlt
      have hc4 : (catT (l.take (i + 1))).length = (catT (l.take i)).length + (l.getD i (none, 0, [])).2.2.length := by rw [hc3, List.length_append]
      repeat (first | refine WL.y rfl (Yld.iaddrN tab_ok hR2 rfl rfl rfl rfl (by omega)) ?_ | refine WL.y rfl (Yld.iload (none, 0, []) tab_ok hR2 rfl rfl (by omega)) ?_ | refine WC.seq ?_ | refine WC.block ?_ | refine WC.region ?_ | refine WL.nil ?_ | refine WX.then_normal ?_ | refine WC.skip ?_ | refine WC.exit ?_ | refine WC.ret ?_ | refine WX.then_exit ?_ | refine WX.then_ret ?_ | refine WX.block_normal ?_ | refine WX.block_ret ?_ | refine WX.block_same ?_ | refine WX.block_other rfl ?_ | refine WC.label ?_ | refine WC.scope ?_ | refine WX.scope_normal ?_ | refine WX.scope_ret ?_ | refine WX.scope_exit ?_ | refine WL.y rfl (Yld.add rfl rfl (by simp only [In]; omega)) ?_ | refine WL.y rfl (Yld.sub rfl rfl (by simp only [In]; omega)) ?_ | refine WL.y rfl (Yld.mul rfl rfl (by simp only [In]; omega)) ?_ | refine WL.y rfl (Yld.convB tab_ok rfl rfl rfl rfl) ?_ | refine WL.y rfl (Yld.conv tab_ok rfl rfl rfl (by simp only [In]; omega)) ?_ | refine WL.y rfl (Yld.quo rfl rfl (by omega) (by omega) (by simp only [In]; omega)) ?_ | refine WL.y rfl (Yld.rem rfl rfl (by omega) (by omega)) ?_ | refine WL.y rfl (Yld.shl rfl rfl (by omega)) ?_ | refine WL.y rfl (Yld.shr rfl rfl (by omega)) ?_ | refine WL.y rfl (Yld.pure tab_ok rfl) ?_)
      have hx : l.getD i (none, 0, []) ∈ l := by simp [List.getD, hlt]
      have hRx := (hl _ hx).grown hg2
      have hz2 := hg2.size
      refine WL.append tab_ok rfl rfl One.s hO2 rfl rfl hRx rfl rfl (by omega) (by unfold maxLen; omega) hz2 (fun A3 c3 w3 hO3 hg3 hf3 => ?_)
      repeat (first | refine WC.seq ?_ | refine WC.block ?_ | refine WC.region ?_ | refine WL.nil ?_ | refine WX.then_normal ?_ | refine WC.skip ?_ | refine WC.exit ?_ | refine WC.ret ?_ | refine WX.then_exit ?_ | refine WX.then_ret ?_ | refine WX.block_normal ?_ | refine WX.block_ret ?_ | refine WX.block_same ?_ | refine WX.block_other rfl ?_ | refine WC.label ?_ | refine WC.scope ?_ | refine WX.scope_normal ?_ | refine WX.scope_ret ?_ | refine WX.scope_exit ?_ | refine WL.y rfl (Yld.add rfl rfl (by simp only [In]; omega)) ?_ | refine WL.y rfl (Yld.sub rfl rfl (by simp only [In]; omega)) ?_ | refine WL.y rfl (Yld.mul rfl rfl (by simp only [In]; omega)) ?_ | refine WL.y rfl (Yld.convB tab_ok rfl rfl rfl rfl) ?_ | refine WL.y rfl (Yld.conv tab_ok rfl rfl rfl (by simp only [In]; omega)) ?_ | refine WL.y rfl (Yld.quo rfl rfl (by omega) (by omega) (by simp only [In]; omega)) ?_ | refine WL.y rfl (Yld.rem rfl rfl (by omega) (by omega)) ?_ | refine WL.y rfl (Yld.shl rfl rfl (by omega)) ?_ | refine WL.y rfl (Yld.shr rfl rfl (by omega)) ?_ | refine WL.y rfl (Yld.pure tab_ok rfl) ?_)
      refine WX.round (i + 1, A3, c3) ⟨by simp; omega, ?_, ?_⟩ (by simp; omega) ?_
      · simp only [hc3]; exact hO3
      · cases hq : blk A2 with
        | none => rw [hq] at hg3; exact gr_trans hg2 hg3
        | some q => rw [hq] at hg3; exact gr_new hg2 hg3 (hO2.lt hq).1
      · refine Sub.cons rfl (Sub.cons ?_ (by repeat (first | exact Sub.nil | refine Sub.cons rfl ?_)))
        rw [hc3]
        rfl
    · simp only [decide_eq_false_iff_not] at h
      obtain rfl : i = l.length := by omega
      rw [List.take_of_length_le (Nat.le_refl _)] at hO2 ⊢
      repeat (first | refine WC.seq ?_ | refine WC.block ?_ | refine WC.region ?_ | refine WL.nil ?_ | refine WX.then_normal ?_ | refine WC.skip ?_ | refine WC.exit ?_ | refine WC.ret ?_ | refine WX.then_exit ?_ | refine WX.then_ret ?_ | refine WX.block_normal ?_ | refine WX.block_ret ?_ | refine WX.block_same ?_ | refine WX.block_other rfl ?_ | refine WC.label ?_ | refine WC.scope ?_ | refine WX.scope_normal ?_ | refine WX.scope_ret ?_ | refine WX.scope_exit ?_ | refine WL.y rfl (Yld.add rfl rfl (by simp only [In]; omega)) ?_ | refine WL.y rfl (Yld.sub rfl rfl (by simp only [In]; omega)) ?_ | refine WL.y rfl (Yld.mul rfl rfl (by simp only [In]; omega)) ?_ | refine WL.y rfl (Yld.convB tab_ok rfl rfl rfl rfl) ?_ | refine WL.y rfl (Yld.conv tab_ok rfl rfl rfl (by simp only [In]; omega)) ?_ | refine WL.y rfl (Yld.quo rfl rfl (by omega) (by omega) (by simp only [In]; omega)) ?_ | refine WL.y rfl (Yld.rem rfl rfl (by omega) (by omega)) ?_ | refine WL.y rfl (Yld.shl rfl rfl (by omega)) ?_ | refine WL.y rfl (Yld.shr rfl rfl (by omega)) ?_ | refine WL.y rfl (Yld.pure tab_ok rfl) ?_)
      exact WX.ret1 rfl rfl ⟨A2, c2, rfl, hO2, hg2⟩
end
def M_slices_Concat_string_string_2 (a b : List (List UInt8)) (K : List (List UInt8) → Prop) : Prop := a.length + b.length ≤ 1073741824 ∧ K (a ++ b)
theorem W_slices_Concat_string_string_2 {w : World} {a b : List (List UInt8)} {A B : Option Addr} {c d n m g : Nat} {K : List (List UInt8) → Prop} (ha : Rd vs w A c a) (hn : n = a.length) (hb : Rd vs w B d b) (hm : m = b.length) (hB : Bl w g 22 [.slice A n c, .slice B m d]) (H : M_slices_Concat_string_string_2 a b K) :
    Fn Tryd.prog 89 ⟨[.slice (some ⟨g, 0, none⟩) 2 2]⟩ w (fun v w' => w.grownBy w' none ∧ ∃ (r : List (List UInt8)) (A : Option Addr) (c : Nat), v = .slice A r.length c ∧ Own vs w' w.heap.size 9 A c r ∧ K r) := by
  subst hn; subst hm
  have hR : Rd vT w (some ⟨g, 0, none⟩) 2 [(A, c, a), (B, d, b)] := ⟨by simp, by simp [maxLen], fun _ => ⟨_, rfl, fun j x hj => by
    rw [Addr.add_mid, hB.cell]
    match j, hj with
    | 0, hj => simp at hj; subst hj; rfl
    | 1, hj => simp at hj; subst hj; rfl
    | j + 2, hj => simp at hj⟩⟩
  have hc : catT [(A, c, a), (B, d, b)] = a ++ b := by simp [catT]
  refine (concatT_fn _ _ [(A, c, a), (B, d, b)] w hR (fun x hx => ?_) (by rw [hc, List.length_append]; exact H.1)).mono ?_
  · simp at hx
    rcases hx with rfl | rfl
    · exact ha
    · exact hb
  · rintro v w' ⟨A', c', hv, hO, hg⟩
    rw [hc] at hv hO
    exact ⟨hg, _, A', c', hv, hO, H.2⟩
def M_strings_Cut (s sep : List UInt8) (K : List UInt8 → List UInt8 → Bool → Prop) : Prop := s.length < 4294967281 ∧ K (Lib.cut s sep).1 (Lib.cut s sep).2.1 (Lib.cut s sep).2.2
theorem W_strings_Cut {S : List Nat} {w : World} {s sep : List UInt8} {K : List UInt8 → List UInt8 → Bool → Prop} (hG : GOK S w) (h100 : 100 ∈ S) (H : M_strings_Cut s sep K) : Fn Tryd.prog 72 ⟨[vs s, vs sep]⟩ w (fun v w' => w = w' ∧ ∃ (a b : List UInt8) (r : Bool), v = .tuple #[vs a, vs b, .bool r] ∧ K a b r) := by
  obtain ⟨m, hm⟩ := hG.ml h100
  refine ⟨by kernel_rfl, fun w1 e => (Tryd.strings_Cut ⟨⟨s⟩⟩ ⟨⟨sep⟩⟩ m w1 H.1 (by rw [e.cell]; exact hm)).mono fun _ w' ⟨he, n, hw⟩ => ⟨_, w, he, by rw [hw]; exact ⟨e.heap, e.os, e.tape, e.output⟩, rfl, _, _, _, rfl, H.2⟩⟩
def M_strings_Compare (a b : List UInt8) (K : Int → Prop) : Prop := K (Lib.compareBytes a b)
theorem W_strings_Compare {w : World} {a b : List UInt8} {K : Int → Prop} (H : M_strings_Compare a b K) : Fn Tryd.prog 107 ⟨[vs a, vs b]⟩ w (fun v w' => w = w' ∧ ∃ r : Int, v = .int .i64 r ∧ K r) :=
  (Fn.ofCalls (by kernel_rfl) (fun w1 => Tryd.strings_Compare ⟨⟨a⟩⟩ ⟨⟨b⟩⟩ w1)).mono fun _ _ ⟨h1, h2⟩ => ⟨h1, _, h2, H⟩
theorem enc_vs : encStr = vs := by funext l; rfl
def M_slices_Sort_string_string (xs : List (List UInt8)) (K : List (List UInt8) → Prop) : Prop := xs.length < 4611686018427387904 ∧ K (xs.mergeSort fun x y => decide (x ≤ y))
theorem W_slices_Sort_string_string {w : World} {xs : List (List UInt8)} {A : Option Addr} {c n B : Nat} {e : TypeId} {K : List (List UInt8) → Prop} (hO : Own vs w B e A c xs) (hn : n = xs.length) (H : M_slices_Sort_string_string xs K) :
    Fn Tryd.prog 91 ⟨[.slice A n c]⟩ w (fun v w' => ∃ ys : List (List UInt8), v = .tuple #[] ∧ Own vs w' B e A c ys ∧ w.grownBy w' (blk A) ∧ ys.length = xs.length ∧ K ys) := by
  subst hn
  refine ⟨by kernel_rfl, fun w1 e1 => ?_⟩
  have hO1 := own_eqv e1 hO
  rcases hO1.2 with ⟨hv, hn⟩ | ⟨g, cap, cur, hv, hb, hg, hnc, hcm, hcs, htake⟩
  · simp only [Value.slice.injEq] at hv
    obtain ⟨rfl, _, rfl⟩ := hv
    have : xs = [] := List.eq_nil_of_length_eq_zero hn
    subst this
    refine (Tryd.slices_Sort_string_none none 0 w1).mono fun _ w' ⟨he, hw⟩ => ⟨_, w, he, by rw [hw]; exact e1, [], rfl, hO, gr_refl _ _, rfl, ?_⟩
    simpa using H.2
  · simp only [Value.slice.injEq] at hv
    obtain ⟨rfl, _, rfl⟩ := hv
    refine (Tryd.slices_Sort_string g 0 c xs w1 (holds_of_block hg (by rw [enc_vs]; simpa using htake)) (Array.getElem?_eq_some_iff.1 hg).1 H.1).mono fun _ w' ⟨he, q, os, hw⟩ => ?_
    have hl : (xs.mergeSort fun x y => decide (x ≤ y)).length = xs.length := List.length_mergeSort xs
    have h1 := ownsRow_sorted (n := q) (os := os) hl hb hg hnc hcm hcs
    have h2 := grownBy_sorted (w := w1) (g := g) (n := q) (os := os) (xs.mergeSort fun x y => decide (x ≤ y)).toArray
    rw [← hw] at h1 h2
    refine ⟨_, w', he, Eqv.refl _, _, rfl, ?_, eqv_gr e1 h2, hl, H.2⟩
    unfold Own
    rw [hl, ← enc_vs]
    exact h1
def M_slices_Compact_string_string (xs : List (List UInt8)) (K : List (List UInt8) → Prop) : Prop := K (Lib.compact xs)
theorem compact_le (xs : List (List UInt8)) : (Lib.compact xs).length ≤ xs.length := by
  unfold Lib.compact Lib.compactUpTo
  rw [List.length_map]
  exact Nat.le_trans (List.length_filter_le _ _) (by simp)
theorem W_slices_Compact_string_string {w : World} {xs : List (List UInt8)} {A : Option Addr} {c n B : Nat} {e : TypeId} {K : List (List UInt8) → Prop} (hO : Own vs w B e A c xs) (hn : n = xs.length) (H : M_slices_Compact_string_string xs K) :
    Fn Tryd.prog 92 ⟨[.slice A n c]⟩ w (fun v w' => ∃ ys : List (List UInt8), v = .slice A ys.length c ∧ Own vs w' B e A c ys ∧ w.grownBy w' (blk A) ∧ K ys) := by
  subst hn
  refine ⟨by kernel_rfl, fun w1 e1 => ?_⟩
  have hO1 := own_eqv e1 hO
  rcases hO1.2 with ⟨hv, hn⟩ | ⟨g, cap, cur, hv, hb, hg, hnc, hcm, hcs, htake⟩
  · simp only [Value.slice.injEq] at hv
    obtain ⟨rfl, _, rfl⟩ := hv
    have : xs = [] := List.eq_nil_of_length_eq_zero hn
    subst this
    exact (Tryd.slices_Compact_string_empty none 0 w1).mono fun _ w' ⟨he, hw⟩ => ⟨_, w, he, by rw [hw]; exact e1, [], rfl, hO, gr_refl _ _, H⟩
  · simp only [Value.slice.injEq] at hv
    obtain ⟨rfl, _, rfl⟩ := hv
    have hmx : xs.length ≤ 9223372036854775807 := by simp only [maxLen] at hcm; omega
    refine (Tryd.slices_Compact_string g 0 c xs w1 (holds_of_block hg (by rw [enc_vs]; simpa using htake)) hmx hnc).mono fun _ w' ⟨he, q, hw⟩ => ?_
    have hle := compact_le xs
    have hl : (Lib.compact xs ++ List.replicate (xs.length - (Lib.compact xs).length) []).length = xs.length := by simp; omega
    have h1 := ownsRow_sorted (n := q) (os := #[]) hl hb hg hnc hcm hcs
    have h2 := grownBy_sorted (w := w1) (g := g) (n := q) (os := #[]) (Lib.compact xs ++ List.replicate (xs.length - (Lib.compact xs).length) []).toArray
    rw [Sort.grow_empty, ← hw] at h1 h2
    have hO2 : Own vs w' B e (some ⟨g, 0, none⟩) c (Lib.compact xs ++ List.replicate (xs.length - (Lib.compact xs).length) []) := by
      unfold Own
      rw [hl, ← enc_vs]
      exact h1
    have hO3 := hO2.take (Lib.compact xs).length (by rw [hl]; exact hle) (fun _ h => by cases h)
    rw [List.take_left' rfl] at hO3
    exact ⟨_, w', he, Eqv.refl _, _, rfl, hO3, eqv_gr e1 h2, H⟩
end Go.Proofs.YtcfljnfaakjdjaaDoor
 /- Printed by a program (wip/vg): what the functions mean, plainly, and their walks. -/
namespace Go.Proofs.YtcfljnfaakjdjaaDoor
open Go Go.RowKit
attribute [local irreducible] WL WC WX WQ WK WJ Yld Eff Ef0 Fn
def M_vis_group (s : List UInt8) (K : (List UInt8) → (List UInt8) → Bool → Prop) : Prop :=
 M_strings_CutPrefix s ([47, 47] : List UInt8) (fun (t120 : List UInt8) (t121 : Bool) =>
 M_strings_Cut t120 ([58] : List UInt8) (fun (t170 : List UInt8) (t171 : List UInt8) (t172 : Bool) =>
 ∃ J1 : Bool → Prop, ((((t121 && t172) = true → (((decide (t170 = ([] : List UInt8))) = true → J1 true) ∧
 ((decide (t170 = ([] : List UInt8))) = false → M_path_Valid t170 (fun (t32 : Bool) =>
 J1 t32)))) ∧
 ((t121 && t172) = false → J1 false))) ∧
 (∀ q2 : Bool, J1 q2 → K t170 t171 (q2 && ((decide (t171 = ([95, 95, 112, 107, 103, 95, 95] : List UInt8))) || (decide (t171 = ([95, 95, 115, 117, 98, 112, 97, 99, 107, 97, 103, 101, 115, 95, 95] : List UInt8))))))))

def M_vis_fair (s : List UInt8) (K : Bool → Prop) : Prop :=
 M_vis_group s (fun (t80 : List UInt8) (t81 : List UInt8) (t82 : Bool) =>
 K ((t82 || (decide (s = ([47, 47, 118, 105, 115, 105, 98, 105, 108, 105, 116, 121, 58, 112, 117, 98, 108, 105, 99] : List UInt8)))) || (decide (s = ([47, 47, 118, 105, 115, 105, 98, 105, 108, 105, 116, 121, 58, 112, 114, 105, 118, 97, 116, 101] : List UInt8)))))

def M_vis_lets (s : List UInt8) (pkg : List UInt8) (K : Bool → Prop) : Prop :=
 ((s = ([47, 47, 118, 105, 115, 105, 98, 105, 108, 105, 116, 121, 58, 112, 117, 98, 108, 105, 99] : List UInt8) → K true) ∧
 (¬ (s = ([47, 47, 118, 105, 115, 105, 98, 105, 108, 105, 116, 121, 58, 112, 117, 98, 108, 105, 99] : List UInt8)) → M_vis_group s (fun (t120 : List UInt8) (t121 : List UInt8) (t122 : Bool) =>
 ∃ J1 : Bool → Prop, (((t122 = true → (((decide (t120 = pkg)) = true → J1 true) ∧
 ((decide (t120 = pkg)) = false → (((decide (t121 = ([95, 95, 115, 117, 98, 112, 97, 99, 107, 97, 103, 101, 115, 95, 95] : List UInt8))) = true → M_path_Under pkg t120 (fun (t27 : Bool) =>
 J1 t27)) ∧
 ((decide (t121 = ([95, 95, 115, 117, 98, 112, 97, 99, 107, 97, 103, 101, 115, 95, 95] : List UInt8))) = false → J1 false))))) ∧
 (t122 = false → J1 false))) ∧
 (∀ q1 : Bool, J1 q1 → K q1))))

def M_vis_May_1 (s : List UInt8) (cap0_Pkg : List UInt8) (cap0_Name : List UInt8) (K : Bool → Prop) : Prop :=
 M_vis_lets s cap0_Pkg (fun (t3 : Bool) =>
 K t3)

def M_vis_Valid_1 (s : List UInt8) (K : Bool → Prop) : Prop :=
 M_vis_fair s (fun (t4 : Bool) =>
 K (!t4))

def M_slices_IndexFunc_string_string_vis_May_1 (s : List (List UInt8)) (cap0_Pkg : List UInt8) (cap0_Name : List UInt8) (K : Int → Prop) : Prop :=
 (s.length ≤ maxLen →
 Lp1 (fun (t8 : Int) k_1 => ((t8 < (s.length : Int) → (0 ≤ t8 ∧ t8 < (s.length : Nat)) ∧
 M_vis_May_1 (s.getD t8.toNat []) cap0_Pkg cap0_Name (fun (t16 : Bool) =>
 ((t16 = true → K t8) ∧
 (t16 = false → (In .i64 (t8 + (1 : Int))) ∧
 k_1 (t8 + (1 : Int)))))) ∧
 (¬ (t8 < (s.length : Int)) → K (-1 : Int)))) (0 : Int))

def M_slices_ContainsFunc_string_string_vis_May_1 (s : List (List UInt8)) (cap0_Pkg : List UInt8) (cap0_Name : List UInt8) (K : Bool → Prop) : Prop :=
 (s.length ≤ maxLen →
 M_slices_IndexFunc_string_string_vis_May_1 s cap0_Pkg cap0_Name (fun (t7 : Int) =>
 K (decide ((0 : Int) ≤ t7))))

def M_slices_IndexFunc_string_string_vis_Valid_1 (s : List (List UInt8)) (K : Int → Prop) : Prop :=
 (s.length ≤ maxLen →
 Lp1 (fun (t8 : Int) k_1 => ((t8 < (s.length : Int) → (0 ≤ t8 ∧ t8 < (s.length : Nat)) ∧
 M_vis_Valid_1 (s.getD t8.toNat []) (fun (t16 : Bool) =>
 ((t16 = true → K t8) ∧
 (t16 = false → (In .i64 (t8 + (1 : Int))) ∧
 k_1 (t8 + (1 : Int)))))) ∧
 (¬ (t8 < (s.length : Int)) → K (-1 : Int)))) (0 : Int))

def M_vis_Valid (specs : List (List UInt8)) (K : Er → Prop) : Prop :=
 (specs.length ≤ maxLen →
 M_slices_IndexFunc_string_string_vis_Valid_1 specs (fun (k : Int) =>
 (((0 : Int) ≤ k → ∃ n : Nat, (Er.e 5) = Er.e n ∧
 K (Er.at_ k n)) ∧
 (¬ ((0 : Int) ≤ k) → K Er.ok))))

def M_vis_May (specs : List (List UInt8)) (of_Pkg : List UInt8) (of_Name : List UInt8) (from_Pkg : List UInt8) (from_Name : List UInt8) (K : Bool → Prop) : Prop :=
 (specs.length ≤ maxLen →
 ∃ J1 : Bool → Prop, ((((decide (of_Pkg = from_Pkg)) = true → J1 true) ∧
 ((decide (of_Pkg = from_Pkg)) = false → M_slices_ContainsFunc_string_string_vis_May_1 specs from_Pkg from_Name (fun (t15 : Bool) =>
 J1 t15)))) ∧
 (∀ q1 : Bool, J1 q1 → K q1))

def M_smithylaw20_first (K : Bool → Prop) : Prop :=
 M_vis_May ([([47, 47, 97, 58, 95, 95, 115, 117, 98, 112, 97, 99, 107, 97, 103, 101, 115, 95, 95] : List UInt8)] : List (List UInt8)) ([98] : List UInt8) ([120] : List UInt8) ([97, 47, 99] : List UInt8) ([121] : List UInt8) (fun (t0 : Bool) =>
 K t0)

def M_smithyworld_Texts (l : List (List UInt8)) (most : Int) (long : Int) (K : Bool → Prop) : Prop :=
 (l.length ≤ maxLen →
 ((most < (l.length : Int) → K false) ∧
 (¬ (most < (l.length : Int)) → Lp1 (fun (i : Int) k_1 => ((i < (l.length : Int) → (0 ≤ i ∧ i < (l.length : Nat)) ∧
 ((long < ((l.getD i.toNat []).length : Int) → K false) ∧
 (¬ (long < ((l.getD i.toNat []).length : Int)) → (In .i64 (i + (1 : Int))) ∧
 k_1 (i + (1 : Int))))) ∧
 (¬ (i < (l.length : Int)) → K true))) (0 : Int))))

set_option maxHeartbeats 8000000 in
theorem W_vis_group {S : List Nat} {w : World} {s : List UInt8} {K : (List UInt8) → (List UInt8) → Bool → Prop} (hG : GOK S w) (hS100 : 100 ∈ S) (H : M_vis_group s K) : Fn Tryd.prog 96 ⟨[vs s]⟩ w (fun v w' => w.grownBy w' none ∧ ∃ (r0 : List UInt8), ∃ (r1 : List UInt8), ∃ (r2 : Bool), v = .tuple #[vs r0, vs r1, .bool r2] ∧ K r0 r1 r2) := by
  unfold M_vis_group at H
  refine Fn.enter (by kernel_rfl) Tryd.func96 rfl Tryd.ntmps96 rfl ?_
  refine WC.seq ?_
  refine WC.region ?_
  refine WL.y rfl (Yld.pure tab_ok rfl) ?_
  refine WL.y rfl (Yld.pure tab_ok rfl) ?_
  refine WL.y rfl (Yld.pure tab_ok rfl) ?_
  refine WL.nil (WX.then_normal ?_)
  refine WC.seq ?_
  refine WC.region ?_
  refine WL.y rfl (Yld.pure tab_ok rfl) ?_
  refine WL.call rfl rfl (W_strings_CutPrefix H) ?_
  rintro _ _ ⟨rfl, t120, t121, rfl, H⟩
  refine WL.y rfl (Yld.pure tab_ok rfl) ?_
  refine WL.y rfl (Yld.pure tab_ok rfl) ?_
  refine WL.y rfl (Yld.pure tab_ok rfl) ?_
  refine WL.y rfl (Yld.pure tab_ok rfl) ?_
  refine WL.y rfl (Yld.pure tab_ok rfl) ?_
  refine WL.nil (WX.then_normal ?_)
  refine WC.seq ?_
  refine WC.region ?_
  refine WL.y rfl (Yld.pure tab_ok rfl) ?_
  refine WL.call rfl rfl (W_strings_Cut hG hS100 H) ?_
  rintro _ _ ⟨rfl, t170, t171, t172, rfl, H⟩
  refine WL.y rfl (Yld.pure tab_ok rfl) ?_
  refine WL.y rfl (Yld.pure tab_ok rfl) ?_
  refine WL.y rfl (Yld.pure tab_ok rfl) ?_
  refine WL.y rfl (Yld.pure tab_ok rfl) ?_
  refine WL.y rfl (Yld.pure tab_ok rfl) ?_
  refine WL.y rfl (Yld.pure tab_ok rfl) ?_
  refine WL.y rfl (Yld.pure tab_ok rfl) ?_
  refine WL.nil (WX.then_normal ?_)
  refine WC.seq ?_
  refine WC.region ?_
  refine WL.y rfl (Yld.pure tab_ok rfl) ?_
  refine WL.y rfl (Yld.pure tab_ok rfl) ?_
  refine WL.y rfl (Yld.pure tab_ok rfl) ?_
  refine WL.y rfl (Yld.pure tab_ok rfl) ?_
  refine WL.midF 2 (fun L' w' => ∃ q1 : Bool, L' = [(26, .bool q1), (7, vs t170), (8, vs t171), (21, vs t170), (22, vs t171)] ∧ q1 = (t121 && t172) ∧ w = w') ?_ (fun hQ => ?_)
  · rintro _ _ ⟨q1, rfl, rfl, rfl⟩
    refine WL.y rfl (Yld.pure tab_ok rfl) ?_
    obtain ⟨J1, H, hJ1⟩ := H
    refine WL.midF 7 (fun L' w' => ∃ q2 : Bool, L' = [(34, .bool q2), (8, vs t171), (21, vs t170), (22, vs t171)] ∧ J1 q2 ∧ w.grownBy w' none) ?_ (fun hQ => ?_)
    · clear H
      rintro _ w1 ⟨q2, rfl, H, gr1⟩
      replace H := hJ1 q2 H
      refine WL.y rfl (Yld.pure tab_ok rfl) ?_
      refine WL.midF 7 (fun L' w' => ∃ q3 : Bool, L' = [(42, .bool q3), (21, vs t170), (22, vs t171)] ∧ q3 = (q2 && ((decide (t171 = ([95, 95, 112, 107, 103, 95, 95] : List UInt8))) || (decide (t171 = ([95, 95, 115, 117, 98, 112, 97, 99, 107, 97, 103, 101, 115, 95, 95] : List UInt8))))) ∧ w1 = w') ?_ (fun hQ => ?_)
      · rintro _ _ ⟨q3, rfl, rfl, rfl⟩
        refine WL.y rfl (Yld.pure tab_ok rfl) ?_
        refine WL.y rfl (Yld.pure tab_ok rfl) ?_
        refine WL.y rfl (Yld.pure tab_ok rfl) ?_
        refine WL.nil (WX.then_normal ?_)
        refine WC.ret ?_
        exact WX.ret3 rfl rfl rfl rfl ⟨gr1, t170, t171, q2 && ((decide (t171 = ([95, 95, 112, 107, 103, 95, 95] : List UInt8))) || (decide (t171 = ([95, 95, 115, 117, 98, 112, 97, 99, 107, 97, 103, 101, 115, 95, 95] : List UInt8)))), rfl, H⟩
      · clear H
        rcases Bool.eq_false_or_eq_true (q2) with b1 | b1
        · refine WL.gyes rfl rfl (okb b1) rfl (Yld.pure tab_ok rfl) ?_
          refine WL.gyes rfl rfl (okb b1) rfl (Yld.pure tab_ok rfl) ?_
          refine WL.gyes rfl rfl (okb b1) rfl (Yld.pure tab_ok rfl) ?_
          rcases Bool.eq_false_or_eq_true (decide (t171 = ([95, 95, 112, 107, 103, 95, 95] : List UInt8))) with b2 | b2
          · refine WL.gno rfl rfl (okb b2) rfl ?_
            refine WL.gno rfl rfl (okb b2) rfl ?_
            refine WL.gyes rfl rfl (okb b1) rfl (Yld.pickT (okb b2) rfl) ?_
            refine WL.y rfl (Yld.pickT (okb b1) rfl) ?_
            exact WL.weaken (by repeat (first | exact Sub.nil | refine Sub.cons rfl ?_)) (hQ _ _ ⟨true, rfl, by rw [b1, b2] <;> rfl, rfl⟩)
          · refine WL.gyes rfl rfl (okb b2) rfl (Yld.pure tab_ok rfl) ?_
            refine WL.gyes rfl rfl (okb b2) rfl (Yld.pure tab_ok rfl) ?_
            refine WL.gyes rfl rfl (okb b1) rfl (Yld.pickF (okb b2) rfl) ?_
            refine WL.y rfl (Yld.pickT (okb b1) rfl) ?_
            exact WL.weaken (by repeat (first | exact Sub.nil | refine Sub.cons rfl ?_)) (hQ _ _ ⟨decide (t171 = ([95, 95, 115, 117, 98, 112, 97, 99, 107, 97, 103, 101, 115, 95, 95] : List UInt8)), rfl, by rw [b1, b2] <;> rfl, rfl⟩)
        · refine WL.gno rfl rfl (okb b1) rfl ?_
          refine WL.gno rfl rfl (okb b1) rfl ?_
          refine WL.gno rfl rfl (okb b1) rfl ?_
          refine WL.gun rfl rfl rfl rfl ?_
          refine WL.gun rfl rfl rfl rfl ?_
          refine WL.gno rfl rfl (okb b1) rfl ?_
          refine WL.y rfl (Yld.pickF (okb b1) rfl) ?_
          exact WL.weaken (by repeat (first | exact Sub.nil | refine Sub.cons rfl ?_)) (hQ _ _ ⟨false, rfl, by rw [b1] <;> rfl, rfl⟩)
    · clear hJ1
      rcases Bool.eq_false_or_eq_true (t121 && t172) with b3 | b3
      · replace H := H.1 b3
        refine WL.gyes rfl rfl (okb b3) rfl (Yld.pure tab_ok rfl) ?_
        refine WL.gyes rfl rfl (okb b3) rfl (Yld.pure tab_ok rfl) ?_
        refine WL.gyes rfl rfl (okb b3) rfl (Yld.pure tab_ok rfl) ?_
        rcases Bool.eq_false_or_eq_true (decide (t170 = ([] : List UInt8))) with b4 | b4
        · replace H := H.1 b4
          refine WL.gno rfl rfl (okb b4) rfl ?_
          refine WL.gno rfl rfl (okb b4) rfl ?_
          refine WL.gyes rfl rfl (okb b3) rfl (Yld.pickT (okb b4) rfl) ?_
          refine WL.y rfl (Yld.pickT (okb b3) rfl) ?_
          exact WL.weaken (by repeat (first | exact Sub.nil | refine Sub.cons rfl ?_)) (hQ _ _ ⟨true, rfl, H, (gr_refl _ _)⟩)
        · replace H := H.2 b4
          refine WL.gyes rfl rfl (okb b4) rfl (Yld.pure tab_ok rfl) ?_
          refine WL.callw (wants_some rfl rfl (okb b4)) rfl rfl (W_path_Valid hG hS100 H) ?_
          rintro _ w2 ⟨hg1, t32, rfl, H⟩
          have gr2 := hg1
          refine WL.gyes rfl rfl (okb b3) rfl (Yld.pickF (okb b4) rfl) ?_
          refine WL.y rfl (Yld.pickT (okb b3) rfl) ?_
          exact WL.weaken (by repeat (first | exact Sub.nil | refine Sub.cons rfl ?_)) (hQ _ _ ⟨t32, rfl, H, gr2⟩)
      · replace H := H.2 b3
        refine WL.gno rfl rfl (okb b3) rfl ?_
        refine WL.gno rfl rfl (okb b3) rfl ?_
        refine WL.gno rfl rfl (okb b3) rfl ?_
        refine WL.gun rfl rfl rfl rfl ?_
        refine WL.gun rfl rfl rfl rfl ?_
        refine WL.gno rfl rfl (okb b3) rfl ?_
        refine WL.y rfl (Yld.pickF (okb b3) rfl) ?_
        exact WL.weaken (by repeat (first | exact Sub.nil | refine Sub.cons rfl ?_)) (hQ _ _ ⟨false, rfl, H, (gr_refl _ _)⟩)
  · clear H
    rcases Bool.eq_false_or_eq_true (t121) with b5 | b5
    · refine WL.gyes rfl rfl (okb b5) rfl (Yld.pure tab_ok rfl) ?_
      refine WL.y rfl (Yld.pickT (okb b5) rfl) ?_
      exact WL.weaken (by repeat (first | exact Sub.nil | refine Sub.cons rfl ?_)) (hQ _ _ ⟨t172, rfl, by rw [b5] <;> rfl, rfl⟩)
    · refine WL.gno rfl rfl (okb b5) rfl ?_
      refine WL.y rfl (Yld.pickF (okb b5) rfl) ?_
      exact WL.weaken (by repeat (first | exact Sub.nil | refine Sub.cons rfl ?_)) (hQ _ _ ⟨false, rfl, by rw [b5] <;> rfl, rfl⟩)

set_option maxHeartbeats 8000000 in
theorem W_vis_fair {S : List Nat} {w : World} {s : List UInt8} {K : Bool → Prop} (hG : GOK S w) (hS100 : 100 ∈ S) (H : M_vis_fair s K) : Fn Tryd.prog 64 ⟨[vs s]⟩ w (fun v w' => w.grownBy w' none ∧ ∃ (r : Bool), v = .bool r ∧ K r) := by
  unfold M_vis_fair at H
  refine Fn.enter (by kernel_rfl) Tryd.func64 rfl Tryd.ntmps64 rfl ?_
  refine WC.seq ?_
  refine WC.region ?_
  refine WL.y rfl (Yld.pure tab_ok rfl) ?_
  refine WL.nil (WX.then_normal ?_)
  refine WC.seq ?_
  refine WC.region ?_
  refine WL.y rfl (Yld.pure tab_ok rfl) ?_
  refine WL.call rfl rfl (W_vis_group hG hS100 H) ?_
  rintro _ w1 ⟨hg1, t80, t81, t82, rfl, H⟩
  have gr1 := hg1
  refine WL.y rfl (Yld.pure tab_ok rfl) ?_
  refine WL.y rfl (Yld.pure tab_ok rfl) ?_
  refine WL.y rfl (Yld.pure tab_ok rfl) ?_
  refine WL.y rfl (Yld.pure tab_ok rfl) ?_
  refine WL.y rfl (Yld.pure tab_ok rfl) ?_
  refine WL.y rfl (Yld.pure tab_ok rfl) ?_
  refine WL.y rfl (Yld.pure tab_ok rfl) ?_
  refine WL.nil (WX.then_normal ?_)
  refine WC.seq ?_
  refine WC.region ?_
  refine WL.y rfl (Yld.pure tab_ok rfl) ?_
  refine WL.y rfl (Yld.pure tab_ok rfl) ?_
  refine WL.midF 3 (fun L' w' => ∃ q1 : Bool, L' = [(16, .bool q1), (0, vs s)] ∧ q1 = (t82 || (decide (s = ([47, 47, 118, 105, 115, 105, 98, 105, 108, 105, 116, 121, 58, 112, 117, 98, 108, 105, 99] : List UInt8)))) ∧ w1 = w') ?_ (fun hQ => ?_)
  · rintro _ _ ⟨q1, rfl, rfl, rfl⟩
    refine WL.y rfl (Yld.pure tab_ok rfl) ?_
    refine WL.midF 3 (fun L' w' => ∃ q2 : Bool, L' = [(20, .bool q2)] ∧ q2 = ((t82 || (decide (s = ([47, 47, 118, 105, 115, 105, 98, 105, 108, 105, 116, 121, 58, 112, 117, 98, 108, 105, 99] : List UInt8)))) || (decide (s = ([47, 47, 118, 105, 115, 105, 98, 105, 108, 105, 116, 121, 58, 112, 114, 105, 118, 97, 116, 101] : List UInt8)))) ∧ w1 = w') ?_ (fun hQ => ?_)
    · rintro _ _ ⟨q2, rfl, rfl, rfl⟩
      refine WL.y rfl (Yld.pure tab_ok rfl) ?_
      refine WL.nil (WX.then_normal ?_)
      refine WC.ret ?_
      exact WX.ret1 rfl rfl ⟨gr1, (t82 || (decide (s = ([47, 47, 118, 105, 115, 105, 98, 105, 108, 105, 116, 121, 58, 112, 117, 98, 108, 105, 99] : List UInt8)))) || (decide (s = ([47, 47, 118, 105, 115, 105, 98, 105, 108, 105, 116, 121, 58, 112, 114, 105, 118, 97, 116, 101] : List UInt8))), rfl, H⟩
    · clear H
      rcases Bool.eq_false_or_eq_true (t82 || (decide (s = ([47, 47, 118, 105, 115, 105, 98, 105, 108, 105, 116, 121, 58, 112, 117, 98, 108, 105, 99] : List UInt8)))) with b1 | b1
      · refine WL.gno rfl rfl (okb b1) rfl ?_
        refine WL.gno rfl rfl (okb b1) rfl ?_
        refine WL.y rfl (Yld.pickT (okb b1) rfl) ?_
        exact WL.weaken (by repeat (first | exact Sub.nil | refine Sub.cons rfl ?_)) (hQ _ _ ⟨true, rfl, by rw [b1] <;> rfl, rfl⟩)
      · refine WL.gyes rfl rfl (okb b1) rfl (Yld.pure tab_ok rfl) ?_
        refine WL.gyes rfl rfl (okb b1) rfl (Yld.pure tab_ok rfl) ?_
        refine WL.y rfl (Yld.pickF (okb b1) rfl) ?_
        exact WL.weaken (by repeat (first | exact Sub.nil | refine Sub.cons rfl ?_)) (hQ _ _ ⟨decide (s = ([47, 47, 118, 105, 115, 105, 98, 105, 108, 105, 116, 121, 58, 112, 114, 105, 118, 97, 116, 101] : List UInt8)), rfl, by rw [b1] <;> rfl, rfl⟩)
  · clear H
    rcases Bool.eq_false_or_eq_true (t82) with b2 | b2
    · refine WL.gno rfl rfl (okb b2) rfl ?_
      refine WL.gno rfl rfl (okb b2) rfl ?_
      refine WL.y rfl (Yld.pickT (okb b2) rfl) ?_
      exact WL.weaken (by repeat (first | exact Sub.nil | refine Sub.cons rfl ?_)) (hQ _ _ ⟨true, rfl, by rw [b2] <;> rfl, rfl⟩)
    · refine WL.gyes rfl rfl (okb b2) rfl (Yld.pure tab_ok rfl) ?_
      refine WL.gyes rfl rfl (okb b2) rfl (Yld.pure tab_ok rfl) ?_
      refine WL.y rfl (Yld.pickF (okb b2) rfl) ?_
      exact WL.weaken (by repeat (first | exact Sub.nil | refine Sub.cons rfl ?_)) (hQ _ _ ⟨decide (s = ([47, 47, 118, 105, 115, 105, 98, 105, 108, 105, 116, 121, 58, 112, 117, 98, 108, 105, 99] : List UInt8)), rfl, by rw [b2] <;> rfl, rfl⟩)

set_option maxHeartbeats 8000000 in
theorem W_vis_lets {S : List Nat} {w : World} {s : List UInt8} {pkg : List UInt8} {K : Bool → Prop} (hG : GOK S w) (hS100 : 100 ∈ S) (H : M_vis_lets s pkg K) : Fn Tryd.prog 61 ⟨[vs s, vs pkg]⟩ w (fun v w' => w.grownBy w' none ∧ ∃ (r : Bool), v = .bool r ∧ K r) := by
  unfold M_vis_lets at H
  refine Fn.enter (by kernel_rfl) Tryd.func61 rfl Tryd.ntmps61 rfl ?_
  refine WC.seq ?_
  refine WC.region ?_
  refine WL.y rfl (Yld.pure tab_ok rfl) ?_
  refine WL.nil (WX.then_normal ?_)
  refine WC.seq ?_
  refine WC.seq ?_
  refine WC.region ?_
  refine WL.y rfl (Yld.pure tab_ok rfl) ?_
  refine WL.y rfl (Yld.pure tab_ok rfl) ?_
  refine WL.nil (WX.then_normal ?_)
  refine WC.cond rfl (fun b1 => ?_) (fun b1 => ?_)
  · replace H := H.1 (of_decide_eq_true b1)
    refine WC.seq ?_
    refine WC.region ?_
    refine WL.y rfl (Yld.pure tab_ok rfl) ?_
    refine WL.nil (WX.then_normal ?_)
    refine WC.ret (WX.then_ret ?_)
    exact WX.ret1 rfl rfl ⟨(gr_refl _ _), true, rfl, H⟩
  · replace H := H.2 (of_decide_eq_false b1)
    refine WC.skip (WX.then_normal ?_)
    refine WC.seq ?_
    refine WC.region ?_
    refine WL.y rfl (Yld.pure tab_ok rfl) ?_
    refine WL.call rfl rfl (W_vis_group hG hS100 H) ?_
    rintro _ w1 ⟨hg1, t120, t121, t122, rfl, H⟩
    have gr1 := hg1
    refine WL.y rfl (Yld.pure tab_ok rfl) ?_
    refine WL.y rfl (Yld.pure tab_ok rfl) ?_
    refine WL.y rfl (Yld.pure tab_ok rfl) ?_
    refine WL.y rfl (Yld.pure tab_ok rfl) ?_
    refine WL.y rfl (Yld.pure tab_ok rfl) ?_
    refine WL.y rfl (Yld.pure tab_ok rfl) ?_
    refine WL.y rfl (Yld.pure tab_ok rfl) ?_
    refine WL.nil (WX.then_normal ?_)
    refine WC.seq ?_
    refine WC.region ?_
    refine WL.y rfl (Yld.pure tab_ok rfl) ?_
    refine WL.y rfl (Yld.pure tab_ok rfl) ?_
    obtain ⟨J1, H, hJ1⟩ := H
    refine WL.midF 13 (fun L' w' => ∃ q1 : Bool, L' = [(30, .bool q1)] ∧ J1 q1 ∧ w1 = w') ?_ (fun hQ => ?_)
    · clear H
      rintro _ _ ⟨q1, rfl, H, rfl⟩
      replace H := hJ1 q1 H
      refine WL.y rfl (Yld.pure tab_ok rfl) ?_
      refine WL.nil (WX.then_normal ?_)
      refine WC.ret ?_
      exact WX.ret1 rfl rfl ⟨gr1, q1, rfl, H⟩
    · clear hJ1
      rcases Bool.eq_false_or_eq_true (t122) with b2 | b2
      · replace H := H.1 b2
        refine WL.gyes rfl rfl (okb b2) rfl (Yld.pure tab_ok rfl) ?_
        refine WL.gyes rfl rfl (okb b2) rfl (Yld.pure tab_ok rfl) ?_
        refine WL.gyes rfl rfl (okb b2) rfl (Yld.pure tab_ok rfl) ?_
        refine WL.gyes rfl rfl (okb b2) rfl (Yld.pure tab_ok rfl) ?_
        rcases Bool.eq_false_or_eq_true (decide (t120 = pkg)) with b3 | b3
        · replace H := H.1 b3
          refine WL.gno rfl rfl (okb b3) rfl ?_
          refine WL.gno rfl rfl (okb b3) rfl ?_
          refine WL.gno rfl rfl (okb b3) rfl ?_
          refine WL.gun rfl rfl rfl rfl ?_
          refine WL.gun rfl rfl rfl rfl ?_
          refine WL.gun rfl rfl rfl rfl ?_
          refine WL.gno rfl rfl (okb b3) rfl ?_
          refine WL.gyes rfl rfl (okb b2) rfl (Yld.pickT (okb b3) rfl) ?_
          refine WL.y rfl (Yld.pickT (okb b2) rfl) ?_
          exact WL.weaken (by repeat (first | exact Sub.nil | refine Sub.cons rfl ?_)) (hQ _ _ ⟨true, rfl, H, rfl⟩)
        · replace H := H.2 b3
          refine WL.gyes rfl rfl (okb b3) rfl (Yld.pure tab_ok rfl) ?_
          refine WL.gyes rfl rfl (okb b3) rfl (Yld.pure tab_ok rfl) ?_
          refine WL.gyes rfl rfl (okb b3) rfl (Yld.pure tab_ok rfl) ?_
          rcases Bool.eq_false_or_eq_true (decide (t121 = ([95, 95, 115, 117, 98, 112, 97, 99, 107, 97, 103, 101, 115, 95, 95] : List UInt8))) with b4 | b4
          · replace H := H.1 b4
            refine WL.gyes rfl rfl (okb b4) rfl (Yld.pure tab_ok rfl) ?_
            refine WL.gyes rfl rfl (okb b4) rfl (Yld.pure tab_ok rfl) ?_
            refine WL.callw (wants_some rfl rfl (okb b4)) rfl rfl (W_path_Under H) ?_
            rintro _ _ ⟨rfl, t27, rfl, H⟩
            refine WL.gyes rfl rfl (okb b3) rfl (Yld.pickT (okb b4) rfl) ?_
            refine WL.gyes rfl rfl (okb b2) rfl (Yld.pickF (okb b3) rfl) ?_
            refine WL.y rfl (Yld.pickT (okb b2) rfl) ?_
            exact WL.weaken (by repeat (first | exact Sub.nil | refine Sub.cons rfl ?_)) (hQ _ _ ⟨t27, rfl, H, rfl⟩)
          · replace H := H.2 b4
            refine WL.gno rfl rfl (okb b4) rfl ?_
            refine WL.gno rfl rfl (okb b4) rfl ?_
            refine WL.gno rfl rfl (okb b4) rfl ?_
            refine WL.gyes rfl rfl (okb b3) rfl (Yld.pickF (okb b4) rfl) ?_
            refine WL.gyes rfl rfl (okb b2) rfl (Yld.pickF (okb b3) rfl) ?_
            refine WL.y rfl (Yld.pickT (okb b2) rfl) ?_
            exact WL.weaken (by repeat (first | exact Sub.nil | refine Sub.cons rfl ?_)) (hQ _ _ ⟨false, rfl, H, rfl⟩)
      · replace H := H.2 b2
        refine WL.gno rfl rfl (okb b2) rfl ?_
        refine WL.gno rfl rfl (okb b2) rfl ?_
        refine WL.gno rfl rfl (okb b2) rfl ?_
        refine WL.gno rfl rfl (okb b2) rfl ?_
        refine WL.gun rfl rfl rfl rfl ?_
        refine WL.gun rfl rfl rfl rfl ?_
        refine WL.gun rfl rfl rfl rfl ?_
        refine WL.gun rfl rfl rfl rfl ?_
        refine WL.gun rfl rfl rfl rfl ?_
        refine WL.gun rfl rfl rfl rfl ?_
        refine WL.gun rfl rfl rfl rfl ?_
        refine WL.gno rfl rfl (okb b2) rfl ?_
        refine WL.y rfl (Yld.pickF (okb b2) rfl) ?_
        exact WL.weaken (by repeat (first | exact Sub.nil | refine Sub.cons rfl ?_)) (hQ _ _ ⟨false, rfl, H, rfl⟩)

set_option maxHeartbeats 8000000 in
theorem W_vis_May_1 {S : List Nat} {w : World} {s : List UInt8} {g_cap0 : Nat} {cap0_Pkg : List UInt8} {cap0_Name : List UInt8} {K : Bool → Prop} (hG : GOK S w) (hS100 : 100 ∈ S) (hcap0 : Bl w g_cap0 24 [vs cap0_Pkg, vs cap0_Name]) (H : M_vis_May_1 s cap0_Pkg cap0_Name K) : Fn Tryd.prog 60 ⟨[vs s, .pointer (some ⟨g_cap0, 0, none⟩)]⟩ w (fun v w' => w.grownBy w' none ∧ ∃ (r : Bool), v = .bool r ∧ K r) := by
  unfold M_vis_May_1 at H
  refine Fn.enter (by kernel_rfl) Tryd.func60 rfl Tryd.ntmps60 rfl ?_
  refine WC.seq ?_
  refine WC.region ?_
  refine WL.y rfl (Yld.pure tab_ok rfl) ?_
  refine WL.nil (WX.then_normal ?_)
  refine WC.seq ?_
  refine WC.region ?_
  refine WL.y rfl (Yld.pure tab_ok rfl) ?_
  refine WL.y rfl (Yld.pure tab_ok rfl) ?_
  refine WL.y rfl (Yld.bload tab_ok hcap0 rfl rfl rfl) ?_
  refine WL.call rfl rfl (W_vis_lets hG hS100 H) ?_
  rintro _ w1 ⟨hg1, t3, rfl, H⟩
  have gr1 := hg1
  refine WL.y rfl (Yld.pure tab_ok rfl) ?_
  refine WL.nil (WX.then_normal ?_)
  refine WC.ret ?_
  exact WX.ret1 rfl rfl ⟨gr1, t3, rfl, H⟩

set_option maxHeartbeats 8000000 in
theorem W_vis_Valid_1 {S : List Nat} {w : World} {s : List UInt8} {K : Bool → Prop} (hG : GOK S w) (hS100 : 100 ∈ S) (H : M_vis_Valid_1 s K) : Fn Tryd.prog 63 ⟨[vs s]⟩ w (fun v w' => w.grownBy w' none ∧ ∃ (r : Bool), v = .bool r ∧ K r) := by
  unfold M_vis_Valid_1 at H
  refine Fn.enter (by kernel_rfl) Tryd.func63 rfl Tryd.ntmps63 rfl ?_
  refine WC.seq ?_
  refine WC.region ?_
  refine WL.y rfl (Yld.pure tab_ok rfl) ?_
  refine WL.nil (WX.then_normal ?_)
  refine WC.seq ?_
  refine WC.region ?_
  refine WL.y rfl (Yld.pure tab_ok rfl) ?_
  refine WL.call rfl rfl (W_vis_fair hG hS100 H) ?_
  rintro _ w1 ⟨hg1, t4, rfl, H⟩
  have gr1 := hg1
  refine WL.y rfl (Yld.pure tab_ok rfl) ?_
  refine WL.y rfl (Yld.pure tab_ok rfl) ?_
  refine WL.nil (WX.then_normal ?_)
  refine WC.ret ?_
  exact WX.ret1 rfl rfl ⟨gr1, !t4, rfl, H⟩

set_option maxHeartbeats 8000000 in
theorem W_slices_IndexFunc_string_string_vis_May_1 {S : List Nat} {w : World} {s : List (List UInt8)} {A_s : Option Addr} {c_s : Nat} {g_cap0 : Nat} {cap0_Pkg : List UInt8} {cap0_Name : List UInt8} {n_s : Nat} {K : Int → Prop} (hG : GOK S w) (hS100 : 100 ∈ S) (hs : Rd vs w A_s c_s s) (hn_s : n_s = s.length) (hcap0 : Bl w g_cap0 24 [vs cap0_Pkg, vs cap0_Name]) (H : M_slices_IndexFunc_string_string_vis_May_1 s cap0_Pkg cap0_Name K) : Fn Tryd.prog 62 ⟨[.slice A_s n_s c_s, .func (.func 60) #[] #[.pointer (some ⟨g_cap0, 0, none⟩)]]⟩ w (fun v w' => w.grownBy w' none ∧ ∃ (r : Int), v = .int .i64 r ∧ K r) := by
  subst hn_s
  unfold M_slices_IndexFunc_string_string_vis_May_1 at H
  refine Fn.enter (by kernel_rfl) Tryd.func62 rfl Tryd.ntmps62 rfl ?_
  replace H := H (Nat.le_trans hs.cap hs.max)
  refine WC.seq ?_
  refine WC.region ?_
  refine WL.y rfl (Yld.pure tab_ok rfl) ?_
  refine WL.nil (WX.then_normal ?_)
  refine WC.seq ?_
  refine WC.seq ?_
  refine WC.region ?_
  refine WL.y rfl (Yld.pure tab_ok rfl) ?_
  refine WL.y rfl (Yld.pure tab_ok rfl) ?_
  refine WL.y rfl (Yld.pure tab_ok rfl) ?_
  refine WL.nil (WX.then_normal ?_)
  refine WC.block ?_
  obtain ⟨I1, mu1, h0_1, HR1⟩ := H
  refine WC.loopF (fun n' L' w' => ∃ (t8 : Int), n' = mu1 t8 ∧ L' = [(0, .slice A_s s.length c_s), (1, .func (.func 60) #[] #[.pointer (some ⟨g_cap0, 0, none⟩)]), (7, .int .i64 (s.length : Int)), (8, .int .i64 t8)] ∧ I1 t8 ∧ w.grownBy w' none) _ _ ⟨(0 : Int), rfl, rfl, h0_1, (gr_refl _ _)⟩ (by repeat (first | exact Sub.nil | refine Sub.cons rfl ?_)) ?_
  clear h0_1
  rintro _ _ w1 ⟨t8, rfl, rfl, hI1, gr1⟩
  have H := HR1 t8 hI1
  refine WC.seq ?_
  refine WC.region ?_
  refine WL.y rfl (Yld.pure tab_ok rfl) ?_
  refine WL.nil (WX.then_normal ?_)
  refine WC.seq ?_
  refine WC.cond rfl (fun b1 => ?_) (fun b1 => ?_)
  · replace H := H.1 (of_decide_eq_true b1)
    refine WC.skip (WX.then_normal ?_)
    refine WC.seq ?_
    refine WC.block ?_
    refine WC.seq ?_
    refine WC.region ?_
    refine WL.y rfl (Yld.pure tab_ok rfl) ?_
    refine WL.y rfl (Yld.pure tab_ok rfl) ?_
    refine WL.nil (WX.then_normal ?_)
    refine WC.seq ?_
    refine WC.region ?_
    refine WL.y rfl (Yld.pure tab_ok rfl) ?_
    refine WL.y rfl (Yld.pure tab_ok rfl) ?_
    refine WL.y rfl (Yld.pure tab_ok rfl) ?_
    obtain ⟨h1, H⟩ := H
    refine WL.y rfl (Yld.iaddrW tab_ok (hs.grown gr1) rfl rfl rfl rfl h1.1 h1.2) ?_
    refine WL.y rfl (Yld.iload [] tab_ok (hs.grown gr1) rfl rfl (iltN h1 rfl)) ?_
    refine WL.callv rfl rfl rfl (W_vis_May_1 (hG.grown gr1) hS100 (hcap0.g0 gr1) H) ?_
    rintro _ w2 ⟨hg1, t16, rfl, H⟩
    have gr2 := gr_trans gr1 hg1
    refine WL.nil (WX.then_normal ?_)
    refine WC.cond rfl (fun b2 => ?_) (fun b2 => ?_)
    · replace H := H.1 (b2)
      refine WC.seq ?_
      refine WC.region ?_
      refine WL.y rfl (Yld.pure tab_ok rfl) ?_
      refine WL.y rfl (Yld.pure tab_ok rfl) ?_
      refine WL.nil (WX.then_normal ?_)
      refine WC.ret (WX.block_ret (WX.then_ret (WX.then_ret (WX.block_ret (WX.then_ret ?_)))))
      exact WX.ret1 rfl rfl ⟨gr2, t8, rfl, H⟩
    · replace H := H.2 (b2)
      refine WC.skip (WX.block_normal (WX.then_normal ?_))
      refine WC.region ?_
      obtain ⟨h2, H⟩ := H
      refine WL.y rfl (Yld.add rfl rfl h2) ?_
      refine WL.y rfl (Yld.pure tab_ok rfl) ?_
      refine WL.nil ?_
      exact WX.roundF _ ⟨t8 + (1 : Int), rfl, rfl, H.1, gr2⟩ (by repeat (first | exact Sub.nil | refine Sub.cons rfl ?_)) H.2
  · replace H := H.2 (of_decide_eq_false b1)
    refine WC.exit (WX.then_exit (WX.then_exit (WX.block_same (WX.then_normal ?_))))
    refine WC.seq ?_
    refine WC.region ?_
    refine WL.y rfl (Yld.pure tab_ok rfl) ?_
    refine WL.nil (WX.then_normal ?_)
    refine WC.ret ?_
    exact WX.ret1 rfl rfl ⟨gr1, (-1 : Int), rfl, H⟩

set_option maxHeartbeats 8000000 in
theorem W_slices_ContainsFunc_string_string_vis_May_1 {S : List Nat} {w : World} {s : List (List UInt8)} {A_s : Option Addr} {c_s : Nat} {g_cap0 : Nat} {cap0_Pkg : List UInt8} {cap0_Name : List UInt8} {n_s : Nat} {K : Bool → Prop} (hG : GOK S w) (hS100 : 100 ∈ S) (hs : Rd vs w A_s c_s s) (hn_s : n_s = s.length) (hcap0 : Bl w g_cap0 24 [vs cap0_Pkg, vs cap0_Name]) (H : M_slices_ContainsFunc_string_string_vis_May_1 s cap0_Pkg cap0_Name K) : Fn Tryd.prog 59 ⟨[.slice A_s n_s c_s, .func (.func 60) #[] #[.pointer (some ⟨g_cap0, 0, none⟩)]]⟩ w (fun v w' => w.grownBy w' none ∧ ∃ (r : Bool), v = .bool r ∧ K r) := by
  subst hn_s
  unfold M_slices_ContainsFunc_string_string_vis_May_1 at H
  refine Fn.enter (by kernel_rfl) Tryd.func59 rfl Tryd.ntmps59 rfl ?_
  replace H := H (Nat.le_trans hs.cap hs.max)
  refine WC.seq ?_
  refine WC.region ?_
  refine WL.y rfl (Yld.pure tab_ok rfl) ?_
  refine WL.nil (WX.then_normal ?_)
  refine WC.seq ?_
  refine WC.region ?_
  refine WL.y rfl (Yld.pure tab_ok rfl) ?_
  refine WL.y rfl (Yld.pure tab_ok rfl) ?_
  refine WL.call rfl rfl (W_slices_IndexFunc_string_string_vis_May_1 hG hS100 hs rfl hcap0 H) ?_
  rintro _ w1 ⟨hg1, t7, rfl, H⟩
  have gr1 := hg1
  refine WL.y rfl (Yld.pure tab_ok rfl) ?_
  refine WL.y rfl (Yld.pure tab_ok rfl) ?_
  refine WL.nil (WX.then_normal ?_)
  refine WC.ret ?_
  exact WX.ret1 rfl rfl ⟨gr1, decide ((0 : Int) ≤ t7), rfl, H⟩

set_option maxHeartbeats 8000000 in
theorem W_slices_IndexFunc_string_string_vis_Valid_1 {S : List Nat} {w : World} {s : List (List UInt8)} {A_s : Option Addr} {c_s : Nat} {n_s : Nat} {K : Int → Prop} (hG : GOK S w) (hS100 : 100 ∈ S) (hs : Rd vs w A_s c_s s) (hn_s : n_s = s.length) (H : M_slices_IndexFunc_string_string_vis_Valid_1 s K) : Fn Tryd.prog 62 ⟨[.slice A_s n_s c_s, .func (.func 63) #[] #[]]⟩ w (fun v w' => w.grownBy w' none ∧ ∃ (r : Int), v = .int .i64 r ∧ K r) := by
  subst hn_s
  unfold M_slices_IndexFunc_string_string_vis_Valid_1 at H
  refine Fn.enter (by kernel_rfl) Tryd.func62 rfl Tryd.ntmps62 rfl ?_
  replace H := H (Nat.le_trans hs.cap hs.max)
  refine WC.seq ?_
  refine WC.region ?_
  refine WL.y rfl (Yld.pure tab_ok rfl) ?_
  refine WL.nil (WX.then_normal ?_)
  refine WC.seq ?_
  refine WC.seq ?_
  refine WC.region ?_
  refine WL.y rfl (Yld.pure tab_ok rfl) ?_
  refine WL.y rfl (Yld.pure tab_ok rfl) ?_
  refine WL.y rfl (Yld.pure tab_ok rfl) ?_
  refine WL.nil (WX.then_normal ?_)
  refine WC.block ?_
  obtain ⟨I1, mu1, h0_1, HR1⟩ := H
  refine WC.loopF (fun n' L' w' => ∃ (t8 : Int), n' = mu1 t8 ∧ L' = [(0, .slice A_s s.length c_s), (1, .func (.func 63) #[] #[]), (7, .int .i64 (s.length : Int)), (8, .int .i64 t8)] ∧ I1 t8 ∧ w.grownBy w' none) _ _ ⟨(0 : Int), rfl, rfl, h0_1, (gr_refl _ _)⟩ (by repeat (first | exact Sub.nil | refine Sub.cons rfl ?_)) ?_
  clear h0_1
  rintro _ _ w1 ⟨t8, rfl, rfl, hI1, gr1⟩
  have H := HR1 t8 hI1
  refine WC.seq ?_
  refine WC.region ?_
  refine WL.y rfl (Yld.pure tab_ok rfl) ?_
  refine WL.nil (WX.then_normal ?_)
  refine WC.seq ?_
  refine WC.cond rfl (fun b1 => ?_) (fun b1 => ?_)
  · replace H := H.1 (of_decide_eq_true b1)
    refine WC.skip (WX.then_normal ?_)
    refine WC.seq ?_
    refine WC.block ?_
    refine WC.seq ?_
    refine WC.region ?_
    refine WL.y rfl (Yld.pure tab_ok rfl) ?_
    refine WL.y rfl (Yld.pure tab_ok rfl) ?_
    refine WL.nil (WX.then_normal ?_)
    refine WC.seq ?_
    refine WC.region ?_
    refine WL.y rfl (Yld.pure tab_ok rfl) ?_
    refine WL.y rfl (Yld.pure tab_ok rfl) ?_
    refine WL.y rfl (Yld.pure tab_ok rfl) ?_
    obtain ⟨h1, H⟩ := H
    refine WL.y rfl (Yld.iaddrW tab_ok (hs.grown gr1) rfl rfl rfl rfl h1.1 h1.2) ?_
    refine WL.y rfl (Yld.iload [] tab_ok (hs.grown gr1) rfl rfl (iltN h1 rfl)) ?_
    refine WL.callv rfl rfl rfl (W_vis_Valid_1 (hG.grown gr1) hS100 H) ?_
    rintro _ w2 ⟨hg1, t16, rfl, H⟩
    have gr2 := gr_trans gr1 hg1
    refine WL.nil (WX.then_normal ?_)
    refine WC.cond rfl (fun b2 => ?_) (fun b2 => ?_)
    · replace H := H.1 (b2)
      refine WC.seq ?_
      refine WC.region ?_
      refine WL.y rfl (Yld.pure tab_ok rfl) ?_
      refine WL.y rfl (Yld.pure tab_ok rfl) ?_
      refine WL.nil (WX.then_normal ?_)
      refine WC.ret (WX.block_ret (WX.then_ret (WX.then_ret (WX.block_ret (WX.then_ret ?_)))))
      exact WX.ret1 rfl rfl ⟨gr2, t8, rfl, H⟩
    · replace H := H.2 (b2)
      refine WC.skip (WX.block_normal (WX.then_normal ?_))
      refine WC.region ?_
      obtain ⟨h2, H⟩ := H
      refine WL.y rfl (Yld.add rfl rfl h2) ?_
      refine WL.y rfl (Yld.pure tab_ok rfl) ?_
      refine WL.nil ?_
      exact WX.roundF _ ⟨t8 + (1 : Int), rfl, rfl, H.1, gr2⟩ (by repeat (first | exact Sub.nil | refine Sub.cons rfl ?_)) H.2
  · replace H := H.2 (of_decide_eq_false b1)
    refine WC.exit (WX.then_exit (WX.then_exit (WX.block_same (WX.then_normal ?_))))
    refine WC.seq ?_
    refine WC.region ?_
    refine WL.y rfl (Yld.pure tab_ok rfl) ?_
    refine WL.nil (WX.then_normal ?_)
    refine WC.ret ?_
    exact WX.ret1 rfl rfl ⟨gr1, (-1 : Int), rfl, H⟩

set_option maxHeartbeats 8000000 in
theorem W_vis_Valid {S : List Nat} {w : World} {specs : List (List UInt8)} {A_specs : Option Addr} {c_specs : Nat} {n_specs : Nat} {K : Er → Prop} (hG : GOK S w) (hS5 : 5 ∈ S) (hS100 : 100 ∈ S) (hspecs : Rd vs w A_specs c_specs specs) (hn_specs : n_specs = specs.length) (H : M_vis_Valid specs K) : Fn Tryd.prog 19 ⟨[.slice A_specs n_specs c_specs]⟩ w (fun v w' => w.grownBy w' none ∧ ∃ (v_r : Value), ∃ (r : Er), v = v_r ∧ ErrR S w' v_r r ∧ K r) := by
  subst hn_specs
  unfold M_vis_Valid at H
  refine Fn.enter (by kernel_rfl) Tryd.func19 rfl Tryd.ntmps19 rfl ?_
  replace H := H (Nat.le_trans hspecs.cap hspecs.max)
  refine WC.seq ?_
  refine WC.region ?_
  refine WL.y rfl (Yld.pure tab_ok rfl) ?_
  refine WL.nil (WX.then_normal ?_)
  refine WC.seq ?_
  refine WC.seq ?_
  refine WC.region ?_
  refine WL.y rfl (Yld.pure tab_ok rfl) ?_
  refine WL.call rfl rfl (W_slices_IndexFunc_string_string_vis_Valid_1 hG hS100 hspecs rfl H) ?_
  rintro _ w1 ⟨hg1, k, rfl, H⟩
  have gr1 := hg1
  refine WL.y rfl (Yld.pure tab_ok rfl) ?_
  refine WL.nil (WX.then_normal ?_)
  refine WC.seq ?_
  refine WC.region ?_
  refine WL.y rfl (Yld.pure tab_ok rfl) ?_
  refine WL.y rfl (Yld.pure tab_ok rfl) ?_
  refine WL.nil (WX.then_normal ?_)
  refine WC.cond rfl (fun b1 => ?_) (fun b1 => ?_)
  · replace H := H.1 (of_decide_eq_true b1)
    refine WC.seq ?_
    refine WC.region ?_
    refine WL.y rfl (Yld.pure tab_ok rfl) ?_
    obtain ⟨vE1, _, hE1⟩ := GOK.get (hG.grown gr1) 5 0 hS5 rfl rfl
    refine WL.y rfl (Yld.cell tab_ok (ErrR.cell hE1 rfl) rfl rfl) ?_
    refine WL.y rfl (Yld.struct (us := [.int .i64 k, vE1]) (vs := [(0, .int .i64 k), (1, vE1)]) zero85 places85 rfl (by simp only [fillL, cells1 (ErrR.one hE1)]; rfl)) ?_
    refine WL.box (us := [.int .i64 k, vE1]) rfl rfl rfl (fun g1 w2 hB1 hg2 hl1 => ?_)
    have gr2 := gr_trans gr1 hg2
    have k1 := hE1.grown hg2
    obtain ⟨n, he1, H⟩ := H
    have hE2 := ErrR.mkAt hB1 (he1 ▸ k1)
    refine WL.y rfl (Yld.mki Tryd.underlying83 rfl rfl) ?_
    refine WL.y rfl (Yld.pure tab_ok rfl) ?_
    refine WL.nil (WX.then_normal ?_)
    refine WC.ret (WX.then_ret ?_)
    exact WX.ret1 rfl rfl ⟨gr2, (.iface 83 (.pointer (some ⟨g1, 0, none⟩))), (Er.at_ k n), rfl, hE2, H⟩
  · replace H := H.2 (of_decide_eq_false b1)
    refine WC.skip (WX.then_normal ?_)
    refine WC.seq ?_
    refine WC.region ?_
    refine WL.y rfl (Yld.pure tab_ok rfl) ?_
    refine WL.nil (WX.then_normal ?_)
    refine WC.ret ?_
    exact WX.ret1 rfl rfl ⟨gr1, .nilIface, Er.ok, rfl, (ErrR.okR (S := S) (w := w1)), H⟩

set_option maxHeartbeats 8000000 in
theorem W_vis_May {S : List Nat} {w : World} {specs : List (List UInt8)} {A_specs : Option Addr} {c_specs : Nat} {of_Pkg : List UInt8} {of_Name : List UInt8} {from_Pkg : List UInt8} {from_Name : List UInt8} {n_specs : Nat} {K : Bool → Prop} (hG : GOK S w) (hS100 : 100 ∈ S) (hspecs : Rd vs w A_specs c_specs specs) (hn_specs : n_specs = specs.length) (H : M_vis_May specs of_Pkg of_Name from_Pkg from_Name K) : Fn Tryd.prog 17 ⟨[.slice A_specs n_specs c_specs, .agg ⟨[vs of_Pkg, vs of_Name]⟩, .agg ⟨[vs from_Pkg, vs from_Name]⟩]⟩ w (fun v w' => w.grownBy w' none ∧ ∃ (r : Bool), v = .bool r ∧ K r) := by
  subst hn_specs
  unfold M_vis_May at H
  refine Fn.enter (by kernel_rfl) Tryd.func17 rfl Tryd.ntmps17 rfl ?_
  replace H := H (Nat.le_trans hspecs.cap hspecs.max)
  refine WC.seq ?_
  refine WC.region ?_
  refine WL.box (us := [vs of_Pkg, vs of_Name]) rfl rfl rfl (fun g1 w1 hB1 hg1 hl1 => ?_)
  have gr1 := hg1
  refine WL.box (us := [vs from_Pkg, vs from_Name]) rfl rfl rfl (fun g2 w2 hB2 hg2 hl2 => ?_)
  have gr2 := gr_trans gr1 hg2
  have k1 := hB1.g0 hg2
  refine WL.y rfl (Yld.pure tab_ok rfl) ?_
  refine WL.nil (WX.then_normal ?_)
  refine WC.seq ?_
  refine WC.region ?_
  refine WL.y rfl (Yld.pure tab_ok rfl) ?_
  refine WL.y rfl (Yld.bload tab_ok k1 rfl rfl rfl) ?_
  refine WL.y rfl (Yld.pure tab_ok rfl) ?_
  refine WL.y rfl (Yld.bload tab_ok hB2 rfl rfl rfl) ?_
  refine WL.y rfl (Yld.pure tab_ok rfl) ?_
  refine WL.y rfl (Yld.pure tab_ok rfl) ?_
  obtain ⟨J1, H, hJ1⟩ := H
  refine WL.midF 4 (fun L' w' => ∃ q1 : Bool, L' = [(16, .bool q1)] ∧ J1 q1 ∧ w.grownBy w' none) ?_ (fun hQ => ?_)
  · clear H
    rintro _ w3 ⟨q1, rfl, H, gr3⟩
    replace H := hJ1 q1 H
    refine WL.y rfl (Yld.pure tab_ok rfl) ?_
    refine WL.nil (WX.then_normal ?_)
    refine WC.ret ?_
    exact WX.ret1 rfl rfl ⟨gr3, q1, rfl, H⟩
  · clear hJ1
    rcases Bool.eq_false_or_eq_true (decide (of_Pkg = from_Pkg)) with b1 | b1
    · replace H := H.1 b1
      refine WL.gno rfl rfl (okb b1) rfl ?_
      refine WL.gno rfl rfl (okb b1) rfl ?_
      refine WL.gno rfl rfl (okb b1) rfl ?_
      refine WL.y rfl (Yld.pickT (okb b1) rfl) ?_
      exact WL.weaken (by repeat (first | exact Sub.nil | refine Sub.cons rfl ?_)) (hQ _ _ ⟨true, rfl, H, gr2⟩)
    · replace H := H.2 b1
      refine WL.gyes rfl rfl (okb b1) rfl (Yld.pure tab_ok rfl) ?_
      refine WL.gyes rfl rfl (okb b1) rfl (Yld.mkf rfl) ?_
      refine WL.callw (wants_some rfl rfl (okb b1)) rfl rfl (W_slices_ContainsFunc_string_string_vis_May_1 (hG.grown gr2) hS100 (hspecs.grown gr2) rfl hB2 H) ?_
      rintro _ w4 ⟨hg3, t15, rfl, H⟩
      have gr4 := gr_trans gr2 hg3
      have k2 := hB2.g0 hg3
      refine WL.y rfl (Yld.pickF (okb b1) rfl) ?_
      exact WL.weaken (by repeat (first | exact Sub.nil | refine Sub.cons rfl ?_)) (hQ _ _ ⟨t15, rfl, H, gr4⟩)

set_option maxHeartbeats 8000000 in
theorem W_smithylaw20_first {S : List Nat} {w : World} {K : Bool → Prop} (hG : GOK S w) (hS100 : 100 ∈ S) (H : M_smithylaw20_first  K) : Fn Tryd.prog 15 ⟨[]⟩ w (fun v w' => w.grownBy w' none ∧ ∃ (r : Bool), v = .bool r ∧ K r) := by
  unfold M_smithylaw20_first at H
  refine Fn.enter (by kernel_rfl) Tryd.func15 rfl Tryd.ntmps15 rfl ?_
  refine WC.seq ?_
  refine WC.region ?_
  refine WL.y rfl (Yld.pure tab_ok rfl) ?_
  refine WL.nil (WX.then_normal ?_)
  refine WC.seq ?_
  refine WC.region ?_
  refine WL.lit tab_ok rfl rfl rfl (all1c rfl all1n) rfl (by omega) (fun g1 w1 hB1 hg1 hl1 => ?_)
  have hO1 : Own vs w1 w.heap.size 9 (some ⟨g1, 0, none⟩) 1 ([([47, 47, 97, 58, 95, 95, 115, 117, 98, 112, 97, 99, 107, 97, 103, 101, 115, 95, 95] : List UInt8)] : List (List UInt8)) := Own.ofBl hB1 (Nat.le_trans (Nat.le_refl _) hl1) (by simp [maxLen]) rfl
  have gr1 := hg1
  refine WL.y rfl (Yld.struct (us := [vs ([98] : List UInt8), vs ([120] : List UInt8)]) zero24 places24 rfl rfl) ?_
  refine WL.y rfl (Yld.struct (us := [vs ([97, 47, 99] : List UInt8), vs ([121] : List UInt8)]) zero24 places24 rfl rfl) ?_
  refine WL.call rfl rfl (W_vis_May (hG.grown gr1) hS100 hO1.rd rfl H) ?_
  rintro _ w2 ⟨hg2, t0, rfl, H⟩
  have gr2 := gr_trans gr1 hg2
  refine WL.y rfl (Yld.pure tab_ok rfl) ?_
  refine WL.nil (WX.then_normal ?_)
  refine WC.ret ?_
  exact WX.ret1 rfl rfl ⟨gr2, t0, rfl, H⟩

set_option maxHeartbeats 8000000 in
theorem W_smithyworld_Texts {w : World} {l : List (List UInt8)} {A_l : Option Addr} {c_l : Nat} {most : Int} {long : Int} {n_l : Nat} {K : Bool → Prop} (hl : Rd vs w A_l c_l l) (hn_l : n_l = l.length) (H : M_smithyworld_Texts l most long K) : Fn Tryd.prog 16 ⟨[.slice A_l n_l c_l, .int .i64 most, .int .i64 long]⟩ w (fun v w' => w = w' ∧ ∃ (r : Bool), v = .bool r ∧ K r) := by
  subst hn_l
  unfold M_smithyworld_Texts at H
  refine Fn.enter (by kernel_rfl) Tryd.func16 rfl Tryd.ntmps16 rfl ?_
  replace H := H (Nat.le_trans hl.cap hl.max)
  refine WC.seq ?_
  refine WC.region ?_
  refine WL.y rfl (Yld.pure tab_ok rfl) ?_
  refine WL.nil (WX.then_normal ?_)
  refine WC.seq ?_
  refine WC.seq ?_
  refine WC.region ?_
  refine WL.y rfl (Yld.pure tab_ok rfl) ?_
  refine WL.y rfl (Yld.pure tab_ok rfl) ?_
  refine WL.y rfl (Yld.pure tab_ok rfl) ?_
  refine WL.y rfl (Yld.pure tab_ok rfl) ?_
  refine WL.nil (WX.then_normal ?_)
  refine WC.cond rfl (fun b1 => ?_) (fun b1 => ?_)
  · replace H := H.1 (of_decide_eq_true b1)
    refine WC.seq ?_
    refine WC.region ?_
    refine WL.y rfl (Yld.pure tab_ok rfl) ?_
    refine WL.nil (WX.then_normal ?_)
    refine WC.ret (WX.then_ret ?_)
    exact WX.ret1 rfl rfl ⟨rfl, false, rfl, H⟩
  · replace H := H.2 (of_decide_eq_false b1)
    refine WC.skip (WX.then_normal ?_)
    refine WC.seq ?_
    refine WC.seq ?_
    refine WC.region ?_
    refine WL.y rfl (Yld.pure tab_ok rfl) ?_
    refine WL.nil (WX.then_normal ?_)
    refine WC.block ?_
    obtain ⟨I1, mu1, h0_1, HR1⟩ := H
    refine WC.loopF (fun n' L' w' => ∃ (i : Int), n' = mu1 i ∧ L' = [(0, .slice A_l l.length c_l), (2, .int .i64 long), (7, .int .i64 i)] ∧ I1 i ∧ w = w') _ _ ⟨(0 : Int), rfl, rfl, h0_1, rfl⟩ (by repeat (first | exact Sub.nil | refine Sub.cons rfl ?_)) ?_
    clear h0_1
    rintro _ _ _ ⟨i, rfl, rfl, hI1, rfl⟩
    have H := HR1 i hI1
    refine WC.seq ?_
    refine WC.seq ?_
    refine WC.region ?_
    refine WL.y rfl (Yld.pure tab_ok rfl) ?_
    refine WL.y rfl (Yld.pure tab_ok rfl) ?_
    refine WL.y rfl (Yld.pure tab_ok rfl) ?_
    refine WL.y rfl (Yld.pure tab_ok rfl) ?_
    refine WL.nil (WX.then_normal ?_)
    refine WC.cond rfl (fun b2 => ?_) (fun b2 => ?_)
    · replace H := H.1 (of_decide_eq_true b2)
      refine WC.skip (WX.then_normal ?_)
      refine WC.seq ?_
      refine WC.block ?_
      refine WC.seq ?_
      refine WC.region ?_
      refine WL.y rfl (Yld.pure tab_ok rfl) ?_
      refine WL.y rfl (Yld.pure tab_ok rfl) ?_
      obtain ⟨h1, H⟩ := H
      refine WL.y rfl (Yld.iaddrW tab_ok hl rfl rfl rfl rfl h1.1 h1.2) ?_
      refine WL.y rfl (Yld.iload [] tab_ok hl rfl rfl (iltN h1 rfl)) ?_
      refine WL.y rfl (Yld.pure tab_ok rfl) ?_
      refine WL.y rfl (Yld.pure tab_ok rfl) ?_
      refine WL.y rfl (Yld.pure tab_ok rfl) ?_
      refine WL.nil (WX.then_normal ?_)
      refine WC.cond rfl (fun b3 => ?_) (fun b3 => ?_)
      · replace H := H.1 (of_decide_eq_true b3)
        refine WC.seq ?_
        refine WC.region ?_
        refine WL.y rfl (Yld.pure tab_ok rfl) ?_
        refine WL.nil (WX.then_normal ?_)
        refine WC.ret (WX.block_ret (WX.then_ret (WX.then_ret (WX.block_ret (WX.then_ret ?_)))))
        exact WX.ret1 rfl rfl ⟨rfl, false, rfl, H⟩
      · replace H := H.2 (of_decide_eq_false b3)
        refine WC.skip (WX.block_normal (WX.then_normal ?_))
        refine WC.region ?_
        refine WL.y rfl (Yld.pure tab_ok rfl) ?_
        obtain ⟨h2, H⟩ := H
        refine WL.y rfl (Yld.add rfl rfl h2) ?_
        refine WL.y rfl (Yld.pure tab_ok rfl) ?_
        refine WL.nil ?_
        exact WX.roundF _ ⟨i + (1 : Int), rfl, rfl, H.1, rfl⟩ (by repeat (first | exact Sub.nil | refine Sub.cons rfl ?_)) H.2
    · replace H := H.2 (of_decide_eq_false b2)
      refine WC.exit (WX.then_exit (WX.then_exit (WX.block_same (WX.then_normal ?_))))
      refine WC.seq ?_
      refine WC.region ?_
      refine WL.y rfl (Yld.pure tab_ok rfl) ?_
      refine WL.nil (WX.then_normal ?_)
      refine WC.ret ?_
      exact WX.ret1 rfl rfl ⟨rfl, true, rfl, H⟩

end Go.Proofs.YtcfljnfaakjdjaaDoor
 /- Who may use what: the plain side. -/
namespace Go.Proofs.YtcfljnfaakjdjaaDoor
open Go Go.RowKit
theorem cutPrefix_M {s t : List UInt8} {K : List UInt8 → Bool → Prop} (h : K (if t.isPrefixOf s = true then s.drop t.length else s) (t.isPrefixOf s)) : M_strings_CutPrefix s t K := by
  have e : ((decide ((t.length : Int) ≤ (s.length : Int))) && (decide ((s.take (t.length : Int).toNat) = t))) = t.isPrefixOf s := by
    rw [Bool.eq_iff_iff, Bool.and_eq_true, decide_eq_true_eq, decide_eq_true_eq, List.isPrefixOf_iff_prefix, Int.toNat_natCast]
    exact ⟨fun h => List.prefix_iff_eq_take.2 h.2.symm, fun h => ⟨by have := h.length_le; omega, (List.prefix_iff_eq_take.1 h).symm⟩⟩
  refine ⟨fun h1 => ?_, ?_⟩
  · have := of_decide_eq_true h1; omega
  · rw [e]
    cases hp : t.isPrefixOf s with
    | false => rw [hp] at h; exact ⟨fun _ => h, fun h1 => by cases h1⟩
    | true =>
      rw [hp] at h
      have hl : t.length ≤ s.length := (List.isPrefixOf_iff_prefix.1 hp).length_le
      refine ⟨fun h1 => (by cases h1), fun _ => ⟨by omega, ?_⟩⟩
      rw [Int.toNat_natCast]
      exact h
theorem cut_M {s t : List UInt8} {K : List UInt8 → List UInt8 → Bool → Prop} (hs : s.length ≤ 1000000) (h : K (Lib.cut s t).1 (Lib.cut s t).2.1 (Lib.cut s t).2.2) : M_strings_Cut s t K := ⟨by omega, h⟩
theorem index_colon : ∀ (b t : List UInt8), (58 : UInt8) ∉ b → Lib.index (b ++ 58 :: t) [58] = b.length
  | [], t, _ => by simp [Lib.index, List.isPrefixOf]
  | c :: b, t, h => by
    have hc : c ≠ 58 := fun e => h (by simp [e])
    have ih := index_colon b t (fun e => h (by simp [e]))
    have hp : ([58] : List UInt8).isPrefixOf (c :: (b ++ 58 :: t)) = false := by simp [List.isPrefixOf, Ne.symm hc]
    rw [List.cons_append, Lib.index, hp, ih]
    have : ((b.length : Int) == -1) = false := by rw [beq_eq_false_iff_ne]; omega
    simp [this]
theorem cut_colon (b t : List UInt8) (h : (58 : UInt8) ∉ b) : Lib.cut (b ++ 58 :: t) [58] = (b, t, true) := by
  unfold Lib.cut
  rw [index_colon b t h, if_pos (by omega)]
  simp
def wPub : List UInt8 := [47, 47, 118, 105, 115, 105, 98, 105, 108, 105, 116, 121, 58, 112, 117, 98, 108, 105, 99]
def wPriv : List UInt8 := [47, 47, 118, 105, 115, 105, 98, 105, 108, 105, 116, 121, 58, 112, 114, 105, 118, 97, 116, 101]
def wPkg : List UInt8 := [95, 95, 112, 107, 103, 95, 95]
def wSub : List UInt8 := [95, 95, 115, 117, 98, 112, 97, 99, 107, 97, 103, 101, 115, 95, 95]
def rootB (p : List UInt8) : Bool := decide (p = []) || validB p
def restB (s : List UInt8) : List UInt8 := if ([47, 47] : List UInt8).isPrefixOf s = true then s.drop 2 else s
def groupB (s : List UInt8) : Bool := ((([47, 47] : List UInt8).isPrefixOf s && (Lib.cut (restB s) [58]).2.2) && rootB (Lib.cut (restB s) [58]).1) && (decide ((Lib.cut (restB s) [58]).2.1 = wPkg) || decide ((Lib.cut (restB s) [58]).2.1 = wSub))
theorem cut_len (s : List UInt8) : (Lib.cut s [58]).1.length ≤ s.length := by
  unfold Lib.cut
  split
  · simp only [List.length_take]
    exact Nat.min_le_right _ _
  · exact Nat.le_refl _
theorem restB_len (s : List UInt8) : (restB s).length ≤ s.length := by
  unfold restB
  split
  · simp
  · exact Nat.le_refl _
theorem group_M {s : List UInt8} {K : List UInt8 → List UInt8 → Bool → Prop} (hs : s.length ≤ 100000) (h : K (Lib.cut (restB s) [58]).1 (Lib.cut (restB s) [58]).2.1 (groupB s)) : M_vis_group s K := by
  have h1 := restB_len s
  have h2 := cut_len (restB s)
  refine cutPrefix_M (cut_M (show (restB s).length ≤ 1000000 by omega) ?_)
  show ∃ J1 : Bool → Prop, _
  have key : ∀ r, r = (Lib.cut (restB s) [58]) → ∃ J1 : Bool → Prop, ((((([47, 47] : List UInt8).isPrefixOf s && r.2.2) = true → (((decide (r.1 = ([] : List UInt8))) = true → J1 true) ∧ ((decide (r.1 = ([] : List UInt8))) = false → M_path_Valid r.1 (fun (t32 : Bool) => J1 t32)))) ∧ ((([47, 47] : List UInt8).isPrefixOf s && r.2.2) = false → J1 false))) ∧
      (∀ q2 : Bool, J1 q2 → K r.1 r.2.1 (q2 && ((decide (r.2.1 = ([95, 95, 112, 107, 103, 95, 95] : List UInt8))) || (decide (r.2.1 = ([95, 95, 115, 117, 98, 112, 97, 99, 107, 97, 103, 101, 115, 95, 95] : List UInt8)))))) := by
    intro r hr
    unfold groupB at h
    rw [← hr] at h h2
    refine ⟨fun b => b = ((([47, 47] : List UInt8).isPrefixOf s && r.2.2) && rootB r.1), ⟨fun ht => ⟨fun hn => ?_, fun hn => valid_M (by omega) ?_⟩, fun hf => ?_⟩, fun q hq => ?_⟩
    · show true = _
      rw [ht, rootB, hn]; rfl
    · show _ = _
      rw [ht, rootB, hn]; rfl
    · show false = _
      rw [hf]; rfl
    · rw [hq]; exact h
  exact key _ rfl
def fairS (s : List UInt8) : Bool := (groupB s || decide (s = wPub)) || decide (s = wPriv)
theorem fairS_M {s : List UInt8} {K : Bool → Prop} (hs : s.length ≤ 100000) (h : K (fairS s)) : M_vis_fair s K := group_M hs h
def letsB (s pkg : List UInt8) : Bool := decide (s = wPub) || (groupB s && (decide ((Lib.cut (restB s) [58]).1 = pkg) || (decide ((Lib.cut (restB s) [58]).2.1 = wSub) && underB pkg (Lib.cut (restB s) [58]).1)))
theorem lets_M {s pkg : List UInt8} {K : Bool → Prop} (hs : s.length ≤ 100000) (h : K (letsB s pkg)) : M_vis_lets s pkg K := by
  have h1 := restB_len s
  have h2 := cut_len (restB s)
  unfold letsB at h
  refine ⟨fun e => ?_, fun e => group_M hs ?_⟩
  · rw [decide_eq_true (show s = wPub from e), Bool.true_or] at h
    exact h
  · rw [decide_eq_false (show ¬ s = wPub from e), Bool.false_or] at h
    refine ⟨fun b => b = (groupB s && (decide ((Lib.cut (restB s) [58]).1 = pkg) || (decide ((Lib.cut (restB s) [58]).2.1 = wSub) && underB pkg (Lib.cut (restB s) [58]).1))), ⟨fun ht => ⟨fun he => ?_, fun he => ⟨fun hw => under_M (by omega) ?_, fun hw => ?_⟩⟩, fun hf => ?_⟩, fun q hq => by rw [hq]; exact h⟩
    · rw [ht, he]; rfl
    · rw [ht, he, show decide ((Lib.cut (restB s) [58]).2.1 = wSub) = true from hw]; rfl
    · rw [ht, he, show decide ((Lib.cut (restB s) [58]).2.1 = wSub) = false from hw]; rfl
    · rw [hf]; rfl
def mayB (specs : List (List UInt8)) (a b : List UInt8) : Bool := decide (a = b) || specs.any fun s => letsB s b
theorem may_M {specs : List (List UInt8)} {a x b y : List UInt8} {K : Bool → Prop} (h1 : specs.length ≤ 100000) (h2 : ∀ s ∈ specs, s.length ≤ 100000) (h : K (mayB specs a b)) : M_vis_May specs a x b y K := by
  intro _
  unfold mayB at h
  refine ⟨fun q => q = (decide (a = b) || specs.any fun s => letsB s b), ⟨fun ht => by rw [ht]; rfl, fun hf => ?_⟩, fun q hq => by rw [hq]; exact h⟩
  intro _ _
  refine ⟨fun i => 0 ≤ i ∧ i ≤ specs.length ∧ ∀ j, j < i.toNat → letsB (specs.getD j []) b = false, fun i => specs.length - i.toNat, ⟨by omega, by omega, by intro j hj; simp at hj⟩, fun i ⟨a0, a1, a2⟩ => ⟨fun hlt => ⟨by omega, ?_⟩, fun hge => ?_⟩⟩
  · have hm : specs.getD i.toNat [] ∈ specs := getD_mem (by omega)
    refine lets_M (h2 _ hm) ⟨fun ht => ?_, fun hff => ⟨by simp only [In]; omega, ⟨by omega, by omega, fun j hj => ?_⟩, by (try dsimp only); omega⟩⟩
    · show decide (0 ≤ i) = _
      rw [hf, decide_eq_true a0, Bool.false_or, List.any_eq_true.2 ⟨_, hm, ht⟩]
    · by_cases e : j = i.toNat
      · rw [e]; exact hff
      · exact a2 j (by omega)
  · show decide ((0 : Int) ≤ -1) = _
    have : (specs.any fun s => letsB s b) = false := by
      rw [← Bool.not_eq_true, List.any_eq_true]
      rintro ⟨x, hx, he⟩
      obtain ⟨j, hj, rfl⟩ := List.getElem_of_mem hx
      have := a2 j (by omega)
      simp only [List.getD, List.getElem?_eq_getElem hj, Option.getD_some] at this
      rw [this] at he; cases he
    rw [hf, this]; rfl
theorem validOne_M {s : List UInt8} {K : Er → Prop} (hs : s.length ≤ 100000) (h0 : fairS s = true → K .ok) (h1 : fairS s = false → K (.at_ 0 5)) : M_vis_Valid [s] K := by
  intro _ _
  refine ⟨fun i => (i = 0 ∨ i = 1) ∧ (i = 1 → fairS s = true), fun i => 1 - i.toNat, ⟨by omega, by omega⟩, fun i ⟨a0, a1⟩ => ⟨fun hlt => ⟨by simp only [List.length_cons, List.length_nil] at hlt ⊢; omega, ?_⟩, fun hge => ⟨fun h => by omega, fun _ => h0 (a1 (by simp only [List.length_cons, List.length_nil] at hge; omega))⟩⟩⟩
  have e : i = 0 := by simp only [List.length_cons, List.length_nil] at hlt; omega
  subst e
  refine fairS_M hs ⟨fun ht => ⟨fun _ => ⟨5, rfl, h1 (by simpa using ht)⟩, fun h => absurd (by omega) h⟩, fun hf => ⟨by simp only [In]; omega, ⟨by omega, fun _ => by simpa using hf⟩, by (try dsimp only); omega⟩⟩
theorem vtexts_M {l : List (List UInt8)} {most long : Int} {K : Bool → Prop} (h0 : K false) (h1 : (l.length : Int) ≤ most → l.length ≤ 1000000 → (∀ x ∈ l, (x.length : Int) ≤ long) → K true) (hl : most ≤ 1000000) : M_smithyworld_Texts l most long K := by
  intro _
  refine ⟨fun _ => h0, fun hm => ⟨fun i => 0 ≤ i ∧ i ≤ l.length ∧ ∀ j, j < i.toNat → ((l.getD j []).length : Int) ≤ long, fun i => l.length - i.toNat, ⟨by omega, by omega, by intro j hj; simp at hj⟩, fun i ⟨a0, a1, a2⟩ => ⟨fun hlt => ⟨by omega, fun _ => h0, fun hle => ⟨by simp only [In]; omega, ⟨by omega, by omega, fun j hj => ?_⟩, by (try dsimp only); omega⟩⟩, fun hge => h1 (by omega) (by omega) fun x hx => ?_⟩⟩⟩
  · by_cases e : j = i.toNat
    · rw [e]; omega
    · exact a2 j (by omega)
  · obtain ⟨j, hj, rfl⟩ := List.getElem_of_mem hx
    have := a2 j (by omega)
    simpa [List.getD, hj] using this
/-! a spec written out -/
theorem ends_ne {a b c d : List UInt8} (h : a ++ b = c) (hd : d.length = b.length) (hc : c.drop (c.length - d.length) ≠ b) : False := by
  apply hc
  subst h
  rw [hd, List.length_append, Nat.add_sub_cancel]
  exact List.drop_left
theorem restB_full (b t : List UInt8) : restB ([47, 47] ++ b ++ 58 :: t) = b ++ 58 :: t := by
  unfold restB
  simp [List.isPrefixOf]
theorem group_full (b t : List UInt8) (ht : t = wPkg ∨ t = wSub) (hb : (58 : UInt8) ∉ b) : groupB ([47, 47] ++ b ++ 58 :: t) = rootB b ∧ (Lib.cut (restB ([47, 47] ++ b ++ 58 :: t)) [58]) = (b, t, true) := by
  have hc : Lib.cut (restB ([47, 47] ++ b ++ 58 :: t)) [58] = (b, t, true) := by rw [restB_full, cut_colon b t hb]
  refine ⟨?_, hc⟩
  unfold groupB
  rw [hc]
  rcases ht with rfl | rfl <;> simp [List.isPrefixOf]
theorem group_colon (b t : List UInt8) (hb : (58 : UInt8) ∈ b) : groupB ([47, 47] ++ b ++ 58 :: t) = false := by
  obtain ⟨x, y, rfl, hx⟩ := List.eq_append_cons_of_mem hb
  unfold groupB
  have e : (x ++ 58 :: y) ++ 58 :: t = x ++ 58 :: (y ++ 58 :: t) := by simp
  rw [restB_full, e, cut_colon x _ hx]
  have h1 : (y ++ 58 :: t) ≠ wPkg := fun e => by
    have : (58 : UInt8) ∈ wPkg := by rw [← e]; simp
    revert this; decide
  have h2 : (y ++ 58 :: t) ≠ wSub := fun e => by
    have : (58 : UInt8) ∈ wSub := by rw [← e]; simp
    revert this; decide
  simp [h1, h2]
theorem full_ne {b t w : List UInt8} (h : w.drop (w.length - t.length) ≠ t) : [47, 47] ++ b ++ 58 :: t ≠ w := fun e => ends_ne (a := [47, 47] ++ b ++ [58]) (b := t) (c := w) (d := t) (by rw [← e]; simp) rfl h
def specOk (b : List UInt8) : Bool := !b.contains 58 && rootB b
theorem group_spec (b t : List UInt8) (ht : t = wPkg ∨ t = wSub) : groupB ([47, 47] ++ b ++ 58 :: t) = specOk b := by
  unfold specOk
  by_cases hb : (58 : UInt8) ∈ b
  · rw [group_colon b t hb]; simp [hb]
  · rw [(group_full b t ht hb).1]; simp [hb]
theorem lets_spec (b t : List UInt8) (ht : t = wPkg ∨ t = wSub) : letsB ([47, 47] ++ b ++ 58 :: t) b = specOk b := by
  have hp : decide ([47, 47] ++ b ++ 58 :: t = wPub) = false := decide_eq_false (full_ne (by rcases ht with rfl | rfl <;> decide))
  unfold letsB
  rw [hp, Bool.false_or, group_spec b t ht]
  by_cases hb : (58 : UInt8) ∈ b
  · simp [specOk, hb]
  · rw [(group_full b t ht hb).2]; simp
theorem fair_spec (b : List UInt8) : fairS ([47, 47] ++ b ++ 58 :: wPkg) = specOk b := by
  unfold fairS
  rw [group_spec b wPkg (.inl rfl), decide_eq_false (full_ne (b := b) (t := wPkg) (w := wPub) (by decide)), decide_eq_false (full_ne (b := b) (t := wPkg) (w := wPriv) (by decide))]
  simp
theorem lets_priv (b : List UInt8) : letsB wPriv b = false := by
  have : groupB wPriv = false := by decide +kernel
  unfold letsB
  rw [this, decide_eq_false (by decide)]
  rfl
theorem lets_pub (b : List UInt8) : letsB wPub b = true := by
  unfold letsB
  simp
theorem vfirst_M {K : Bool → Prop} (h : K true) : M_smithylaw20_first K := by
  refine may_M (by simp) (fun s hs => by simp at hs; subst hs; simp) ?_
  have : mayB [([47, 47, 97, 58, 95, 95, 115, 117, 98, 112, 97, 99, 107, 97, 103, 101, 115, 95, 95] : List UInt8)] [98] [97, 47, 99] = true := by decide +kernel
  rw [this]; exact h
end Go.Proofs.YtcfljnfaakjdjaaDoor
 /- Printed by a program (wip/vg): what the functions mean, plainly, and their walks. -/
namespace Go.Proofs.YtcfljnfaakjdjaaDoor
open Go Go.RowKit
attribute [local irreducible] WL WC WX WQ WK WJ Yld Eff Ef0 Fn
def M_smithyref1_letter (c : Int) (K : Bool → Prop) : Prop :=
 K (((((((((((((((decide ((97 : Int) ≤ c)) && (decide (c ≤ (122 : Int)))) || ((decide ((65 : Int) ≤ c)) && (decide (c ≤ (90 : Int))))) || ((decide ((48 : Int) ≤ c)) && (decide (c ≤ (57 : Int))))) || (decide (c = (33 : Int)))) || (decide (c = (35 : Int)))) || (decide (c = (37 : Int)))) || (decide (c = (43 : Int)))) || (decide (c = (44 : Int)))) || (decide (c = (45 : Int)))) || (decide (c = (46 : Int)))) || (decide (c = (61 : Int)))) || (decide (c = (64 : Int)))) || (decide (c = (95 : Int)))) || (decide (c = (126 : Int))))

def M_smithyref1_Parts (p : List UInt8) (K : (List (List UInt8)) → Prop) : Prop :=
 Lp3 (fun (out : List (List UInt8)) (from_ : Int) (i : Int) k_1 => ((i ≤ (p.length : Int) → ∃ J1 : (List (List UInt8)) → Int → Prop, (((decide (i = (p.length : Int))) = false → (0 ≤ i ∧ i < p.length)) ∧
 ((((decide (i = (p.length : Int))) || (decide (((p.getD i.toNat 0).toNat : Int) = (47 : Int)))) = true → (0 ≤ from_ ∧ from_ ≤ i ∧ i ≤ p.length) ∧
 ((out.length + (([(p.drop from_.toNat).take (i.toNat - from_.toNat)] : List (List UInt8))).length) * 16 ≤ 140737488355328) ∧
 (In .i64 (i + (1 : Int))) ∧
 J1 (out ++ ([(p.drop from_.toNat).take (i.toNat - from_.toNat)] : List (List UInt8))) (i + (1 : Int))) ∧
 (((decide (i = (p.length : Int))) || (decide (((p.getD i.toNat 0).toNat : Int) = (47 : Int)))) = false → J1 out from_))) ∧
 (∀ out2 : List (List UInt8), ∀ from_2 : Int, J1 out2 from_2 → (In .i64 (i + (1 : Int))) ∧
 k_1 out2 from_2 (i + (1 : Int)))) ∧
 (¬ (i ≤ (p.length : Int)) → K out))) [] (0 : Int) (0 : Int)

def M_smithyref1_glue (l : List (List UInt8)) (K : (List UInt8) → Prop) : Prop :=
 (l.length ≤ maxLen →
 Lp2 (fun (s : List UInt8) (i : Int) k_1 => ((i < (l.length : Int) → ∃ J1 : (List UInt8) → Prop, ((((0 : Int) < i → (s.length + ([47] : List UInt8).length ≤ 9223372036854775807) ∧
 J1 (s ++ ([47] : List UInt8))) ∧
 (¬ ((0 : Int) < i) → J1 s))) ∧
 (∀ s2 : List UInt8, J1 s2 → (0 ≤ i ∧ i < (l.length : Nat)) ∧
 (s2.length + (l.getD i.toNat []).length ≤ 9223372036854775807) ∧
 (In .i64 (i + (1 : Int))) ∧
 k_1 (s2 ++ (l.getD i.toNat [])) (i + (1 : Int)))) ∧
 (¬ (i < (l.length : Int)) → K s))) ([] : List UInt8) (0 : Int))

def M_smithyref1_part (s : List UInt8) (star : Bool) (K : Bool → Prop) : Prop :=
 Lp1 (fun (i : Int) k_1 => ((i < (s.length : Int) → (0 ≤ i ∧ i < s.length) ∧
 M_smithyref1_letter ((s.getD i.toNat 0).toNat : Int) (fun (t15 : Bool) =>
 ((!t15) = true → star = true → (0 ≤ i ∧ i < s.length)) ∧
 ((((!t15) && (!(star && (decide (((s.getD i.toNat 0).toNat : Int) = (42 : Int)))))) = true → K false) ∧
 (((!t15) && (!(star && (decide (((s.getD i.toNat 0).toNat : Int) = (42 : Int)))))) = false → (In .i64 (i + (1 : Int))) ∧
 k_1 (i + (1 : Int)))))) ∧
 (¬ (i < (s.length : Int)) → K (((!decide (s = ([] : List UInt8))) && (!decide (s = ([46] : List UInt8)))) && (!decide (s = ([46, 46] : List UInt8))))))) (0 : Int)

def M_smithyref1_Clean (p : List UInt8) (K : (List UInt8) → Bool → Prop) : Prop :=
 M_smithyref1_Parts p (fun (parts : List (List UInt8)) =>
 Lp2 (fun (l : List (List UInt8)) (i : Int) k_1 => ((i < (parts.length : Int) → ∃ J1 : (List (List UInt8)) → Prop, ((0 ≤ i ∧ i < (parts.length : Nat)) ∧
 ((decide ((parts.getD i.toNat []) = ([] : List UInt8))) = false → (0 ≤ i ∧ i < (parts.length : Nat))) ∧
 ((((decide ((parts.getD i.toNat []) = ([] : List UInt8))) || (decide ((parts.getD i.toNat []) = ([46] : List UInt8)))) = true → J1 l) ∧
 (((decide ((parts.getD i.toNat []) = ([] : List UInt8))) || (decide ((parts.getD i.toNat []) = ([46] : List UInt8)))) = false → (0 ≤ i ∧ i < (parts.length : Nat)) ∧
 (((parts.getD i.toNat []) = ([46, 46] : List UInt8) → (((l.length : Int) = (0 : Int) → K ([] : List UInt8) false) ∧
 (¬ ((l.length : Int) = (0 : Int)) → (In .i64 ((l.length : Int) - (1 : Int))) ∧
 (0 ≤ (l.length : Int) - (1 : Int) ∧ (l.length : Int) - (1 : Int) ≤ (l.length : Nat)) ∧
 J1 (l.take ((l.length : Int) - (1 : Int)).toNat)))) ∧
 (¬ ((parts.getD i.toNat []) = ([46, 46] : List UInt8)) → (0 ≤ i ∧ i < (parts.length : Nat)) ∧
 M_smithyref1_part (parts.getD i.toNat []) false (fun (t55 : Bool) =>
 (((!t55) = true → K ([] : List UInt8) false) ∧
 ((!t55) = false → (0 ≤ i ∧ i < (parts.length : Nat)) ∧
 ((l.length + (([parts.getD i.toNat []] : List (List UInt8))).length) * 16 ≤ 140737488355328) ∧
 J1 (l ++ ([parts.getD i.toNat []] : List (List UInt8))))))))))) ∧
 (∀ l2 : List (List UInt8), J1 l2 → (In .i64 (i + (1 : Int))) ∧
 k_1 l2 (i + (1 : Int)))) ∧
 (¬ (i < (parts.length : Int)) → M_smithyref1_glue l (fun (s : List UInt8) =>
 (((200 : Int) < (s.length : Int) → K ([] : List UInt8) false) ∧
 (¬ ((200 : Int) < (s.length : Int)) → K s true)))))) [] (0 : Int))

def M_smithyref1_Join (l : List (List UInt8)) (K : (List UInt8) → Bool → Prop) : Prop :=
 (l.length ≤ maxLen →
 M_smithyref1_glue l (fun (t5 : List UInt8) =>
 M_smithyref1_Clean t5 (fun (t60 : List UInt8) (t61 : Bool) =>
 K t60 t61)))

def M_smithyref1_Valid (p : List UInt8) (K : Bool → Prop) : Prop :=
 M_smithyref1_Clean p (fun (t70 : List UInt8) (t71 : Bool) =>
 K ((t71 && (decide (t70 = p))) && (!decide (p = ([] : List UInt8)))))

def M_smithyref1_Dir (p : List UInt8) (K : (List UInt8) → Prop) : Prop :=
 (In .i64 ((p.length : Int) - (1 : Int))) ∧
 Lp1 (fun (i : Int) k_1 => (((0 : Int) ≤ i → (0 ≤ i ∧ i < p.length) ∧
 ((((p.getD i.toNat 0).toNat : Int) = (47 : Int) → (0 ≤ i ∧ i ≤ p.length) ∧
 K (p.take i.toNat)) ∧
 (¬ (((p.getD i.toNat 0).toNat : Int) = (47 : Int)) → (In .i64 (i - (1 : Int))) ∧
 k_1 (i - (1 : Int))))) ∧
 (¬ ((0 : Int) ≤ i) → K ([] : List UInt8)))) ((p.length : Int) - (1 : Int))

def M_smithyref1_Base (p : List UInt8) (K : (List UInt8) → Prop) : Prop :=
 (In .i64 ((p.length : Int) - (1 : Int))) ∧
 Lp1 (fun (i : Int) k_1 => (((0 : Int) ≤ i → (0 ≤ i ∧ i < p.length) ∧
 ((((p.getD i.toNat 0).toNat : Int) = (47 : Int) → (In .i64 (i + (1 : Int))) ∧
 (0 ≤ i + (1 : Int) ∧ i + (1 : Int) ≤ p.length) ∧
 K (p.drop (i + (1 : Int)).toNat)) ∧
 (¬ (((p.getD i.toNat 0).toNat : Int) = (47 : Int)) → (In .i64 (i - (1 : Int))) ∧
 k_1 (i - (1 : Int))))) ∧
 (¬ ((0 : Int) ≤ i) → K p))) ((p.length : Int) - (1 : Int))

def M_smithyref1_Under (p : List UInt8) (dir : List UInt8) (K : Bool → Prop) : Prop :=
 ((dir = ([] : List UInt8) → K (!decide (p = ([] : List UInt8)))) ∧
 (¬ (dir = ([] : List UInt8)) → ((decide ((dir.length : Int) < (p.length : Int))) = true → (0 ≤ (dir.length : Int) ∧ (dir.length : Int) ≤ p.length)) ∧
 (((decide ((dir.length : Int) < (p.length : Int))) && (decide ((p.take (dir.length : Int).toNat) = dir))) = true → (0 ≤ (dir.length : Int) ∧ (dir.length : Int) < p.length)) ∧
 K (((decide ((dir.length : Int) < (p.length : Int))) && (decide ((p.take (dir.length : Int).toNat) = dir))) && (decide (((p.getD (dir.length : Int).toNat 0).toNat : Int) = (47 : Int))))))

set_option maxHeartbeats 8000000 in
theorem W_smithyref1_letter {w : World} {c : Int} {K : Bool → Prop} (H : M_smithyref1_letter c K) : Fn Tryd.prog 121 ⟨[.int .u8 c]⟩ w (fun v w' => w = w' ∧ ∃ (r : Bool), v = .bool r ∧ K r) := by
  unfold M_smithyref1_letter at H
  refine Fn.enter (by kernel_rfl) Tryd.func121 rfl Tryd.ntmps121 rfl ?_
  refine WC.seq ?_
  refine WC.region ?_
  refine WL.y rfl (Yld.pure tab_ok rfl) ?_
  refine WL.nil (WX.then_normal ?_)
  refine WC.seq ?_
  refine WC.region ?_
  refine WL.y rfl (Yld.pure tab_ok rfl) ?_
  refine WL.y rfl (Yld.pure tab_ok rfl) ?_
  refine WL.y rfl (Yld.pure tab_ok rfl) ?_
  refine WL.midF 3 (fun L' w' => ∃ q1 : Bool, L' = [(8, .bool q1), (0, .int .u8 c)] ∧ q1 = ((decide ((97 : Int) ≤ c)) && (decide (c ≤ (122 : Int)))) ∧ w = w') ?_ (fun hQ => ?_)
  · rintro _ _ ⟨q1, rfl, rfl, rfl⟩
    refine WL.y rfl (Yld.pure tab_ok rfl) ?_
    refine WL.midF 7 (fun L' w' => ∃ q2 : Bool, L' = [(16, .bool q2), (0, .int .u8 c)] ∧ q2 = (((decide ((97 : Int) ≤ c)) && (decide (c ≤ (122 : Int)))) || ((decide ((65 : Int) ≤ c)) && (decide (c ≤ (90 : Int))))) ∧ w = w') ?_ (fun hQ => ?_)
    · rintro _ _ ⟨q2, rfl, rfl, rfl⟩
      refine WL.y rfl (Yld.pure tab_ok rfl) ?_
      refine WL.midF 7 (fun L' w' => ∃ q3 : Bool, L' = [(24, .bool q3), (0, .int .u8 c)] ∧ q3 = ((((decide ((97 : Int) ≤ c)) && (decide (c ≤ (122 : Int)))) || ((decide ((65 : Int) ≤ c)) && (decide (c ≤ (90 : Int))))) || ((decide ((48 : Int) ≤ c)) && (decide (c ≤ (57 : Int))))) ∧ w = w') ?_ (fun hQ => ?_)
      · rintro _ _ ⟨q3, rfl, rfl, rfl⟩
        refine WL.y rfl (Yld.pure tab_ok rfl) ?_
        refine WL.midF 3 (fun L' w' => ∃ q4 : Bool, L' = [(28, .bool q4), (0, .int .u8 c)] ∧ q4 = (((((decide ((97 : Int) ≤ c)) && (decide (c ≤ (122 : Int)))) || ((decide ((65 : Int) ≤ c)) && (decide (c ≤ (90 : Int))))) || ((decide ((48 : Int) ≤ c)) && (decide (c ≤ (57 : Int))))) || (decide (c = (33 : Int)))) ∧ w = w') ?_ (fun hQ => ?_)
        · rintro _ _ ⟨q4, rfl, rfl, rfl⟩
          refine WL.y rfl (Yld.pure tab_ok rfl) ?_
          refine WL.midF 3 (fun L' w' => ∃ q5 : Bool, L' = [(32, .bool q5), (0, .int .u8 c)] ∧ q5 = ((((((decide ((97 : Int) ≤ c)) && (decide (c ≤ (122 : Int)))) || ((decide ((65 : Int) ≤ c)) && (decide (c ≤ (90 : Int))))) || ((decide ((48 : Int) ≤ c)) && (decide (c ≤ (57 : Int))))) || (decide (c = (33 : Int)))) || (decide (c = (35 : Int)))) ∧ w = w') ?_ (fun hQ => ?_)
          · rintro _ _ ⟨q5, rfl, rfl, rfl⟩
            refine WL.y rfl (Yld.pure tab_ok rfl) ?_
            refine WL.midF 3 (fun L' w' => ∃ q6 : Bool, L' = [(36, .bool q6), (0, .int .u8 c)] ∧ q6 = (((((((decide ((97 : Int) ≤ c)) && (decide (c ≤ (122 : Int)))) || ((decide ((65 : Int) ≤ c)) && (decide (c ≤ (90 : Int))))) || ((decide ((48 : Int) ≤ c)) && (decide (c ≤ (57 : Int))))) || (decide (c = (33 : Int)))) || (decide (c = (35 : Int)))) || (decide (c = (37 : Int)))) ∧ w = w') ?_ (fun hQ => ?_)
            · rintro _ _ ⟨q6, rfl, rfl, rfl⟩
              refine WL.y rfl (Yld.pure tab_ok rfl) ?_
              refine WL.midF 3 (fun L' w' => ∃ q7 : Bool, L' = [(40, .bool q7), (0, .int .u8 c)] ∧ q7 = ((((((((decide ((97 : Int) ≤ c)) && (decide (c ≤ (122 : Int)))) || ((decide ((65 : Int) ≤ c)) && (decide (c ≤ (90 : Int))))) || ((decide ((48 : Int) ≤ c)) && (decide (c ≤ (57 : Int))))) || (decide (c = (33 : Int)))) || (decide (c = (35 : Int)))) || (decide (c = (37 : Int)))) || (decide (c = (43 : Int)))) ∧ w = w') ?_ (fun hQ => ?_)
              · rintro _ _ ⟨q7, rfl, rfl, rfl⟩
                refine WL.y rfl (Yld.pure tab_ok rfl) ?_
                refine WL.midF 3 (fun L' w' => ∃ q8 : Bool, L' = [(44, .bool q8), (0, .int .u8 c)] ∧ q8 = (((((((((decide ((97 : Int) ≤ c)) && (decide (c ≤ (122 : Int)))) || ((decide ((65 : Int) ≤ c)) && (decide (c ≤ (90 : Int))))) || ((decide ((48 : Int) ≤ c)) && (decide (c ≤ (57 : Int))))) || (decide (c = (33 : Int)))) || (decide (c = (35 : Int)))) || (decide (c = (37 : Int)))) || (decide (c = (43 : Int)))) || (decide (c = (44 : Int)))) ∧ w = w') ?_ (fun hQ => ?_)
                · rintro _ _ ⟨q8, rfl, rfl, rfl⟩
                  refine WL.y rfl (Yld.pure tab_ok rfl) ?_
                  refine WL.midF 3 (fun L' w' => ∃ q9 : Bool, L' = [(48, .bool q9), (0, .int .u8 c)] ∧ q9 = ((((((((((decide ((97 : Int) ≤ c)) && (decide (c ≤ (122 : Int)))) || ((decide ((65 : Int) ≤ c)) && (decide (c ≤ (90 : Int))))) || ((decide ((48 : Int) ≤ c)) && (decide (c ≤ (57 : Int))))) || (decide (c = (33 : Int)))) || (decide (c = (35 : Int)))) || (decide (c = (37 : Int)))) || (decide (c = (43 : Int)))) || (decide (c = (44 : Int)))) || (decide (c = (45 : Int)))) ∧ w = w') ?_ (fun hQ => ?_)
                  · rintro _ _ ⟨q9, rfl, rfl, rfl⟩
                    refine WL.y rfl (Yld.pure tab_ok rfl) ?_
                    refine WL.midF 3 (fun L' w' => ∃ q10 : Bool, L' = [(52, .bool q10), (0, .int .u8 c)] ∧ q10 = (((((((((((decide ((97 : Int) ≤ c)) && (decide (c ≤ (122 : Int)))) || ((decide ((65 : Int) ≤ c)) && (decide (c ≤ (90 : Int))))) || ((decide ((48 : Int) ≤ c)) && (decide (c ≤ (57 : Int))))) || (decide (c = (33 : Int)))) || (decide (c = (35 : Int)))) || (decide (c = (37 : Int)))) || (decide (c = (43 : Int)))) || (decide (c = (44 : Int)))) || (decide (c = (45 : Int)))) || (decide (c = (46 : Int)))) ∧ w = w') ?_ (fun hQ => ?_)
                    · rintro _ _ ⟨q10, rfl, rfl, rfl⟩
                      refine WL.y rfl (Yld.pure tab_ok rfl) ?_
                      refine WL.midF 3 (fun L' w' => ∃ q11 : Bool, L' = [(56, .bool q11), (0, .int .u8 c)] ∧ q11 = ((((((((((((decide ((97 : Int) ≤ c)) && (decide (c ≤ (122 : Int)))) || ((decide ((65 : Int) ≤ c)) && (decide (c ≤ (90 : Int))))) || ((decide ((48 : Int) ≤ c)) && (decide (c ≤ (57 : Int))))) || (decide (c = (33 : Int)))) || (decide (c = (35 : Int)))) || (decide (c = (37 : Int)))) || (decide (c = (43 : Int)))) || (decide (c = (44 : Int)))) || (decide (c = (45 : Int)))) || (decide (c = (46 : Int)))) || (decide (c = (61 : Int)))) ∧ w = w') ?_ (fun hQ => ?_)
                      · rintro _ _ ⟨q11, rfl, rfl, rfl⟩
                        refine WL.y rfl (Yld.pure tab_ok rfl) ?_
                        refine WL.midF 3 (fun L' w' => ∃ q12 : Bool, L' = [(60, .bool q12), (0, .int .u8 c)] ∧ q12 = (((((((((((((decide ((97 : Int) ≤ c)) && (decide (c ≤ (122 : Int)))) || ((decide ((65 : Int) ≤ c)) && (decide (c ≤ (90 : Int))))) || ((decide ((48 : Int) ≤ c)) && (decide (c ≤ (57 : Int))))) || (decide (c = (33 : Int)))) || (decide (c = (35 : Int)))) || (decide (c = (37 : Int)))) || (decide (c = (43 : Int)))) || (decide (c = (44 : Int)))) || (decide (c = (45 : Int)))) || (decide (c = (46 : Int)))) || (decide (c = (61 : Int)))) || (decide (c = (64 : Int)))) ∧ w = w') ?_ (fun hQ => ?_)
                        · rintro _ _ ⟨q12, rfl, rfl, rfl⟩
                          refine WL.y rfl (Yld.pure tab_ok rfl) ?_
                          refine WL.midF 3 (fun L' w' => ∃ q13 : Bool, L' = [(64, .bool q13), (0, .int .u8 c)] ∧ q13 = ((((((((((((((decide ((97 : Int) ≤ c)) && (decide (c ≤ (122 : Int)))) || ((decide ((65 : Int) ≤ c)) && (decide (c ≤ (90 : Int))))) || ((decide ((48 : Int) ≤ c)) && (decide (c ≤ (57 : Int))))) || (decide (c = (33 : Int)))) || (decide (c = (35 : Int)))) || (decide (c = (37 : Int)))) || (decide (c = (43 : Int)))) || (decide (c = (44 : Int)))) || (decide (c = (45 : Int)))) || (decide (c = (46 : Int)))) || (decide (c = (61 : Int)))) || (decide (c = (64 : Int)))) || (decide (c = (95 : Int)))) ∧ w = w') ?_ (fun hQ => ?_)
                          · rintro _ _ ⟨q13, rfl, rfl, rfl⟩
                            refine WL.y rfl (Yld.pure tab_ok rfl) ?_
                            refine WL.midF 3 (fun L' w' => ∃ q14 : Bool, L' = [(68, .bool q14)] ∧ q14 = (((((((((((((((decide ((97 : Int) ≤ c)) && (decide (c ≤ (122 : Int)))) || ((decide ((65 : Int) ≤ c)) && (decide (c ≤ (90 : Int))))) || ((decide ((48 : Int) ≤ c)) && (decide (c ≤ (57 : Int))))) || (decide (c = (33 : Int)))) || (decide (c = (35 : Int)))) || (decide (c = (37 : Int)))) || (decide (c = (43 : Int)))) || (decide (c = (44 : Int)))) || (decide (c = (45 : Int)))) || (decide (c = (46 : Int)))) || (decide (c = (61 : Int)))) || (decide (c = (64 : Int)))) || (decide (c = (95 : Int)))) || (decide (c = (126 : Int)))) ∧ w = w') ?_ (fun hQ => ?_)
                            · rintro _ _ ⟨q14, rfl, rfl, rfl⟩
                              refine WL.y rfl (Yld.pure tab_ok rfl) ?_
                              refine WL.nil (WX.then_normal ?_)
                              refine WC.ret ?_
                              exact WX.ret1 rfl rfl ⟨rfl, ((((((((((((((decide ((97 : Int) ≤ c)) && (decide (c ≤ (122 : Int)))) || ((decide ((65 : Int) ≤ c)) && (decide (c ≤ (90 : Int))))) || ((decide ((48 : Int) ≤ c)) && (decide (c ≤ (57 : Int))))) || (decide (c = (33 : Int)))) || (decide (c = (35 : Int)))) || (decide (c = (37 : Int)))) || (decide (c = (43 : Int)))) || (decide (c = (44 : Int)))) || (decide (c = (45 : Int)))) || (decide (c = (46 : Int)))) || (decide (c = (61 : Int)))) || (decide (c = (64 : Int)))) || (decide (c = (95 : Int)))) || (decide (c = (126 : Int))), rfl, H⟩
                            · clear H
                              rcases Bool.eq_false_or_eq_true ((((((((((((((decide ((97 : Int) ≤ c)) && (decide (c ≤ (122 : Int)))) || ((decide ((65 : Int) ≤ c)) && (decide (c ≤ (90 : Int))))) || ((decide ((48 : Int) ≤ c)) && (decide (c ≤ (57 : Int))))) || (decide (c = (33 : Int)))) || (decide (c = (35 : Int)))) || (decide (c = (37 : Int)))) || (decide (c = (43 : Int)))) || (decide (c = (44 : Int)))) || (decide (c = (45 : Int)))) || (decide (c = (46 : Int)))) || (decide (c = (61 : Int)))) || (decide (c = (64 : Int)))) || (decide (c = (95 : Int)))) with b1 | b1
                              · refine WL.gno rfl rfl (okb b1) rfl ?_
                                refine WL.gno rfl rfl (okb b1) rfl ?_
                                refine WL.y rfl (Yld.pickT (okb b1) rfl) ?_
                                exact WL.weaken (by repeat (first | exact Sub.nil | refine Sub.cons rfl ?_)) (hQ _ _ ⟨true, rfl, by rw [b1] <;> rfl, rfl⟩)
                              · refine WL.gyes rfl rfl (okb b1) rfl (Yld.pure tab_ok rfl) ?_
                                refine WL.gyes rfl rfl (okb b1) rfl (Yld.pure tab_ok rfl) ?_
                                refine WL.y rfl (Yld.pickF (okb b1) rfl) ?_
                                exact WL.weaken (by repeat (first | exact Sub.nil | refine Sub.cons rfl ?_)) (hQ _ _ ⟨decide (c = (126 : Int)), rfl, by rw [b1] <;> rfl, rfl⟩)
                          · clear H
                            rcases Bool.eq_false_or_eq_true (((((((((((((decide ((97 : Int) ≤ c)) && (decide (c ≤ (122 : Int)))) || ((decide ((65 : Int) ≤ c)) && (decide (c ≤ (90 : Int))))) || ((decide ((48 : Int) ≤ c)) && (decide (c ≤ (57 : Int))))) || (decide (c = (33 : Int)))) || (decide (c = (35 : Int)))) || (decide (c = (37 : Int)))) || (decide (c = (43 : Int)))) || (decide (c = (44 : Int)))) || (decide (c = (45 : Int)))) || (decide (c = (46 : Int)))) || (decide (c = (61 : Int)))) || (decide (c = (64 : Int)))) with b2 | b2
                            · refine WL.gno rfl rfl (okb b2) rfl ?_
                              refine WL.gno rfl rfl (okb b2) rfl ?_
                              refine WL.y rfl (Yld.pickT (okb b2) rfl) ?_
                              exact WL.weaken (by repeat (first | exact Sub.nil | refine Sub.cons rfl ?_)) (hQ _ _ ⟨true, rfl, by rw [b2] <;> rfl, rfl⟩)
                            · refine WL.gyes rfl rfl (okb b2) rfl (Yld.pure tab_ok rfl) ?_
                              refine WL.gyes rfl rfl (okb b2) rfl (Yld.pure tab_ok rfl) ?_
                              refine WL.y rfl (Yld.pickF (okb b2) rfl) ?_
                              exact WL.weaken (by repeat (first | exact Sub.nil | refine Sub.cons rfl ?_)) (hQ _ _ ⟨decide (c = (95 : Int)), rfl, by rw [b2] <;> rfl, rfl⟩)
                        · clear H
                          rcases Bool.eq_false_or_eq_true ((((((((((((decide ((97 : Int) ≤ c)) && (decide (c ≤ (122 : Int)))) || ((decide ((65 : Int) ≤ c)) && (decide (c ≤ (90 : Int))))) || ((decide ((48 : Int) ≤ c)) && (decide (c ≤ (57 : Int))))) || (decide (c = (33 : Int)))) || (decide (c = (35 : Int)))) || (decide (c = (37 : Int)))) || (decide (c = (43 : Int)))) || (decide (c = (44 : Int)))) || (decide (c = (45 : Int)))) || (decide (c = (46 : Int)))) || (decide (c = (61 : Int)))) with b3 | b3
                          · refine WL.gno rfl rfl (okb b3) rfl ?_
                            refine WL.gno rfl rfl (okb b3) rfl ?_
                            refine WL.y rfl (Yld.pickT (okb b3) rfl) ?_
                            exact WL.weaken (by repeat (first | exact Sub.nil | refine Sub.cons rfl ?_)) (hQ _ _ ⟨true, rfl, by rw [b3] <;> rfl, rfl⟩)
                          · refine WL.gyes rfl rfl (okb b3) rfl (Yld.pure tab_ok rfl) ?_
                            refine WL.gyes rfl rfl (okb b3) rfl (Yld.pure tab_ok rfl) ?_
                            refine WL.y rfl (Yld.pickF (okb b3) rfl) ?_
                            exact WL.weaken (by repeat (first | exact Sub.nil | refine Sub.cons rfl ?_)) (hQ _ _ ⟨decide (c = (64 : Int)), rfl, by rw [b3] <;> rfl, rfl⟩)
                      · clear H
                        rcases Bool.eq_false_or_eq_true (((((((((((decide ((97 : Int) ≤ c)) && (decide (c ≤ (122 : Int)))) || ((decide ((65 : Int) ≤ c)) && (decide (c ≤ (90 : Int))))) || ((decide ((48 : Int) ≤ c)) && (decide (c ≤ (57 : Int))))) || (decide (c = (33 : Int)))) || (decide (c = (35 : Int)))) || (decide (c = (37 : Int)))) || (decide (c = (43 : Int)))) || (decide (c = (44 : Int)))) || (decide (c = (45 : Int)))) || (decide (c = (46 : Int)))) with b4 | b4
                        · refine WL.gno rfl rfl (okb b4) rfl ?_
                          refine WL.gno rfl rfl (okb b4) rfl ?_
                          refine WL.y rfl (Yld.pickT (okb b4) rfl) ?_
                          exact WL.weaken (by repeat (first | exact Sub.nil | refine Sub.cons rfl ?_)) (hQ _ _ ⟨true, rfl, by rw [b4] <;> rfl, rfl⟩)
                        · refine WL.gyes rfl rfl (okb b4) rfl (Yld.pure tab_ok rfl) ?_
                          refine WL.gyes rfl rfl (okb b4) rfl (Yld.pure tab_ok rfl) ?_
                          refine WL.y rfl (Yld.pickF (okb b4) rfl) ?_
                          exact WL.weaken (by repeat (first | exact Sub.nil | refine Sub.cons rfl ?_)) (hQ _ _ ⟨decide (c = (61 : Int)), rfl, by rw [b4] <;> rfl, rfl⟩)
                    · clear H
                      rcases Bool.eq_false_or_eq_true ((((((((((decide ((97 : Int) ≤ c)) && (decide (c ≤ (122 : Int)))) || ((decide ((65 : Int) ≤ c)) && (decide (c ≤ (90 : Int))))) || ((decide ((48 : Int) ≤ c)) && (decide (c ≤ (57 : Int))))) || (decide (c = (33 : Int)))) || (decide (c = (35 : Int)))) || (decide (c = (37 : Int)))) || (decide (c = (43 : Int)))) || (decide (c = (44 : Int)))) || (decide (c = (45 : Int)))) with b5 | b5
                      · refine WL.gno rfl rfl (okb b5) rfl ?_
                        refine WL.gno rfl rfl (okb b5) rfl ?_
                        refine WL.y rfl (Yld.pickT (okb b5) rfl) ?_
                        exact WL.weaken (by repeat (first | exact Sub.nil | refine Sub.cons rfl ?_)) (hQ _ _ ⟨true, rfl, by rw [b5] <;> rfl, rfl⟩)
                      · refine WL.gyes rfl rfl (okb b5) rfl (Yld.pure tab_ok rfl) ?_
                        refine WL.gyes rfl rfl (okb b5) rfl (Yld.pure tab_ok rfl) ?_
                        refine WL.y rfl (Yld.pickF (okb b5) rfl) ?_
                        exact WL.weaken (by repeat (first | exact Sub.nil | refine Sub.cons rfl ?_)) (hQ _ _ ⟨decide (c = (46 : Int)), rfl, by rw [b5] <;> rfl, rfl⟩)
                  · clear H
                    rcases Bool.eq_false_or_eq_true (((((((((decide ((97 : Int) ≤ c)) && (decide (c ≤ (122 : Int)))) || ((decide ((65 : Int) ≤ c)) && (decide (c ≤ (90 : Int))))) || ((decide ((48 : Int) ≤ c)) && (decide (c ≤ (57 : Int))))) || (decide (c = (33 : Int)))) || (decide (c = (35 : Int)))) || (decide (c = (37 : Int)))) || (decide (c = (43 : Int)))) || (decide (c = (44 : Int)))) with b6 | b6
                    · refine WL.gno rfl rfl (okb b6) rfl ?_
                      refine WL.gno rfl rfl (okb b6) rfl ?_
                      refine WL.y rfl (Yld.pickT (okb b6) rfl) ?_
                      exact WL.weaken (by repeat (first | exact Sub.nil | refine Sub.cons rfl ?_)) (hQ _ _ ⟨true, rfl, by rw [b6] <;> rfl, rfl⟩)
                    · refine WL.gyes rfl rfl (okb b6) rfl (Yld.pure tab_ok rfl) ?_
                      refine WL.gyes rfl rfl (okb b6) rfl (Yld.pure tab_ok rfl) ?_
                      refine WL.y rfl (Yld.pickF (okb b6) rfl) ?_
                      exact WL.weaken (by repeat (first | exact Sub.nil | refine Sub.cons rfl ?_)) (hQ _ _ ⟨decide (c = (45 : Int)), rfl, by rw [b6] <;> rfl, rfl⟩)
                · clear H
                  rcases Bool.eq_false_or_eq_true ((((((((decide ((97 : Int) ≤ c)) && (decide (c ≤ (122 : Int)))) || ((decide ((65 : Int) ≤ c)) && (decide (c ≤ (90 : Int))))) || ((decide ((48 : Int) ≤ c)) && (decide (c ≤ (57 : Int))))) || (decide (c = (33 : Int)))) || (decide (c = (35 : Int)))) || (decide (c = (37 : Int)))) || (decide (c = (43 : Int)))) with b7 | b7
                  · refine WL.gno rfl rfl (okb b7) rfl ?_
                    refine WL.gno rfl rfl (okb b7) rfl ?_
                    refine WL.y rfl (Yld.pickT (okb b7) rfl) ?_
                    exact WL.weaken (by repeat (first | exact Sub.nil | refine Sub.cons rfl ?_)) (hQ _ _ ⟨true, rfl, by rw [b7] <;> rfl, rfl⟩)
                  · refine WL.gyes rfl rfl (okb b7) rfl (Yld.pure tab_ok rfl) ?_
                    refine WL.gyes rfl rfl (okb b7) rfl (Yld.pure tab_ok rfl) ?_
                    refine WL.y rfl (Yld.pickF (okb b7) rfl) ?_
                    exact WL.weaken (by repeat (first | exact Sub.nil | refine Sub.cons rfl ?_)) (hQ _ _ ⟨decide (c = (44 : Int)), rfl, by rw [b7] <;> rfl, rfl⟩)
              · clear H
                rcases Bool.eq_false_or_eq_true (((((((decide ((97 : Int) ≤ c)) && (decide (c ≤ (122 : Int)))) || ((decide ((65 : Int) ≤ c)) && (decide (c ≤ (90 : Int))))) || ((decide ((48 : Int) ≤ c)) && (decide (c ≤ (57 : Int))))) || (decide (c = (33 : Int)))) || (decide (c = (35 : Int)))) || (decide (c = (37 : Int)))) with b8 | b8
                · refine WL.gno rfl rfl (okb b8) rfl ?_
                  refine WL.gno rfl rfl (okb b8) rfl ?_
                  refine WL.y rfl (Yld.pickT (okb b8) rfl) ?_
                  exact WL.weaken (by repeat (first | exact Sub.nil | refine Sub.cons rfl ?_)) (hQ _ _ ⟨true, rfl, by rw [b8] <;> rfl, rfl⟩)
                · refine WL.gyes rfl rfl (okb b8) rfl (Yld.pure tab_ok rfl) ?_
                  refine WL.gyes rfl rfl (okb b8) rfl (Yld.pure tab_ok rfl) ?_
                  refine WL.y rfl (Yld.pickF (okb b8) rfl) ?_
                  exact WL.weaken (by repeat (first | exact Sub.nil | refine Sub.cons rfl ?_)) (hQ _ _ ⟨decide (c = (43 : Int)), rfl, by rw [b8] <;> rfl, rfl⟩)
            · clear H
              rcases Bool.eq_false_or_eq_true ((((((decide ((97 : Int) ≤ c)) && (decide (c ≤ (122 : Int)))) || ((decide ((65 : Int) ≤ c)) && (decide (c ≤ (90 : Int))))) || ((decide ((48 : Int) ≤ c)) && (decide (c ≤ (57 : Int))))) || (decide (c = (33 : Int)))) || (decide (c = (35 : Int)))) with b9 | b9
              · refine WL.gno rfl rfl (okb b9) rfl ?_
                refine WL.gno rfl rfl (okb b9) rfl ?_
                refine WL.y rfl (Yld.pickT (okb b9) rfl) ?_
                exact WL.weaken (by repeat (first | exact Sub.nil | refine Sub.cons rfl ?_)) (hQ _ _ ⟨true, rfl, by rw [b9] <;> rfl, rfl⟩)
              · refine WL.gyes rfl rfl (okb b9) rfl (Yld.pure tab_ok rfl) ?_
                refine WL.gyes rfl rfl (okb b9) rfl (Yld.pure tab_ok rfl) ?_
                refine WL.y rfl (Yld.pickF (okb b9) rfl) ?_
                exact WL.weaken (by repeat (first | exact Sub.nil | refine Sub.cons rfl ?_)) (hQ _ _ ⟨decide (c = (37 : Int)), rfl, by rw [b9] <;> rfl, rfl⟩)
          · clear H
            rcases Bool.eq_false_or_eq_true (((((decide ((97 : Int) ≤ c)) && (decide (c ≤ (122 : Int)))) || ((decide ((65 : Int) ≤ c)) && (decide (c ≤ (90 : Int))))) || ((decide ((48 : Int) ≤ c)) && (decide (c ≤ (57 : Int))))) || (decide (c = (33 : Int)))) with b10 | b10
            · refine WL.gno rfl rfl (okb b10) rfl ?_
              refine WL.gno rfl rfl (okb b10) rfl ?_
              refine WL.y rfl (Yld.pickT (okb b10) rfl) ?_
              exact WL.weaken (by repeat (first | exact Sub.nil | refine Sub.cons rfl ?_)) (hQ _ _ ⟨true, rfl, by rw [b10] <;> rfl, rfl⟩)
            · refine WL.gyes rfl rfl (okb b10) rfl (Yld.pure tab_ok rfl) ?_
              refine WL.gyes rfl rfl (okb b10) rfl (Yld.pure tab_ok rfl) ?_
              refine WL.y rfl (Yld.pickF (okb b10) rfl) ?_
              exact WL.weaken (by repeat (first | exact Sub.nil | refine Sub.cons rfl ?_)) (hQ _ _ ⟨decide (c = (35 : Int)), rfl, by rw [b10] <;> rfl, rfl⟩)
        · clear H
          rcases Bool.eq_false_or_eq_true ((((decide ((97 : Int) ≤ c)) && (decide (c ≤ (122 : Int)))) || ((decide ((65 : Int) ≤ c)) && (decide (c ≤ (90 : Int))))) || ((decide ((48 : Int) ≤ c)) && (decide (c ≤ (57 : Int))))) with b11 | b11
          · refine WL.gno rfl rfl (okb b11) rfl ?_
            refine WL.gno rfl rfl (okb b11) rfl ?_
            refine WL.y rfl (Yld.pickT (okb b11) rfl) ?_
            exact WL.weaken (by repeat (first | exact Sub.nil | refine Sub.cons rfl ?_)) (hQ _ _ ⟨true, rfl, by rw [b11] <;> rfl, rfl⟩)
          · refine WL.gyes rfl rfl (okb b11) rfl (Yld.pure tab_ok rfl) ?_
            refine WL.gyes rfl rfl (okb b11) rfl (Yld.pure tab_ok rfl) ?_
            refine WL.y rfl (Yld.pickF (okb b11) rfl) ?_
            exact WL.weaken (by repeat (first | exact Sub.nil | refine Sub.cons rfl ?_)) (hQ _ _ ⟨decide (c = (33 : Int)), rfl, by rw [b11] <;> rfl, rfl⟩)
      · clear H
        rcases Bool.eq_false_or_eq_true (((decide ((97 : Int) ≤ c)) && (decide (c ≤ (122 : Int)))) || ((decide ((65 : Int) ≤ c)) && (decide (c ≤ (90 : Int))))) with b12 | b12
        · refine WL.gno rfl rfl (okb b12) rfl ?_
          refine WL.gno rfl rfl (okb b12) rfl ?_
          refine WL.gno rfl rfl (okb b12) rfl ?_
          refine WL.gun rfl rfl rfl rfl ?_
          refine WL.gun rfl rfl rfl rfl ?_
          refine WL.gno rfl rfl (okb b12) rfl ?_
          refine WL.y rfl (Yld.pickT (okb b12) rfl) ?_
          exact WL.weaken (by repeat (first | exact Sub.nil | refine Sub.cons rfl ?_)) (hQ _ _ ⟨true, rfl, by rw [b12] <;> rfl, rfl⟩)
        · refine WL.gyes rfl rfl (okb b12) rfl (Yld.pure tab_ok rfl) ?_
          refine WL.gyes rfl rfl (okb b12) rfl (Yld.pure tab_ok rfl) ?_
          refine WL.gyes rfl rfl (okb b12) rfl (Yld.pure tab_ok rfl) ?_
          rcases Bool.eq_false_or_eq_true (decide ((48 : Int) ≤ c)) with b13 | b13
          · refine WL.gyes rfl rfl (okb b13) rfl (Yld.pure tab_ok rfl) ?_
            refine WL.gyes rfl rfl (okb b13) rfl (Yld.pure tab_ok rfl) ?_
            refine WL.gyes rfl rfl (okb b12) rfl (Yld.pickT (okb b13) rfl) ?_
            refine WL.y rfl (Yld.pickF (okb b12) rfl) ?_
            exact WL.weaken (by repeat (first | exact Sub.nil | refine Sub.cons rfl ?_)) (hQ _ _ ⟨decide (c ≤ (57 : Int)), rfl, by rw [b12, b13] <;> rfl, rfl⟩)
          · refine WL.gno rfl rfl (okb b13) rfl ?_
            refine WL.gno rfl rfl (okb b13) rfl ?_
            refine WL.gyes rfl rfl (okb b12) rfl (Yld.pickF (okb b13) rfl) ?_
            refine WL.y rfl (Yld.pickF (okb b12) rfl) ?_
            exact WL.weaken (by repeat (first | exact Sub.nil | refine Sub.cons rfl ?_)) (hQ _ _ ⟨false, rfl, by rw [b12, b13] <;> rfl, rfl⟩)
    · clear H
      rcases Bool.eq_false_or_eq_true ((decide ((97 : Int) ≤ c)) && (decide (c ≤ (122 : Int)))) with b14 | b14
      · refine WL.gno rfl rfl (okb b14) rfl ?_
        refine WL.gno rfl rfl (okb b14) rfl ?_
        refine WL.gno rfl rfl (okb b14) rfl ?_
        refine WL.gun rfl rfl rfl rfl ?_
        refine WL.gun rfl rfl rfl rfl ?_
        refine WL.gno rfl rfl (okb b14) rfl ?_
        refine WL.y rfl (Yld.pickT (okb b14) rfl) ?_
        exact WL.weaken (by repeat (first | exact Sub.nil | refine Sub.cons rfl ?_)) (hQ _ _ ⟨true, rfl, by rw [b14] <;> rfl, rfl⟩)
      · refine WL.gyes rfl rfl (okb b14) rfl (Yld.pure tab_ok rfl) ?_
        refine WL.gyes rfl rfl (okb b14) rfl (Yld.pure tab_ok rfl) ?_
        refine WL.gyes rfl rfl (okb b14) rfl (Yld.pure tab_ok rfl) ?_
        rcases Bool.eq_false_or_eq_true (decide ((65 : Int) ≤ c)) with b15 | b15
        · refine WL.gyes rfl rfl (okb b15) rfl (Yld.pure tab_ok rfl) ?_
          refine WL.gyes rfl rfl (okb b15) rfl (Yld.pure tab_ok rfl) ?_
          refine WL.gyes rfl rfl (okb b14) rfl (Yld.pickT (okb b15) rfl) ?_
          refine WL.y rfl (Yld.pickF (okb b14) rfl) ?_
          exact WL.weaken (by repeat (first | exact Sub.nil | refine Sub.cons rfl ?_)) (hQ _ _ ⟨decide (c ≤ (90 : Int)), rfl, by rw [b14, b15] <;> rfl, rfl⟩)
        · refine WL.gno rfl rfl (okb b15) rfl ?_
          refine WL.gno rfl rfl (okb b15) rfl ?_
          refine WL.gyes rfl rfl (okb b14) rfl (Yld.pickF (okb b15) rfl) ?_
          refine WL.y rfl (Yld.pickF (okb b14) rfl) ?_
          exact WL.weaken (by repeat (first | exact Sub.nil | refine Sub.cons rfl ?_)) (hQ _ _ ⟨false, rfl, by rw [b14, b15] <;> rfl, rfl⟩)
  · clear H
    rcases Bool.eq_false_or_eq_true (decide ((97 : Int) ≤ c)) with b16 | b16
    · refine WL.gyes rfl rfl (okb b16) rfl (Yld.pure tab_ok rfl) ?_
      refine WL.gyes rfl rfl (okb b16) rfl (Yld.pure tab_ok rfl) ?_
      refine WL.y rfl (Yld.pickT (okb b16) rfl) ?_
      exact WL.weaken (by repeat (first | exact Sub.nil | refine Sub.cons rfl ?_)) (hQ _ _ ⟨decide (c ≤ (122 : Int)), rfl, by rw [b16] <;> rfl, rfl⟩)
    · refine WL.gno rfl rfl (okb b16) rfl ?_
      refine WL.gno rfl rfl (okb b16) rfl ?_
      refine WL.y rfl (Yld.pickF (okb b16) rfl) ?_
      exact WL.weaken (by repeat (first | exact Sub.nil | refine Sub.cons rfl ?_)) (hQ _ _ ⟨false, rfl, by rw [b16] <;> rfl, rfl⟩)

set_option maxHeartbeats 8000000 in
theorem W_smithyref1_Parts {w : World} {p : List UInt8} {K : (List (List UInt8)) → Prop} (H : M_smithyref1_Parts p K) : Fn Tryd.prog 84 ⟨[vs p]⟩ w (fun v w' => w.grownBy w' none ∧ ∃ (r : List (List UInt8)), ∃ (A_r : Option Addr), ∃ (c_r : Nat), v = .slice A_r r.length c_r ∧ Own vs w' w.heap.size 9 A_r c_r r ∧ K r) := by
  unfold M_smithyref1_Parts at H
  refine Fn.enter (by kernel_rfl) Tryd.func84 rfl Tryd.ntmps84 rfl ?_
  refine WC.seq ?_
  refine WC.region ?_
  refine WL.y rfl (Yld.pure tab_ok rfl) ?_
  refine WL.nil (WX.then_normal ?_)
  refine WC.seq ?_
  refine WC.region ?_
  refine WL.y rfl (Yld.pure tab_ok rfl) ?_
  refine WL.nil (WX.then_normal ?_)
  refine WC.seq ?_
  refine WC.region ?_
  refine WL.y rfl (Yld.pure tab_ok rfl) ?_
  refine WL.nil (WX.then_normal ?_)
  refine WC.seq ?_
  refine WC.seq ?_
  refine WC.region ?_
  refine WL.y rfl (Yld.pure tab_ok rfl) ?_
  refine WL.nil (WX.then_normal ?_)
  refine WC.block ?_
  obtain ⟨I1, mu1, h0_1, HR1⟩ := H
  refine WC.loopF (fun n' L' w' => ∃ (out : List (List UInt8)), ∃ (A_out : Option Addr), ∃ (c_out : Nat), ∃ (n_out : Nat), ∃ (from_ : Int), ∃ (i : Int), n' = mu1 out from_ i ∧ L' = [(0, vs p), (3, .slice A_out n_out c_out), (4, .int .i64 from_), (5, .int .i64 i)] ∧ I1 out from_ i ∧ n_out = out.length ∧ w.grownBy w' none ∧ Own vs w' w.heap.size 9 A_out c_out out) _ _ ⟨[], none, 0, 0, (0 : Int), (0 : Int), rfl, rfl, h0_1, rfl, (gr_refl _ _), (Own.nil vs w w.heap.size 9)⟩ (by repeat (first | exact Sub.nil | refine Sub.cons rfl ?_)) ?_
  clear h0_1
  rintro _ _ w1 ⟨out, A_out, c_out, n_out, from_, i, rfl, rfl, hI1, rfl, gr1, k1⟩
  have H := HR1 out from_ i hI1
  refine WC.seq ?_
  refine WC.seq ?_
  refine WC.region ?_
  refine WL.y rfl (Yld.pure tab_ok rfl) ?_
  refine WL.y rfl (Yld.pure tab_ok rfl) ?_
  refine WL.y rfl (Yld.pure tab_ok rfl) ?_
  refine WL.y rfl (Yld.pure tab_ok rfl) ?_
  refine WL.nil (WX.then_normal ?_)
  refine WC.cond rfl (fun b1 => ?_) (fun b1 => ?_)
  · replace H := H.1 (of_decide_eq_true b1)
    refine WC.skip (WX.then_normal ?_)
    refine WC.seq ?_
    obtain ⟨J1, H, hJ1⟩ := H
    refine WC.midF (fun L' w' => ∃ (out2 : List (List UInt8)), ∃ (A_out2 : Option Addr), ∃ (c_out2 : Nat), ∃ (n_out2 : Nat), ∃ (from_2 : Int), L' = [(0, vs p), (3, .slice A_out2 n_out2 c_out2), (4, .int .i64 from_2), (5, .int .i64 i)] ∧ J1 out2 from_2 ∧ n_out2 = out2.length ∧ w.grownBy w' none ∧ Own vs w' w.heap.size 9 A_out2 c_out2 out2) ?_ (fun hQ => ?_)
    · clear H
      rintro _ w2 ⟨out2, A_out2, c_out2, n_out2, from_2, rfl, H, rfl, gr2, k2⟩
      replace H := hJ1 out2 from_2 H
      refine WX.then_normal ?_
      refine WC.region ?_
      refine WL.y rfl (Yld.pure tab_ok rfl) ?_
      obtain ⟨h1, H⟩ := H
      refine WL.y rfl (Yld.add rfl rfl h1) ?_
      refine WL.y rfl (Yld.pure tab_ok rfl) ?_
      refine WL.nil ?_
      exact WX.roundF _ ⟨out2, A_out2, c_out2, out2.length, from_2, i + (1 : Int), rfl, rfl, H.1, rfl, gr2, k2⟩ (by repeat (first | exact Sub.nil | refine Sub.cons rfl ?_)) H.2
    · clear hJ1
      refine WC.block ?_
      refine WC.seq ?_
      refine WC.region ?_
      refine WL.y rfl (Yld.pure tab_ok rfl) ?_
      refine WL.y rfl (Yld.pure tab_ok rfl) ?_
      refine WL.y rfl (Yld.pure tab_ok rfl) ?_
      refine WL.y rfl (Yld.pure tab_ok rfl) ?_
      refine WL.y rfl (Yld.pure tab_ok rfl) ?_
      obtain ⟨h2, H⟩ := H
      refine WL.midF 5 (fun L' w' => ∃ q1 : Bool, L' = [(21, .bool q1), (0, vs p), (3, .slice A_out out.length c_out), (4, .int .i64 from_), (5, .int .i64 i)] ∧ q1 = ((decide (i = (p.length : Int))) || (decide (((p.getD i.toNat 0).toNat : Int) = (47 : Int)))) ∧ w1 = w') ?_ (fun hQ => ?_)
      · rintro _ _ ⟨q1, rfl, rfl, rfl⟩
        refine WL.nil (WX.then_normal ?_)
        refine WC.cond rfl (fun b2 => ?_) (fun b2 => ?_)
        · replace H := H.1 (b2)
          refine WC.seq ?_
          refine WC.region ?_
          refine WL.y rfl (Yld.pure tab_ok rfl) ?_
          refine WL.y rfl (Yld.pure tab_ok rfl) ?_
          refine WL.y rfl (Yld.pure tab_ok rfl) ?_
          refine WL.y rfl (Yld.pure tab_ok rfl) ?_
          obtain ⟨h3, H⟩ := H
          refine WL.y rfl (Yld.scut tab_ok rfl rfl rfl rfl h3.1 h3.2.1 h3.2.2) ?_
          refine WL.lit tab_ok rfl rfl rfl (all1c rfl all1n) rfl (by omega) (fun g1 w3 hB1 hg1 hl1 => ?_)
          have hO1 : Own vs w3 w.heap.size 9 (some ⟨g1, 0, none⟩) 1 ([(p.drop from_.toNat).take (i.toNat - from_.toNat)] : List (List UInt8)) := Own.ofBl hB1 (Nat.le_trans (size_le gr1) hl1) (by simp [maxLen]) rfl
          have gr3 := gr_trans gr1 hg1
          have k3 := k1.grown hg1
          obtain ⟨h4, H⟩ := H
          refine WL.append tab_ok rfl rfl One.s k3 rfl rfl hO1.rd rfl rfl h4 (applen h4) (size_le gr3) (fun A_out3 c_out3 w4 hO2 hg2 hk1 => ?_)
          have gr4 := gr_mod gr3 hg2 k3.ge'
          refine WL.y rfl (Yld.pure tab_ok rfl) ?_
          refine WL.nil (WX.then_normal ?_)
          refine WC.region ?_
          refine WL.y rfl (Yld.pure tab_ok rfl) ?_
          obtain ⟨h5, H⟩ := H
          refine WL.y rfl (Yld.add rfl rfl h5) ?_
          refine WL.y rfl (Yld.pure tab_ok rfl) ?_
          refine WL.nil (WX.block_normal ?_)
          exact WX.weaken (by repeat (first | exact Sub.nil | refine Sub.cons rfl ?_)) (hQ _ _ ⟨out ++ ([(p.drop from_.toNat).take (i.toNat - from_.toNat)] : List (List UInt8)), A_out3, c_out3, (out ++ ([(p.drop from_.toNat).take (i.toNat - from_.toNat)] : List (List UInt8))).length, i + (1 : Int), rfl, H, rfl, gr4, hO2⟩)
        · replace H := H.2 (b2)
          refine WC.skip (WX.block_normal ?_)
          exact WX.weaken (by repeat (first | exact Sub.nil | refine Sub.cons rfl ?_)) (hQ _ _ ⟨out, A_out, c_out, out.length, from_, rfl, H, rfl, gr1, k1⟩)
      · clear H
        rcases Bool.eq_false_or_eq_true (decide (i = (p.length : Int))) with b3 | b3
        · refine WL.gno rfl rfl (okb b3) rfl ?_
          refine WL.gno rfl rfl (okb b3) rfl ?_
          refine WL.gno rfl rfl (okb b3) rfl ?_
          refine WL.gno rfl rfl (okb b3) rfl ?_
          refine WL.y rfl (Yld.pickT (okb b3) rfl) ?_
          exact WL.weaken (by repeat (first | exact Sub.nil | refine Sub.cons rfl ?_)) (hQ _ _ ⟨true, rfl, by rw [b3] <;> rfl, rfl⟩)
        · refine WL.gyes rfl rfl (okb b3) rfl (Yld.pure tab_ok rfl) ?_
          refine WL.gyes rfl rfl (okb b3) rfl (Yld.pure tab_ok rfl) ?_
          refine WL.gyes rfl rfl (okb b3) rfl (Yld.sidx tab_ok rfl rfl rfl (h2 b3).1 (h2 b3).2) ?_
          refine WL.gyes rfl rfl (okb b3) rfl (Yld.pure tab_ok rfl) ?_
          refine WL.y rfl (Yld.pickF (okb b3) rfl) ?_
          exact WL.weaken (by repeat (first | exact Sub.nil | refine Sub.cons rfl ?_)) (hQ _ _ ⟨decide (((p.getD i.toNat 0).toNat : Int) = (47 : Int)), rfl, by rw [b3] <;> rfl, rfl⟩)
  · replace H := H.2 (of_decide_eq_false b1)
    refine WC.exit (WX.then_exit (WX.then_exit (WX.block_same (WX.then_normal ?_))))
    refine WC.seq ?_
    refine WC.region ?_
    refine WL.y rfl (Yld.pure tab_ok rfl) ?_
    refine WL.y rfl (Yld.pure tab_ok rfl) ?_
    refine WL.nil (WX.then_normal ?_)
    refine WC.ret ?_
    exact WX.ret1 rfl rfl ⟨gr1, out, A_out, c_out, rfl, k1, H⟩

set_option maxHeartbeats 8000000 in
theorem W_smithyref1_glue {w : World} {l : List (List UInt8)} {A_l : Option Addr} {c_l : Nat} {n_l : Nat} {K : (List UInt8) → Prop} (hl : Rd vs w A_l c_l l) (hn_l : n_l = l.length) (H : M_smithyref1_glue l K) : Fn Tryd.prog 86 ⟨[.slice A_l n_l c_l]⟩ w (fun v w' => w = w' ∧ ∃ (r : List UInt8), v = vs r ∧ K r) := by
  subst hn_l
  unfold M_smithyref1_glue at H
  refine Fn.enter (by kernel_rfl) Tryd.func86 rfl Tryd.ntmps86 rfl ?_
  replace H := H (Nat.le_trans hl.cap hl.max)
  refine WC.seq ?_
  refine WC.region ?_
  refine WL.y rfl (Yld.pure tab_ok rfl) ?_
  refine WL.nil (WX.then_normal ?_)
  refine WC.seq ?_
  refine WC.region ?_
  refine WL.y rfl (Yld.pure tab_ok rfl) ?_
  refine WL.nil (WX.then_normal ?_)
  refine WC.seq ?_
  refine WC.seq ?_
  refine WC.region ?_
  refine WL.y rfl (Yld.pure tab_ok rfl) ?_
  refine WL.nil (WX.then_normal ?_)
  refine WC.block ?_
  obtain ⟨I1, mu1, h0_1, HR1⟩ := H
  refine WC.loopF (fun n' L' w' => ∃ (s : List UInt8), ∃ (i : Int), n' = mu1 s i ∧ L' = [(0, .slice A_l l.length c_l), (3, vs s), (4, .int .i64 i)] ∧ I1 s i ∧ w = w') _ _ ⟨([] : List UInt8), (0 : Int), rfl, rfl, h0_1, rfl⟩ (by repeat (first | exact Sub.nil | refine Sub.cons rfl ?_)) ?_
  clear h0_1
  rintro _ _ _ ⟨s, i, rfl, rfl, hI1, rfl⟩
  have H := HR1 s i hI1
  refine WC.seq ?_
  refine WC.seq ?_
  refine WC.region ?_
  refine WL.y rfl (Yld.pure tab_ok rfl) ?_
  refine WL.y rfl (Yld.pure tab_ok rfl) ?_
  refine WL.y rfl (Yld.pure tab_ok rfl) ?_
  refine WL.y rfl (Yld.pure tab_ok rfl) ?_
  refine WL.nil (WX.then_normal ?_)
  refine WC.cond rfl (fun b1 => ?_) (fun b1 => ?_)
  · replace H := H.1 (of_decide_eq_true b1)
    refine WC.skip (WX.then_normal ?_)
    refine WC.seq ?_
    refine WC.block ?_
    refine WC.seq ?_
    obtain ⟨J1, H, hJ1⟩ := H
    refine WC.midF (fun L' w' => ∃ (s2 : List UInt8), L' = [(0, .slice A_l l.length c_l), (3, vs s2), (4, .int .i64 i)] ∧ J1 s2 ∧ w = w') ?_ (fun hQ => ?_)
    · clear H
      rintro _ _ ⟨s2, rfl, H, rfl⟩
      replace H := hJ1 s2 H
      refine WX.then_normal ?_
      refine WC.region ?_
      refine WL.y rfl (Yld.pure tab_ok rfl) ?_
      refine WL.y rfl (Yld.pure tab_ok rfl) ?_
      refine WL.y rfl (Yld.pure tab_ok rfl) ?_
      obtain ⟨h1, H⟩ := H
      refine WL.y rfl (Yld.iaddrW tab_ok hl rfl rfl rfl rfl h1.1 h1.2) ?_
      refine WL.y rfl (Yld.iload [] tab_ok hl rfl rfl (iltN h1 rfl)) ?_
      obtain ⟨h2, H⟩ := H
      refine WL.y rfl (Yld.sadd rfl rfl h2) ?_
      refine WL.y rfl (Yld.pure tab_ok rfl) ?_
      refine WL.nil (WX.block_normal (WX.then_normal ?_))
      refine WC.region ?_
      refine WL.y rfl (Yld.pure tab_ok rfl) ?_
      obtain ⟨h3, H⟩ := H
      refine WL.y rfl (Yld.add rfl rfl h3) ?_
      refine WL.y rfl (Yld.pure tab_ok rfl) ?_
      refine WL.nil ?_
      exact WX.roundF _ ⟨s2 ++ (l.getD i.toNat []), i + (1 : Int), rfl, rfl, H.1, rfl⟩ (by repeat (first | exact Sub.nil | refine Sub.cons rfl ?_)) H.2
    · clear hJ1
      refine WC.seq ?_
      refine WC.region ?_
      refine WL.y rfl (Yld.pure tab_ok rfl) ?_
      refine WL.y rfl (Yld.pure tab_ok rfl) ?_
      refine WL.nil (WX.then_normal ?_)
      refine WC.cond rfl (fun b2 => ?_) (fun b2 => ?_)
      · replace H := H.1 (of_decide_eq_true b2)
        refine WC.region ?_
        refine WL.y rfl (Yld.pure tab_ok rfl) ?_
        obtain ⟨h4, H⟩ := H
        refine WL.y rfl (Yld.sadd rfl rfl h4) ?_
        refine WL.y rfl (Yld.pure tab_ok rfl) ?_
        refine WL.nil ?_
        exact WX.weaken (by repeat (first | exact Sub.nil | refine Sub.cons rfl ?_)) (hQ _ _ ⟨s ++ ([47] : List UInt8), rfl, H, rfl⟩)
      · replace H := H.2 (of_decide_eq_false b2)
        refine WC.skip ?_
        exact WX.weaken (by repeat (first | exact Sub.nil | refine Sub.cons rfl ?_)) (hQ _ _ ⟨s, rfl, H, rfl⟩)
  · replace H := H.2 (of_decide_eq_false b1)
    refine WC.exit (WX.then_exit (WX.then_exit (WX.block_same (WX.then_normal ?_))))
    refine WC.seq ?_
    refine WC.region ?_
    refine WL.y rfl (Yld.pure tab_ok rfl) ?_
    refine WL.y rfl (Yld.pure tab_ok rfl) ?_
    refine WL.nil (WX.then_normal ?_)
    refine WC.ret ?_
    exact WX.ret1 rfl rfl ⟨rfl, s, rfl, H⟩

set_option maxHeartbeats 8000000 in
theorem W_smithyref1_part {w : World} {s : List UInt8} {star : Bool} {K : Bool → Prop} (H : M_smithyref1_part s star K) : Fn Tryd.prog 85 ⟨[vs s, .bool star]⟩ w (fun v w' => w = w' ∧ ∃ (r : Bool), v = .bool r ∧ K r) := by
  unfold M_smithyref1_part at H
  refine Fn.enter (by kernel_rfl) Tryd.func85 rfl Tryd.ntmps85 rfl ?_
  refine WC.seq ?_
  refine WC.region ?_
  refine WL.y rfl (Yld.pure tab_ok rfl) ?_
  refine WL.nil (WX.then_normal ?_)
  refine WC.seq ?_
  refine WC.seq ?_
  refine WC.region ?_
  refine WL.y rfl (Yld.pure tab_ok rfl) ?_
  refine WL.nil (WX.then_normal ?_)
  refine WC.block ?_
  obtain ⟨I1, mu1, h0_1, HR1⟩ := H
  refine WC.loopF (fun n' L' w' => ∃ (i : Int), n' = mu1 i ∧ L' = [(0, vs s), (1, .bool star), (5, .int .i64 i)] ∧ I1 i ∧ w = w') _ _ ⟨(0 : Int), rfl, rfl, h0_1, rfl⟩ (by repeat (first | exact Sub.nil | refine Sub.cons rfl ?_)) ?_
  clear h0_1
  rintro _ _ _ ⟨i, rfl, rfl, hI1, rfl⟩
  have H := HR1 i hI1
  refine WC.seq ?_
  refine WC.seq ?_
  refine WC.region ?_
  refine WL.y rfl (Yld.pure tab_ok rfl) ?_
  refine WL.y rfl (Yld.pure tab_ok rfl) ?_
  refine WL.y rfl (Yld.pure tab_ok rfl) ?_
  refine WL.y rfl (Yld.pure tab_ok rfl) ?_
  refine WL.nil (WX.then_normal ?_)
  refine WC.cond rfl (fun b1 => ?_) (fun b1 => ?_)
  · replace H := H.1 (of_decide_eq_true b1)
    refine WC.skip (WX.then_normal ?_)
    refine WC.seq ?_
    refine WC.block ?_
    refine WC.seq ?_
    refine WC.region ?_
    refine WL.y rfl (Yld.pure tab_ok rfl) ?_
    refine WL.y rfl (Yld.pure tab_ok rfl) ?_
    obtain ⟨h1, H⟩ := H
    refine WL.y rfl (Yld.sidx tab_ok rfl rfl rfl h1.1 h1.2) ?_
    refine WL.call rfl rfl (W_smithyref1_letter H) ?_
    rintro _ _ ⟨rfl, t15, rfl, H⟩
    refine WL.y rfl (Yld.pure tab_ok rfl) ?_
    refine WL.y rfl (Yld.pure tab_ok rfl) ?_
    obtain ⟨h2, H⟩ := H
    refine WL.midF 9 (fun L' w' => ∃ q1 : Bool, L' = [(26, .bool q1), (0, vs s), (1, .bool star), (5, .int .i64 i)] ∧ q1 = ((!t15) && (!(star && (decide (((s.getD i.toNat 0).toNat : Int) = (42 : Int)))))) ∧ w = w') ?_ (fun hQ => ?_)
    · rintro _ _ ⟨q1, rfl, rfl, rfl⟩
      refine WL.nil (WX.then_normal ?_)
      refine WC.cond rfl (fun b2 => ?_) (fun b2 => ?_)
      · replace H := H.1 (b2)
        refine WC.seq ?_
        refine WC.region ?_
        refine WL.y rfl (Yld.pure tab_ok rfl) ?_
        refine WL.nil (WX.then_normal ?_)
        refine WC.ret (WX.block_ret (WX.then_ret (WX.then_ret (WX.block_ret (WX.then_ret ?_)))))
        exact WX.ret1 rfl rfl ⟨rfl, false, rfl, H⟩
      · replace H := H.2 (b2)
        refine WC.skip (WX.block_normal (WX.then_normal ?_))
        refine WC.region ?_
        refine WL.y rfl (Yld.pure tab_ok rfl) ?_
        obtain ⟨h3, H⟩ := H
        refine WL.y rfl (Yld.add rfl rfl h3) ?_
        refine WL.y rfl (Yld.pure tab_ok rfl) ?_
        refine WL.nil ?_
        exact WX.roundF _ ⟨i + (1 : Int), rfl, rfl, H.1, rfl⟩ (by repeat (first | exact Sub.nil | refine Sub.cons rfl ?_)) H.2
    · clear H
      rcases Bool.eq_false_or_eq_true (!t15) with b3 | b3
      · refine WL.gyes rfl rfl (okb b3) rfl (Yld.pure tab_ok rfl) ?_
        refine WL.gyes rfl rfl (okb b3) rfl (Yld.pure tab_ok rfl) ?_
        rcases Bool.eq_false_or_eq_true (star) with b4 | b4
        · refine WL.gyes rfl rfl (okb b4) rfl (Yld.pure tab_ok rfl) ?_
          refine WL.gyes rfl rfl (okb b4) rfl (Yld.pure tab_ok rfl) ?_
          refine WL.gyes rfl rfl (okb b4) rfl (Yld.sidx tab_ok rfl rfl rfl (h2 b3 b4).1 (h2 b3 b4).2) ?_
          refine WL.gyes rfl rfl (okb b4) rfl (Yld.pure tab_ok rfl) ?_
          refine WL.gyes rfl rfl (okb b3) rfl (Yld.pickT (okb b4) rfl) ?_
          refine WL.gyes rfl rfl (okb b3) rfl (Yld.pure tab_ok rfl) ?_
          refine WL.y rfl (Yld.pickT (okb b3) rfl) ?_
          exact WL.weaken (by repeat (first | exact Sub.nil | refine Sub.cons rfl ?_)) (hQ _ _ ⟨!decide (((s.getD i.toNat 0).toNat : Int) = (42 : Int)), rfl, by rw [b3, b4] <;> rfl, rfl⟩)
        · refine WL.gno rfl rfl (okb b4) rfl ?_
          refine WL.gno rfl rfl (okb b4) rfl ?_
          refine WL.gno rfl rfl (okb b4) rfl ?_
          refine WL.gno rfl rfl (okb b4) rfl ?_
          refine WL.gyes rfl rfl (okb b3) rfl (Yld.pickF (okb b4) rfl) ?_
          refine WL.gyes rfl rfl (okb b3) rfl (Yld.pure tab_ok rfl) ?_
          refine WL.y rfl (Yld.pickT (okb b3) rfl) ?_
          exact WL.weaken (by repeat (first | exact Sub.nil | refine Sub.cons rfl ?_)) (hQ _ _ ⟨true, rfl, by rw [b3, b4] <;> rfl, rfl⟩)
      · refine WL.gno rfl rfl (okb b3) rfl ?_
        refine WL.gno rfl rfl (okb b3) rfl ?_
        refine WL.gun rfl rfl rfl rfl ?_
        refine WL.gun rfl rfl rfl rfl ?_
        refine WL.gun rfl rfl rfl rfl ?_
        refine WL.gun rfl rfl rfl rfl ?_
        refine WL.gno rfl rfl (okb b3) rfl ?_
        refine WL.gno rfl rfl (okb b3) rfl ?_
        refine WL.y rfl (Yld.pickF (okb b3) rfl) ?_
        exact WL.weaken (by repeat (first | exact Sub.nil | refine Sub.cons rfl ?_)) (hQ _ _ ⟨false, rfl, by rw [b3] <;> rfl, rfl⟩)
  · replace H := H.2 (of_decide_eq_false b1)
    refine WC.exit (WX.then_exit (WX.then_exit (WX.block_same (WX.then_normal ?_))))
    refine WC.seq ?_
    refine WC.region ?_
    refine WL.y rfl (Yld.pure tab_ok rfl) ?_
    refine WL.y rfl (Yld.pure tab_ok rfl) ?_
    refine WL.y rfl (Yld.pure tab_ok rfl) ?_
    refine WL.midF 3 (fun L' w' => ∃ q2 : Bool, L' = [(32, .bool q2), (0, vs s)] ∧ q2 = ((!decide (s = ([] : List UInt8))) && (!decide (s = ([46] : List UInt8)))) ∧ w = w') ?_ (fun hQ => ?_)
    · rintro _ _ ⟨q2, rfl, rfl, rfl⟩
      refine WL.y rfl (Yld.pure tab_ok rfl) ?_
      refine WL.midF 3 (fun L' w' => ∃ q3 : Bool, L' = [(36, .bool q3)] ∧ q3 = (((!decide (s = ([] : List UInt8))) && (!decide (s = ([46] : List UInt8)))) && (!decide (s = ([46, 46] : List UInt8)))) ∧ w = w') ?_ (fun hQ => ?_)
      · rintro _ _ ⟨q3, rfl, rfl, rfl⟩
        refine WL.y rfl (Yld.pure tab_ok rfl) ?_
        refine WL.nil (WX.then_normal ?_)
        refine WC.ret ?_
        exact WX.ret1 rfl rfl ⟨rfl, ((!decide (s = ([] : List UInt8))) && (!decide (s = ([46] : List UInt8)))) && (!decide (s = ([46, 46] : List UInt8))), rfl, H⟩
      · clear H
        rcases Bool.eq_false_or_eq_true ((!decide (s = ([] : List UInt8))) && (!decide (s = ([46] : List UInt8)))) with b5 | b5
        · refine WL.gyes rfl rfl (okb b5) rfl (Yld.pure tab_ok rfl) ?_
          refine WL.gyes rfl rfl (okb b5) rfl (Yld.pure tab_ok rfl) ?_
          refine WL.y rfl (Yld.pickT (okb b5) rfl) ?_
          exact WL.weaken (by repeat (first | exact Sub.nil | refine Sub.cons rfl ?_)) (hQ _ _ ⟨!decide (s = ([46, 46] : List UInt8)), rfl, by rw [b5] <;> rfl, rfl⟩)
        · refine WL.gno rfl rfl (okb b5) rfl ?_
          refine WL.gno rfl rfl (okb b5) rfl ?_
          refine WL.y rfl (Yld.pickF (okb b5) rfl) ?_
          exact WL.weaken (by repeat (first | exact Sub.nil | refine Sub.cons rfl ?_)) (hQ _ _ ⟨false, rfl, by rw [b5] <;> rfl, rfl⟩)
    · clear H
      rcases Bool.eq_false_or_eq_true (!decide (s = ([] : List UInt8))) with b6 | b6
      · refine WL.gyes rfl rfl (okb b6) rfl (Yld.pure tab_ok rfl) ?_
        refine WL.gyes rfl rfl (okb b6) rfl (Yld.pure tab_ok rfl) ?_
        refine WL.y rfl (Yld.pickT (okb b6) rfl) ?_
        exact WL.weaken (by repeat (first | exact Sub.nil | refine Sub.cons rfl ?_)) (hQ _ _ ⟨!decide (s = ([46] : List UInt8)), rfl, by rw [b6] <;> rfl, rfl⟩)
      · refine WL.gno rfl rfl (okb b6) rfl ?_
        refine WL.gno rfl rfl (okb b6) rfl ?_
        refine WL.y rfl (Yld.pickF (okb b6) rfl) ?_
        exact WL.weaken (by repeat (first | exact Sub.nil | refine Sub.cons rfl ?_)) (hQ _ _ ⟨false, rfl, by rw [b6] <;> rfl, rfl⟩)

set_option maxHeartbeats 8000000 in
theorem W_smithyref1_Clean {w : World} {p : List UInt8} {K : (List UInt8) → Bool → Prop} (H : M_smithyref1_Clean p K) : Fn Tryd.prog 44 ⟨[vs p]⟩ w (fun v w' => w.grownBy w' none ∧ ∃ (r0 : List UInt8), ∃ (r1 : Bool), v = .tuple #[vs r0, .bool r1] ∧ K r0 r1) := by
  unfold M_smithyref1_Clean at H
  refine Fn.enter (by kernel_rfl) Tryd.func44 rfl Tryd.ntmps44 rfl ?_
  refine WC.seq ?_
  refine WC.region ?_
  refine WL.y rfl (Yld.pure tab_ok rfl) ?_
  refine WL.y rfl (Yld.pure tab_ok rfl) ?_
  refine WL.nil (WX.then_normal ?_)
  refine WC.seq ?_
  refine WC.region ?_
  refine WL.y rfl (Yld.pure tab_ok rfl) ?_
  refine WL.nil (WX.then_normal ?_)
  refine WC.seq ?_
  refine WC.region ?_
  refine WL.y rfl (Yld.pure tab_ok rfl) ?_
  refine WL.call rfl rfl (W_smithyref1_Parts H) ?_
  rintro _ w1 ⟨hg1, parts, A_parts, c_parts, rfl, hparts, H⟩
  have hb1 := hparts.ge'
  have k1 := hparts.base (fun g hg => Nat.le_trans (Nat.le_refl _) (hb1 g hg))
  have gr1 := hg1
  refine WL.y rfl (Yld.pure tab_ok rfl) ?_
  refine WL.nil (WX.then_normal ?_)
  refine WC.seq ?_
  refine WC.seq ?_
  refine WC.region ?_
  refine WL.y rfl (Yld.pure tab_ok rfl) ?_
  refine WL.nil (WX.then_normal ?_)
  refine WC.block ?_
  obtain ⟨I1, mu1, h0_1, HR1⟩ := H
  refine WC.loopF (fun n' L' w' => ∃ (l : List (List UInt8)), ∃ (A_l : Option Addr), ∃ (c_l : Nat), ∃ (n_l : Nat), ∃ (i : Int), n' = mu1 l i ∧ L' = [(4, .slice A_l n_l c_l), (5, .slice A_parts parts.length c_parts), (6, .int .i64 i)] ∧ I1 l i ∧ n_l = l.length ∧ w.grownBy w' none ∧ Own vs w' w.heap.size 9 A_parts c_parts parts ∧ Own vs w' w.heap.size 9 A_l c_l l ∧ Dj (blk A_parts) (blk A_l)) _ _ ⟨[], none, 0, 0, (0 : Int), rfl, rfl, h0_1, rfl, gr1, k1, (Own.nil vs w1 w.heap.size 9), Dj.nr⟩ (by repeat (first | exact Sub.nil | refine Sub.cons rfl ?_)) ?_
  clear h0_1
  rintro _ _ w2 ⟨l, A_l, c_l, n_l, i, rfl, rfl, hI1, rfl, gr2, k2, k3, dj1⟩
  have H := HR1 l i hI1
  refine WC.seq ?_
  refine WC.seq ?_
  refine WC.region ?_
  refine WL.y rfl (Yld.pure tab_ok rfl) ?_
  refine WL.y rfl (Yld.pure tab_ok rfl) ?_
  refine WL.y rfl (Yld.pure tab_ok rfl) ?_
  refine WL.y rfl (Yld.pure tab_ok rfl) ?_
  refine WL.nil (WX.then_normal ?_)
  refine WC.cond rfl (fun b1 => ?_) (fun b1 => ?_)
  · replace H := H.1 (of_decide_eq_true b1)
    refine WC.skip (WX.then_normal ?_)
    refine WC.seq ?_
    obtain ⟨J1, H, hJ1⟩ := H
    refine WC.midF (fun L' w' => ∃ (l2 : List (List UInt8)), ∃ (A_l2 : Option Addr), ∃ (c_l2 : Nat), ∃ (n_l2 : Nat), L' = [(4, .slice A_l2 n_l2 c_l2), (5, .slice A_parts parts.length c_parts), (6, .int .i64 i)] ∧ J1 l2 ∧ n_l2 = l2.length ∧ w.grownBy w' none ∧ Own vs w' w.heap.size 9 A_parts c_parts parts ∧ Own vs w' w.heap.size 9 A_l2 c_l2 l2 ∧ Dj (blk A_parts) (blk A_l2)) ?_ (fun hQ => ?_)
    · clear H
      rintro _ w3 ⟨l2, A_l2, c_l2, n_l2, rfl, H, rfl, gr3, k4, k5, dj2⟩
      replace H := hJ1 l2 H
      refine WX.then_normal ?_
      refine WC.region ?_
      refine WL.y rfl (Yld.pure tab_ok rfl) ?_
      obtain ⟨h1, H⟩ := H
      refine WL.y rfl (Yld.add rfl rfl h1) ?_
      refine WL.y rfl (Yld.pure tab_ok rfl) ?_
      refine WL.nil ?_
      exact WX.roundF _ ⟨l2, A_l2, c_l2, l2.length, i + (1 : Int), rfl, rfl, H.1, rfl, gr3, k4, k5, dj2⟩ (by repeat (first | exact Sub.nil | refine Sub.cons rfl ?_)) H.2
    · clear hJ1
      refine WC.block ?_
      refine WC.block ?_
      refine WC.seq ?_
      refine WC.region ?_
      refine WL.y rfl (Yld.pure tab_ok rfl) ?_
      refine WL.y rfl (Yld.pure tab_ok rfl) ?_
      obtain ⟨h2, H⟩ := H
      refine WL.y rfl (Yld.iaddrW tab_ok k2.rd rfl rfl rfl rfl h2.1 h2.2) ?_
      refine WL.y rfl (Yld.iload [] tab_ok k2.rd rfl rfl (iltN h2 rfl)) ?_
      refine WL.y rfl (Yld.pure tab_ok rfl) ?_
      refine WL.y rfl (Yld.pure tab_ok rfl) ?_
      obtain ⟨h3, H⟩ := H
      refine WL.midF 6 (fun L' w' => ∃ q1 : Bool, L' = [(35, .bool q1), (4, .slice A_l l.length c_l), (5, .slice A_parts parts.length c_parts), (6, .int .i64 i)] ∧ q1 = ((decide ((parts.getD i.toNat []) = ([] : List UInt8))) || (decide ((parts.getD i.toNat []) = ([46] : List UInt8)))) ∧ w2 = w') ?_ (fun hQ => ?_)
      · rintro _ _ ⟨q1, rfl, rfl, rfl⟩
        refine WL.y rfl (Yld.pure tab_ok rfl) ?_
        refine WL.nil (WX.then_normal ?_)
        refine WC.cond rfl (fun b2 => ?_) (fun b2 => ?_)
        · replace H := H.1 (b2)
          refine WC.skip (WX.block_normal (WX.block_normal ?_))
          exact WX.weaken (by repeat (first | exact Sub.nil | refine Sub.cons rfl ?_)) (hQ _ _ ⟨l, A_l, c_l, l.length, rfl, H, rfl, gr2, k2, k3, dj1⟩)
        · replace H := H.2 (b2)
          refine WC.seq ?_
          refine WC.region ?_
          refine WL.y rfl (Yld.pure tab_ok rfl) ?_
          refine WL.y rfl (Yld.pure tab_ok rfl) ?_
          obtain ⟨h4, H⟩ := H
          refine WL.y rfl (Yld.iaddrW tab_ok k2.rd rfl rfl rfl rfl h4.1 h4.2) ?_
          refine WL.y rfl (Yld.iload [] tab_ok k2.rd rfl rfl (iltN h4 rfl)) ?_
          refine WL.y rfl (Yld.pure tab_ok rfl) ?_
          refine WL.y rfl (Yld.pure tab_ok rfl) ?_
          refine WL.nil (WX.then_normal ?_)
          refine WC.cond rfl (fun b3 => ?_) (fun b3 => ?_)
          · replace H := H.1 (of_decide_eq_true b3)
            refine WC.seq ?_
            refine WC.seq ?_
            refine WC.region ?_
            refine WL.y rfl (Yld.pure tab_ok rfl) ?_
            refine WL.y rfl (Yld.pure tab_ok rfl) ?_
            refine WL.y rfl (Yld.pure tab_ok rfl) ?_
            refine WL.nil (WX.then_normal ?_)
            refine WC.cond rfl (fun b4 => ?_) (fun b4 => ?_)
            · replace H := H.1 (of_decide_eq_true b4)
              refine WC.seq ?_
              refine WC.region ?_
              refine WL.y rfl (Yld.pure tab_ok rfl) ?_
              refine WL.y rfl (Yld.pure tab_ok rfl) ?_
              refine WL.nil (WX.then_normal ?_)
              refine WC.ret (WX.then_ret (WX.block_ret (WX.block_ret (WX.then_ret (WX.then_ret (WX.block_ret (WX.then_ret ?_)))))))
              exact WX.ret2 rfl rfl rfl ⟨gr2, ([] : List UInt8), false, rfl, H⟩
            · replace H := H.2 (of_decide_eq_false b4)
              refine WC.skip (WX.then_normal ?_)
              refine WC.region ?_
              refine WL.y rfl (Yld.pure tab_ok rfl) ?_
              refine WL.y rfl (Yld.pure tab_ok rfl) ?_
              refine WL.y rfl (Yld.pure tab_ok rfl) ?_
              obtain ⟨h5, H⟩ := H
              refine WL.y rfl (Yld.sub rfl rfl h5) ?_
              obtain ⟨h6, H⟩ := H
              refine WL.ocut tab_ok rfl rfl k3 rfl rfl rfl rfl h6.1 h6.2 (fun hO1 => ?_)
              refine WL.y rfl (Yld.pure tab_ok rfl) ?_
              refine WL.nil (WX.block_normal (WX.block_normal ?_))
              exact WX.weaken (by repeat (first | exact Sub.nil | refine Sub.cons rfl ?_)) (hQ _ _ ⟨l.take ((l.length : Int) - (1 : Int)).toNat, A_l, c_l, (l.take ((l.length : Int) - (1 : Int)).toNat).length, rfl, H, rfl, gr2, k2, hO1, dj1⟩)
          · replace H := H.2 (of_decide_eq_false b3)
            refine WC.seq ?_
            refine WC.region ?_
            refine WL.y rfl (Yld.pure tab_ok rfl) ?_
            refine WL.y rfl (Yld.pure tab_ok rfl) ?_
            obtain ⟨h7, H⟩ := H
            refine WL.y rfl (Yld.iaddrW tab_ok k2.rd rfl rfl rfl rfl h7.1 h7.2) ?_
            refine WL.y rfl (Yld.iload [] tab_ok k2.rd rfl rfl (iltN h7 rfl)) ?_
            refine WL.call rfl rfl (W_smithyref1_part H) ?_
            rintro _ _ ⟨rfl, t55, rfl, H⟩
            refine WL.y rfl (Yld.pure tab_ok rfl) ?_
            refine WL.y rfl (Yld.pure tab_ok rfl) ?_
            refine WL.nil (WX.then_normal ?_)
            refine WC.cond rfl (fun b5 => ?_) (fun b5 => ?_)
            · replace H := H.1 (b5)
              refine WC.seq ?_
              refine WC.region ?_
              refine WL.y rfl (Yld.pure tab_ok rfl) ?_
              refine WL.y rfl (Yld.pure tab_ok rfl) ?_
              refine WL.nil (WX.then_normal ?_)
              refine WC.ret (WX.block_ret (WX.block_ret (WX.then_ret (WX.then_ret (WX.block_ret (WX.then_ret ?_))))))
              exact WX.ret2 rfl rfl rfl ⟨gr2, ([] : List UInt8), false, rfl, H⟩
            · replace H := H.2 (b5)
              refine WC.region ?_
              refine WL.y rfl (Yld.pure tab_ok rfl) ?_
              refine WL.y rfl (Yld.pure tab_ok rfl) ?_
              refine WL.y rfl (Yld.pure tab_ok rfl) ?_
              obtain ⟨h8, H⟩ := H
              refine WL.y rfl (Yld.iaddrW tab_ok k2.rd rfl rfl rfl rfl h8.1 h8.2) ?_
              refine WL.y rfl (Yld.iload [] tab_ok k2.rd rfl rfl (iltN h8 rfl)) ?_
              refine WL.lit tab_ok rfl rfl rfl (all1c rfl all1n) rfl (by omega) (fun g1 w4 hB1 hg2 hl1 => ?_)
              have hO2 : Own vs w4 w.heap.size 9 (some ⟨g1, 0, none⟩) 1 ([parts.getD i.toNat []] : List (List UInt8)) := Own.ofBl hB1 (Nat.le_trans (size_le gr2) hl1) (by simp [maxLen]) rfl
              have gr4 := gr_trans gr2 hg2
              have k6 := k2.grown hg2
              have k7 := k3.grown hg2
              obtain ⟨h9, H⟩ := H
              refine WL.append tab_ok rfl rfl One.s k7 rfl rfl hO2.rd rfl rfl h9 (applen h9) (size_le gr4) (fun A_l3 c_l3 w5 hO3 hg3 hk1 => ?_)
              have gr5 := gr_mod gr4 hg3 k7.ge'
              have k8 := k6.go hg3 dj1
              refine WL.y rfl (Yld.pure tab_ok rfl) ?_
              refine WL.nil (WX.block_normal (WX.block_normal ?_))
              exact WX.weaken (by repeat (first | exact Sub.nil | refine Sub.cons rfl ?_)) (hQ _ _ ⟨l ++ ([parts.getD i.toNat []] : List (List UInt8)), A_l3, c_l3, (l ++ ([parts.getD i.toNat []] : List (List UInt8))).length, rfl, H, rfl, gr5, k8, hO3, (Dj.app dj1.symm k6.lt' hk1).symm⟩)
      · clear H
        rcases Bool.eq_false_or_eq_true (decide ((parts.getD i.toNat []) = ([] : List UInt8))) with b6 | b6
        · refine WL.gno rfl rfl (okb b6) rfl ?_
          refine WL.gno rfl rfl (okb b6) rfl ?_
          refine WL.gno rfl rfl (okb b6) rfl ?_
          refine WL.gno rfl rfl (okb b6) rfl ?_
          refine WL.gno rfl rfl (okb b6) rfl ?_
          refine WL.y rfl (Yld.pickT (okb b6) rfl) ?_
          exact WL.weaken (by repeat (first | exact Sub.nil | refine Sub.cons rfl ?_)) (hQ _ _ ⟨true, rfl, by rw [b6] <;> rfl, rfl⟩)
        · refine WL.gyes rfl rfl (okb b6) rfl (Yld.pure tab_ok rfl) ?_
          refine WL.gyes rfl rfl (okb b6) rfl (Yld.pure tab_ok rfl) ?_
          refine WL.gyes rfl rfl (okb b6) rfl (Yld.iaddrW tab_ok k2.rd rfl rfl rfl rfl (h3 b6).1 (h3 b6).2) ?_
          refine WL.gyes rfl rfl (okb b6) rfl (Yld.iload [] tab_ok k2.rd rfl rfl (iltN (h3 b6) rfl)) ?_
          refine WL.gyes rfl rfl (okb b6) rfl (Yld.pure tab_ok rfl) ?_
          refine WL.y rfl (Yld.pickF (okb b6) rfl) ?_
          exact WL.weaken (by repeat (first | exact Sub.nil | refine Sub.cons rfl ?_)) (hQ _ _ ⟨decide ((parts.getD i.toNat []) = ([46] : List UInt8)), rfl, by rw [b6] <;> rfl, rfl⟩)
  · replace H := H.2 (of_decide_eq_false b1)
    refine WC.exit (WX.then_exit (WX.then_exit (WX.block_same (WX.then_normal ?_))))
    refine WC.seq ?_
    refine WC.region ?_
    refine WL.y rfl (Yld.pure tab_ok rfl) ?_
    refine WL.call rfl rfl (W_smithyref1_glue k3.rd rfl H) ?_
    rintro _ _ ⟨rfl, s, rfl, H⟩
    refine WL.y rfl (Yld.pure tab_ok rfl) ?_
    refine WL.nil (WX.then_normal ?_)
    refine WC.seq ?_
    refine WC.seq ?_
    refine WC.region ?_
    refine WL.y rfl (Yld.pure tab_ok rfl) ?_
    refine WL.y rfl (Yld.pure tab_ok rfl) ?_
    refine WL.y rfl (Yld.pure tab_ok rfl) ?_
    refine WL.nil (WX.then_normal ?_)
    refine WC.cond rfl (fun b7 => ?_) (fun b7 => ?_)
    · replace H := H.1 (of_decide_eq_true b7)
      refine WC.seq ?_
      refine WC.region ?_
      refine WL.y rfl (Yld.pure tab_ok rfl) ?_
      refine WL.y rfl (Yld.pure tab_ok rfl) ?_
      refine WL.nil (WX.then_normal ?_)
      refine WC.ret (WX.then_ret ?_)
      exact WX.ret2 rfl rfl rfl ⟨gr2, ([] : List UInt8), false, rfl, H⟩
    · replace H := H.2 (of_decide_eq_false b7)
      refine WC.skip (WX.then_normal ?_)
      refine WC.seq ?_
      refine WC.region ?_
      refine WL.y rfl (Yld.pure tab_ok rfl) ?_
      refine WL.y rfl (Yld.pure tab_ok rfl) ?_
      refine WL.y rfl (Yld.pure tab_ok rfl) ?_
      refine WL.nil (WX.then_normal ?_)
      refine WC.ret ?_
      exact WX.ret2 rfl rfl rfl ⟨gr2, s, true, rfl, H⟩

set_option maxHeartbeats 8000000 in
theorem W_smithyref1_Join {w : World} {l : List (List UInt8)} {A_l : Option Addr} {c_l : Nat} {n_l : Nat} {K : (List UInt8) → Bool → Prop} (hl : Rd vs w A_l c_l l) (hn_l : n_l = l.length) (H : M_smithyref1_Join l K) : Fn Tryd.prog 46 ⟨[.slice A_l n_l c_l]⟩ w (fun v w' => w.grownBy w' none ∧ ∃ (r0 : List UInt8), ∃ (r1 : Bool), v = .tuple #[vs r0, .bool r1] ∧ K r0 r1) := by
  subst hn_l
  unfold M_smithyref1_Join at H
  refine Fn.enter (by kernel_rfl) Tryd.func46 rfl Tryd.ntmps46 rfl ?_
  replace H := H (Nat.le_trans hl.cap hl.max)
  refine WC.seq ?_
  refine WC.region ?_
  refine WL.y rfl (Yld.pure tab_ok rfl) ?_
  refine WL.y rfl (Yld.pure tab_ok rfl) ?_
  refine WL.nil (WX.then_normal ?_)
  refine WC.seq ?_
  refine WC.region ?_
  refine WL.y rfl (Yld.pure tab_ok rfl) ?_
  refine WL.call rfl rfl (W_smithyref1_glue hl rfl H) ?_
  rintro _ _ ⟨rfl, t5, rfl, H⟩
  refine WL.call rfl rfl (W_smithyref1_Clean H) ?_
  rintro _ w1 ⟨hg1, t60, t61, rfl, H⟩
  have gr1 := hg1
  refine WL.y rfl (Yld.pure tab_ok rfl) ?_
  refine WL.y rfl (Yld.pure tab_ok rfl) ?_
  refine WL.y rfl (Yld.pure tab_ok rfl) ?_
  refine WL.y rfl (Yld.pure tab_ok rfl) ?_
  refine WL.nil (WX.then_normal ?_)
  refine WC.ret ?_
  exact WX.ret2 rfl rfl rfl ⟨gr1, t60, t61, rfl, H⟩

set_option maxHeartbeats 8000000 in
theorem W_smithyref1_Valid {w : World} {p : List UInt8} {K : Bool → Prop} (H : M_smithyref1_Valid p K) : Fn Tryd.prog 49 ⟨[vs p]⟩ w (fun v w' => w.grownBy w' none ∧ ∃ (r : Bool), v = .bool r ∧ K r) := by
  unfold M_smithyref1_Valid at H
  refine Fn.enter (by kernel_rfl) Tryd.func49 rfl Tryd.ntmps49 rfl ?_
  refine WC.seq ?_
  refine WC.region ?_
  refine WL.y rfl (Yld.pure tab_ok rfl) ?_
  refine WL.nil (WX.then_normal ?_)
  refine WC.seq ?_
  refine WC.region ?_
  refine WL.y rfl (Yld.pure tab_ok rfl) ?_
  refine WL.call rfl rfl (W_smithyref1_Clean H) ?_
  rintro _ w1 ⟨hg1, t70, t71, rfl, H⟩
  have gr1 := hg1
  refine WL.y rfl (Yld.pure tab_ok rfl) ?_
  refine WL.y rfl (Yld.pure tab_ok rfl) ?_
  refine WL.y rfl (Yld.pure tab_ok rfl) ?_
  refine WL.y rfl (Yld.pure tab_ok rfl) ?_
  refine WL.y rfl (Yld.pure tab_ok rfl) ?_
  refine WL.nil (WX.then_normal ?_)
  refine WC.seq ?_
  refine WC.region ?_
  refine WL.y rfl (Yld.pure tab_ok rfl) ?_
  refine WL.y rfl (Yld.pure tab_ok rfl) ?_
  refine WL.midF 4 (fun L' w' => ∃ q1 : Bool, L' = [(15, .bool q1), (0, vs p)] ∧ q1 = (t71 && (decide (t70 = p))) ∧ w1 = w') ?_ (fun hQ => ?_)
  · rintro _ _ ⟨q1, rfl, rfl, rfl⟩
    refine WL.y rfl (Yld.pure tab_ok rfl) ?_
    refine WL.midF 3 (fun L' w' => ∃ q2 : Bool, L' = [(19, .bool q2)] ∧ q2 = ((t71 && (decide (t70 = p))) && (!decide (p = ([] : List UInt8)))) ∧ w1 = w') ?_ (fun hQ => ?_)
    · rintro _ _ ⟨q2, rfl, rfl, rfl⟩
      refine WL.y rfl (Yld.pure tab_ok rfl) ?_
      refine WL.nil (WX.then_normal ?_)
      refine WC.ret ?_
      exact WX.ret1 rfl rfl ⟨gr1, (t71 && (decide (t70 = p))) && (!decide (p = ([] : List UInt8))), rfl, H⟩
    · clear H
      rcases Bool.eq_false_or_eq_true (t71 && (decide (t70 = p))) with b1 | b1
      · refine WL.gyes rfl rfl (okb b1) rfl (Yld.pure tab_ok rfl) ?_
        refine WL.gyes rfl rfl (okb b1) rfl (Yld.pure tab_ok rfl) ?_
        refine WL.y rfl (Yld.pickT (okb b1) rfl) ?_
        exact WL.weaken (by repeat (first | exact Sub.nil | refine Sub.cons rfl ?_)) (hQ _ _ ⟨!decide (p = ([] : List UInt8)), rfl, by rw [b1] <;> rfl, rfl⟩)
      · refine WL.gno rfl rfl (okb b1) rfl ?_
        refine WL.gno rfl rfl (okb b1) rfl ?_
        refine WL.y rfl (Yld.pickF (okb b1) rfl) ?_
        exact WL.weaken (by repeat (first | exact Sub.nil | refine Sub.cons rfl ?_)) (hQ _ _ ⟨false, rfl, by rw [b1] <;> rfl, rfl⟩)
  · clear H
    rcases Bool.eq_false_or_eq_true (t71) with b2 | b2
    · refine WL.gyes rfl rfl (okb b2) rfl (Yld.pure tab_ok rfl) ?_
      refine WL.gyes rfl rfl (okb b2) rfl (Yld.pure tab_ok rfl) ?_
      refine WL.gyes rfl rfl (okb b2) rfl (Yld.pure tab_ok rfl) ?_
      refine WL.y rfl (Yld.pickT (okb b2) rfl) ?_
      exact WL.weaken (by repeat (first | exact Sub.nil | refine Sub.cons rfl ?_)) (hQ _ _ ⟨decide (t70 = p), rfl, by rw [b2] <;> rfl, rfl⟩)
    · refine WL.gno rfl rfl (okb b2) rfl ?_
      refine WL.gno rfl rfl (okb b2) rfl ?_
      refine WL.gno rfl rfl (okb b2) rfl ?_
      refine WL.y rfl (Yld.pickF (okb b2) rfl) ?_
      exact WL.weaken (by repeat (first | exact Sub.nil | refine Sub.cons rfl ?_)) (hQ _ _ ⟨false, rfl, by rw [b2] <;> rfl, rfl⟩)

set_option maxHeartbeats 8000000 in
theorem W_smithyref1_Dir {w : World} {p : List UInt8} {K : (List UInt8) → Prop} (H : M_smithyref1_Dir p K) : Fn Tryd.prog 50 ⟨[vs p]⟩ w (fun v w' => w = w' ∧ ∃ (r : List UInt8), v = vs r ∧ K r) := by
  unfold M_smithyref1_Dir at H
  refine Fn.enter (by kernel_rfl) Tryd.func50 rfl Tryd.ntmps50 rfl ?_
  refine WC.seq ?_
  refine WC.region ?_
  refine WL.y rfl (Yld.pure tab_ok rfl) ?_
  refine WL.nil (WX.then_normal ?_)
  refine WC.seq ?_
  refine WC.seq ?_
  refine WC.region ?_
  refine WL.y rfl (Yld.pure tab_ok rfl) ?_
  refine WL.y rfl (Yld.pure tab_ok rfl) ?_
  obtain ⟨h1, H⟩ := H
  refine WL.y rfl (Yld.sub rfl rfl h1) ?_
  refine WL.y rfl (Yld.pure tab_ok rfl) ?_
  refine WL.nil (WX.then_normal ?_)
  refine WC.block ?_
  obtain ⟨I1, mu1, h0_1, HR1⟩ := H
  refine WC.loopF (fun n' L' w' => ∃ (i : Int), n' = mu1 i ∧ L' = [(0, vs p), (3, .int .i64 i)] ∧ I1 i ∧ w = w') _ _ ⟨(p.length : Int) - (1 : Int), rfl, rfl, h0_1, rfl⟩ (by repeat (first | exact Sub.nil | refine Sub.cons rfl ?_)) ?_
  clear h0_1
  rintro _ _ _ ⟨i, rfl, rfl, hI1, rfl⟩
  have H := HR1 i hI1
  refine WC.seq ?_
  refine WC.seq ?_
  refine WC.region ?_
  refine WL.y rfl (Yld.pure tab_ok rfl) ?_
  refine WL.y rfl (Yld.pure tab_ok rfl) ?_
  refine WL.nil (WX.then_normal ?_)
  refine WC.cond rfl (fun b1 => ?_) (fun b1 => ?_)
  · replace H := H.1 (of_decide_eq_true b1)
    refine WC.skip (WX.then_normal ?_)
    refine WC.seq ?_
    refine WC.block ?_
    refine WC.seq ?_
    refine WC.region ?_
    refine WL.y rfl (Yld.pure tab_ok rfl) ?_
    refine WL.y rfl (Yld.pure tab_ok rfl) ?_
    obtain ⟨h2, H⟩ := H
    refine WL.y rfl (Yld.sidx tab_ok rfl rfl rfl h2.1 h2.2) ?_
    refine WL.y rfl (Yld.pure tab_ok rfl) ?_
    refine WL.nil (WX.then_normal ?_)
    refine WC.cond rfl (fun b2 => ?_) (fun b2 => ?_)
    · replace H := H.1 (of_decide_eq_true b2)
      refine WC.seq ?_
      refine WC.region ?_
      refine WL.y rfl (Yld.pure tab_ok rfl) ?_
      refine WL.y rfl (Yld.pure tab_ok rfl) ?_
      obtain ⟨h3, H⟩ := H
      refine WL.y rfl (Yld.scut tab_ok rfl rfl rfl rfl (Int.le_refl 0) h3.1 h3.2) ?_
      refine WL.y rfl (Yld.pure tab_ok rfl) ?_
      refine WL.nil (WX.then_normal ?_)
      refine WC.ret (WX.block_ret (WX.then_ret (WX.then_ret (WX.block_ret (WX.then_ret ?_)))))
      exact WX.ret1 rfl rfl ⟨rfl, p.take i.toNat, rfl, H⟩
    · replace H := H.2 (of_decide_eq_false b2)
      refine WC.skip (WX.block_normal (WX.then_normal ?_))
      refine WC.region ?_
      refine WL.y rfl (Yld.pure tab_ok rfl) ?_
      obtain ⟨h4, H⟩ := H
      refine WL.y rfl (Yld.sub rfl rfl h4) ?_
      refine WL.y rfl (Yld.pure tab_ok rfl) ?_
      refine WL.nil ?_
      exact WX.roundF _ ⟨i - (1 : Int), rfl, rfl, H.1, rfl⟩ (by repeat (first | exact Sub.nil | refine Sub.cons rfl ?_)) H.2
  · replace H := H.2 (of_decide_eq_false b1)
    refine WC.exit (WX.then_exit (WX.then_exit (WX.block_same (WX.then_normal ?_))))
    refine WC.seq ?_
    refine WC.region ?_
    refine WL.y rfl (Yld.pure tab_ok rfl) ?_
    refine WL.nil (WX.then_normal ?_)
    refine WC.ret ?_
    exact WX.ret1 rfl rfl ⟨rfl, ([] : List UInt8), rfl, H⟩

set_option maxHeartbeats 8000000 in
theorem W_smithyref1_Base {w : World} {p : List UInt8} {K : (List UInt8) → Prop} (H : M_smithyref1_Base p K) : Fn Tryd.prog 51 ⟨[vs p]⟩ w (fun v w' => w = w' ∧ ∃ (r : List UInt8), v = vs r ∧ K r) := by
  unfold M_smithyref1_Base at H
  refine Fn.enter (by kernel_rfl) Tryd.func51 rfl Tryd.ntmps51 rfl ?_
  refine WC.seq ?_
  refine WC.region ?_
  refine WL.y rfl (Yld.pure tab_ok rfl) ?_
  refine WL.nil (WX.then_normal ?_)
  refine WC.seq ?_
  refine WC.seq ?_
  refine WC.region ?_
  refine WL.y rfl (Yld.pure tab_ok rfl) ?_
  refine WL.y rfl (Yld.pure tab_ok rfl) ?_
  obtain ⟨h1, H⟩ := H
  refine WL.y rfl (Yld.sub rfl rfl h1) ?_
  refine WL.y rfl (Yld.pure tab_ok rfl) ?_
  refine WL.nil (WX.then_normal ?_)
  refine WC.block ?_
  obtain ⟨I1, mu1, h0_1, HR1⟩ := H
  refine WC.loopF (fun n' L' w' => ∃ (i : Int), n' = mu1 i ∧ L' = [(0, vs p), (3, .int .i64 i)] ∧ I1 i ∧ w = w') _ _ ⟨(p.length : Int) - (1 : Int), rfl, rfl, h0_1, rfl⟩ (by repeat (first | exact Sub.nil | refine Sub.cons rfl ?_)) ?_
  clear h0_1
  rintro _ _ _ ⟨i, rfl, rfl, hI1, rfl⟩
  have H := HR1 i hI1
  refine WC.seq ?_
  refine WC.seq ?_
  refine WC.region ?_
  refine WL.y rfl (Yld.pure tab_ok rfl) ?_
  refine WL.y rfl (Yld.pure tab_ok rfl) ?_
  refine WL.nil (WX.then_normal ?_)
  refine WC.cond rfl (fun b1 => ?_) (fun b1 => ?_)
  · replace H := H.1 (of_decide_eq_true b1)
    refine WC.skip (WX.then_normal ?_)
    refine WC.seq ?_
    refine WC.block ?_
    refine WC.seq ?_
    refine WC.region ?_
    refine WL.y rfl (Yld.pure tab_ok rfl) ?_
    refine WL.y rfl (Yld.pure tab_ok rfl) ?_
    obtain ⟨h2, H⟩ := H
    refine WL.y rfl (Yld.sidx tab_ok rfl rfl rfl h2.1 h2.2) ?_
    refine WL.y rfl (Yld.pure tab_ok rfl) ?_
    refine WL.nil (WX.then_normal ?_)
    refine WC.cond rfl (fun b2 => ?_) (fun b2 => ?_)
    · replace H := H.1 (of_decide_eq_true b2)
      refine WC.seq ?_
      refine WC.region ?_
      refine WL.y rfl (Yld.pure tab_ok rfl) ?_
      refine WL.y rfl (Yld.pure tab_ok rfl) ?_
      obtain ⟨h3, H⟩ := H
      refine WL.y rfl (Yld.add rfl rfl h3) ?_
      obtain ⟨h4, H⟩ := H
      refine WL.y rfl (Yld.scutF tab_ok rfl rfl rfl h4.1 h4.2) ?_
      refine WL.y rfl (Yld.pure tab_ok rfl) ?_
      refine WL.nil (WX.then_normal ?_)
      refine WC.ret (WX.block_ret (WX.then_ret (WX.then_ret (WX.block_ret (WX.then_ret ?_)))))
      exact WX.ret1 rfl rfl ⟨rfl, p.drop (i + (1 : Int)).toNat, rfl, H⟩
    · replace H := H.2 (of_decide_eq_false b2)
      refine WC.skip (WX.block_normal (WX.then_normal ?_))
      refine WC.region ?_
      refine WL.y rfl (Yld.pure tab_ok rfl) ?_
      obtain ⟨h5, H⟩ := H
      refine WL.y rfl (Yld.sub rfl rfl h5) ?_
      refine WL.y rfl (Yld.pure tab_ok rfl) ?_
      refine WL.nil ?_
      exact WX.roundF _ ⟨i - (1 : Int), rfl, rfl, H.1, rfl⟩ (by repeat (first | exact Sub.nil | refine Sub.cons rfl ?_)) H.2
  · replace H := H.2 (of_decide_eq_false b1)
    refine WC.exit (WX.then_exit (WX.then_exit (WX.block_same (WX.then_normal ?_))))
    refine WC.seq ?_
    refine WC.region ?_
    refine WL.y rfl (Yld.pure tab_ok rfl) ?_
    refine WL.y rfl (Yld.pure tab_ok rfl) ?_
    refine WL.nil (WX.then_normal ?_)
    refine WC.ret ?_
    exact WX.ret1 rfl rfl ⟨rfl, p, rfl, H⟩

set_option maxHeartbeats 8000000 in
theorem W_smithyref1_Under {w : World} {p : List UInt8} {dir : List UInt8} {K : Bool → Prop} (H : M_smithyref1_Under p dir K) : Fn Tryd.prog 52 ⟨[vs p, vs dir]⟩ w (fun v w' => w = w' ∧ ∃ (r : Bool), v = .bool r ∧ K r) := by
  unfold M_smithyref1_Under at H
  refine Fn.enter (by kernel_rfl) Tryd.func52 rfl Tryd.ntmps52 rfl ?_
  refine WC.seq ?_
  refine WC.region ?_
  refine WL.y rfl (Yld.pure tab_ok rfl) ?_
  refine WL.nil (WX.then_normal ?_)
  refine WC.seq ?_
  refine WC.seq ?_
  refine WC.region ?_
  refine WL.y rfl (Yld.pure tab_ok rfl) ?_
  refine WL.y rfl (Yld.pure tab_ok rfl) ?_
  refine WL.nil (WX.then_normal ?_)
  refine WC.cond rfl (fun b1 => ?_) (fun b1 => ?_)
  · replace H := H.1 (of_decide_eq_true b1)
    refine WC.seq ?_
    refine WC.region ?_
    refine WL.y rfl (Yld.pure tab_ok rfl) ?_
    refine WL.y rfl (Yld.pure tab_ok rfl) ?_
    refine WL.y rfl (Yld.pure tab_ok rfl) ?_
    refine WL.nil (WX.then_normal ?_)
    refine WC.ret (WX.then_ret ?_)
    exact WX.ret1 rfl rfl ⟨rfl, !decide (p = ([] : List UInt8)), rfl, H⟩
  · replace H := H.2 (of_decide_eq_false b1)
    refine WC.skip (WX.then_normal ?_)
    refine WC.seq ?_
    refine WC.region ?_
    refine WL.y rfl (Yld.pure tab_ok rfl) ?_
    refine WL.y rfl (Yld.pure tab_ok rfl) ?_
    refine WL.y rfl (Yld.pure tab_ok rfl) ?_
    refine WL.y rfl (Yld.pure tab_ok rfl) ?_
    refine WL.y rfl (Yld.pure tab_ok rfl) ?_
    refine WL.y rfl (Yld.pure tab_ok rfl) ?_
    obtain ⟨h1, H⟩ := H
    refine WL.midF 7 (fun L' w' => ∃ q1 : Bool, L' = [(21, .bool q1), (0, vs p), (1, vs dir)] ∧ q1 = ((decide ((dir.length : Int) < (p.length : Int))) && (decide ((p.take (dir.length : Int).toNat) = dir))) ∧ w = w') ?_ (fun hQ => ?_)
    · rintro _ _ ⟨q1, rfl, rfl, rfl⟩
      refine WL.y rfl (Yld.pure tab_ok rfl) ?_
      obtain ⟨h2, H⟩ := H
      refine WL.midF 6 (fun L' w' => ∃ q2 : Bool, L' = [(28, .bool q2)] ∧ q2 = (((decide ((dir.length : Int) < (p.length : Int))) && (decide ((p.take (dir.length : Int).toNat) = dir))) && (decide (((p.getD (dir.length : Int).toNat 0).toNat : Int) = (47 : Int)))) ∧ w = w') ?_ (fun hQ => ?_)
      · rintro _ _ ⟨q2, rfl, rfl, rfl⟩
        refine WL.y rfl (Yld.pure tab_ok rfl) ?_
        refine WL.nil (WX.then_normal ?_)
        refine WC.ret ?_
        exact WX.ret1 rfl rfl ⟨rfl, ((decide ((dir.length : Int) < (p.length : Int))) && (decide ((p.take (dir.length : Int).toNat) = dir))) && (decide (((p.getD (dir.length : Int).toNat 0).toNat : Int) = (47 : Int))), rfl, H⟩
      · clear H
        rcases Bool.eq_false_or_eq_true ((decide ((dir.length : Int) < (p.length : Int))) && (decide ((p.take (dir.length : Int).toNat) = dir))) with b2 | b2
        · refine WL.gyes rfl rfl (okb b2) rfl (Yld.pure tab_ok rfl) ?_
          refine WL.gyes rfl rfl (okb b2) rfl (Yld.pure tab_ok rfl) ?_
          refine WL.gyes rfl rfl (okb b2) rfl (Yld.pure tab_ok rfl) ?_
          refine WL.gyes rfl rfl (okb b2) rfl (Yld.sidx tab_ok rfl rfl rfl (h2 b2).1 (h2 b2).2) ?_
          refine WL.gyes rfl rfl (okb b2) rfl (Yld.pure tab_ok rfl) ?_
          refine WL.y rfl (Yld.pickT (okb b2) rfl) ?_
          exact WL.weaken (by repeat (first | exact Sub.nil | refine Sub.cons rfl ?_)) (hQ _ _ ⟨decide (((p.getD (dir.length : Int).toNat 0).toNat : Int) = (47 : Int)), rfl, by rw [b2] <;> rfl, rfl⟩)
        · refine WL.gno rfl rfl (okb b2) rfl ?_
          refine WL.gno rfl rfl (okb b2) rfl ?_
          refine WL.gno rfl rfl (okb b2) rfl ?_
          refine WL.gno rfl rfl (okb b2) rfl ?_
          refine WL.gno rfl rfl (okb b2) rfl ?_
          refine WL.y rfl (Yld.pickF (okb b2) rfl) ?_
          exact WL.weaken (by repeat (first | exact Sub.nil | refine Sub.cons rfl ?_)) (hQ _ _ ⟨false, rfl, by rw [b2] <;> rfl, rfl⟩)
    · clear H
      rcases Bool.eq_false_or_eq_true (decide ((dir.length : Int) < (p.length : Int))) with b3 | b3
      · refine WL.gyes rfl rfl (okb b3) rfl (Yld.pure tab_ok rfl) ?_
        refine WL.gyes rfl rfl (okb b3) rfl (Yld.pure tab_ok rfl) ?_
        refine WL.gyes rfl rfl (okb b3) rfl (Yld.pure tab_ok rfl) ?_
        refine WL.gyes rfl rfl (okb b3) rfl (Yld.scut tab_ok rfl rfl rfl rfl (Int.le_refl 0) (h1 b3).1 (h1 b3).2) ?_
        refine WL.gyes rfl rfl (okb b3) rfl (Yld.pure tab_ok rfl) ?_
        refine WL.gyes rfl rfl (okb b3) rfl (Yld.pure tab_ok rfl) ?_
        refine WL.y rfl (Yld.pickT (okb b3) rfl) ?_
        exact WL.weaken (by repeat (first | exact Sub.nil | refine Sub.cons rfl ?_)) (hQ _ _ ⟨decide ((p.take (dir.length : Int).toNat) = dir), rfl, by rw [b3] <;> rfl, rfl⟩)
      · refine WL.gno rfl rfl (okb b3) rfl ?_
        refine WL.gno rfl rfl (okb b3) rfl ?_
        refine WL.gno rfl rfl (okb b3) rfl ?_
        refine WL.gno rfl rfl (okb b3) rfl ?_
        refine WL.gno rfl rfl (okb b3) rfl ?_
        refine WL.gno rfl rfl (okb b3) rfl ?_
        refine WL.y rfl (Yld.pickF (okb b3) rfl) ?_
        exact WL.weaken (by repeat (first | exact Sub.nil | refine Sub.cons rfl ?_)) (hQ _ _ ⟨false, rfl, by rw [b3] <;> rfl, rfl⟩)

end Go.Proofs.YtcfljnfaakjdjaaDoor
 /- Printed by a program (wip/vg): what the functions mean, plainly, and their walks. -/
namespace Go.Proofs.YtcfljnfaakjdjaaDoor
open Go Go.RowKit
attribute [local irreducible] WL WC WX WQ WK WJ Yld Eff Ef0 Fn
def M_smithysee_Alike (a : Er) (b : Er) (K : Bool → Prop) : Prop :=
 ((((decide (a = Er.ok)) || (decide (b = Er.ok))) = true → K ((decide (a = Er.ok)) && (decide (b = Er.ok)))) ∧
 (((decide (a = Er.ok)) || (decide (b = Er.ok))) = false → (¬ (a = Er.ok ∧ b = Er.ok) ∧ ((∀ p n, a ≠ Er.at_ p n) ∨ ∀ p n, b ≠ Er.at_ p n)) ∧
 K (decide (a = b))))

def M_smithyref_None (K : Int → Bool → Int → Bool → (List UInt8) → Prop) : Prop :=
 K (0 : Int) false (0 : Int) false ([] : List UInt8)

def M_smithyref_Bare (code : Int) (K : Int → Bool → Int → Bool → (List UInt8) → Prop) : Prop :=
 K code false (0 : Int) false ([] : List UInt8)

def M_smithyref_Placed (code : Int) (pos : Int) (K : Int → Bool → Int → Bool → (List UInt8) → Prop) : Prop :=
 ((code = (0 : Int) → M_smithyref_None (fun (t7_Code : Int) (t7_Placed : Bool) (t7_Pos : Int) (t7_Filed : Bool) (t7_File : List UInt8) =>
 K t7_Code t7_Placed t7_Pos t7_Filed t7_File)) ∧
 (¬ (code = (0 : Int)) → K code true pos false ([] : List UInt8)))

def M_smithyref_SameFault (a_Code : Int) (a_Placed : Bool) (a_Pos : Int) (a_Filed : Bool) (a_File : List UInt8) (b_Code : Int) (b_Placed : Bool) (b_Pos : Int) (b_Filed : Bool) (b_File : List UInt8) (K : Bool → Prop) : Prop :=
 K (((((decide (a_Code = b_Code)) && (a_Placed == b_Placed)) && (decide (a_Pos = b_Pos))) && (a_Filed == b_Filed)) && (decide (a_File = b_File)))

set_option maxHeartbeats 8000000 in
theorem W_smithysee_Alike {S : List Nat} {w : World} {v_a : Value} {a : Er} {v_b : Value} {b : Er} {K : Bool → Prop} (ha : ErrR S w v_a a) (hb : ErrR S w v_b b) (H : M_smithysee_Alike a b K) : Fn Tryd.prog 185 ⟨[v_a, v_b]⟩ w (fun v w' => w = w' ∧ ∃ (r : Bool), v = .bool r ∧ K r) := by
  unfold M_smithysee_Alike at H
  refine Fn.enter (by kernel_rfl) Tryd.func185 rfl Tryd.ntmps185 rfl ?_
  refine WC.seq ?_
  refine WC.region ?_
  refine WL.y rfl (Yld.pure tab_ok rfl) ?_
  refine WL.nil (WX.then_normal ?_)
  refine WC.seq ?_
  refine WC.seq ?_
  refine WC.region ?_
  refine WL.y rfl (Yld.pure tab_ok rfl) ?_
  refine WL.y rfl (Yld.erreql Tryd.underlying30 ha rfl) ?_
  refine WL.y rfl (Yld.pure tab_ok rfl) ?_
  refine WL.midF 3 (fun L' w' => ∃ q1 : Bool, L' = [(10, .bool q1), (0, v_a), (1, v_b)] ∧ q1 = ((decide (a = Er.ok)) || (decide (b = Er.ok))) ∧ w = w') ?_ (fun hQ => ?_)
  · rintro _ _ ⟨q1, rfl, rfl, rfl⟩
    refine WL.nil (WX.then_normal ?_)
    refine WC.cond rfl (fun b1 => ?_) (fun b1 => ?_)
    · replace H := H.1 (b1)
      refine WC.seq ?_
      refine WC.region ?_
      refine WL.y rfl (Yld.pure tab_ok rfl) ?_
      refine WL.y rfl (Yld.erreql Tryd.underlying30 ha rfl) ?_
      refine WL.y rfl (Yld.pure tab_ok rfl) ?_
      refine WL.midF 3 (fun L' w' => ∃ q2 : Bool, L' = [(16, .bool q2)] ∧ q2 = ((decide (a = Er.ok)) && (decide (b = Er.ok))) ∧ w = w') ?_ (fun hQ => ?_)
      · rintro _ _ ⟨q2, rfl, rfl, rfl⟩
        refine WL.y rfl (Yld.pure tab_ok rfl) ?_
        refine WL.nil (WX.then_normal ?_)
        refine WC.ret (WX.then_ret ?_)
        exact WX.ret1 rfl rfl ⟨rfl, (decide (a = Er.ok)) && (decide (b = Er.ok)), rfl, H⟩
      · clear H
        rcases Bool.eq_false_or_eq_true (decide (a = Er.ok)) with b2 | b2
        · refine WL.gyes rfl rfl (okb b2) rfl (Yld.pure tab_ok rfl) ?_
          refine WL.gyes rfl rfl (okb b2) rfl (Yld.erreql Tryd.underlying30 hb rfl) ?_
          refine WL.y rfl (Yld.pickT (okb b2) rfl) ?_
          exact WL.weaken (by repeat (first | exact Sub.nil | refine Sub.cons rfl ?_)) (hQ _ _ ⟨decide (b = Er.ok), rfl, by rw [b2] <;> rfl, rfl⟩)
        · refine WL.gno rfl rfl (okb b2) rfl ?_
          refine WL.gno rfl rfl (okb b2) rfl ?_
          refine WL.y rfl (Yld.pickF (okb b2) rfl) ?_
          exact WL.weaken (by repeat (first | exact Sub.nil | refine Sub.cons rfl ?_)) (hQ _ _ ⟨false, rfl, by rw [b2] <;> rfl, rfl⟩)
    · replace H := H.2 (b1)
      refine WC.skip (WX.then_normal ?_)
      refine WC.seq ?_
      refine WC.region ?_
      refine WL.y rfl (Yld.pure tab_ok rfl) ?_
      refine WL.y rfl (Yld.pure tab_ok rfl) ?_
      obtain ⟨h1, H⟩ := H
      refine WL.y rfl (Yld.erreqA ha hb h1 rfl rfl) ?_
      refine WL.y rfl (Yld.pure tab_ok rfl) ?_
      refine WL.nil (WX.then_normal ?_)
      refine WC.ret ?_
      exact WX.ret1 rfl rfl ⟨rfl, decide (a = b), rfl, H⟩
  · clear H
    rcases Bool.eq_false_or_eq_true (decide (a = Er.ok)) with b3 | b3
    · refine WL.gno rfl rfl (okb b3) rfl ?_
      refine WL.gno rfl rfl (okb b3) rfl ?_
      refine WL.y rfl (Yld.pickT (okb b3) rfl) ?_
      exact WL.weaken (by repeat (first | exact Sub.nil | refine Sub.cons rfl ?_)) (hQ _ _ ⟨true, rfl, by rw [b3] <;> rfl, rfl⟩)
    · refine WL.gyes rfl rfl (okb b3) rfl (Yld.pure tab_ok rfl) ?_
      refine WL.gyes rfl rfl (okb b3) rfl (Yld.erreql Tryd.underlying30 hb rfl) ?_
      refine WL.y rfl (Yld.pickF (okb b3) rfl) ?_
      exact WL.weaken (by repeat (first | exact Sub.nil | refine Sub.cons rfl ?_)) (hQ _ _ ⟨decide (b = Er.ok), rfl, by rw [b3] <;> rfl, rfl⟩)

set_option maxHeartbeats 8000000 in
theorem W_smithyref_None {w : World} {K : Int → Bool → Int → Bool → (List UInt8) → Prop} (H : M_smithyref_None  K) : Fn Tryd.prog 95 ⟨[]⟩ w (fun v w' => w.grownBy w' none ∧ ∃ (r_Code : Int), ∃ (r_Placed : Bool), ∃ (r_Pos : Int), ∃ (r_Filed : Bool), ∃ (r_File : List UInt8), v = .agg ⟨[.int .i64 r_Code, .bool r_Placed, .int .i64 r_Pos, .bool r_Filed, vs r_File]⟩ ∧ K r_Code r_Placed r_Pos r_Filed r_File) := by
  unfold M_smithyref_None at H
  refine Fn.enter (by kernel_rfl) Tryd.func95 rfl Tryd.ntmps95 rfl ?_
  refine WC.seq ?_
  refine WC.region ?_
  refine WL.alloc rfl zero77 (fun g1 w1 hB1 hg1 hl1 => ?_)
  have gr1 := hg1
  refine WL.nil (WX.then_normal ?_)
  refine WC.seq ?_
  refine WC.region ?_
  refine WL.y rfl (Yld.struct (us := [.int .i64 (0 : Int), .bool false, .int .i64 (0 : Int), .bool false, vs ([] : List UInt8)]) zero77 places77 rfl rfl) ?_
  refine WL.storeW (vs := [.int .i64 (0 : Int), .bool false, .int .i64 (0 : Int), .bool false, vs ([] : List UInt8)]) tab_ok rfl rfl rfl (all1c rfl (all1c rfl (all1c rfl (all1c rfl (all1c rfl all1n))))) hB1 rfl rfl (fun w2 hB2 hg2 => ?_)
  have gr2 := gr_mod gr1 hg2 (Ge.le (Ge.box hl1) (Nat.le_refl _))
  refine WL.nil (WX.then_normal ?_)
  refine WC.ret ?_
  exact WX.retc tab_ok rfl rfl rfl hB2 rfl ⟨gr2, (0 : Int), false, (0 : Int), false, ([] : List UInt8), rfl, H⟩

set_option maxHeartbeats 8000000 in
theorem W_smithyref_Bare {w : World} {code : Int} {K : Int → Bool → Int → Bool → (List UInt8) → Prop} (H : M_smithyref_Bare code K) : Fn Tryd.prog 87 ⟨[.int .i64 code]⟩ w (fun v w' => w.grownBy w' none ∧ ∃ (r_Code : Int), ∃ (r_Placed : Bool), ∃ (r_Pos : Int), ∃ (r_Filed : Bool), ∃ (r_File : List UInt8), v = .agg ⟨[.int .i64 r_Code, .bool r_Placed, .int .i64 r_Pos, .bool r_Filed, vs r_File]⟩ ∧ K r_Code r_Placed r_Pos r_Filed r_File) := by
  unfold M_smithyref_Bare at H
  refine Fn.enter (by kernel_rfl) Tryd.func87 rfl Tryd.ntmps87 rfl ?_
  refine WC.seq ?_
  refine WC.region ?_
  refine WL.alloc rfl zero77 (fun g1 w1 hB1 hg1 hl1 => ?_)
  have gr1 := hg1
  refine WL.nil (WX.then_normal ?_)
  refine WC.seq ?_
  refine WC.region ?_
  refine WL.y rfl (Yld.pure tab_ok rfl) ?_
  refine WL.y rfl (Yld.struct (us := [.int .i64 code, .bool false, .int .i64 (0 : Int), .bool false, vs ([] : List UInt8)]) zero77 places77 rfl rfl) ?_
  refine WL.storeW (vs := [.int .i64 code, .bool false, .int .i64 (0 : Int), .bool false, vs ([] : List UInt8)]) tab_ok rfl rfl rfl (all1c rfl (all1c rfl (all1c rfl (all1c rfl (all1c rfl all1n))))) hB1 rfl rfl (fun w2 hB2 hg2 => ?_)
  have gr2 := gr_mod gr1 hg2 (Ge.le (Ge.box hl1) (Nat.le_refl _))
  refine WL.nil (WX.then_normal ?_)
  refine WC.ret ?_
  exact WX.retc tab_ok rfl rfl rfl hB2 rfl ⟨gr2, code, false, (0 : Int), false, ([] : List UInt8), rfl, H⟩

set_option maxHeartbeats 8000000 in
theorem W_smithyref_Placed {w : World} {code : Int} {pos : Int} {K : Int → Bool → Int → Bool → (List UInt8) → Prop} (H : M_smithyref_Placed code pos K) : Fn Tryd.prog 58 ⟨[.int .i64 code, .int .i64 pos]⟩ w (fun v w' => w.grownBy w' none ∧ ∃ (r_Code : Int), ∃ (r_Placed : Bool), ∃ (r_Pos : Int), ∃ (r_Filed : Bool), ∃ (r_File : List UInt8), v = .agg ⟨[.int .i64 r_Code, .bool r_Placed, .int .i64 r_Pos, .bool r_Filed, vs r_File]⟩ ∧ K r_Code r_Placed r_Pos r_Filed r_File) := by
  unfold M_smithyref_Placed at H
  refine Fn.enter (by kernel_rfl) Tryd.func58 rfl Tryd.ntmps58 rfl ?_
  refine WC.seq ?_
  refine WC.region ?_
  refine WL.alloc rfl zero77 (fun g1 w1 hB1 hg1 hl1 => ?_)
  have gr1 := hg1
  refine WL.nil (WX.then_normal ?_)
  refine WC.seq ?_
  refine WC.seq ?_
  refine WC.region ?_
  refine WL.y rfl (Yld.pure tab_ok rfl) ?_
  refine WL.y rfl (Yld.pure tab_ok rfl) ?_
  refine WL.nil (WX.then_normal ?_)
  refine WC.cond rfl (fun b1 => ?_) (fun b1 => ?_)
  · replace H := H.1 (of_decide_eq_true b1)
    refine WC.seq ?_
    refine WC.region ?_
    refine WL.call rfl rfl (W_smithyref_None H) ?_
    rintro _ w2 ⟨hg2, t7_Code, t7_Placed, t7_Pos, t7_Filed, t7_File, rfl, H⟩
    have gr2 := gr_trans gr1 hg2
    have k1 := hB1.g0 hg2
    refine WL.storeW (vs := [.int .i64 t7_Code, .bool t7_Placed, .int .i64 t7_Pos, .bool t7_Filed, vs t7_File]) tab_ok rfl rfl rfl (all1c rfl (all1c rfl (all1c rfl (all1c rfl (all1c rfl all1n))))) k1 rfl rfl (fun w3 hB2 hg3 => ?_)
    have gr3 := gr_mod gr2 hg3 (Ge.le (Ge.box hl1) (Nat.le_refl _))
    refine WL.nil (WX.then_normal ?_)
    refine WC.ret (WX.then_ret ?_)
    exact WX.retc tab_ok rfl rfl rfl hB2 rfl ⟨gr3, t7_Code, t7_Placed, t7_Pos, t7_Filed, t7_File, rfl, H⟩
  · replace H := H.2 (of_decide_eq_false b1)
    refine WC.skip (WX.then_normal ?_)
    refine WC.seq ?_
    refine WC.region ?_
    refine WL.y rfl (Yld.pure tab_ok rfl) ?_
    refine WL.y rfl (Yld.pure tab_ok rfl) ?_
    refine WL.y rfl (Yld.struct (us := [.int .i64 code, .bool true, .int .i64 pos, .bool false, vs ([] : List UInt8)]) zero77 places77 rfl rfl) ?_
    refine WL.storeW (vs := [.int .i64 code, .bool true, .int .i64 pos, .bool false, vs ([] : List UInt8)]) tab_ok rfl rfl rfl (all1c rfl (all1c rfl (all1c rfl (all1c rfl (all1c rfl all1n))))) hB1 rfl rfl (fun w4 hB3 hg4 => ?_)
    have gr4 := gr_mod gr1 hg4 (Ge.le (Ge.box hl1) (Nat.le_refl _))
    refine WL.nil (WX.then_normal ?_)
    refine WC.ret ?_
    exact WX.retc tab_ok rfl rfl rfl hB3 rfl ⟨gr4, code, true, pos, false, ([] : List UInt8), rfl, H⟩

set_option maxHeartbeats 8000000 in
theorem W_smithyref_SameFault {w : World} {a_Code : Int} {a_Placed : Bool} {a_Pos : Int} {a_Filed : Bool} {a_File : List UInt8} {b_Code : Int} {b_Placed : Bool} {b_Pos : Int} {b_Filed : Bool} {b_File : List UInt8} {K : Bool → Prop} (H : M_smithyref_SameFault a_Code a_Placed a_Pos a_Filed a_File b_Code b_Placed b_Pos b_Filed b_File K) : Fn Tryd.prog 93 ⟨[.agg ⟨[.int .i64 a_Code, .bool a_Placed, .int .i64 a_Pos, .bool a_Filed, vs a_File]⟩, .agg ⟨[.int .i64 b_Code, .bool b_Placed, .int .i64 b_Pos, .bool b_Filed, vs b_File]⟩]⟩ w (fun v w' => w.grownBy w' none ∧ ∃ (r : Bool), v = .bool r ∧ K r) := by
  unfold M_smithyref_SameFault at H
  refine Fn.enter (by kernel_rfl) Tryd.func93 rfl Tryd.ntmps93 rfl ?_
  refine WC.seq ?_
  refine WC.region ?_
  refine WL.box (us := [.int .i64 a_Code, .bool a_Placed, .int .i64 a_Pos, .bool a_Filed, vs a_File]) rfl rfl rfl (fun g1 w1 hB1 hg1 hl1 => ?_)
  have gr1 := hg1
  refine WL.box (us := [.int .i64 b_Code, .bool b_Placed, .int .i64 b_Pos, .bool b_Filed, vs b_File]) rfl rfl rfl (fun g2 w2 hB2 hg2 hl2 => ?_)
  have gr2 := gr_trans gr1 hg2
  have k1 := hB1.g0 hg2
  refine WL.y rfl (Yld.pure tab_ok rfl) ?_
  refine WL.nil (WX.then_normal ?_)
  refine WC.seq ?_
  refine WC.region ?_
  refine WL.y rfl (Yld.pure tab_ok rfl) ?_
  refine WL.y rfl (Yld.bload tab_ok k1 rfl rfl rfl) ?_
  refine WL.y rfl (Yld.pure tab_ok rfl) ?_
  refine WL.y rfl (Yld.bload tab_ok hB2 rfl rfl rfl) ?_
  refine WL.y rfl (Yld.pure tab_ok rfl) ?_
  refine WL.y rfl (Yld.pure tab_ok rfl) ?_
  refine WL.midF 6 (fun L' w' => ∃ q1 : Bool, L' = [(16, .bool q1), (2, .pointer (some ⟨g1, 0, none⟩)), (3, .pointer (some ⟨g2, 0, none⟩))] ∧ q1 = ((decide (a_Code = b_Code)) && (a_Placed == b_Placed)) ∧ w2 = w') ?_ (fun hQ => ?_)
  · rintro _ _ ⟨q1, rfl, rfl, rfl⟩
    refine WL.y rfl (Yld.pure tab_ok rfl) ?_
    refine WL.midF 6 (fun L' w' => ∃ q2 : Bool, L' = [(23, .bool q2), (2, .pointer (some ⟨g1, 0, none⟩)), (3, .pointer (some ⟨g2, 0, none⟩))] ∧ q2 = (((decide (a_Code = b_Code)) && (a_Placed == b_Placed)) && (decide (a_Pos = b_Pos))) ∧ w2 = w') ?_ (fun hQ => ?_)
    · rintro _ _ ⟨q2, rfl, rfl, rfl⟩
      refine WL.y rfl (Yld.pure tab_ok rfl) ?_
      refine WL.midF 6 (fun L' w' => ∃ q3 : Bool, L' = [(30, .bool q3), (2, .pointer (some ⟨g1, 0, none⟩)), (3, .pointer (some ⟨g2, 0, none⟩))] ∧ q3 = ((((decide (a_Code = b_Code)) && (a_Placed == b_Placed)) && (decide (a_Pos = b_Pos))) && (a_Filed == b_Filed)) ∧ w2 = w') ?_ (fun hQ => ?_)
      · rintro _ _ ⟨q3, rfl, rfl, rfl⟩
        refine WL.y rfl (Yld.pure tab_ok rfl) ?_
        refine WL.midF 6 (fun L' w' => ∃ q4 : Bool, L' = [(37, .bool q4)] ∧ q4 = (((((decide (a_Code = b_Code)) && (a_Placed == b_Placed)) && (decide (a_Pos = b_Pos))) && (a_Filed == b_Filed)) && (decide (a_File = b_File))) ∧ w2 = w') ?_ (fun hQ => ?_)
        · rintro _ _ ⟨q4, rfl, rfl, rfl⟩
          refine WL.y rfl (Yld.pure tab_ok rfl) ?_
          refine WL.nil (WX.then_normal ?_)
          refine WC.ret ?_
          exact WX.ret1 rfl rfl ⟨gr2, ((((decide (a_Code = b_Code)) && (a_Placed == b_Placed)) && (decide (a_Pos = b_Pos))) && (a_Filed == b_Filed)) && (decide (a_File = b_File)), rfl, H⟩
        · clear H
          rcases Bool.eq_false_or_eq_true ((((decide (a_Code = b_Code)) && (a_Placed == b_Placed)) && (decide (a_Pos = b_Pos))) && (a_Filed == b_Filed)) with b1 | b1
          · refine WL.gyes rfl rfl (okb b1) rfl (Yld.pure tab_ok rfl) ?_
            refine WL.gyes rfl rfl (okb b1) rfl (Yld.bload tab_ok k1 rfl rfl rfl) ?_
            refine WL.gyes rfl rfl (okb b1) rfl (Yld.pure tab_ok rfl) ?_
            refine WL.gyes rfl rfl (okb b1) rfl (Yld.bload tab_ok hB2 rfl rfl rfl) ?_
            refine WL.gyes rfl rfl (okb b1) rfl (Yld.pure tab_ok rfl) ?_
            refine WL.y rfl (Yld.pickT (okb b1) rfl) ?_
            exact WL.weaken (by repeat (first | exact Sub.nil | refine Sub.cons rfl ?_)) (hQ _ _ ⟨decide (a_File = b_File), rfl, by rw [b1] <;> rfl, rfl⟩)
          · refine WL.gno rfl rfl (okb b1) rfl ?_
            refine WL.gno rfl rfl (okb b1) rfl ?_
            refine WL.gno rfl rfl (okb b1) rfl ?_
            refine WL.gno rfl rfl (okb b1) rfl ?_
            refine WL.gno rfl rfl (okb b1) rfl ?_
            refine WL.y rfl (Yld.pickF (okb b1) rfl) ?_
            exact WL.weaken (by repeat (first | exact Sub.nil | refine Sub.cons rfl ?_)) (hQ _ _ ⟨false, rfl, by rw [b1] <;> rfl, rfl⟩)
      · clear H
        rcases Bool.eq_false_or_eq_true (((decide (a_Code = b_Code)) && (a_Placed == b_Placed)) && (decide (a_Pos = b_Pos))) with b2 | b2
        · refine WL.gyes rfl rfl (okb b2) rfl (Yld.pure tab_ok rfl) ?_
          refine WL.gyes rfl rfl (okb b2) rfl (Yld.bload tab_ok k1 rfl rfl rfl) ?_
          refine WL.gyes rfl rfl (okb b2) rfl (Yld.pure tab_ok rfl) ?_
          refine WL.gyes rfl rfl (okb b2) rfl (Yld.bload tab_ok hB2 rfl rfl rfl) ?_
          refine WL.gyes rfl rfl (okb b2) rfl (Yld.beql Tryd.underlying4 rfl rfl) ?_
          refine WL.y rfl (Yld.pickT (okb b2) rfl) ?_
          exact WL.weaken (by repeat (first | exact Sub.nil | refine Sub.cons rfl ?_)) (hQ _ _ ⟨a_Filed == b_Filed, rfl, by rw [b2] <;> rfl, rfl⟩)
        · refine WL.gno rfl rfl (okb b2) rfl ?_
          refine WL.gno rfl rfl (okb b2) rfl ?_
          refine WL.gno rfl rfl (okb b2) rfl ?_
          refine WL.gno rfl rfl (okb b2) rfl ?_
          refine WL.gno rfl rfl (okb b2) rfl ?_
          refine WL.y rfl (Yld.pickF (okb b2) rfl) ?_
          exact WL.weaken (by repeat (first | exact Sub.nil | refine Sub.cons rfl ?_)) (hQ _ _ ⟨false, rfl, by rw [b2] <;> rfl, rfl⟩)
    · clear H
      rcases Bool.eq_false_or_eq_true ((decide (a_Code = b_Code)) && (a_Placed == b_Placed)) with b3 | b3
      · refine WL.gyes rfl rfl (okb b3) rfl (Yld.pure tab_ok rfl) ?_
        refine WL.gyes rfl rfl (okb b3) rfl (Yld.bload tab_ok k1 rfl rfl rfl) ?_
        refine WL.gyes rfl rfl (okb b3) rfl (Yld.pure tab_ok rfl) ?_
        refine WL.gyes rfl rfl (okb b3) rfl (Yld.bload tab_ok hB2 rfl rfl rfl) ?_
        refine WL.gyes rfl rfl (okb b3) rfl (Yld.pure tab_ok rfl) ?_
        refine WL.y rfl (Yld.pickT (okb b3) rfl) ?_
        exact WL.weaken (by repeat (first | exact Sub.nil | refine Sub.cons rfl ?_)) (hQ _ _ ⟨decide (a_Pos = b_Pos), rfl, by rw [b3] <;> rfl, rfl⟩)
      · refine WL.gno rfl rfl (okb b3) rfl ?_
        refine WL.gno rfl rfl (okb b3) rfl ?_
        refine WL.gno rfl rfl (okb b3) rfl ?_
        refine WL.gno rfl rfl (okb b3) rfl ?_
        refine WL.gno rfl rfl (okb b3) rfl ?_
        refine WL.y rfl (Yld.pickF (okb b3) rfl) ?_
        exact WL.weaken (by repeat (first | exact Sub.nil | refine Sub.cons rfl ?_)) (hQ _ _ ⟨false, rfl, by rw [b3] <;> rfl, rfl⟩)
  · clear H
    rcases Bool.eq_false_or_eq_true (decide (a_Code = b_Code)) with b4 | b4
    · refine WL.gyes rfl rfl (okb b4) rfl (Yld.pure tab_ok rfl) ?_
      refine WL.gyes rfl rfl (okb b4) rfl (Yld.bload tab_ok k1 rfl rfl rfl) ?_
      refine WL.gyes rfl rfl (okb b4) rfl (Yld.pure tab_ok rfl) ?_
      refine WL.gyes rfl rfl (okb b4) rfl (Yld.bload tab_ok hB2 rfl rfl rfl) ?_
      refine WL.gyes rfl rfl (okb b4) rfl (Yld.beql Tryd.underlying4 rfl rfl) ?_
      refine WL.y rfl (Yld.pickT (okb b4) rfl) ?_
      exact WL.weaken (by repeat (first | exact Sub.nil | refine Sub.cons rfl ?_)) (hQ _ _ ⟨a_Placed == b_Placed, rfl, by rw [b4] <;> rfl, rfl⟩)
    · refine WL.gno rfl rfl (okb b4) rfl ?_
      refine WL.gno rfl rfl (okb b4) rfl ?_
      refine WL.gno rfl rfl (okb b4) rfl ?_
      refine WL.gno rfl rfl (okb b4) rfl ?_
      refine WL.gno rfl rfl (okb b4) rfl ?_
      refine WL.y rfl (Yld.pickF (okb b4) rfl) ?_
      exact WL.weaken (by repeat (first | exact Sub.nil | refine Sub.cons rfl ?_)) (hQ _ _ ⟨false, rfl, by rw [b4] <;> rfl, rfl⟩)

end Go.Proofs.YtcfljnfaakjdjaaDoor
 