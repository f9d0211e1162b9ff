/- The engine's words for memory, and its rules. -/
import Derived.Test.YtfibkajdahaggaaDoorMem
namespace Go.Proofs.YtfibkajdahaggaaDoor
open Go Go.RowKit

/-- Block g is just the cells us, of element type e, none frozen. -/
def Bl (w : World) (g : Nat) (e : TypeId) (us : List Value) : Prop := w.heap[g]? = some (.cells ⟨us⟩ e (0, 0))
def blk (A : Option Addr) : Option Nat := A.map (·.block)
/-- The slice (A, its length, c) reads as xs, each by f. -/
structure Rd {α : Type} (f : α → Value) (w : World) (A : Option Addr) (c : Nat) (xs : List α) : Prop where
  cap : xs.length ≤ c
  max : c ≤ maxLen
  cells : xs ≠ [] → ∃ ad, A = some ad ∧ ∀ j x, xs[j]? = some x → w.cell? (ad.add j) = some (f x)
/-- The slice (A, its length, c) is the call's own, from block B on: nobody else writes it. -/
def Own {α : Type} (f : α → Value) (w : World) (B : Nat) (e : TypeId) (A : Option Addr) (c : Nat) (xs : List α) : Prop := w.ownsRow B e 1 (.slice A xs.length c) xs.length (xs.map f)
/-- f's values take one cell. -/
def One {α : Type} (f : α → Value) : Prop := ∀ x, (f x).oneCell' = true
def vb (b : UInt8) : Value := .int .u8 (b.toNat : Int)
def vi (n : Int) : Value := .int .i64 n
def vu (n : Int) : Value := .int .u32 n
def vs (l : List UInt8) : Value := .string ⟨⟨l⟩⟩
theorem One.b : One vb := fun _ => rfl
theorem One.i : One vi := fun _ => rfl
theorem One.u : One vu := fun _ => rfl
theorem One.s : One vs := fun _ => rfl

section
variable {w w' : World} {g : Nat} {e : TypeId} {us : List Value} {row : Option Nat}
theorem addr_block (a : Addr) (n : Nat) : (a.add n).block = a.block := by unfold Addr.add; split <;> rfl
theorem addr_add (a : Addr) (i j : Nat) : (a.add i).add j = a.add (i + j) := by
  unfold Addr.add
  by_cases hi : i = 0 <;> by_cases hj : j = 0 <;> simp [hi, hj, Nat.add_assoc]
theorem Bl.lt (h : Bl w g e us) : g < w.heap.size := by
  rcases Nat.lt_or_ge g w.heap.size with hlt | hge
  · exact hlt
  · unfold Bl at h; rw [Array.getElem?_eq_none hge] at h; cases h
theorem Bl.cell (h : Bl w g e us) (i : Nat) : w.cell? ⟨g, i, none⟩ = us[i]? := by rw [cell_of_row w g i _ e (0, 0) h]; simp
theorem Bl.frozen (h : Bl w g e us) (i : Nat) : w.frozen? ⟨g, i, none⟩ = false := frozen_of_row w g i _ e h
theorem Bl.keep (h : Bl w g e us) (hg : w.grownBy w' row) (hne : row ≠ some g) : Bl w' g e us := (hg.block g h.lt (fun e => hne e.symm)).trans h
theorem Bl.below {B : Nat} (h : Bl w g e us) (hb : Below B w w') (hg : g < B) : Bl w' g e us := (hb.block g hg).trans h
theorem Bl.ne {g' : Nat} {e' : TypeId} {us' : List Value} (h : Bl w g e us) (h' : Bl w g' e' us') (hne : e ≠ e') : g ≠ g' := by
  rintro rfl
  unfold Bl at h h'
  rw [h] at h'
  injection h' with h'
  injection h' with _ ht
  exact hne ht
theorem gr_trans {a b c : World} {row : Option Nat} (h : a.grownBy b row) (k : b.grownBy c row) : a.grownBy c row :=
  ⟨k.os.trans h.os, k.tape.trans h.tape, k.output.trans h.output, Nat.le_trans h.size k.size, fun i hi hne => (k.block i (Nat.lt_of_lt_of_le hi h.size) hne).trans (h.block i hi hne)⟩
theorem gr_some {a b : World} (h : a.grownBy b none) (row : Option Nat) : a.grownBy b row := ⟨h.os, h.tape, h.output, h.size, fun i hi _ => h.block i hi (by simp)⟩
theorem gr_new {a b c : World} {row : Option Nat} {g : Nat} (h : a.grownBy b row) (k : b.grownBy c (some g)) (hg : a.heap.size ≤ g) : a.grownBy c row :=
  ⟨k.os.trans h.os, k.tape.trans h.tape, k.output.trans h.output, Nat.le_trans h.size k.size, fun i hi hne => (k.block i (Nat.lt_of_lt_of_le hi h.size) (fun e => by injection e with e; omega)).trans (h.block i hi hne)⟩
theorem gr_refl (a : World) (row : Option Nat) : a.grownBy a row := ⟨rfl, rfl, rfl, Nat.le_refl _, fun _ _ _ => rfl⟩
theorem gr_below {a b : World} (h : Below a.heap.size a b) (row : Option Nat) : a.grownBy b row := ⟨h.os, h.tape, h.output, h.size, fun i hi _ => h.block i hi⟩
theorem below_gr {a b : World} (h : a.grownBy b none) : Below a.heap.size a b := ⟨h.os, h.tape, h.output, h.size, fun i hi => h.block i hi (by simp)⟩
theorem below_eqv {B : Nat} {a b c : World} (h : Below B a b) (k : Eqv b c) : Below B a c := ⟨k.os.trans h.os, k.tape.trans h.tape, k.output.trans h.output, by rw [k.heap]; exact h.size, fun i hi => by rw [k.heap]; exact h.block i hi⟩

variable {α : Type} {f : α → Value} {A : Option Addr} {c B : Nat} {xs : List α}
theorem Rd.nil (f : α → Value) (w : World) {A : Option Addr} {c : Nat} (hc : c ≤ maxLen) : Rd f w A c [] := ⟨Nat.zero_le _, hc, fun h => absurd rfl h⟩
theorem Rd.at (h : Rd f w A c xs) {j : Nat} (hj : j < xs.length) (d : α) : ∃ ad, A = some ad ∧ w.cell? (ad.add j) = some (f (xs.getD j d)) := by
  obtain ⟨ad, e, hc⟩ := h.cells (fun e => by rw [e] at hj; simp at hj)
  refine ⟨ad, e, hc j _ ?_⟩
  simp [List.getD, hj]
theorem Rd.lt (h : Rd f w A c xs) (hx : xs ≠ []) {g : Nat} (hg : blk A = some g) : g < w.heap.size := by
  obtain ⟨ad, rfl, hc⟩ := h.cells hx
  obtain ⟨x, l, rfl⟩ := List.exists_cons_of_ne_nil hx
  have := World.block_lt_of_cell? w _ (hc 0 x rfl)
  rw [addr_block] at this
  simp only [blk, Option.map_some, Option.some.injEq] at hg
  omega
theorem Rd.keep (h : Rd f w A c xs) (hg : w.grownBy w' row) (hne : ∀ g, row = some g → blk A ≠ some g) : Rd f w' A c xs :=
  ⟨h.cap, h.max, fun hx => by
    obtain ⟨ad, rfl, hc⟩ := h.cells hx
    refine ⟨ad, rfl, fun j x hj => hg.cell (hc j x hj) (fun e => ?_)⟩
    rw [addr_block] at e
    exact hne _ e.symm (by simp [blk])⟩
theorem Rd.grown (h : Rd f w A c xs) (hg : w.grownBy w' none) : Rd f w' A c xs := h.keep hg (by simp)
theorem Rd.below (h : Rd f w A c xs) (hb : Below w.heap.size w w') : Rd f w' A c xs := h.grown (gr_below hb none)
theorem Rd.cut (h : Rd f w A c xs) {l k : Nat} (hl : l ≤ k) (hk : k ≤ xs.length) : Rd f w (if c = l then A else A.map (·.add l)) (c - l) ((xs.drop l).take (k - l)) := by
  have hlen : ((xs.drop l).take (k - l)).length = k - l := by simp; omega
  refine ⟨by have := h.cap; omega, by have := h.max; omega, fun hx => ?_⟩
  have hx' : 0 < k - l := by
    rw [← hlen]
    exact List.length_pos_iff.2 hx
  obtain ⟨ad, rfl, hc⟩ := h.cells (fun e => by rw [e] at hk; simp at hk; omega)
  rw [if_neg (by have := h.cap; omega)]
  refine ⟨ad.add l, rfl, fun j x hj => ?_⟩
  rw [addr_add]
  refine hc (l + j) x ?_
  rw [List.getElem?_take] at hj
  split at hj
  · rw [List.getElem?_drop] at hj; exact hj
  · cases hj
theorem blk_cut {l : Nat} : ∀ g, blk (if c = l then A else A.map (·.add l)) = some g → blk A = some g := fun g hg => by
  split at hg
  · exact hg
  · cases A with
    | none => simp [blk] at hg
    | some a => simpa [blk, addr_block] using hg
theorem Own.nil (f : α → Value) (w : World) (B : Nat) (e : TypeId) : Own f w B e none 0 [] := World.ownsRow_nil w B e 1
theorem Own.rd (h : Own f w B e A c xs) : Rd f w A c xs := by
  unfold Own at h
  rcases h.2 with ⟨hv, hn⟩ | ⟨g, cap, cur, hv, hb, hg, hnc, hcm, hcs, htake⟩
  · simp only [Value.slice.injEq] at hv
    obtain ⟨rfl, _, rfl⟩ := hv
    have : xs = [] := List.eq_nil_of_length_eq_zero hn
    subst this
    exact Rd.nil f w (Nat.zero_le _)
  · simp only [Value.slice.injEq] at hv
    obtain ⟨rfl, _, rfl⟩ := hv
    exact ⟨hnc, hcm, fun _ => ⟨_, rfl, fun j x hj => h.cells (g := g) rfl j _ (by simp [hj])⟩⟩
theorem Own.keep (h : Own f w B e A c xs) (hg : w.grownBy w' row) (hne : ∀ g, row = some g → blk A ≠ some g) : Own f w' B e A c xs := by
  unfold Own at h ⊢
  refine World.ownsRow.kept h hg ?_
  cases A with
  | none => exact .inl rfl
  | some a =>
    refine .inr ?_
    simp only [Value.ownBlock]
    intro e
    exact hne _ e.symm (by simp [blk])
theorem Own.grown (h : Own f w B e A c xs) (hg : w.grownBy w' none) : Own f w' B e A c xs := h.keep hg (by simp)
theorem Own.lt (h : Own f w B e A c xs) {g : Nat} (hg : blk A = some g) : B ≤ g ∧ g < w.heap.size := by
  unfold Own at h
  refine World.ownsRow.lt h g ?_
  cases A with
  | none => simp [blk] at hg
  | some a => simpa [blk, Value.ownBlock] using hg
theorem Own.len (h : Own f w B e A c xs) : xs.length ≤ maxLen := Nat.le_trans h.rd.cap h.rd.max
end

section rules
variable {P : Program} {T : Tab} {N : Nat} {ops : Array Oper} {Q : Post} {L : Slots} {w : World} {rest : List Oper} {d : Nat} {ty : TypeId} {pos : String} {af : Array Edge} {t t' : TypeId} {x y i : Operand} {k : IntKind} {q : Int}
variable {α : Type} {f : α → Value} {A : Option Addr} {c n B : Nat} {xs ys : List α} {e : TypeId}

/-! ### reading slices -/
theorem Yld.iaddr {dd : Option Tmp} {e : TypeId} (hT : T.Ok P) (hR : Rd f w A c xs) (hs : nk T.sl t = some (e, 1)) (hx : opv L x = some (.slice A n c)) (hn : n = xs.length) (hi : opv L i = some (.int k q)) (h0 : 0 ≤ q) (h1 : q < n) :
    Yld P N w ⟨dd, .indexAddr t x i, ty, pos, af, none⟩ L (.pointer (A.map (·.add q.toNat))) := fun a w1 _ ha => by
  obtain ⟨hu, j, hj, hj1⟩ := hT.sl hs
  obtain ⟨ad, rfl, _⟩ := hR.cells (fun e => by rw [e] at hn; simp at hn; omega)
  unfold execOp
  simp [ha.ev hx, ha.ev hi, Instr.indexAt, run_underlying hu, asIntOf, h0, h1, sizeOf, typeInfo, hj, hj1]
theorem Yld.iload {dd : Option Tmp} {u : Unit} {j : Nat} (dv : α) (hT : T.Ok P) (hR : Rd f w A c xs) (hs : nk T.one t = some u) (hx : opv L x = some (.pointer (A.map (·.add j)))) (hj : j < xs.length) :
    Yld P N w ⟨dd, .load t x, ty, pos, af, none⟩ L (f (xs.getD j dv)) := fun a w1 hw ha => by
  obtain ⟨de, hu, hr⟩ := hT.one hs
  obtain ⟨ad, rfl, hc⟩ := hR.at hj dv
  have hc1 : w1.cell? (ad.add j) = some (f (xs.getD j dv)) := (hw.cell _).trans hc
  have hagg : (isAgg t).run P w1 = .ok false w1 := by
    unfold isAgg
    rw [Sem.run_bind, run_underlying hu w1]
    cases de <;> simp_all [isRow]
  unfold execOp
  simp only [ha.ev hx, Option.map_some, Instr.loadAt, Instr.sureAddr, Sem.run_bind, Sem.run_pure, Result.andThen_ok, loadVar, hagg, Bool.false_eq_true, if_false]
  simp [load, Sem.run, hc1]
/-- one cell behind a pointer -/
theorem Yld.cell {dd : Option Tmp} {u : Unit} {p : Addr} {v : Value} (hT : T.Ok P) (hc : w.cell? p = some v) (hs : nk T.one t = some u) (hx : opv L x = some (.pointer (some p))) :
    Yld P N w ⟨dd, .load t x, ty, pos, af, none⟩ L v := fun a w1 hw ha => by
  obtain ⟨de, hu, hr⟩ := hT.one hs
  have hc1 : w1.cell? p = some v := (hw.cell _).trans hc
  have hagg : (isAgg t).run P w1 = .ok false w1 := by
    unfold isAgg
    rw [Sem.run_bind, run_underlying hu w1]
    cases de <;> simp_all [isRow]
  unfold execOp
  simp only [ha.ev hx, Instr.loadAt, Instr.sureAddr, Sem.run_bind, Sem.run_pure, Result.andThen_ok, loadVar, hagg, Bool.false_eq_true, if_false]
  simp [load, Sem.run, hc1]
theorem Yld.bload {dd : Option Tmp} {u : Unit} {g o : Nat} {us : List Value} {v : Value} (hT : T.Ok P) (hB : Bl w g e us) (hs : nk T.one t = some u) (hx : opv L x = some (.pointer (some ⟨g, o, none⟩))) (hv : us[o]? = some v) :
    Yld P N w ⟨dd, .load t x, ty, pos, af, none⟩ L v := Yld.cell hT ((hB.cell o).trans hv) hs hx
theorem Yld.bloadm {dd : Option Tmp} {u : Unit} {g o : Nat} (dv : α) (hT : T.Ok P) (hB : Bl w g e (xs.map f)) (hs : nk T.one t = some u) (hx : opv L x = some (.pointer (some ⟨g, o, none⟩))) (ho : o < xs.length) :
    Yld P N w ⟨dd, .load t x, ty, pos, af, none⟩ L (f (xs.getD o dv)) := Yld.bload hT hB hs hx (by simp [List.getD, ho])
/-- a byte, as a wider number -/
theorem Yld.convB {dd : Option Tmp} {s d : TypeId} {k2 : IntKind} {b : UInt8} (hT : T.Ok P) (hs : nk T.int s = some .u8) (hd : nk T.int d = some k2) (hx : opv L x = some (.int .u8 (b.toNat : Int))) (hk : (match k2 with | .i8 => false | _ => true) = true) :
    Yld P N w ⟨dd, .convert s d x, ty, pos, af, none⟩ L (.int k2 (b.toNat : Int)) := Yld.conv hT hs hd hx (by
  have := b.toNat_lt
  cases k2 <;> simp at hk <;> simp only [In] <;> omega)
/-- a whole struct or array behind a pointer -/
theorem Yld.bagg {dd : Option Tmp} {g o m : Nat} {us vs : List Value} (hT : T.Ok P) (hB : Bl w g e us) (hs : nk T.agg t = some m) (hx : opv L x = some (.pointer (some ⟨g, o, none⟩))) (hv : (us.drop o).take m = vs) (hl : vs.length = m) :
    Yld P N w ⟨dd, .load t x, ty, pos, af, none⟩ L (.agg ⟨vs⟩) := fun a w1 hw ha => by
  obtain ⟨⟨de, hu, hr⟩, j, hj, hj1⟩ := hT.agg hs
  unfold execOp
  have hrow : de.isRow = true := by cases de <;> simp_all [isRow]
  have := run_loadVar_mid (P := P) w1 g o t vs de (fun p v hv' => by
    rw [hw.cell, hB.cell, ← hv']
    subst hv
    rw [List.getElem?_take, List.getElem?_drop]
    split
    · rfl
    · rename_i hp
      rw [List.getElem?_take, if_neg hp] at hv'
      cases hv') hu hrow (by simp [hj, hj1, hl])
  simp only [ha.ev hx, Instr.loadAt, Instr.sureAddr, Sem.run_bind, Sem.run_pure, Result.andThen_ok, this]
/-- an element's address in an array -/
theorem Yld.aaddr {dd : Option Tmp} {g o m s : Nat} {e : TypeId} (hT : T.Ok P) (hs : nk T.arr t = some (m, e, s)) (hx : opv L x = some (.pointer (some ⟨g, o, none⟩))) (hi : opv L i = some (.int k q)) (h0 : 0 ≤ q) (h1 : q < m) :
    Yld P N w ⟨dd, .indexAddr t x i, ty, pos, af, none⟩ L (.pointer (some ⟨g, o + q.toNat * s, none⟩)) := fun a w1 _ ha => by
  obtain ⟨hu, j, hj, hj1⟩ := hT.arr hs
  unfold execOp
  simp [ha.ev hx, ha.ev hi, Instr.indexAt, run_underlying hu, asIntOf, h0, h1, sizeOf, typeInfo, hj, hj1, Instr.sureAddr, Addr.add_mid]
/-- an element of an array by value -/
theorem Yld.aidx {dd : Option Tmp} {m : Nat} {e : TypeId} {us : List Value} {u : Unit} {v : Value} (hT : T.Ok P) (hs : nk T.arr t = some (m, e, 1)) (he : nk T.one e = some u) (hx : opv L x = some (.agg ⟨us⟩)) (hi : opv L i = some (.int k q)) (h0 : 0 ≤ q) (h1 : q < m) (hv : us[q.toNat]? = some v) :
    Yld P N w ⟨dd, .index t x i, ty, pos, af, none⟩ L v := fun a w1 _ ha => by
  obtain ⟨hu, j, hj, hj1⟩ := hT.arr hs
  obtain ⟨de, hue, hr⟩ := hT.one he
  have hagg : (isAgg e).run P w1 = .ok false w1 := by
    unfold isAgg
    rw [Sem.run_bind, run_underlying hue w1]
    cases de <;> simp_all [isRow]
  unfold execOp
  simp [ha.ev hx, ha.ev hi, Instr.index, run_underlying hu, asIntOf, h0, h1, sizeOf, typeInfo, hj, hj1, part, hagg, hv]
/-- the text of bytes -/
theorem Yld.b2s {dd : Option Tmp} {e b s : TypeId} {u : Unit} {xs : List UInt8} (hT : T.Ok P) (hR : Rd vb w A c xs) (hs : nk T.sl b = some (e, 1)) (he : nk T.int e = some .u8) (hd : nk T.str s = some u) (hx : opv L x = some (.slice A n c)) (hn : n = xs.length) :
    Yld P N w ⟨dd, .convert b s x, ty, pos, af, none⟩ L (.string ⟨⟨xs⟩⟩) := fun a w1 hw ha => by
  obtain ⟨hu, _⟩ := hT.sl hs
  subst hn
  have key : (Conv.bytesToString (.slice A xs.length c)).run P w1 = .ok (.string ⟨⟨xs⟩⟩) w1 := by
    by_cases hx0 : xs = []
    · subst hx0
      cases A with
      | none => rfl
      | some ad => simp [Conv.bytesToString, loadCells, loadCellsFrom]; rfl
    · obtain ⟨ad, rfl, hc⟩ := hR.cells hx0
      have hl : (loadCells ad xs.length).run P w1 = .ok ((xs.map fun b => (b.toNat : Int)).map (Value.int .u8)).toArray w1 := by
        have := run_loadCells_list (P := P) w1 ad (xs.map vb) (fun j v hv => by
          rw [List.getElem?_map] at hv
          cases hq : xs[j]? with
          | none => rw [hq] at hv; simp at hv
          | some b => rw [hq] at hv; simp at hv; rw [hw.cell, ← hv]; exact hc j b hq)
        rw [List.length_map] at this
        rw [this, List.map_map]
        rfl
      rw [run_bytesToString w1 ad xs.length c _ hl]
      congr 2
      have gen : ∀ (l : List UInt8) (r : List UInt8), (l.map fun b => (b.toNat : Int)).foldl (fun r n => r.push (UInt8.ofNat n.toNat)) (⟨⟨r⟩⟩ : ByteArray) = ⟨⟨r ++ l⟩⟩ := by
        intro l
        induction l with
        | nil => intro r; simp
        | cons b l ih =>
          intro r
          simp only [List.map_cons, List.foldl_cons]
          have : (⟨⟨r⟩⟩ : ByteArray).push (UInt8.ofNat ((b.toNat : Int)).toNat) = ⟨⟨r ++ [b]⟩⟩ := by
            rw [Int.toNat_natCast, UInt8.ofNat_toNat]
            show ByteArray.mk ((⟨r⟩ : Array UInt8).push b) = _
            rw [List.push_toArray]
          rw [this, ih, List.append_assoc]
          rfl
      exact gen xs []
  unfold execOp
  simp only [ha.ev hx, convert, Sem.run_bind, run_underlying hu, run_underlying (hT.str hd), run_underlying (hT.int he), Result.andThen_ok, key, Sem.run_pure]
/-- a piece of a slice -/
theorem Yld.cut {dd : Option Tmp} {e : TypeId} {lo hi : Option Operand} {l h : Int} (hT : T.Ok P) (hR : Rd f w A c xs) (hs : nk T.sl t = some (e, 1)) (hx : opv L x = some (.slice A n c)) (hn : n = xs.length)
    (hl : optv L lo 0 = some l) (hh : optv L hi n = some h) (h0 : 0 ≤ l) (h1 : l ≤ h) (h2 : h ≤ n) :
    Yld P N w ⟨dd, .slice t x lo hi none, ty, pos, af, none⟩ L (.slice (if c = l.toNat then A else A.map (·.add l.toNat)) ((xs.drop l.toNat).take (h.toNat - l.toNat)).length (c - l.toNat)) := fun a w1 _ ha => by
  obtain ⟨hu, j, hj, hj1⟩ := hT.sl hs
  have hb := run_bounds (P := P) (len := n) (cap := c) (isS := true) ha hl hh h0 h1 (by have := hR.cap; omega) w1
  have hlen : ((xs.drop l.toNat).take (h.toNat - l.toNat)).length = h.toNat - l.toNat := by simp; omega
  rw [hlen]
  unfold execOp
  simp [ha.ev hx, Instr.sliceAt, run_underlying hu, Instr.slice, hb, sizeOf, typeInfo, hj, hj1]
theorem WL.cut {e : TypeId} {lo hi : Option Operand} {l h : Int} (hT : T.Ok P) (hR : Rd f w A c xs) (hd : Nat.blt d N = true) (hs : nk T.sl t = some (e, 1)) (hx : opv L x = some (.slice A n c)) (hn : n = xs.length)
    (hl : optv L lo 0 = some l) (hh : optv L hi n = some h) (h0 : 0 ≤ l) (h1 : l ≤ h) (h2 : h ≤ n)
    (hk : ∀ A' c', Rd f w A' c' ((xs.drop l.toNat).take (h.toNat - l.toNat)) → (∀ g, blk A' = some g → blk A = some g) → WL P N ops Q rest ((d, .slice A' ((xs.drop l.toNat).take (h.toNat - l.toNat)).length c') :: L) w) :
    WL P N ops Q (⟨some d, .slice t x lo hi none, ty, pos, af, none⟩ :: rest) L w :=
  WL.y hd (Yld.cut hT hR hs hx hn hl hh h0 h1 h2) (hk _ _ (hR.cut (by omega) (by omega)) blk_cut)
theorem WQ.cut {K : Act → Prop} {e : TypeId} {lo hi : Option Operand} {l h : Int} (hT : T.Ok P) (hR : Rd f w A c xs) (hd : Nat.blt d N = true) (hs : nk T.sl t = some (e, 1)) (hx : opv L x = some (.slice A n c)) (hn : n = xs.length)
    (hl : optv L lo 0 = some l) (hh : optv L hi n = some h) (h0 : 0 ≤ l) (h1 : l ≤ h) (h2 : h ≤ n)
    (hk : ∀ A' c', Rd f w A' c' ((xs.drop l.toNat).take (h.toNat - l.toNat)) → (∀ g, blk A' = some g → blk A = some g) → WQ P N ops K rest ((d, .slice A' ((xs.drop l.toNat).take (h.toNat - l.toNat)).length c') :: L) w) :
    WQ P N ops K (⟨some d, .slice t x lo hi none, ty, pos, af, none⟩ :: rest) L w :=
  WQ.y hd (Yld.cut hT hR hs hx hn hl hh h0 h1 h2) (hk _ _ (hR.cut (by omega) (by omega)) blk_cut)
end rules
end Go.Proofs.YtfibkajdahaggaaDoor
