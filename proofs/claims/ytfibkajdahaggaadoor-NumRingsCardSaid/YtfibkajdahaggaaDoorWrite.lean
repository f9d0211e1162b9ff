/- The engine's rules that make or write memory; calls; returns. -/
import Derived.Test.YtfibkajdahaggaaDoorHeap
namespace Go.Proofs.YtfibkajdahaggaaDoor
open Go Go.RowKit

def zeroOf (P : Program) (t : TypeId) : Option (List Value) := match P.info? t with
  | some i => match i.zero with
    | some z => some z.cells.toList
    | none => none
  | none => none
theorem zeroOf_run {P : Program} {t : TypeId} {us : List Value} (h : zeroOf P t = some us) (w : World) : ∃ z, (zeroValue t).run P w = .ok z w ∧ z.cells = ⟨us⟩ := by
  unfold zeroOf at h
  split at h
  · rename_i i hi
    split at h
    · rename_i z hz
      simp only [Option.some.injEq] at h
      refine ⟨z, by simp [zeroValue, typeInfo, hi, hz], ?_⟩
      rw [← h]
    · cases h
  · cases h
theorem gr_alloc (w : World) (o : Obj) (row : Option Nat) : w.grownBy (w.alloc o) row := World.grownBy_alloc w o row
theorem gr_eqv {a b b' : World} {row : Option Nat} (h : a.grownBy b row) (k : Eqv b b') : a.grownBy b' row := ⟨k.os.trans h.os, k.tape.trans h.tape, k.output.trans h.output, by rw [k.heap]; exact h.size, fun i hi hne => by rw [k.heap]; exact h.block i hi hne⟩
theorem eqv_gr {a a' b : World} {row : Option Nat} (k : Eqv a a') (h : a'.grownBy b row) : a.grownBy b row := ⟨h.os.trans k.os, h.tape.trans k.tape, h.output.trans k.output, by rw [← k.heap]; exact h.size, fun i hi hne => by rw [← k.heap]; exact h.block i (by rw [k.heap]; exact hi) hne⟩

section rules
variable {P : Program} {T : Tab} {N : Nat} {ops : Array Oper} {Q : Post} {L : Slots} {w : World} {rest : List Oper} {d : Nat} {ty : TypeId} {pos : String} {af : Array Edge} {t t' : TypeId} {x y i : Operand} {k : IntKind} {q : Int}
variable {α : Type} {f : α → Value} {A : Option Addr} {c n B : Nat} {xs ys : List α} {e : TypeId} {us : List Value}

/-- an operation that yields v and leaves some world of which R holds -/
def Eff (P : Program) (N : Nat) (w : World) (o : Oper) (L : Slots) (R : Value → World → Prop) : Prop := ∀ a w1, Eqv w w1 → Has N L a → ∃ v w', (execOp a.eval o).run P w1 = .ok (.value v) w' ∧ R v w'
theorem WL.put {op : Op} {R : Value → World → Prop} (hd : Nat.blt d N = true) (hr : ∀ a w1, Eqv w w1 → Has N L a → ∃ v w', (execOp a.eval ⟨some d, op, ty, pos, af, none⟩).run P w1 = .ok (.value v) w' ∧ R v w')
    (hk : ∀ v w', R v w' → WL P N ops Q rest ((d, v) :: L) w') : WL P N ops Q (⟨some d, op, ty, pos, af, none⟩ :: rest) L w := fun a w1 e ha =>
  wpList_plain rfl fun K hK => by
    obtain ⟨v, w', h, hR⟩ := hr a w1 e ha
    unfold Oper.wp
    rw [h]
    exact hK _ _ (hk v w' hR _ w' (Eqv.refl _) (ha.put hd v))
theorem WL.eff {op : Op} {R : World → Prop} (hr : ∀ a w1, Eqv w w1 → Has N L a → ∃ w', (execOp a.eval ⟨none, op, ty, pos, af, none⟩).run P w1 = .ok .skip w' ∧ R w')
    (hk : ∀ w', R w' → WL P N ops Q rest L w') : WL P N ops Q (⟨none, op, ty, pos, af, none⟩ :: rest) L w := fun a w1 e ha =>
  wpList_plain rfl fun K hK => by
    obtain ⟨w', h, hR⟩ := hr a w1 e ha
    unfold Oper.wp
    rw [h]
    exact hK _ _ (hk w' hR _ w' (Eqv.refl _) ha)

/-! ### new blocks -/
theorem newBlock (w1 : World) (hw : Eqv w w1) (us : List Value) (e : TypeId) : Bl (w1.alloc (.cells ⟨us⟩ e)) w.heap.size e us ∧ w.grownBy (w1.alloc (.cells ⟨us⟩ e)) none := by
  have hs : w1.heap.size = w.heap.size := by rw [hw.heap]
  refine ⟨?_, eqv_gr hw (gr_alloc w1 _ none)⟩
  unfold Bl
  rw [← hs]
  exact heap_alloc_new w1 _
theorem Eff.alloc (hz : zeroOf P t = some us) :
    Eff P N w ⟨some d, .alloc t, ty, pos, af, none⟩ L (fun v w' => v = .pointer (some ⟨w.heap.size, 0, none⟩) ∧ Bl w' w.heap.size t us ∧ w.grownBy w' none) := fun a w1 hw ha => by
    obtain ⟨z, hz1, hz2⟩ := zeroOf_run hz w1
    have hs : w1.heap.size = w.heap.size := by rw [hw.heap]
    refine ⟨_, w1.alloc (.cells ⟨us⟩ t), ?_, rfl, newBlock w1 hw us t⟩
    unfold execOp
    simp only [Instr.alloc, Sem.run_bind, hz1, Result.andThen_ok, newVar, newRow, hz2, newObj, Sem.run_pure]
    rw [← hs]; rfl
theorem WL.alloc (hd : Nat.blt d N = true) (hz : zeroOf P t = some us)
    (hk : ∀ g w', Bl w' g t us → w.grownBy w' none → w.heap.size ≤ g → WL P N ops Q rest ((d, .pointer (some ⟨g, 0, none⟩)) :: L) w') :
    WL P N ops Q (⟨some d, .alloc t, ty, pos, af, none⟩ :: rest) L w :=
  WL.put (R := fun v w' => v = .pointer (some ⟨w.heap.size, 0, none⟩) ∧ Bl w' w.heap.size t us ∧ w.grownBy w' none) hd (Eff.alloc hz) (fun v w' ⟨hv, hb, hg⟩ => by subst hv; exact hk _ _ hb hg (Nat.le_refl _))
theorem Eff.box {v : Value} (hx : opv L x = some v) (hv : v.cells.toList = us) :
    Eff P N w ⟨some d, .box t x, ty, pos, af, none⟩ L (fun v w' => v = .pointer (some ⟨w.heap.size, 0, none⟩) ∧ Bl w' w.heap.size t us ∧ w.grownBy w' none) := fun a w1 hw ha => by
    have hs : w1.heap.size = w.heap.size := by rw [hw.heap]
    have hc : v.cells = ⟨us⟩ := by rw [← hv]
    refine ⟨_, w1.alloc (.cells ⟨us⟩ t), ?_, rfl, newBlock w1 hw us t⟩
    unfold execOp
    simp only [ha.ev hx, Instr.box, Sem.run_bind, newVar, newRow, hc, newObj, Sem.run_pure]
    rw [← hs]; rfl
theorem WL.box {v : Value} (hd : Nat.blt d N = true) (hx : opv L x = some v) (hv : v.cells.toList = us)
    (hk : ∀ g w', Bl w' g t us → w.grownBy w' none → w.heap.size ≤ g → WL P N ops Q rest ((d, .pointer (some ⟨g, 0, none⟩)) :: L) w') :
    WL P N ops Q (⟨some d, .box t x, ty, pos, af, none⟩ :: rest) L w :=
  WL.put (R := fun v w' => v = .pointer (some ⟨w.heap.size, 0, none⟩) ∧ Bl w' w.heap.size t us ∧ w.grownBy w' none) hd (Eff.box hx hv) (fun v w' ⟨hv, hb, hg⟩ => by subst hv; exact hk _ _ hb hg (Nat.le_refl _))
/-- the parts of a slice that is written out, in order -/
def partsV (L : Slots) : Nat → List (Nat × Operand) → Option (List Value)
  | _, [] => some []
  | j, (i, x) :: r => bif Nat.beq i j then (match opv L x, partsV L (j + 1) r with
    | some v, some vs => some (v :: vs)
    | _, _ => none) else none
theorem set_last {β : Type} (done : List β) (z v : β) (i : Nat) (h : done.length = i) : (done ++ [z]).set i v = done ++ [v] := by subst h; simp
theorem fill_parts {a : Act} (ha : Has N L a) : ∀ (ps : List (Nat × Operand)) (j : Nat) (vs : List Value) (done : List Value) (cells : Array Value), partsV L j ps = some vs → (∀ u ∈ vs, u.oneCell' = true) → done.length = j → cells.toList.take j = done → cells.size = j + vs.length →
    Instr.fill (fun i => some (i * 1, 1)) cells (ps.map fun p => (p.1, a.eval p.2)) = some ⟨done ++ vs⟩
  | [], j, vs, done, cells, hp, _, hdl, ht, hs => by
    simp only [partsV, Option.some.injEq] at hp
    subst hp
    simp only [List.map_nil, Instr.fill, List.append_nil]
    congr 1
    apply Array.ext'
    rw [← ht, List.take_of_length_le (by simp at hs ⊢; omega)]
  | (i, x) :: ps, j, vs, done, cells, hp, h1, hdl, ht, hs => by
    simp only [partsV] at hp
    cases hij : Nat.beq i j with
    | false => simp [hij] at hp
    | true =>
      have := Nat.eq_of_beq_eq_true hij
      subst this
      simp only [hij, cond_true] at hp
      split at hp
      · rename_i v us hv hus
        simp only [Option.some.injEq] at hp
        subst hp
        have hv1 : v.oneCell' = true := h1 v (by simp)
        have hcs : v.cells = #[v] := by cases v <;> first | rfl | simp [Value.oneCell'] at hv1
        simp only [List.map_cons, Instr.fill, ha.ev hv, hcs]
        have hlt : i < cells.size := by simp at hs; omega
        rw [if_neg (by simp; omega)]
        have := fill_parts ha ps (i + 1) us (done ++ [v]) (cells.setIfInBounds i v) hus (fun u hu => h1 u (by simp [hu])) (by simp [hdl]) (by
          rw [Array.toList_setIfInBounds, List.take_set, List.take_succ_eq_append_getElem (by simpa using hlt), ht]
          exact set_last done _ v i hdl) (by simp at hs ⊢; omega)
        simpa using this
      · cases hp
theorem Eff.lit {e b m : Nat} {ps : List (Nat × Operand)} (hT : T.Ok P) (hs : nk T.ow t = some (e, b)) (hp : partsV L 0 ps = some us) (h1 : ∀ u ∈ us, u.oneCell' = true) (hm : us.length = m) (hm2 : m ≤ 16777216) :
    Eff P N w ⟨some d, .buildSlice t m ⟨ps⟩, ty, pos, af, none⟩ L (fun v w' => v = .slice (some ⟨w.heap.size, 0, none⟩) m m ∧ Bl w' w.heap.size e us ∧ w.grownBy w' none) := fun a w1 hw ha => by
    have hs1 : w1.heap.size = w.heap.size := by rw [hw.heap]
    obtain ⟨hu, j, z, hj, hz, hj1, _, hz1⟩ := hT.ow hs
    refine ⟨_, w1.alloc (.cells ⟨us⟩ e), ?_, rfl, newBlock w1 hw us e⟩
    have hne : ¬ (m * 1 > 2 ^ 24) := by simp; omega
    have hmap : ((⟨ps⟩ : Array (Nat × Operand)).map fun p => (p.1, a.eval p.2)).toList = ps.map fun p => (p.1, a.eval p.2) := by simp
    have hfill : ∀ cells : Array Value, cells.size = m → Instr.fill (fun i => some (i * 1, 1)) cells (ps.map fun p => (p.1, a.eval p.2)) = some ⟨us⟩ := fun cells hc => by
      have := fill_parts ha ps 0 us [] cells hp h1 rfl rfl (by omega)
      simpa using this
    have hzr : (zeroValue e).run P w1 = .ok z w1 := by simp [zeroValue, typeInfo, hj, hz]
    unfold execOp
    simp only [Instr.buildSlice, Sem.run_bind, run_underlying hu, Result.andThen_ok, sizeOf, typeInfo, program, Sem.run, hj, hj1, hne, if_false, Sem.run_pure, hmap]
    by_cases hm0 : m = 0
    · subst hm0
      simp only [Nat.zero_mul, if_true, Sem.run_bind, Sem.run_pure, Result.andThen_ok]
      rw [hfill _ (by simp)]
      simp only [newRow, newObj, Sem.run_bind, Sem.run_pure]
      rw [← hs1]; rfl
    · rw [if_neg (by omega)]
      simp only [Sem.run_bind, hzr, Result.andThen_ok, Sem.run_pure]
      rw [hfill _ (by simp)]
      simp only [newRow, newObj, Sem.run_bind, Sem.run_pure]
      rw [← hs1]; rfl
theorem WL.lit {e b m : Nat} {ps : List (Nat × Operand)} (hT : T.Ok P) (hd : Nat.blt d N = true) (hs : nk T.ow t = some (e, b)) (hp : partsV L 0 ps = some us) (h1 : ∀ u ∈ us, u.oneCell' = true) (hm : us.length = m) (hm2 : m ≤ 16777216)
    (hk : ∀ g w', Bl w' g e us → w.grownBy w' none → w.heap.size ≤ g → WL P N ops Q rest ((d, .slice (some ⟨g, 0, none⟩) m m) :: L) w') :
    WL P N ops Q (⟨some d, .buildSlice t m ⟨ps⟩, ty, pos, af, none⟩ :: rest) L w :=
  WL.put (R := fun v w' => v = .slice (some ⟨w.heap.size, 0, none⟩) m m ∧ Bl w' w.heap.size e us ∧ w.grownBy w' none) hd (Eff.lit hT hs hp h1 hm hm2) (fun v w' ⟨hv, hb, hg⟩ => by subst hv; exact hk _ _ hb hg (Nat.le_refl _))

/-! ### stores -/
theorem run_store1 {u : Value} {g o : Nat} {w1 : World} (hB : Bl w1 g e us) (ho : o < us.length) (h1 : u.oneCell' = true) {j : TypeInfo} (hj : P.info? t = some j) (hj1 : j.size = 1) :
    (Instr.storeAt t (.pointer (some ⟨g, o, none⟩)) u).run P w1 = .ok () (w1.setCell ⟨g, o, none⟩ u) := by
  have hc : w1.cell? ⟨g, o, none⟩ = some us[o] := by rw [hB.cell]; simp [ho]
  have hf := hB.frozen o
  have hcs : u.cells = #[u] := by cases u <;> first | rfl | simp [Value.oneCell'] at h1
  simp only [Instr.storeAt, Instr.sureAddr, Sem.run_bind, Sem.run_pure, Result.andThen_ok, storeVar, hcs, sizeOf, typeInfo, program, Sem.run, hj, hj1]
  simp only [List.size_toArray, List.length_cons, List.length_nil, ne_eq, not_true_eq_false, if_false, storeCells, Sem.run_bind, store, Addr.add_mid, Nat.add_zero, Sem.run_pure]
  cases u <;> simp [Value.oneCell'] at h1 <;> simp [Sem.run, hc, hf]
theorem bl_set {w1 : World} {g o : Nat} {u : Value} (hB : Bl w1 g e us) : Bl (w1.setCell ⟨g, o, none⟩ u) g e (us.set o u) := by
  unfold Bl at hB ⊢
  rw [heap_setCell_same w1 g o _ e u hB]
  simp
theorem gr_set (w1 : World) (a : Addr) (u : Value) : w1.grownBy (w1.setCell a u) (some a.block) := ⟨rfl, rfl, rfl, by simp [World.setCell], fun k _ hk => Below.heap_setCell _ _ _ _ (fun e => hk (by rw [e]))⟩
theorem bl_eqv {w1 : World} {g : Nat} (hw : Eqv w w1) (hB : Bl w g e us) : Bl w1 g e us := by unfold Bl; rw [hw.heap]; exact hB
def sz1 (P : Program) (t : TypeId) : Bool := match P.info? t with | some i => Nat.beq i.size 1 | none => false
theorem WL.store1 {g o : Nat} {u : Value} (h1 : sz1 P t = true) (hx : opv L x = some (.pointer (some ⟨g, o, none⟩))) (hy : opv L y = some u) (hu : u.oneCell' = true) (hB : Bl w g e us) (ho : o < us.length)
    (hk : ∀ w', Bl w' g e (us.set o u) → w.grownBy w' (some g) → WL P N ops Q rest L w') : WL P N ops Q (⟨none, .store t x y, ty, pos, af, none⟩ :: rest) L w :=
  WL.eff (R := fun w' => Bl w' g e (us.set o u) ∧ w.grownBy w' (some g)) (fun a w1 hw ha => by
    have hB1 := bl_eqv hw hB
    unfold sz1 at h1
    split at h1
    · rename_i j hj
      refine ⟨_, ?_, bl_set (o := o) (u := u) hB1, eqv_gr hw (gr_set w1 ⟨g, o, none⟩ u)⟩
      unfold execOp
      simp only [ha.ev hx, ha.ev hy, Sem.run_bind, run_store1 hB1 ho hu hj (Nat.eq_of_beq_eq_true h1), Result.andThen_ok, Sem.run_pure]
    · cases h1) (fun w' ⟨hb, hg⟩ => hk w' hb hg)
/-- a whole struct or array is stored over a block -/
theorem WL.storeW {g : Nat} {vs : List Value} {m : Nat} (hT : T.Ok P) (h1 : nk T.agg t = some m) (hx : opv L x = some (.pointer (some ⟨g, 0, none⟩))) (hy : opv L y = some (.agg ⟨vs⟩)) (hu : ∀ u ∈ vs, u.oneCell' = true) (hB : Bl w g e us) (ho : us.length = m) (hv : vs.length = m)
    (hk : ∀ w', Bl w' g e vs → w.grownBy w' (some g) → WL P N ops Q rest L w') : WL P N ops Q (⟨none, .store t x y, ty, pos, af, none⟩ :: rest) L w :=
  WL.eff (R := fun w' => Bl w' g e vs ∧ w.grownBy w' (some g)) (fun a w1 hw ha => by
    have hB1 := bl_eqv hw hB
    obtain ⟨_, j, hj, hj1⟩ := hT.agg h1
    have hst := run_storeCells_at P g 0 e vs 0 ⟨us⟩ w1 hB1 (by simp; omega) hu
    have hrow : (List.take (0 + 0) (⟨us⟩ : Array Value).toList ++ vs ++ List.drop (0 + 0 + vs.length) (⟨us⟩ : Array Value).toList).toArray = ⟨vs⟩ := by
      have : List.drop (0 + 0 + vs.length) us = [] := List.drop_eq_nil_of_le (by omega)
      simp only [this]
      simp
    rw [hrow] at hst
    refine ⟨w1.setRow g ⟨vs⟩, ?_, setRow_heap w1 g _ _ e _ hB1, eqv_gr hw ⟨rfl, rfl, rfl, by simp, fun k _ hk => setRow_other w1 g k _ (fun e => hk (by rw [e]))⟩⟩
    unfold execOp
    have hcell : (Value.agg ⟨vs⟩).cells = ⟨vs⟩ := rfl
    simp only [ha.ev hx, ha.ev hy, Sem.run_bind, Instr.storeAt, Instr.sureAddr, Sem.run_pure, Result.andThen_ok, storeVar, hcell, sizeOf, typeInfo, program, Sem.run, hj, hj1]
    have hsz : (⟨vs⟩ : Array Value).size = m := hv
    simp only [hsz, ne_eq, not_true_eq_false, if_false, hst, Result.andThen_ok]) (fun w' ⟨hb, hg⟩ => hk w' hb hg)
/-- x[i] = v in a slice of the call's own -/
theorem WL.ostore {j : Nat} {v : α} (h1 : sz1 P t = true) (hf : One f) (hO : Own f w B e A c xs) (hx : opv L x = some (.pointer (A.map (·.add j)))) (hy : opv L y = some (f v)) (hj : j < xs.length)
    (hk : ∀ w', Own f w' B e A c (xs.set j v) → w.grownBy w' (blk A) → WL P N ops Q rest L w') : WL P N ops Q (⟨none, .store t x y, ty, pos, af, none⟩ :: rest) L w := by
  unfold Own at hO
  rcases hO.2 with ⟨hv, hn⟩ | ⟨g, cap, cur, hv, hb, hg, hnc, hcm, hcs, htake⟩
  · omega
  · simp only [Value.slice.injEq] at hv
    obtain ⟨rfl, _, rfl⟩ := hv
    refine WL.store1 (g := g) (o := j) (e := e) (us := cur.toList) h1 ?_ hy (hf v) (by unfold Bl; exact hg) (by have : cur.size = c * 1 := hcs; rw [Array.length_toList]; omega) (fun w' hB' hgr => hk w' ?_ hgr)
    · rw [hx]; simp [Addr.add_mid]
    · unfold Own
      refine ⟨by simp, .inr ⟨g, c, _, by simp, hb, hB', by simpa using hnc, hcm, by simpa using hcs, ?_⟩⟩
      simp only [List.length_set, List.map_set]
      rw [List.take_set, ← htake]

/-! ### append -/
theorem run_append_own_src {w1 : World} {tx : TypeId} {v : Value} {e b m : Nat} {ys : List α} (hT : T.Ok P) (hs : nk T.ow t = some (e, b)) (hO : Own f w1 B e A c xs) (hS : Src P 1 tx v m (ys.map f) w1) (hm : m = ys.length) (hl : (xs.length + ys.length) * b ≤ 140737488355328) (h63 : xs.length + ys.length ≤ maxLen) (hB : B ≤ w1.heap.size) (ty : TypeId) :
    ∃ A' c' w', (Builtin.append_ #[t, tx] ty #[.slice A xs.length c, v]).run P w1 = .ok (.slice A' (xs ++ ys).length c') w' ∧ Own f w' B e A' c' (xs ++ ys) ∧ w1.grownBy w' (blk A) ∧ (∀ g, blk A' = some g → blk A = some g ∨ w1.heap.size ≤ g) := by
  obtain ⟨hu, i, z, hi, hz, hi1, hib, hz1⟩ := hT.ow hs
  subst hib
  subst hm
  have h63' : ((xs.length + ys.length : Nat) : Int) ≤ 9223372036854775807 := by simp only [maxLen] at h63; omega
  have hO' := hO
  unfold Own at hO
  have hlen : ((xs ++ ys).map f).length = (xs ++ ys).length * 1 := by simp
  have hge := grownCap_ge w1 (xs.length + ys.length) c e
  have hcm := grownCap_le_maxLen w1 (xs.length + ys.length) c e (by omega)
  have grow : c < xs.length + ys.length → ∃ A' c' w', (Builtin.append_ #[t, tx] ty #[.slice A xs.length c, v]).run P w1 = .ok (.slice A' (xs ++ ys).length c') w' ∧ Own f w' B e A' c' (xs ++ ys) ∧ w1.grownBy w' (blk A) ∧ (∀ g, blk A' = some g → blk A = some g ∨ w1.heap.size ≤ g) := by
    intro hlt
    have hold : (Builtin.firstCells i.size xs.length (.slice A xs.length c)).run P w1.drew = .ok ((xs.map f).toArray) w1.drew := by
      rw [hi1]
      by_cases hx0 : xs = []
      · subst hx0
        cases A with
        | none => exact run_firstCells_none w1.drew 1 0 0 c
        | some ad => exact run_firstCells_some w1.drew 1 0 ad 0 c [] (by simp) (by simp)
      · obtain ⟨ad, rfl, hc⟩ := hO'.rd.cells hx0
        exact run_firstCells_some w1.drew 1 xs.length ad xs.length c (xs.map f) (by simp) (fun j u hj => by
          rw [List.getElem?_map] at hj
          cases hq : xs[j]? with
          | none => rw [hq] at hj; simp at hj
          | some a => rw [hq] at hj; simp at hj; rw [← hj]; exact hc j a hq)
    have hr := run_append_grow_src (P := P) w1 t tx ty e i z hu hi hz A xs.length c (xs.map f) hold v ys.length (ys.map f) (by rw [hi1]; exact hS) hlt h63' (growslice_fits hlt hl)
    refine ⟨_, _, _, by rw [hr, List.length_append], ?_, ?_, ?_⟩
    · unfold Own
      refine ⟨hlen, .inr ⟨w1.heap.size, _, _, by rw [List.length_append], hB, heap_alloc_new w1.drew _, by rw [List.length_append]; exact hge, hcm, ?_, ?_⟩⟩
      · simp [size_zeroCells, hz1]
        omega
      · simp only [Array.toList_append, List.map_append, List.length_append, Nat.mul_one]
        rw [List.take_left' (by simp)]
    · exact ⟨rfl, rfl, rfl, by simp, fun k hk _ => heap_alloc_old w1.drew _ hk⟩
    · intro g hg
      simp only [blk, Option.map_some, Option.some.injEq] at hg
      exact .inr (by omega)
  by_cases hroom : xs.length + ys.length ≤ c
  · rcases hO.2 with ⟨hv, hn⟩ | ⟨g, cap, cur, hv, hb, hg, hnc, hcm', hcs, htake⟩
    · simp only [Value.slice.injEq] at hv
      obtain ⟨rfl, _, rfl⟩ := hv
      have hx0 : xs = [] := List.eq_nil_of_length_eq_zero hn
      have hy0 : ys = [] := List.eq_nil_of_length_eq_zero (by omega)
      subst hx0; subst hy0
      refine ⟨none, 0, w1, ?_, Own.nil f w1 B e, gr_refl _ _, fun g hg => by simp [blk] at hg⟩
      have := hS.cells
      rcases hS.kind with ⟨e', hk⟩ | hk <;> simp [Builtin.append_, run_underlying hu, run_underlying hk, sizeOf, typeInfo, hi, hi1, hS.len] <;> simp at this <;> simp [this]
    · simp only [Value.slice.injEq] at hv
      obtain ⟨rfl, _, rfl⟩ := hv
      have hB1 : Bl w1 g e cur.toList := hg
      have hcs' : cur.size = c := by omega
      have hcl : cur.toList.length = c := by simpa using hcs'
      have hr := run_append_room_src (P := P) w1 t tx ty e i hu hi g 0 xs.length c v ys.length (ys.map f) (by rw [hi1]; exact hS) hroom (fun j hj => by
        rw [hi1, hB1.cell]
        simp only [List.length_map] at hj
        rw [List.getElem?_eq_getElem (by omega)]
        rfl) (fun j _ => hB1.frozen _)
      have hst := run_storeCells_at P g xs.length e (ys.map f) 0 cur w1 hg (by simp; omega) hS.one
      have hst2 := run_storeCells_cells (P := P) g xs.length (ys.map f) 0 w1 (fun j hj => by
        rw [hB1.cell]
        simp only [List.length_map] at hj
        rw [List.getElem?_eq_getElem (by omega)]
        rfl) (fun j _ => hB1.frozen _) hS.one
      have hw : w1.setCells g (0 + xs.length * i.size) (ys.map f) = w1.setRow g (List.take (xs.length + 0) cur.toList ++ ys.map f ++ List.drop (xs.length + 0 + (ys.map f).length) cur.toList).toArray := by
        rw [hst] at hst2
        injection hst2 with _ h2
        rw [hi1, Nat.zero_add, Nat.mul_one]
        exact h2.symm
      rw [hw] at hr
      refine ⟨_, _, _, by rw [hr, List.length_append], ?_, ?_, fun g' hg' => .inl hg'⟩
      · unfold Own
        refine ⟨hlen, .inr ⟨g, c, _, by rw [List.length_append], hb, setRow_heap w1 g cur _ e _ hg, by rw [List.length_append]; exact hroom, hcm', ?_, ?_⟩⟩
        · simp only [List.size_toArray, List.length_append, List.length_take, List.length_drop, Array.length_toList, List.length_map]
          omega
        · have h2 : List.take xs.length cur.toList = xs.map f := by rw [← htake, Nat.mul_one]
          simp only [Nat.add_zero, h2, List.map_append, List.length_append, Nat.mul_one]
          rw [List.take_left' (by simp)]
      · exact ⟨rfl, rfl, rfl, by simp, fun k _ hk => setRow_other w1 g k _ (fun e => hk (by simp [blk, e]))⟩
  · exact grow (by omega)

theorem src_rd {w1 : World} {A2 : Option Addr} {c2 : Nat} {ys : List α} {e' : TypeId} (hf : One f) (hu : P.underlying t = some (.slice e')) (hR : Rd f w1 A2 c2 ys) : Src P 1 t (.slice A2 ys.length c2) ys.length (ys.map f) w1 := by
  by_cases hy : ys = []
  · subst hy
    cases A2 with
    | none => exact Src.ofNil w1 hu c2
    | some ad => exact Src.ofSlice w1 hu ad 0 c2 [] (by simp) (by simp) (by simp)
  · obtain ⟨ad, rfl, hc⟩ := hR.cells hy
    exact Src.ofSlice w1 hu ad ys.length c2 (ys.map f) (by simp) (fun j u hj => by
      rw [List.getElem?_map] at hj
      cases hq : ys[j]? with
      | none => rw [hq] at hj; simp at hj
      | some a => rw [hq] at hj; simp at hj; rw [← hj]; exact hc j a hq) (fun u hu => by
      obtain ⟨a, _, rfl⟩ := List.mem_map.1 hu
      exact hf a)
theorem rd_eqv {w1 : World} (hw : Eqv w w1) (h : Rd f w A c xs) : Rd f w1 A c xs := ⟨h.cap, h.max, fun hx => by
  obtain ⟨ad, e, hc⟩ := h.cells hx
  exact ⟨ad, e, fun j x hj => (hw.cell _).trans (hc j x hj)⟩⟩
theorem own_eqv {w1 : World} (hw : Eqv w w1) (h : Own f w B e A c xs) : Own f w1 B e A c xs := by
  unfold Own World.ownsRow at h ⊢
  rw [hw.heap]
  exact h
theorem Eff.append {A2 : Option Addr} {c2 n2 : Nat} {ys : List α} {b : Nat} (hT : T.Ok P) (hs : nk T.ow t = some (e, b)) (hf : One f) (hO : Own f w B e A c xs) (hx : opv L x = some (.slice A n c)) (hn : n = xs.length) (hR : Rd f w A2 c2 ys) (hy : opv L y = some (.slice A2 n2 c2)) (hn2 : n2 = ys.length) (hl : (xs.length + ys.length) * b ≤ 140737488355328) (h63 : xs.length + ys.length ≤ maxLen) (hB : B ≤ w.heap.size) :
    Eff P N w ⟨some d, .call ⟨.builtin .append, ⟨[x, y]⟩, ⟨[t, t]⟩⟩, ty, pos, af, none⟩ L (fun v w' => ∃ A' c', v = .slice A' (xs ++ ys).length c' ∧ Own f w' B e A' c' (xs ++ ys) ∧ w.grownBy w' (blk A) ∧ (∀ g, blk A' = some g → blk A = some g ∨ w.heap.size ≤ g)) := fun a w1 hw ha => by
    obtain ⟨hu, _⟩ := hT.ow hs
    subst hn; subst hn2
    have hs1 : w1.heap.size = w.heap.size := by rw [hw.heap]
    obtain ⟨A', c', w', hr, h1, h2, h3⟩ := run_append_own_src (P := P) (ty := ty) hT hs (own_eqv hw hO) (src_rd hf hu (rd_eqv hw hR)) rfl hl h63 (by omega)
    refine ⟨_, w', ?_, A', c', rfl, h1, eqv_gr hw h2, fun g hg => by rw [← hs1]; exact h3 g hg⟩
    unfold execOp
    simp [resolve, invoke, builtin, ha.ev hx, ha.ev hy, hr]
theorem WL.append {A2 : Option Addr} {c2 n2 : Nat} {ys : List α} {b : Nat} (hT : T.Ok P) (hd : Nat.blt d N = true) (hs : nk T.ow t = some (e, b)) (hf : One f) (hO : Own f w B e A c xs) (hx : opv L x = some (.slice A n c)) (hn : n = xs.length) (hR : Rd f w A2 c2 ys) (hy : opv L y = some (.slice A2 n2 c2)) (hn2 : n2 = ys.length)
    (hl : (xs.length + ys.length) * b ≤ 140737488355328) (h63 : xs.length + ys.length ≤ maxLen) (hB : B ≤ w.heap.size)
    (hk : ∀ A' c' w', Own f w' B e A' c' (xs ++ ys) → w.grownBy w' (blk A) → (∀ g, blk A' = some g → blk A = some g ∨ w.heap.size ≤ g) → WL P N ops Q rest ((d, .slice A' (xs ++ ys).length c') :: L) w') :
    WL P N ops Q (⟨some d, .call ⟨.builtin .append, ⟨[x, y]⟩, ⟨[t, t]⟩⟩, ty, pos, af, none⟩ :: rest) L w :=
  WL.put (R := fun v w' => ∃ A' c', v = .slice A' (xs ++ ys).length c' ∧ Own f w' B e A' c' (xs ++ ys) ∧ w.grownBy w' (blk A) ∧ (∀ g, blk A' = some g → blk A = some g ∨ w.heap.size ≤ g)) hd (Eff.append hT hs hf hO hx hn hR hy hn2 hl h63 hB) (fun v w' ⟨A', c', hv, h1, h2, h3⟩ => by subst hv; exact hk A' c' w' h1 h2 h3)
/-- a string's bytes behind bytes -/
theorem Eff.appendS {xs p : List UInt8} {b : Nat} {u : Unit} (hT : T.Ok P) (hs : nk T.ow t = some (e, b)) (hst : nk T.str t' = some u) (hO : Own vb w B e A c xs) (hx : opv L x = some (.slice A n c)) (hn : n = xs.length) (hy : opv L y = some (.string ⟨⟨p⟩⟩)) (hl : (xs.length + p.length) * b ≤ 140737488355328) (h63 : xs.length + p.length ≤ maxLen) (hB : B ≤ w.heap.size) :
    Eff P N w ⟨some d, .call ⟨.builtin .append, ⟨[x, y]⟩, ⟨[t, t']⟩⟩, ty, pos, af, none⟩ L (fun v w' => ∃ A' c', v = .slice A' (xs ++ p).length c' ∧ Own vb w' B e A' c' (xs ++ p) ∧ w.grownBy w' (blk A) ∧ (∀ g, blk A' = some g → blk A = some g ∨ w.heap.size ≤ g)) := fun a w1 hw ha => by
    subst hn
    have hs1 : w1.heap.size = w.heap.size := by rw [hw.heap]
    have hS : Src P 1 t' (.string ⟨⟨p⟩⟩) p.length (p.map vb) w1 := Src.ofString w1 (hT.str hst) ⟨⟨p⟩⟩
    obtain ⟨A', c', w', hr, h1, h2, h3⟩ := run_append_own_src (P := P) (ty := ty) hT hs (own_eqv hw hO) hS rfl hl h63 (by omega)
    refine ⟨_, w', ?_, A', c', rfl, h1, eqv_gr hw h2, fun g hg => by rw [← hs1]; exact h3 g hg⟩
    unfold execOp
    simp [resolve, invoke, builtin, ha.ev hx, ha.ev hy, hr]
theorem WL.appendS {xs p : List UInt8} {b : Nat} {u : Unit} (hT : T.Ok P) (hd : Nat.blt d N = true) (hs : nk T.ow t = some (e, b)) (hst : nk T.str t' = some u) (hO : Own vb w B e A c xs) (hx : opv L x = some (.slice A n c)) (hn : n = xs.length) (hy : opv L y = some (.string ⟨⟨p⟩⟩))
    (hl : (xs.length + p.length) * b ≤ 140737488355328) (h63 : xs.length + p.length ≤ maxLen) (hB : B ≤ w.heap.size)
    (hk : ∀ A' c' w', Own vb w' B e A' c' (xs ++ p) → w.grownBy w' (blk A) → (∀ g, blk A' = some g → blk A = some g ∨ w.heap.size ≤ g) → WL P N ops Q rest ((d, .slice A' (xs ++ p).length c') :: L) w') :
    WL P N ops Q (⟨some d, .call ⟨.builtin .append, ⟨[x, y]⟩, ⟨[t, t']⟩⟩, ty, pos, af, none⟩ :: rest) L w :=
  WL.put (R := fun v w' => ∃ A' c', v = .slice A' (xs ++ p).length c' ∧ Own vb w' B e A' c' (xs ++ p) ∧ w.grownBy w' (blk A) ∧ (∀ g, blk A' = some g → blk A = some g ∨ w.heap.size ≤ g)) hd (Eff.appendS hT hs hst hO hx hn hy hl h63 hB) (fun v w' ⟨A', c', hv, h1, h2, h3⟩ => by subst hv; exact hk A' c' w' h1 h2 h3)
/-- []byte(s) -/
theorem Eff.s2b {p : List UInt8} {u : Unit} {s b : TypeId} (hT : T.Ok P) (hs : nk T.str s = some u) (hb : nk T.sl b = some (e, 1)) (he : nk T.int e = some .u8) (hx : opv L x = some (.string ⟨⟨p⟩⟩)) (hm : p.length ≤ maxLen) :
    Eff P N w ⟨some d, .convert s b x, ty, pos, af, none⟩ L (fun v w' => ∃ A' c', v = .slice A' p.length c' ∧ Rd vb w' A' c' p ∧ w.grownBy w' none ∧ (∀ g, blk A' = some g → w.heap.size ≤ g)) := fun a w1 hw ha => by
    obtain ⟨hu, _⟩ := hT.sl hb
    have hs1 : w1.heap.size = w.heap.size := by rw [hw.heap]
    have hr := run_bytes_of_string (P := P) w1 s b e ⟨⟨p⟩⟩ (hT.str hs) hu (hT.int he)
    generalize hob : Obj.cells (bytesRow (ByteArray.mk ⟨p⟩) (grownCap w1 (ByteArray.mk ⟨p⟩).size 0 e)) e ((bytesRow (ByteArray.mk ⟨p⟩) (grownCap w1 (ByteArray.mk ⟨p⟩).size 0 e)).size, (bytesRow (ByteArray.mk ⟨p⟩) (grownCap w1 (ByteArray.mk ⟨p⟩).size 0 e)).size + 1) = ob at hr
    have hgr : w1.grownBy (w1.drew.alloc ob) none := ⟨rfl, rfl, rfl, by simp, fun k hk _ => heap_alloc_old w1.drew ob hk⟩
    refine ⟨.slice (some ⟨w1.heap.size, 0, none⟩) p.length (grownCap w1 p.length 0 e), w1.drew.alloc ob, ?_, some ⟨w1.heap.size, 0, none⟩, grownCap w1 p.length 0 e, rfl, ⟨grownCap_ge w1 p.length 0 e, grownCap_le_maxLen w1 p.length 0 e hm, fun _ => ⟨_, rfl, fun j y hj => ?_⟩⟩, eqv_gr hw hgr, fun g hg => ?_⟩
    · unfold execOp
      simp only [ha.ev hx, Sem.run_bind, hr, Result.andThen_ok, Sem.run_pure]
      rfl
    · subst hob
      rw [Addr.add_mid]
      refine (cell_of_row _ _ _ _ _ _ (heap_alloc_new w1.drew _)).trans ?_
      have hlt : j < p.length := by
        rcases Nat.lt_or_ge j p.length with h | h
        · exact h
        · rw [List.getElem?_eq_none h] at hj; cases hj
      unfold bytesRow
      rw [Nat.zero_add, Array.getElem?_append, if_pos (by simpa using hlt)]
      simp [hj, vb]
    · simp only [blk, Option.map_some, Option.some.injEq] at hg
      omega
theorem WL.s2b {p : List UInt8} {u : Unit} {s b : TypeId} (hT : T.Ok P) (hd : Nat.blt d N = true) (hs : nk T.str s = some u) (hb : nk T.sl b = some (e, 1)) (he : nk T.int e = some .u8) (hx : opv L x = some (.string ⟨⟨p⟩⟩)) (hm : p.length ≤ maxLen)
    (hk : ∀ A' c' w', Rd vb w' A' c' p → w.grownBy w' none → (∀ g, blk A' = some g → w.heap.size ≤ g) → WL P N ops Q rest ((d, .slice A' p.length c') :: L) w') :
    WL P N ops Q (⟨some d, .convert s b x, ty, pos, af, none⟩ :: rest) L w :=
  WL.put (R := fun v w' => ∃ A' c', v = .slice A' p.length c' ∧ Rd vb w' A' c' p ∧ w.grownBy w' none ∧ (∀ g, blk A' = some g → w.heap.size ≤ g)) hd (Eff.s2b hT hs hb he hx hm) (fun v w' ⟨A', c', hv, h1, h2, h3⟩ => by subst hv; exact hk A' c' w' h1 h2 h3)

/-! ### calls -/
theorem WL.call {R : Value → World → Prop} {g : FuncId} {as : List Operand} {ts : Array TypeId} {vs : List Value} (hd : Nat.blt d N = true) (hv : opvs L as = some vs) (hf : Fn P g ⟨vs⟩ w R) (hk : ∀ v w', R v w' → WL P N ops Q rest ((d, v) :: L) w') :
    WL P N ops Q (⟨some d, .call ⟨.value (.func g), ⟨as⟩, ts⟩, ty, pos, af, none⟩ :: rest) L w := fun a w1 e ha =>
  wpList_plain rfl fun K hK => by
    have hm : (⟨as⟩ : Array Operand).map a.eval = ⟨vs⟩ := by rw [← ha.evs hv]; simp
    obtain ⟨hgo, hC⟩ := hf
    unfold goesIn at hgo
    split at hgo
    · rename_i fn hfn
      simp only [Bool.and_eq_true, Bool.not_eq_true'] at hgo
      have hnone : fn.body.isNone = false := by cases hb : fn.body <;> simp_all
      have hrun : (execOp a.eval ⟨some d, .call ⟨.value (.func g), ⟨as⟩, ts⟩, ty, pos, af, none⟩).run P w1 = .ok (.enter g ⟨vs⟩) w1 := by
        unfold execOp
        simp only [resolve, Act.eval, hm, Deferred.ofValue, Sem.run_bind, Sem.run_pure, Result.andThen_ok, invoke, callFunc, program, Sem.run, hfn, hgo.1, hnone, Bool.false_eq_true, if_false]
        simp
      unfold Oper.wp
      rw [hrun]
      refine (hC w1 e).mono ?_
      rintro en w' ⟨v, w0, rfl, h0, hR⟩
      exact hK _ _ (hk v w0 hR _ w' h0 (ha.put hd v))
    · cases hgo
theorem WL.call0 {R : Value → World → Prop} {g : FuncId} {as : List Operand} {ts : Array TypeId} {vs : List Value} (hv : opvs L as = some vs) (hf : Fn P g ⟨vs⟩ w R) (hk : ∀ v w', R v w' → WL P N ops Q rest L w') :
    WL P N ops Q (⟨none, .call ⟨.value (.func g), ⟨as⟩, ts⟩, ty, pos, af, none⟩ :: rest) L w := fun a w1 e ha =>
  wpList_plain rfl fun K hK => by
    have hm : (⟨as⟩ : Array Operand).map a.eval = ⟨vs⟩ := by rw [← ha.evs hv]; simp
    obtain ⟨hgo, hC⟩ := hf
    unfold goesIn at hgo
    split at hgo
    · rename_i fn hfn
      simp only [Bool.and_eq_true, Bool.not_eq_true'] at hgo
      have hnone : fn.body.isNone = false := by cases hb : fn.body <;> simp_all
      have hrun : (execOp a.eval ⟨none, .call ⟨.value (.func g), ⟨as⟩, ts⟩, ty, pos, af, none⟩).run P w1 = .ok (.enter g ⟨vs⟩) w1 := by
        unfold execOp
        simp only [resolve, Act.eval, hm, Deferred.ofValue, Sem.run_bind, Sem.run_pure, Result.andThen_ok, invoke, callFunc, program, Sem.run, hfn, hgo.1, hnone, Bool.false_eq_true, if_false]
        simp
      unfold Oper.wp
      rw [hrun]
      refine (hC w1 e).mono ?_
      rintro en w' ⟨v, w0, rfl, h0, hR⟩
      exact hK _ _ (hk v w0 hR _ w' h0 (ha.put_none v))
    · cases hgo
/-- a callee that leaves the world as it was, in a region that draws -/
theorem WQ.call {K : Act → Prop} {g : FuncId} {as : List Operand} {ts : Array TypeId} {vs : List Value} {v : Value} (hd : Nat.blt d N = true) (hv : opvs L as = some vs) (hf : Fn P g ⟨vs⟩ w (fun u w' => u = v ∧ w' = w)) (hk : WQ P N ops K rest ((d, v) :: L) w) :
    WQ P N ops K (⟨some d, .call ⟨.value (.func g), ⟨as⟩, ts⟩, ty, pos, af, none⟩ :: rest) L w := fun a ha =>
  wpQuiet_step fun K' hK => by
    have hm : (⟨as⟩ : Array Operand).map a.eval = ⟨vs⟩ := by rw [← ha.evs hv]; simp
    obtain ⟨hgo, hC⟩ := hf
    unfold goesIn at hgo
    split at hgo
    · rename_i fn hfn
      simp only [Bool.and_eq_true, Bool.not_eq_true'] at hgo
      have hnone : fn.body.isNone = false := by cases hb : fn.body <;> simp_all
      rw [if_pos (by simp [Region.wanted])]
      refine ⟨v, fun w1 e => ?_, hK _ (hk _ (ha.put hd v))⟩
      have hrun : (execOp a.eval ⟨some d, .call ⟨.value (.func g), ⟨as⟩, ts⟩, ty, pos, af, none⟩).run P w1 = .ok (.enter g ⟨vs⟩) w1 := by
        unfold execOp
        simp only [resolve, Act.eval, hm, Deferred.ofValue, Sem.run_bind, Sem.run_pure, Result.andThen_ok, invoke, callFunc, program, Sem.run, hfn, hgo.1, hnone, Bool.false_eq_true, if_false]
        simp
      unfold Oper.quietAt
      rw [hrun]
      refine ⟨rfl, (hC w1 e).mono ?_⟩
      rintro en w' ⟨u, w0, rfl, h0, rfl, rfl⟩
      exact ⟨rfl, h0⟩
    · cases hgo

/-! ### entering and leaving -/
def slotsOf (args : List Value) (k : Nat) : Slots := match args with
  | [] => []
  | v :: r => (k, v) :: slotsOf r (k + 1)
theorem slotsOf_get : ∀ (args : List Value) (k t : Nat) (v : Value), lk (slotsOf args k) t = some v → k ≤ t ∧ args[t - k]? = some v
  | [], _, _, _, h => by simp [slotsOf, lk] at h
  | u :: r, k, t, v, h => by
    simp only [slotsOf, lk] at h
    cases hb : Nat.beq k t with
    | true =>
      have := Nat.eq_of_beq_eq_true hb
      subst this
      simp only [hb, cond_true, Option.some.injEq] at h
      simp [h]
    | false =>
      have hne := Nat.ne_of_beq_eq_false hb
      simp only [hb, cond_false] at h
      obtain ⟨h1, h2⟩ := slotsOf_get r (k + 1) t v h
      refine ⟨by omega, ?_⟩
      rw [show t - k = (t - (k + 1)) + 1 by omega]
      simpa using h2
def RetPost (P : Program) (fn : Func) (R : Value → World → Prop) : Post := bodyPost P fn fun e w' => ∃ v w0, e = .returned v ∧ Eqv w0 w' ∧ R v w0
theorem Fn.enter {g : FuncId} {fn : Func} {c : Code} {args : List Value} {R : Value → World → Prop} (hgo : goesIn P g = true) (hf : P.funcs[g]? = some fn) (hb : fn.body = some c) (hN : fn.ntmps = N) (ha : Nat.ble args.length N = true)
    (h : WC P N (RetPost P fn R) c (slotsOf args 0) w) : Fn P g ⟨args⟩ w R :=
  ⟨hgo, fun w1 e => calls_of_wp hf hb (h _ w1 e (by
    have hle : args.length ≤ N := Nat.le_of_ble_eq_true ha
    refine ⟨by simp [hN]; omega, rfl, fun t v ht => ?_⟩
    obtain ⟨_, h2⟩ := slotsOf_get args 0 t v ht
    have hlt : t < args.length := by
      rcases Nat.lt_or_ge t args.length with h | h
      · exact h
      · rw [List.getElem?_eq_none (by omega)] at h2; cases h2
    have h3 : args[t] = v := by
      rw [Nat.sub_zero, List.getElem?_eq_getElem hlt] at h2
      exact Option.some.inj h2
    rw [Array.getD_eq_getD_getElem?, Array.getElem?_append_left (by simpa using hlt)]
    simp [hlt, h3]))⟩
theorem WX.ret1 {fn : Func} {R : Value → World → Prop} {s : Nat} {v : Value} (hr : fn.results = #[.tmp s]) (hv : lk L s = some v) (hR : R v w) : WX N (RetPost P fn R) .ret L w := fun a w1 e ha =>
  ⟨ha.defers, v, by rw [results_tmp hr, ha.get s v hv], v, w, rfl, e, hR⟩
theorem WX.ret0 {fn : Func} {R : Value → World → Prop} (hr : fn.results = #[]) (hR : R (.tuple #[]) w) : WX N (RetPost P fn R) .ret L w := fun a w1 e ha =>
  ⟨ha.defers, .tuple #[], by rw [results_none hr], _, w, rfl, e, hR⟩
theorem WX.end0 {fn : Func} {R : Value → World → Prop} (hr : fn.results = #[]) (hR : R (.tuple #[]) w) : WX N (RetPost P fn R) .normal L w := fun a w1 e ha =>
  ⟨ha.defers, .tuple #[], by rw [results_none hr], _, w, rfl, e, hR⟩
theorem WX.ret2 {fn : Func} {R : Value → World → Prop} {s1 s2 : Nat} {v1 v2 : Value} (hr : fn.results = #[.tmp s1, .tmp s2]) (h1 : lk L s1 = some v1) (h2 : lk L s2 = some v2) (hR : R (.tuple #[v1, v2]) w) : WX N (RetPost P fn R) .ret L w := fun a w1 e ha =>
  ⟨ha.defers, .tuple #[v1, v2], by rw [results_tmp2 hr, ha.get s1 v1 h1, ha.get s2 v2 h2], _, w, rfl, e, hR⟩
theorem WX.ret3 {fn : Func} {R : Value → World → Prop} {s1 s2 s3 : Nat} {v1 v2 v3 : Value} (hr : fn.results = #[.tmp s1, .tmp s2, .tmp s3]) (h1 : lk L s1 = some v1) (h2 : lk L s2 = some v2) (h3 : lk L s3 = some v3) (hR : R (.tuple #[v1, v2, v3]) w) : WX N (RetPost P fn R) .ret L w := fun a w1 e ha =>
  ⟨ha.defers, .tuple #[v1, v2, v3], by
    have := ha.get s1 v1 h1
    have := ha.get s2 v2 h2
    have := ha.get s3 v3 h3
    simp_all [results], _, w, rfl, e, hR⟩
/-- a struct or array result, in a block -/
theorem WX.retc {fn : Func} {R : Value → World → Prop} {s g m : Nat} (hT : T.Ok P) (hr : fn.results = #[.cell s t]) (hs : nk T.agg t = some m) (hv : lk L s = some (.pointer (some ⟨g, 0, none⟩))) (hB : Bl w g e us) (hm : us.length = m) (hR : R (.agg ⟨us⟩) w) : WX N (RetPost P fn R) .ret L w := fun a w1 hw ha => by
  obtain ⟨⟨de, hu, hrow⟩, j, hj, hj1⟩ := hT.agg hs
  have hrow' : de.isRow = true := by cases de <;> simp_all [isRow]
  have hl := run_loadVar_mid (P := P) w1 g 0 t us de (fun p v hv' => by rw [hw.cell, hB.cell, ← hv', Nat.zero_add]) hu hrow' (by simp [hj, hj1, hm])
  have hp := ha.get s _ hv
  refine ⟨ha.defers, .agg ⟨us⟩, ?_, _, w, rfl, hw, hR⟩
  have hp' : a.tmps[s]?.getD undef = .pointer (some ⟨g, 0, none⟩) := by simpa using hp
  simp [results, hr, hp', asAddr, hl]
end rules
end Go.Proofs.YtfibkajdahaggaaDoor
